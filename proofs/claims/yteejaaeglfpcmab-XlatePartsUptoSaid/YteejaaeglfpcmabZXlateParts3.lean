/- XlateParts: texts of this session's, and what the kit's print laid for this seat, as far as the law's row uses them (PXx0, PXx0, PXx0, PXx0, PXx0, PXx0). -/
import Derived.Test.YteejaaeglfpcmabZXlateParts2
set_option linter.unusedVariables false
set_option linter.unusedSimpArgs false
namespace Go.Proofs.Yteejaaeglfpcmab.PX
open Go.RowKit Go.Proofs.YteejaaeglfpcmabW.PrintWords Go.Proofs.YteejaaeglfpcmabW.PrintLast Go.Proofs.YteejaaeglfpcmabW.PrintMore
attribute [local go_sem] max2_int min2_int max_two min_two max_three min_three max_four min_four
set_option maxHeartbeats 8000000 in
set_option maxRecDepth 100000 in
theorem arboretref01_wrong.calls (k : Nat) : ∀ (a0_0 : ByteArray) (A0_1 : Option Addr) (c0_1 : Nat) (l0_1 : List (S77)) (A0_2 : Option Addr) (c0_2 : Nat) (l0_2 : List (S30)) (a1 : Int) (r : Int) (w : World) (hr0_1 : Kd.C k77 w A0_1 l0_1.length l0_1) (hc0_1 : l0_1.length ≤ c0_1) (hr0_2 : Kd.C k30 w A0_2 l0_2.length l0_2) (hc0_2 : l0_2.length ≤ c0_2) (h : arboretref01_wrong.f k a0_0 l0_1 l0_2 a1 = some r),
  Calls Try.prog 47 #[.agg #[.string a0_0, .slice A0_1 l0_1.length c0_1, .slice A0_2 l0_2.length c0_2], .int .i64 a1] w fun e w' => e = .returned (.int .i64 r) ∧ Below w.heap.size w w' := by
 induction k using Nat.strongRecOn with
 | _ k ih =>
 intro a0_0 A0_1 c0_1 l0_1 A0_2 c0_2 l0_2 a1 r w hr0_1 hc0_1 hr0_2 hc0_2 h
 cases k with
 | zero => exact absurd h (by simp [arboretref01_wrong.f])
 | succ k =>
 simp only [arboretref01_wrong.f] at h; have hu30 := Try.underlying30; have HR0_1 := Ak hr0_1; have HC0_1 := Ak hc0_1; clear hr0_1 hc0_1; have HR0_2 := Ak hr0_2; have HC0_2 := Ak hc0_2; clear hr0_2 hc0_2; have HB := Zq129; have H : (if a1 > 16 then (some 6) else (if a1 = 1 then (if a0_0.toList = ([] : List UInt8) then (if a1 > 1 then ((arboretref01_Node.f k a0_0).bind fun tdt => (arboretref01_wrong.j0 k a1 (!tdt) a0_0 l0_1 l0_2)) else (arboretref01_wrong.j0 k a1 false a0_0 l0_1 l0_2)) else (arboretref01_wrong.j0 k a1 true a0_0 l0_1 l0_2)) else (if a1 > 1 then ((arboretref01_Node.f k a0_0).bind fun tdu => (arboretref01_wrong.j0 k a1 (!tdu) a0_0 l0_1 l0_2)) else (arboretref01_wrong.j0 k a1 false a0_0 l0_1 l0_2)))) = some r := h; clear h
 by_cases c3 : a1 > 16
 ·rw [if_pos c3] at H; have c3b0 : decide (16 < a1) = true := decide_eq_true c3; clear c3; obtain rfl := Option.some.inj H
  go_enter Try.func47, Try.ntmps47
  go_wp2_with (first | ((with_reducible refine gate_dst (N := 2) rfl ?_); refine box_event ?hg (N := 2) ?hd (cs := #[.string a0_0, .slice A0_1 l0_1.length c0_1, .slice A0_2 l0_2.length c0_2]) (t := 30) ?hr ?_; (case hd | hg => rfl); (case hr => first | (go_simp; done) | (go_simp; rfl)); intro gbad hg w4 hbox hb; have n0_ := Zq122; have n1_ := Ak (hbox); have n2_ := Zq137; have n3_ := Zq137; clear HB; have HB := n0_; have BKad := n1_; have GWad := n2_; have GEad := n3_; clear n0_ n1_ n2_ n3_ hb hbox hg))
  repeat (go_quiet (first | ((with_reducible refine gate_dst (N := 2) rfl ?_); refine box_event ?hg (N := 2) ?hd (cs := #[.string a0_0, .slice A0_1 l0_1.length c0_1, .slice A0_2 l0_2.length c0_2]) (t := 30) ?hr ?_; (case hd | hg => rfl); (case hr => first | (go_simp; done) | (go_simp; rfl)); intro gbad hg w4 hbox hb; have n0_ := Zq122; have n1_ := Ak (hbox); have n2_ := Zq137; have n3_ := Zq137; clear HB; have HB := n0_; have BKad := n1_; have GWad := n2_; have GEad := n3_; clear n0_ n1_ n2_ n3_ hb hbox hg)); try go_wp2_with (first | ((with_reducible refine gate_dst (N := 2) rfl ?_); refine box_event ?hg (N := 2) ?hd (cs := #[.string a0_0, .slice A0_1 l0_1.length c0_1, .slice A0_2 l0_2.length c0_2]) (t := 30) ?hr ?_; (case hd | hg => rfl); (case hr => first | (go_simp; done) | (go_simp; rfl)); intro gbad hg w4 hbox hb; have n0_ := Zq122; have n1_ := Ak (hbox); have n2_ := Zq137; have n3_ := Zq137; clear HB; have HB := n0_; have BKad := n1_; have GWad := n2_; have GEad := n3_; clear n0_ n1_ n2_ n3_ hb hbox hg)))
  go_ret
  exact ⟨Zq10, Zq15⟩
 ·rw [if_neg c3] at H; have c3b0 : decide (16 < a1) = false := decide_eq_false c3; clear c3; have HC5 := Ak H; clear H
  go_enter Try.func47, Try.ntmps47
  go_upto_region 3 with (first | ((with_reducible refine gate_dst (N := 2) rfl ?_); refine box_event ?hg (N := 2) ?hd (cs := #[.string a0_0, .slice A0_1 l0_1.length c0_1, .slice A0_2 l0_2.length c0_2]) (t := 30) ?hr ?_; (case hd | hg => rfl); (case hr => first | (go_simp; done) | (go_simp; rfl)); intro gbad hg w6 hbox hb; have n0_ := Zq122; have n1_ := Ak (hbox); have n2_ := Zq137; have n3_ := Zq137; clear HB; have HB := n0_; have BKad := n1_; have GWad := n2_; have GEad := n3_; clear n0_ n1_ n2_ n3_ hb hbox hg))
  repeat (go_quiet (first | ((with_reducible refine gate_dst (N := 2) rfl ?_); refine box_event ?hg (N := 2) ?hd (cs := #[.string a0_0, .slice A0_1 l0_1.length c0_1, .slice A0_2 l0_2.length c0_2]) (t := 30) ?hr ?_; (case hd | hg => rfl); (case hr => first | (go_simp; done) | (go_simp; rfl)); intro gbad hg w6 hbox hb; have n0_ := Zq122; have n1_ := Ak (hbox); have n2_ := Zq137; have n3_ := Zq137; clear HB; have HB := n0_; have BKad := n1_; have GWad := n2_; have GEad := n3_; clear n0_ n1_ n2_ n3_ hb hbox hg)); go_upto_region 3 with (first | ((with_reducible refine gate_dst (N := 2) rfl ?_); refine box_event ?hg (N := 2) ?hd (cs := #[.string a0_0, .slice A0_1 l0_1.length c0_1, .slice A0_2 l0_2.length c0_2]) (t := 30) ?hr ?_; (case hd | hg => rfl); (case hr => first | (go_simp; done) | (go_simp; rfl)); intro gbad hg w6 hbox hb; have n0_ := Zq122; have n1_ := Ak (hbox); have n2_ := Zq137; have n3_ := Zq137; clear HB; have HB := n0_; have BKad := n1_; have GWad := n2_; have GEad := n3_; clear n0_ n1_ n2_ n3_ hb hbox hg)))
  (try simp only [Act.put, List.setIfInBounds_toArray, List.set_cons_zero, List.set_cons_succ])
  go_cut [30] (fun v30 wc => ∃ (kq : Nat) (x30_4 : Bool), v30 = .bool x30_4 ∧ Aside0 (arboretref01_wrong.j0 kq a1 x30_4 a0_0 l0_1 l0_2 = some r) ∧ Aside0 (kq ≤ k) ∧ Aside0 (wc.heap[gbad]? = some (.cells #[.string a0_0, (.slice A0_1 l0_1.length c0_1), (.slice A0_2 l0_2.length c0_2)] 30 (0, 0))) ∧ Aside0 (Below w.heap.size w wc))
  case first =>
   have H := HC5.out; clear HC5
   by_cases c7 : a1 = 1
   ·rw [if_pos c7] at H; have c7b0 : (a1 == 1) = true := beq_iff_eq.mpr c7; have c7b1 : (a1 != 1) = false := bne_eq_false_iff_eq.mpr c7; clear c7
    (first | rw [c7b0] | (simp only [i64_w, i32_w]; rw [c7b0]) | skip)
    by_cases c8 : a0_0.toList = ([] : List UInt8)
    ·rw [if_pos c8] at H; have c8b0 : (a0_0.toList == ([] : List UInt8)) = true := beq_iff_eq.mpr c8; have c8b1 : (a0_0.toList != ([] : List UInt8)) = false := bne_eq_false_iff_eq.mpr c8; clear c8
     by_cases c9 : a1 > 1
     ·rw [if_pos c9] at H; have c9b0 : decide (1 < a1) = true := decide_eq_true c9; clear c9; replace H := Option.bind_eq_some_iff.mp H; obtain ⟨tdt, AdK, H⟩ := H; replace H : (arboretref01_wrong.j0 k a1 (!tdt) a0_0 l0_1 l0_2) = some r := H; have A10 := Ak AdK; clear AdK; have H' := Ak H; clear H; have hcz11_0 : w6.cell? ⟨gbad, 0, none⟩ = some (.string a0_0) := (blk_cell BKad.out 0).trans rfl; have hcz11_1 : w6.cell? ⟨gbad, 1, none⟩ = some (.slice A0_1 l0_1.length c0_1) := (blk_cell BKad.out 1).trans rfl; have hcz11_2 : w6.cell? ⟨gbad, 2, none⟩ = some (.slice A0_2 l0_2.length c0_2) := (blk_cell BKad.out 2).trans rfl; have hfz11_0 := blk_frozen BKad.out 0; have hfz11_1 := blk_frozen BKad.out 1; have hfz11_2 := blk_frozen BKad.out 2
      go_wp2_with (first | (go_at_call 74; (with_reducible refine (arboretref01_Node.calls k a0_0 tdt _ A10.out).mono ?_); rintro e w' ⟨rfl, ⟨nd, rfl⟩⟩; (try first | exact ⟨rfl, _, World.drewN_drewN _ _ _⟩ | exact ⟨rfl, _, Eq.trans (World.drewN_drewN _ _ _) (congrArg (World.drewN _) (Nat.add_assoc _ _ _))⟩)))
      repeat (go_quiet (first | (go_at_call 74; (with_reducible refine (arboretref01_Node.calls k a0_0 tdt _ A10.out).mono ?_); rintro e w' ⟨rfl, ⟨nd, rfl⟩⟩; (try first | exact ⟨rfl, _, World.drewN_drewN _ _ _⟩ | exact ⟨rfl, _, Eq.trans (World.drewN_drewN _ _ _) (congrArg (World.drewN _) (Nat.add_assoc _ _ _))⟩))); try go_wp2_with (first | (go_at_call 74; (with_reducible refine (arboretref01_Node.calls k a0_0 tdt _ A10.out).mono ?_); rintro e w' ⟨rfl, ⟨nd, rfl⟩⟩; (try first | exact ⟨rfl, _, World.drewN_drewN _ _ _⟩ | exact ⟨rfl, _, Eq.trans (World.drewN_drewN _ _ _) (congrArg (World.drewN _) (Nat.add_assoc _ _ _))⟩))))
      go_meet
      case rel => exact ⟨_, (!tdt), Zq6, H', ⟨Zq13⟩, ⟨Zq22⟩, ⟨Zq15⟩⟩
     ·rw [if_neg c9] at H; have c9b0 : decide (1 < a1) = false := decide_eq_false c9; clear c9; have H' := Ak H; clear H; have hcz12_0 : w6.cell? ⟨gbad, 0, none⟩ = some (.string a0_0) := (blk_cell BKad.out 0).trans rfl; have hcz12_1 : w6.cell? ⟨gbad, 1, none⟩ = some (.slice A0_1 l0_1.length c0_1) := (blk_cell BKad.out 1).trans rfl; have hcz12_2 : w6.cell? ⟨gbad, 2, none⟩ = some (.slice A0_2 l0_2.length c0_2) := (blk_cell BKad.out 2).trans rfl; have hfz12_0 := blk_frozen BKad.out 0; have hfz12_1 := blk_frozen BKad.out 1; have hfz12_2 := blk_frozen BKad.out 2
      go_wp2
      repeat (go_quiet (fail); try go_wp2)
      go_meet
      case rel => exact ⟨_, (false), Zq6, H', ⟨Zq13⟩, ⟨Zq22⟩, ⟨Zq15⟩⟩
    ·rw [if_neg c8] at H; have c8b0 : (a0_0.toList == ([] : List UInt8)) = false := beq_eq_false_iff_ne.mpr c8; have c8b1 : (a0_0.toList != ([] : List UInt8)) = true := bne_iff_ne.mpr c8; have H' := Ak H; clear H; have hcz13_0 : w6.cell? ⟨gbad, 0, none⟩ = some (.string a0_0) := (blk_cell BKad.out 0).trans rfl; have hcz13_1 : w6.cell? ⟨gbad, 1, none⟩ = some (.slice A0_1 l0_1.length c0_1) := (blk_cell BKad.out 1).trans rfl; have hcz13_2 : w6.cell? ⟨gbad, 2, none⟩ = some (.slice A0_2 l0_2.length c0_2) := (blk_cell BKad.out 2).trans rfl; have hfz13_0 := blk_frozen BKad.out 0; have hfz13_1 := blk_frozen BKad.out 1; have hfz13_2 := blk_frozen BKad.out 2
     go_wp2
     repeat (go_quiet (fail); try go_wp2)
     go_meet
     case rel => exact ⟨_, (true), Zq6, H', ⟨Zq13⟩, ⟨Zq22⟩, ⟨Zq15⟩⟩
   ·rw [if_neg c7] at H; have c7b0 : (a1 == 1) = false := beq_eq_false_iff_ne.mpr c7; have c7b1 : (a1 != 1) = true := bne_iff_ne.mpr c7
    (first | rw [c7b0] | (simp only [i64_w, i32_w]; rw [c7b0]) | skip)
    by_cases c14 : a1 > 1
    ·rw [if_pos c14] at H; have c14b0 : decide (1 < a1) = true := decide_eq_true c14; clear c14; replace H := Option.bind_eq_some_iff.mp H; obtain ⟨tdu, AdI, H⟩ := H; replace H : (arboretref01_wrong.j0 k a1 (!tdu) a0_0 l0_1 l0_2) = some r := H; have A15 := Ak AdI; clear AdI; have H' := Ak H; clear H; have hcz16_0 : w6.cell? ⟨gbad, 0, none⟩ = some (.string a0_0) := (blk_cell BKad.out 0).trans rfl; have hcz16_1 : w6.cell? ⟨gbad, 1, none⟩ = some (.slice A0_1 l0_1.length c0_1) := (blk_cell BKad.out 1).trans rfl; have hcz16_2 : w6.cell? ⟨gbad, 2, none⟩ = some (.slice A0_2 l0_2.length c0_2) := (blk_cell BKad.out 2).trans rfl; have hfz16_0 := blk_frozen BKad.out 0; have hfz16_1 := blk_frozen BKad.out 1; have hfz16_2 := blk_frozen BKad.out 2
     go_wp2_with (first | (go_at_call 74; (with_reducible refine (arboretref01_Node.calls k a0_0 tdu _ A15.out).mono ?_); rintro e w' ⟨rfl, ⟨nd, rfl⟩⟩; (try first | exact ⟨rfl, _, World.drewN_drewN _ _ _⟩ | exact ⟨rfl, _, Eq.trans (World.drewN_drewN _ _ _) (congrArg (World.drewN _) (Nat.add_assoc _ _ _))⟩)))
     repeat (go_quiet (first | (go_at_call 74; (with_reducible refine (arboretref01_Node.calls k a0_0 tdu _ A15.out).mono ?_); rintro e w' ⟨rfl, ⟨nd, rfl⟩⟩; (try first | exact ⟨rfl, _, World.drewN_drewN _ _ _⟩ | exact ⟨rfl, _, Eq.trans (World.drewN_drewN _ _ _) (congrArg (World.drewN _) (Nat.add_assoc _ _ _))⟩))); try go_wp2_with (first | (go_at_call 74; (with_reducible refine (arboretref01_Node.calls k a0_0 tdu _ A15.out).mono ?_); rintro e w' ⟨rfl, ⟨nd, rfl⟩⟩; (try first | exact ⟨rfl, _, World.drewN_drewN _ _ _⟩ | exact ⟨rfl, _, Eq.trans (World.drewN_drewN _ _ _) (congrArg (World.drewN _) (Nat.add_assoc _ _ _))⟩))))
     go_meet
     case rel => exact ⟨_, (!tdu), Zq6, H', ⟨Zq13⟩, ⟨Zq22⟩, ⟨Zq15⟩⟩
    ·rw [if_neg c14] at H; have c14b0 : decide (1 < a1) = false := decide_eq_false c14; clear c14; have H' := Ak H; clear H
     go_wp2
     repeat (go_quiet (fail); try go_wp2)
     go_meet
     case rel => exact ⟨_, (false), Zq6, H', ⟨Zq13⟩, ⟨Zq22⟩, ⟨Zq15⟩⟩
  case rest =>
   clear HC5
   try clear c1
   try clear p2
   try clear c3
   try clear c3b0
   try clear c4
   try clear c7
   try clear c7b0
   try clear c7b1
   try clear c8
   try clear c8b0
   try clear c8b1
   try clear c9
   try clear c9b0
   try clear c14
   try clear c14b0
   try clear hcz11_0
   try clear hcz11_1
   try clear hcz11_2
   try clear hcz12_0
   try clear hcz12_1
   try clear hcz12_2
   try clear hcz13_0
   try clear hcz13_1
   try clear hcz13_2
   try clear hcz16_0
   try clear hcz16_1
   try clear hcz16_2
   try clear hfz11_0
   try clear hfz11_1
   try clear hfz11_2
   try clear hfz12_0
   try clear hfz12_1
   try clear hfz12_2
   try clear hfz13_0
   try clear hfz13_1
   try clear hfz13_2
   try clear hfz16_0
   try clear hfz16_1
   try clear hfz16_2
   obtain ⟨kq, x30_4, rfl, HA, HJ4, BKad, HB⟩ := hcut
   cases kq with
   | zero => exact absurd HA.out (by simp [arboretref01_wrong.j0])
   | succ kj4 =>
    have H := HA.out; clear HA; simp only [arboretref01_wrong.j0] at H
    by_cases c17 : x30_4 = true
    ·subst c17
     have H1 : (some 5) = some r := by rw [if_pos rfl] at H; exact H
     clear H; have H := H1; clear H1; obtain rfl := Option.some.inj H
     go_wp2
     repeat (go_quiet (fail); try go_wp2)
     go_ret
     exact ⟨Zq10, Zq15⟩
    ·replace c17 := Bool.eq_false_iff.mpr c17; subst c17
     have H1 : (arboretref01_wrong.l0 kj4 a1 (l0_1.length : Int) 0 a0_0 l0_1 l0_2) = some r := by rw [if_neg (show ¬ (false = true) by decide)] at H; exact H
     clear H; have H := H1; clear H1; have H' := Ak H; clear H; have hcz18_0 : wc.cell? ⟨gbad, 0, none⟩ = some (.string a0_0) := (blk_cell BKad.out 0).trans rfl; have hcz18_1 : wc.cell? ⟨gbad, 1, none⟩ = some (.slice A0_1 l0_1.length c0_1) := (blk_cell BKad.out 1).trans rfl; have hcz18_2 : wc.cell? ⟨gbad, 2, none⟩ = some (.slice A0_2 l0_2.length c0_2) := (blk_cell BKad.out 2).trans rfl; have hfz18_0 := blk_frozen BKad.out 0; have hfz18_1 := blk_frozen BKad.out 1; have hfz18_2 := blk_frozen BKad.out 2
     go_wp2
     repeat (go_quiet (fail); try go_wp2)
     go_loopg [34] kj4 (fun kq v34 w' => ∃ (x34_2 : Int), v34 = .int .i64 x34_2 ∧ Aside0 (arboretref01_wrong.l0 kq a1 (l0_1.length : Int) x34_2 a0_0 l0_1 l0_2 = some r) ∧ Aside0 (kq ≤ kj4) ∧ Aside0 (w'.heap[gbad]? = some (.cells #[.string a0_0, (.slice A0_1 l0_1.length c0_1), (.slice A0_2 l0_2.length c0_2)] 30 (0, 0))) ∧ Aside0 (Below w.heap.size w w'))
     case atStart => exact ⟨(0), Zq6, H', ⟨Nat.le_refl _⟩, ⟨Zq22⟩, ⟨Zq15⟩⟩
     case round =>
      clear H'
      try clear c1
      try clear p2
      try clear c3
      try clear c3b0
      try clear c4
      try clear c7
      try clear c7b0
      try clear c7b1
      try clear c8
      try clear c8b0
      try clear c8b1
      try clear c9
      try clear c9b0
      try clear c14
      try clear c14b0
      try clear c17
      try clear hcz11_0
      try clear hcz11_1
      try clear hcz11_2
      try clear hcz12_0
      try clear hcz12_1
      try clear hcz12_2
      try clear hcz13_0
      try clear hcz13_1
      try clear hcz13_2
      try clear hcz16_0
      try clear hcz16_1
      try clear hcz16_2
      try clear hcz18_0
      try clear hcz18_1
      try clear hcz18_2
      try clear hfz11_0
      try clear hfz11_1
      try clear hfz11_2
      try clear hfz12_0
      try clear hfz12_1
      try clear hfz12_2
      try clear hfz13_0
      try clear hfz13_1
      try clear hfz13_2
      try clear hfz16_0
      try clear hfz16_1
      try clear hfz16_2
      try clear hfz18_0
      try clear hfz18_1
      try clear hfz18_2
      try clear p2
      obtain ⟨x34_2, rfl, HA, HK2, BKad, HB⟩ := hrel
      cases gk with
      | zero => exact absurd HA.out (by simp [arboretref01_wrong.l0])
      | succ k2 =>
       have H := HA.out; clear HA; simp only [arboretref01_wrong.l0] at H
       by_cases c19 : x34_2 < (l0_1.length : Int)
       ·rw [if_pos c19] at H; have c19b0 : decide (x34_2 < (l0_1.length : Int)) = true := decide_eq_true c19; clear c19
        by_cases c20 : 0 ≤ x34_2
        ·rw [if_pos c20] at H; have c20b0 : decide (0 ≤ x34_2) = true := decide_eq_true c20; clear c20
         by_cases c21 : x34_2 < (l0_1.length : Int)
         ·rw [if_pos c21] at H; have c21b0 : decide (x34_2 < (l0_1.length : Int)) = true := decide_eq_true c21; clear c21; replace H := Option.bind_eq_some_iff.mp H; obtain ⟨teR, AfL, H⟩ := H; replace H : (if teR = true then (arboretref01_wrong.l0 k2 a1 (l0_1.length : Int) (wrap64 (x34_2 + 1)) a0_0 l0_1 l0_2) else (some 5)) = some r := H; have A22 := Ak AfL; clear AfL
          by_cases c23 : teR = true
          ·subst c23
           have H1 : (arboretref01_wrong.l0 k2 a1 (l0_1.length : Int) (wrap64 (x34_2 + 1)) a0_0 l0_1 l0_2) = some r := by rw [if_pos rfl] at H; exact H
           clear H; have H := H1; clear H1; have H' := Ak H; clear H; have hcz24_0 : wr.cell? ⟨gbad, 0, none⟩ = some (.string a0_0) := (blk_cell BKad.out 0).trans rfl; have hcz24_1 : wr.cell? ⟨gbad, 1, none⟩ = some (.slice A0_1 l0_1.length c0_1) := (blk_cell BKad.out 1).trans rfl; have hcz24_2 : wr.cell? ⟨gbad, 2, none⟩ = some (.slice A0_2 l0_2.length c0_2) := (blk_cell BKad.out 2).trans rfl; have hfz24_0 := blk_frozen BKad.out 0; have hfz24_1 := blk_frozen BKad.out 1; have hfz24_2 := blk_frozen BKad.out 2; have p357 : 0 ≤ (x34_2 : Int) := of_decide_eq_true Zq4; have q357 : x34_2 < (l0_1.length : Int) := of_decide_eq_true Zq4; obtain ⟨addv, Adv_1, cdv_1, e357, hx357_0, hx357_1, hl357_1, hi357_1⟩ := at_T77 HR0_1.out x34_2 p357 q357
           cases e357
           replace hx357_0 := (HB.out.cell (World.block_lt_of_cell? w _ hx357_0)).trans hx357_0; replace hx357_1 := (HB.out.cell (World.block_lt_of_cell? w _ hx357_1)).trans hx357_1; have HRdv_1 := Ak hi357_1; have HCdv_1 := Ak hl357_1; clear hi357_1 hl357_1; replace p357 := eq_true p357; replace q357 := eq_true q357
           go_wp2_with (first | (go_at_call 75; (with_reducible refine (arboretref01_Prop.calls k2 ((rd_T77 l0_1 x34_2).f0) true _ A22.out).mono ?_); rintro e w' ⟨rfl, ⟨nd, rfl⟩⟩; (try first | exact ⟨rfl, _, World.drewN_drewN _ _ _⟩ | exact ⟨rfl, _, Eq.trans (World.drewN_drewN _ _ _) (congrArg (World.drewN _) (Nat.add_assoc _ _ _))⟩)))
           repeat (go_quiet (first | (go_at_call 75; (with_reducible refine (arboretref01_Prop.calls k2 ((rd_T77 l0_1 x34_2).f0) true _ A22.out).mono ?_); rintro e w' ⟨rfl, ⟨nd, rfl⟩⟩; (try first | exact ⟨rfl, _, World.drewN_drewN _ _ _⟩ | exact ⟨rfl, _, Eq.trans (World.drewN_drewN _ _ _) (congrArg (World.drewN _) (Nat.add_assoc _ _ _))⟩))); try go_wp2_with (first | (go_at_call 75; (with_reducible refine (arboretref01_Prop.calls k2 ((rd_T77 l0_1 x34_2).f0) true _ A22.out).mono ?_); rintro e w' ⟨rfl, ⟨nd, rfl⟩⟩; (try first | exact ⟨rfl, _, World.drewN_drewN _ _ _⟩ | exact ⟨rfl, _, Eq.trans (World.drewN_drewN _ _ _) (congrArg (World.drewN _) (Nat.add_assoc _ _ _))⟩))))
           go_roundg k2
           case measure => have := HJ4.out; have := HK2.out; omega
           case rel => exact ⟨(wrap64 (x34_2 + 1)), Zq6, H', ⟨by have := HJ4.out; have := HK2.out; omega⟩, ⟨Zq22⟩, ⟨Zq15⟩⟩
          ·replace c23 := Bool.eq_false_iff.mpr c23; subst c23
           have H1 : (some 5) = some r := by rw [if_neg (show ¬ (false = true) by decide)] at H; exact H
           clear H; have H := H1; clear H1; obtain rfl := Option.some.inj H; have hcz25_0 : wr.cell? ⟨gbad, 0, none⟩ = some (.string a0_0) := (blk_cell BKad.out 0).trans rfl; have hcz25_1 : wr.cell? ⟨gbad, 1, none⟩ = some (.slice A0_1 l0_1.length c0_1) := (blk_cell BKad.out 1).trans rfl; have hcz25_2 : wr.cell? ⟨gbad, 2, none⟩ = some (.slice A0_2 l0_2.length c0_2) := (blk_cell BKad.out 2).trans rfl; have hfz25_0 := blk_frozen BKad.out 0; have hfz25_1 := blk_frozen BKad.out 1; have hfz25_2 := blk_frozen BKad.out 2; have p357 : 0 ≤ (x34_2 : Int) := of_decide_eq_true Zq4; have q357 : x34_2 < (l0_1.length : Int) := of_decide_eq_true Zq4; obtain ⟨addv, Adv_1, cdv_1, e357, hx357_0, hx357_1, hl357_1, hi357_1⟩ := at_T77 HR0_1.out x34_2 p357 q357
           cases e357
           replace hx357_0 := (HB.out.cell (World.block_lt_of_cell? w _ hx357_0)).trans hx357_0; replace hx357_1 := (HB.out.cell (World.block_lt_of_cell? w _ hx357_1)).trans hx357_1; have HRdv_1 := Ak hi357_1; have HCdv_1 := Ak hl357_1; clear hi357_1 hl357_1; replace p357 := eq_true p357; replace q357 := eq_true q357
           go_wp2_with (first | (go_at_call 75; (with_reducible refine (arboretref01_Prop.calls k2 ((rd_T77 l0_1 x34_2).f0) false _ A22.out).mono ?_); rintro e w' ⟨rfl, ⟨nd, rfl⟩⟩; (try first | exact ⟨rfl, _, World.drewN_drewN _ _ _⟩ | exact ⟨rfl, _, Eq.trans (World.drewN_drewN _ _ _) (congrArg (World.drewN _) (Nat.add_assoc _ _ _))⟩)))
           repeat (go_quiet (first | (go_at_call 75; (with_reducible refine (arboretref01_Prop.calls k2 ((rd_T77 l0_1 x34_2).f0) false _ A22.out).mono ?_); rintro e w' ⟨rfl, ⟨nd, rfl⟩⟩; (try first | exact ⟨rfl, _, World.drewN_drewN _ _ _⟩ | exact ⟨rfl, _, Eq.trans (World.drewN_drewN _ _ _) (congrArg (World.drewN _) (Nat.add_assoc _ _ _))⟩))); try go_wp2_with (first | (go_at_call 75; (with_reducible refine (arboretref01_Prop.calls k2 ((rd_T77 l0_1 x34_2).f0) false _ A22.out).mono ?_); rintro e w' ⟨rfl, ⟨nd, rfl⟩⟩; (try first | exact ⟨rfl, _, World.drewN_drewN _ _ _⟩ | exact ⟨rfl, _, Eq.trans (World.drewN_drewN _ _ _) (congrArg (World.drewN _) (Nat.add_assoc _ _ _))⟩))))
           go_ret
           exact ⟨Zq10, Zq15⟩
         ·rw [if_neg c21] at H; exact absurd H Zq8
        ·rw [if_neg c20] at H; exact absurd H Zq8
       ·rw [if_neg c19] at H; have c19b0 : decide (x34_2 < (l0_1.length : Int)) = false := decide_eq_false c19; clear c19; have H' := Ak H; clear H; have hcz26_0 : wr.cell? ⟨gbad, 0, none⟩ = some (.string a0_0) := (blk_cell BKad.out 0).trans rfl; have hcz26_1 : wr.cell? ⟨gbad, 1, none⟩ = some (.slice A0_1 l0_1.length c0_1) := (blk_cell BKad.out 1).trans rfl; have hcz26_2 : wr.cell? ⟨gbad, 2, none⟩ = some (.slice A0_2 l0_2.length c0_2) := (blk_cell BKad.out 2).trans rfl; have hfz26_0 := blk_frozen BKad.out 0; have hfz26_1 := blk_frozen BKad.out 1; have hfz26_2 := blk_frozen BKad.out 2
        go_wp2
        repeat (go_quiet (fail); try go_wp2)
        go_loopg [49] k2 (fun kq v49 w' => ∃ (x49_3 : Int), v49 = .int .i64 x49_3 ∧ Aside0 (arboretref01_wrong.l1 kq a1 (l0_1.length : Int) x49_3 a0_0 l0_1 l0_2 = some r) ∧ Aside0 (kq ≤ k2) ∧ Aside0 (w'.heap[gbad]? = some (.cells #[.string a0_0, (.slice A0_1 l0_1.length c0_1), (.slice A0_2 l0_2.length c0_2)] 30 (0, 0))) ∧ Aside0 (Below w.heap.size w w'))
        case atStart => exact ⟨(0), Zq6, H', ⟨Nat.le_refl _⟩, ⟨Zq22⟩, ⟨Zq15⟩⟩
        case round =>
         clear H'
         try clear c1
         try clear c2
         try clear p2
         try clear c3
         try clear c3b0
         try clear p3
         try clear q3
         try clear hx3
         try clear c4
         try clear p6
         try clear c7
         try clear c7b0
         try clear c7b1
         try clear c8
         try clear c8b0
         try clear c8b1
         try clear c9
         try clear c9b0
         try clear c14
         try clear c14b0
         try clear c17
         try clear c19
         try clear c19b0
         try clear c20
         try clear c20b0
         try clear c21
         try clear c21b0
         try clear c23
         try clear hcz11_0
         try clear hcz11_1
         try clear hcz11_2
         try clear hcz12_0
         try clear hcz12_1
         try clear hcz12_2
         try clear hcz13_0
         try clear hcz13_1
         try clear hcz13_2
         try clear hcz16_0
         try clear hcz16_1
         try clear hcz16_2
         try clear hcz18_0
         try clear hcz18_1
         try clear hcz18_2
         try clear hcz24_0
         try clear hcz24_1
         try clear hcz24_2
         try clear hcz25_0
         try clear hcz25_1
         try clear hcz25_2
         try clear hcz26_0
         try clear hcz26_1
         try clear hcz26_2
         try clear hfz11_0
         try clear hfz11_1
         try clear hfz11_2
         try clear hfz12_0
         try clear hfz12_1
         try clear hfz12_2
         try clear hfz13_0
         try clear hfz13_1
         try clear hfz13_2
         try clear hfz16_0
         try clear hfz16_1
         try clear hfz16_2
         try clear hfz18_0
         try clear hfz18_1
         try clear hfz18_2
         try clear hfz24_0
         try clear hfz24_1
         try clear hfz24_2
         try clear hfz25_0
         try clear hfz25_1
         try clear hfz25_2
         try clear hfz26_0
         try clear hfz26_1
         try clear hfz26_2
         try clear hx357_0
         try clear hx357_1
         try clear p2
         try clear p357
         try clear q357
         obtain ⟨x49_3, rfl, HA, HK3, BKad, HB⟩ := hrel
         cases gk with
         | zero => exact absurd HA.out (by simp [arboretref01_wrong.l1])
         | succ k3 =>
          have H := HA.out; clear HA; simp only [arboretref01_wrong.l1] at H
          by_cases c27 : x49_3 < (l0_1.length : Int)
          ·rw [if_pos c27] at H; have c27b0 : decide (x49_3 < (l0_1.length : Int)) = true := decide_eq_true c27; clear c27; have H' := Ak H; clear H
           go_wp2
           repeat (go_quiet (fail); try go_wp2)
           go_loopg [53] k3 (fun kq v53 w' => ∃ (x53_4 : Int), v53 = .int .i64 x53_4 ∧ Aside0 (arboretref01_wrong.l2 kq a1 x49_3 (l0_1.length : Int) x49_3 x49_3 x53_4 a0_0 l0_1 l0_2 = some r) ∧ Aside0 (kq ≤ k3) ∧ Aside0 (w'.heap[gbad]? = some (.cells #[.string a0_0, (.slice A0_1 l0_1.length c0_1), (.slice A0_2 l0_2.length c0_2)] 30 (0, 0))) ∧ Aside0 (Below w.heap.size w w'))
           case atStart => exact ⟨(0), Zq6, H', ⟨Nat.le_refl _⟩, ⟨Zq22⟩, ⟨Zq15⟩⟩
           case round =>
            clear H'
            try clear c1
            try clear c2
            try clear p2
            try clear c3
            try clear c3b0
            try clear p3
            try clear q3
            try clear hx3
            try clear c4
            try clear p6
            try clear c7
            try clear c7b0
            try clear c7b1
            try clear c8
            try clear c8b0
            try clear c8b1
            try clear c9
            try clear c9b0
            try clear c14
            try clear c14b0
            try clear c17
            try clear c19
            try clear c19b0
            try clear c20
            try clear c20b0
            try clear c21
            try clear c21b0
            try clear c23
            try clear c27
            try clear c27b0
            try clear hcz11_0
            try clear hcz11_1
            try clear hcz11_2
            try clear hcz12_0
            try clear hcz12_1
            try clear hcz12_2
            try clear hcz13_0
            try clear hcz13_1
            try clear hcz13_2
            try clear hcz16_0
            try clear hcz16_1
            try clear hcz16_2
            try clear hcz18_0
            try clear hcz18_1
            try clear hcz18_2
            try clear hcz24_0
            try clear hcz24_1
            try clear hcz24_2
            try clear hcz25_0
            try clear hcz25_1
            try clear hcz25_2
            try clear hcz26_0
            try clear hcz26_1
            try clear hcz26_2
            try clear hfz11_0
            try clear hfz11_1
            try clear hfz11_2
            try clear hfz12_0
            try clear hfz12_1
            try clear hfz12_2
            try clear hfz13_0
            try clear hfz13_1
            try clear hfz13_2
            try clear hfz16_0
            try clear hfz16_1
            try clear hfz16_2
            try clear hfz18_0
            try clear hfz18_1
            try clear hfz18_2
            try clear hfz24_0
            try clear hfz24_1
            try clear hfz24_2
            try clear hfz25_0
            try clear hfz25_1
            try clear hfz25_2
            try clear hfz26_0
            try clear hfz26_1
            try clear hfz26_2
            try clear hx357_0
            try clear hx357_1
            try clear p2
            try clear p3
            try clear p357
            try clear p6
            try clear q3
            try clear q357
            obtain ⟨x53_4, rfl, HA, HK4, BKad, HB⟩ := hrel
            cases gk with
            | zero => exact absurd HA.out (by simp [arboretref01_wrong.l2])
            | succ k4 =>
             have H := HA.out; clear HA; simp only [arboretref01_wrong.l2] at H
             by_cases c28 : x53_4 < x49_3
             ·rw [if_pos c28] at H; have c28b0 : decide (x53_4 < x49_3) = true := decide_eq_true c28; clear c28
              by_cases c29 : 0 ≤ x53_4
              ·rw [if_pos c29] at H; have c29b0 : decide (0 ≤ x53_4) = true := decide_eq_true c29; clear c29
               by_cases c30 : x53_4 < (l0_1.length : Int)
               ·rw [if_pos c30] at H; have c30b0 : decide (x53_4 < (l0_1.length : Int)) = true := decide_eq_true c30; clear c30
                by_cases c31 : 0 ≤ x49_3
                ·rw [if_pos c31] at H; have c31b0 : decide (0 ≤ x49_3) = true := decide_eq_true c31; clear c31
                 by_cases c32 : x49_3 < (l0_1.length : Int)
                 ·rw [if_pos c32] at H; have c32b0 : decide (x49_3 < (l0_1.length : Int)) = true := decide_eq_true c32; clear c32
                  by_cases c33 : ((rd_T77 l0_1 x53_4).f0).toList = ((rd_T77 l0_1 x49_3).f0).toList
                  ·rw [if_pos c33] at H; have c33b0 : (((rd_T77 l0_1 x53_4).f0).toList == ((rd_T77 l0_1 x49_3).f0).toList) = true := beq_iff_eq.mpr c33; have c33b1 : (((rd_T77 l0_1 x53_4).f0).toList != ((rd_T77 l0_1 x49_3).f0).toList) = false := bne_eq_false_iff_eq.mpr c33; clear c33; obtain rfl := Option.some.inj H; have hcz34_0 : wr.cell? ⟨gbad, 0, none⟩ = some (.string a0_0) := (blk_cell BKad.out 0).trans rfl; have hcz34_1 : wr.cell? ⟨gbad, 1, none⟩ = some (.slice A0_1 l0_1.length c0_1) := (blk_cell BKad.out 1).trans rfl; have hcz34_2 : wr.cell? ⟨gbad, 2, none⟩ = some (.slice A0_2 l0_2.length c0_2) := (blk_cell BKad.out 2).trans rfl; have hfz34_0 := blk_frozen BKad.out 0; have hfz34_1 := blk_frozen BKad.out 1; have hfz34_2 := blk_frozen BKad.out 2; have p359 : 0 ≤ (x53_4 : Int) := of_decide_eq_true Zq4; have q359 : x53_4 < (l0_1.length : Int) := of_decide_eq_true Zq4; obtain ⟨adcO, AcO_1, ccO_1, e359, hx359_0, hx359_1, hl359_1, hi359_1⟩ := at_T77 HR0_1.out x53_4 p359 q359
                   cases e359
                   replace hx359_0 := (HB.out.cell (World.block_lt_of_cell? w _ hx359_0)).trans hx359_0; replace hx359_1 := (HB.out.cell (World.block_lt_of_cell? w _ hx359_1)).trans hx359_1; have HRcO_1 := Ak hi359_1; have HCcO_1 := Ak hl359_1; clear hi359_1 hl359_1; replace p359 := eq_true p359; replace q359 := eq_true q359; have p360 : 0 ≤ (x49_3 : Int) := of_decide_eq_true Zq4; have q360 : x49_3 < (l0_1.length : Int) := of_decide_eq_true Zq4; obtain ⟨adcs, Acs_1, ccs_1, e360, hx360_0, hx360_1, hl360_1, hi360_1⟩ := at_T77 HR0_1.out x49_3 p360 q360
                   obtain rfl : adcO = adcs := (by injection e360)
                   replace hx360_0 := (HB.out.cell (World.block_lt_of_cell? w _ hx360_0)).trans hx360_0; replace hx360_1 := (HB.out.cell (World.block_lt_of_cell? w _ hx360_1)).trans hx360_1; have HRcs_1 := Ak hi360_1; have HCcs_1 := Ak hl360_1; clear hi360_1 hl360_1; replace p360 := eq_true p360; replace q360 := eq_true q360
                   go_wp2
                   repeat (go_quiet (fail); try go_wp2)
                   go_ret
                   exact ⟨Zq10, Zq15⟩
                  ·rw [if_neg c33] at H; have c33b0 : (((rd_T77 l0_1 x53_4).f0).toList == ((rd_T77 l0_1 x49_3).f0).toList) = false := beq_eq_false_iff_ne.mpr c33; have c33b1 : (((rd_T77 l0_1 x53_4).f0).toList != ((rd_T77 l0_1 x49_3).f0).toList) = true := bne_iff_ne.mpr c33; have H' := Ak H; clear H; have hcz35_0 : wr.cell? ⟨gbad, 0, none⟩ = some (.string a0_0) := (blk_cell BKad.out 0).trans rfl; have hcz35_1 : wr.cell? ⟨gbad, 1, none⟩ = some (.slice A0_1 l0_1.length c0_1) := (blk_cell BKad.out 1).trans rfl; have hcz35_2 : wr.cell? ⟨gbad, 2, none⟩ = some (.slice A0_2 l0_2.length c0_2) := (blk_cell BKad.out 2).trans rfl; have hfz35_0 := blk_frozen BKad.out 0; have hfz35_1 := blk_frozen BKad.out 1; have hfz35_2 := blk_frozen BKad.out 2; have p359 : 0 ≤ (x53_4 : Int) := of_decide_eq_true Zq4; have q359 : x53_4 < (l0_1.length : Int) := of_decide_eq_true Zq4; obtain ⟨adcO, AcO_1, ccO_1, e359, hx359_0, hx359_1, hl359_1, hi359_1⟩ := at_T77 HR0_1.out x53_4 p359 q359
                   cases e359
                   replace hx359_0 := (HB.out.cell (World.block_lt_of_cell? w _ hx359_0)).trans hx359_0; replace hx359_1 := (HB.out.cell (World.block_lt_of_cell? w _ hx359_1)).trans hx359_1; have HRcO_1 := Ak hi359_1; have HCcO_1 := Ak hl359_1; clear hi359_1 hl359_1; replace p359 := eq_true p359; replace q359 := eq_true q359; have p360 : 0 ≤ (x49_3 : Int) := of_decide_eq_true Zq4; have q360 : x49_3 < (l0_1.length : Int) := of_decide_eq_true Zq4; obtain ⟨adcs, Acs_1, ccs_1, e360, hx360_0, hx360_1, hl360_1, hi360_1⟩ := at_T77 HR0_1.out x49_3 p360 q360
                   obtain rfl : adcO = adcs := (by injection e360)
                   replace hx360_0 := (HB.out.cell (World.block_lt_of_cell? w _ hx360_0)).trans hx360_0; replace hx360_1 := (HB.out.cell (World.block_lt_of_cell? w _ hx360_1)).trans hx360_1; have HRcs_1 := Ak hi360_1; have HCcs_1 := Ak hl360_1; clear hi360_1 hl360_1; replace p360 := eq_true p360; replace q360 := eq_true q360
                   go_wp2
                   repeat (go_quiet (fail); try go_wp2)
                   go_roundg k4
                   case measure => have := HJ4.out; have := HK2.out; have := HK3.out; have := HK4.out; omega
                   case rel => exact ⟨(wrap64 (x53_4 + 1)), Zq6, H', ⟨by have := HJ4.out; have := HK2.out; have := HK3.out; have := HK4.out; omega⟩, ⟨Zq22⟩, ⟨Zq15⟩⟩
                 ·rw [if_neg c32] at H; exact absurd H Zq8
                ·rw [if_neg c31] at H; exact absurd H Zq8
               ·rw [if_neg c30] at H; exact absurd H Zq8
              ·rw [if_neg c29] at H; exact absurd H Zq8
             ·rw [if_neg c28] at H; have c28b0 : decide (x53_4 < x49_3) = false := decide_eq_false c28; clear c28; have H' := Ak H; clear H
              go_wp2
              repeat (go_quiet (fail); try go_wp2)
              go_roundg k4
              case measure => have := HJ4.out; have := HK2.out; have := HK3.out; have := HK4.out; omega
              case rel => exact ⟨(wrap64 (x49_3 + 1)), Zq6, H', ⟨by have := HJ4.out; have := HK2.out; have := HK3.out; have := HK4.out; omega⟩, ⟨Zq22⟩, ⟨Zq15⟩⟩
          ·rw [if_neg c27] at H; have c27b0 : decide (x49_3 < (l0_1.length : Int)) = false := decide_eq_false c27; clear c27; have H' := Ak H; clear H; have hcz36_0 : wr.cell? ⟨gbad, 0, none⟩ = some (.string a0_0) := (blk_cell BKad.out 0).trans rfl; have hcz36_1 : wr.cell? ⟨gbad, 1, none⟩ = some (.slice A0_1 l0_1.length c0_1) := (blk_cell BKad.out 1).trans rfl; have hcz36_2 : wr.cell? ⟨gbad, 2, none⟩ = some (.slice A0_2 l0_2.length c0_2) := (blk_cell BKad.out 2).trans rfl; have hfz36_0 := blk_frozen BKad.out 0; have hfz36_1 := blk_frozen BKad.out 1; have hfz36_2 := blk_frozen BKad.out 2
           go_wp2
           repeat (go_quiet (fail); try go_wp2)
           go_loopg [74] k3 (fun kq v74 w' => ∃ (x74_4 : Int), v74 = .int .i64 x74_4 ∧ Aside0 (arboretref01_wrong.l3 kq a1 (l0_2.length : Int) x74_4 a0_0 l0_1 l0_2 = some r) ∧ Aside0 (kq ≤ k3) ∧ Aside0 (w'.heap[gbad]? = some (.cells #[.string a0_0, (.slice A0_1 l0_1.length c0_1), (.slice A0_2 l0_2.length c0_2)] 30 (0, 0))) ∧ Aside0 (Below w.heap.size w w'))
           case atStart => exact ⟨(0), Zq6, H', ⟨Nat.le_refl _⟩, ⟨Zq22⟩, ⟨Zq15⟩⟩
           case round =>
            clear H'
            try clear c1
            try clear c2
            try clear p2
            try clear c3
            try clear c3b0
            try clear p3
            try clear q3
            try clear hx3
            try clear c4
            try clear p6
            try clear c7
            try clear c7b0
            try clear c7b1
            try clear c8
            try clear c8b0
            try clear c8b1
            try clear c9
            try clear c9b0
            try clear c14
            try clear c14b0
            try clear c17
            try clear c19
            try clear c19b0
            try clear c20
            try clear c20b0
            try clear c21
            try clear c21b0
            try clear c23
            try clear c27
            try clear c27b0
            try clear c28
            try clear c28b0
            try clear c29
            try clear c29b0
            try clear c30
            try clear c30b0
            try clear c31
            try clear c31b0
            try clear c32
            try clear c32b0
            try clear c33
            try clear c33b0
            try clear c33b1
            try clear c35
            try clear p35
            try clear q35
            try clear hx35
            try clear c36
            try clear p36
            try clear q36
            try clear hx36
            try clear hcz11_0
            try clear hcz11_1
            try clear hcz11_2
            try clear hcz12_0
            try clear hcz12_1
            try clear hcz12_2
            try clear hcz13_0
            try clear hcz13_1
            try clear hcz13_2
            try clear hcz16_0
            try clear hcz16_1
            try clear hcz16_2
            try clear hcz18_0
            try clear hcz18_1
            try clear hcz18_2
            try clear hcz24_0
            try clear hcz24_1
            try clear hcz24_2
            try clear hcz25_0
            try clear hcz25_1
            try clear hcz25_2
            try clear hcz26_0
            try clear hcz26_1
            try clear hcz26_2
            try clear hcz34_0
            try clear hcz34_1
            try clear hcz34_2
            try clear hcz35_0
            try clear hcz35_1
            try clear hcz35_2
            try clear hcz36_0
            try clear hcz36_1
            try clear hcz36_2
            try clear hfz11_0
            try clear hfz11_1
            try clear hfz11_2
            try clear hfz12_0
            try clear hfz12_1
            try clear hfz12_2
            try clear hfz13_0
            try clear hfz13_1
            try clear hfz13_2
            try clear hfz16_0
            try clear hfz16_1
            try clear hfz16_2
            try clear hfz18_0
            try clear hfz18_1
            try clear hfz18_2
            try clear hfz24_0
            try clear hfz24_1
            try clear hfz24_2
            try clear hfz25_0
            try clear hfz25_1
            try clear hfz25_2
            try clear hfz26_0
            try clear hfz26_1
            try clear hfz26_2
            try clear hfz34_0
            try clear hfz34_1
            try clear hfz34_2
            try clear hfz35_0
            try clear hfz35_1
            try clear hfz35_2
            try clear hfz36_0
            try clear hfz36_1
            try clear hfz36_2
            try clear hx357_0
            try clear hx357_1
            try clear hx359_0
            try clear hx359_1
            try clear hx360_0
            try clear hx360_1
            try clear p2
            try clear p3
            try clear p357
            try clear p359
            try clear p360
            try clear p6
            try clear q3
            try clear q357
            try clear q359
            try clear q360
            obtain ⟨x74_4, rfl, HA, HK4, BKad, HB⟩ := hrel
            cases gk with
            | zero => exact absurd HA.out (by simp [arboretref01_wrong.l3])
            | succ k4 =>
             have H := HA.out; clear HA; simp only [arboretref01_wrong.l3] at H
             by_cases c37 : x74_4 < (l0_2.length : Int)
             ·rw [if_pos c37] at H; have c37b0 : decide (x74_4 < (l0_2.length : Int)) = true := decide_eq_true c37; clear c37; have H' := Ak H; clear H
              go_wp2
              repeat (go_quiet (fail); try go_wp2)
              go_loopg [78] k4 (fun kq v78 w' => ∃ (x78_5 : Int), v78 = .int .i64 x78_5 ∧ Aside0 (arboretref01_wrong.l4 kq a1 x74_4 (l0_2.length : Int) x74_4 x74_4 x78_5 a0_0 l0_1 l0_2 = some r) ∧ Aside0 (kq ≤ k4) ∧ Aside0 (w'.heap[gbad]? = some (.cells #[.string a0_0, (.slice A0_1 l0_1.length c0_1), (.slice A0_2 l0_2.length c0_2)] 30 (0, 0))) ∧ Aside0 (Below w.heap.size w w'))
              case atStart => exact ⟨(0), Zq6, H', ⟨Nat.le_refl _⟩, ⟨Zq22⟩, ⟨Zq15⟩⟩
              case round =>
               clear H'
               try clear c1
               try clear c2
               try clear p2
               try clear c3
               try clear c3b0
               try clear p3
               try clear q3
               try clear hx3
               try clear c4
               try clear p6
               try clear c7
               try clear c7b0
               try clear c7b1
               try clear c8
               try clear c8b0
               try clear c8b1
               try clear c9
               try clear c9b0
               try clear c14
               try clear c14b0
               try clear c17
               try clear c19
               try clear c19b0
               try clear c20
               try clear c20b0
               try clear c21
               try clear c21b0
               try clear c23
               try clear c27
               try clear c27b0
               try clear c28
               try clear c28b0
               try clear c29
               try clear c29b0
               try clear c30
               try clear c30b0
               try clear c31
               try clear c31b0
               try clear c32
               try clear c32b0
               try clear c33
               try clear c33b0
               try clear c33b1
               try clear c35
               try clear p35
               try clear q35
               try clear hx35
               try clear c36
               try clear p36
               try clear q36
               try clear hx36
               try clear c37
               try clear c37b0
               try clear hcz11_0
               try clear hcz11_1
               try clear hcz11_2
               try clear hcz12_0
               try clear hcz12_1
               try clear hcz12_2
               try clear hcz13_0
               try clear hcz13_1
               try clear hcz13_2
               try clear hcz16_0
               try clear hcz16_1
               try clear hcz16_2
               try clear hcz18_0
               try clear hcz18_1
               try clear hcz18_2
               try clear hcz24_0
               try clear hcz24_1
               try clear hcz24_2
               try clear hcz25_0
               try clear hcz25_1
               try clear hcz25_2
               try clear hcz26_0
               try clear hcz26_1
               try clear hcz26_2
               try clear hcz34_0
               try clear hcz34_1
               try clear hcz34_2
               try clear hcz35_0
               try clear hcz35_1
               try clear hcz35_2
               try clear hcz36_0
               try clear hcz36_1
               try clear hcz36_2
               try clear hfz11_0
               try clear hfz11_1
               try clear hfz11_2
               try clear hfz12_0
               try clear hfz12_1
               try clear hfz12_2
               try clear hfz13_0
               try clear hfz13_1
               try clear hfz13_2
               try clear hfz16_0
               try clear hfz16_1
               try clear hfz16_2
               try clear hfz18_0
               try clear hfz18_1
               try clear hfz18_2
               try clear hfz24_0
               try clear hfz24_1
               try clear hfz24_2
               try clear hfz25_0
               try clear hfz25_1
               try clear hfz25_2
               try clear hfz26_0
               try clear hfz26_1
               try clear hfz26_2
               try clear hfz34_0
               try clear hfz34_1
               try clear hfz34_2
               try clear hfz35_0
               try clear hfz35_1
               try clear hfz35_2
               try clear hfz36_0
               try clear hfz36_1
               try clear hfz36_2
               try clear hx357_0
               try clear hx357_1
               try clear hx359_0
               try clear hx359_1
               try clear hx360_0
               try clear hx360_1
               try clear p2
               try clear p3
               try clear p35
               try clear p357
               try clear p359
               try clear p36
               try clear p360
               try clear p6
               try clear q3
               try clear q35
               try clear q357
               try clear q359
               try clear q36
               try clear q360
               obtain ⟨x78_5, rfl, HA, HK5, BKad, HB⟩ := hrel
               cases gk with
               | zero => exact absurd HA.out (by simp [arboretref01_wrong.l4])
               | succ k5 =>
                have H := HA.out; clear HA; simp only [arboretref01_wrong.l4] at H
                by_cases c38 : x78_5 < x74_4
                ·rw [if_pos c38] at H; have c38b0 : decide (x78_5 < x74_4) = true := decide_eq_true c38; clear c38
                 by_cases c39 : 0 ≤ x78_5
                 ·rw [if_pos c39] at H; have c39b0 : decide (0 ≤ x78_5) = true := decide_eq_true c39; clear c39
                  by_cases c40 : x78_5 < (l0_2.length : Int)
                  ·rw [if_pos c40] at H; have c40b0 : decide (x78_5 < (l0_2.length : Int)) = true := decide_eq_true c40; clear c40
                   by_cases c41 : 0 ≤ x74_4
                   ·rw [if_pos c41] at H; have c41b0 : decide (0 ≤ x74_4) = true := decide_eq_true c41; clear c41
                    by_cases c42 : x74_4 < (l0_2.length : Int)
                    ·rw [if_pos c42] at H; have c42b0 : decide (x74_4 < (l0_2.length : Int)) = true := decide_eq_true c42; clear c42
                     by_cases c43 : ((rd_T30 l0_2 x78_5).f0).toList = ((rd_T30 l0_2 x74_4).f0).toList
                     ·rw [if_pos c43] at H; have c43b0 : (((rd_T30 l0_2 x78_5).f0).toList == ((rd_T30 l0_2 x74_4).f0).toList) = true := beq_iff_eq.mpr c43; have c43b1 : (((rd_T30 l0_2 x78_5).f0).toList != ((rd_T30 l0_2 x74_4).f0).toList) = false := bne_eq_false_iff_eq.mpr c43; clear c43; obtain rfl := Option.some.inj H; have hcz44_0 : wr.cell? ⟨gbad, 0, none⟩ = some (.string a0_0) := (blk_cell BKad.out 0).trans rfl; have hcz44_1 : wr.cell? ⟨gbad, 1, none⟩ = some (.slice A0_1 l0_1.length c0_1) := (blk_cell BKad.out 1).trans rfl; have hcz44_2 : wr.cell? ⟨gbad, 2, none⟩ = some (.slice A0_2 l0_2.length c0_2) := (blk_cell BKad.out 2).trans rfl; have hfz44_0 := blk_frozen BKad.out 0; have hfz44_1 := blk_frozen BKad.out 1; have hfz44_2 := blk_frozen BKad.out 2; have p361 : 0 ≤ (x78_5 : Int) := of_decide_eq_true Zq4; have q361 : x78_5 < (l0_2.length : Int) := of_decide_eq_true Zq4; obtain ⟨adbU, AbU_1, cbU_1, AbU_2, cbU_2, e361, hx361_0, hx361_1, hx361_2, hl361_1, hi361_1, hl361_2, hi361_2⟩ := at_T30 HR0_2.out x78_5 p361 q361
                      cases e361
                      replace hx361_0 := (HB.out.cell (World.block_lt_of_cell? w _ hx361_0)).trans hx361_0; replace hx361_1 := (HB.out.cell (World.block_lt_of_cell? w _ hx361_1)).trans hx361_1; replace hx361_2 := (HB.out.cell (World.block_lt_of_cell? w _ hx361_2)).trans hx361_2; have HRbU_1 := Ak hi361_1; have HCbU_1 := Ak hl361_1; clear hi361_1 hl361_1; have HRbU_2 := Ak hi361_2; have HCbU_2 := Ak hl361_2; clear hi361_2 hl361_2; replace p361 := eq_true p361; replace q361 := eq_true q361; have p362 : 0 ≤ (x74_4 : Int) := of_decide_eq_true Zq4; have q362 : x74_4 < (l0_2.length : Int) := of_decide_eq_true Zq4; obtain ⟨adbV, AbV_1, cbV_1, AbV_2, cbV_2, e362, hx362_0, hx362_1, hx362_2, hl362_1, hi362_1, hl362_2, hi362_2⟩ := at_T30 HR0_2.out x74_4 p362 q362
                      obtain rfl : adbU = adbV := (by injection e362)
                      replace hx362_0 := (HB.out.cell (World.block_lt_of_cell? w _ hx362_0)).trans hx362_0; replace hx362_1 := (HB.out.cell (World.block_lt_of_cell? w _ hx362_1)).trans hx362_1; replace hx362_2 := (HB.out.cell (World.block_lt_of_cell? w _ hx362_2)).trans hx362_2; have HRbV_1 := Ak hi362_1; have HCbV_1 := Ak hl362_1; clear hi362_1 hl362_1; have HRbV_2 := Ak hi362_2; have HCbV_2 := Ak hl362_2; clear hi362_2 hl362_2; replace p362 := eq_true p362; replace q362 := eq_true q362
                      go_wp2
                      repeat (go_quiet (fail); try go_wp2)
                      go_ret
                      exact ⟨Zq10, Zq15⟩
                     ·rw [if_neg c43] at H; have c43b0 : (((rd_T30 l0_2 x78_5).f0).toList == ((rd_T30 l0_2 x74_4).f0).toList) = false := beq_eq_false_iff_ne.mpr c43; have c43b1 : (((rd_T30 l0_2 x78_5).f0).toList != ((rd_T30 l0_2 x74_4).f0).toList) = true := bne_iff_ne.mpr c43; have H' := Ak H; clear H; have hcz45_0 : wr.cell? ⟨gbad, 0, none⟩ = some (.string a0_0) := (blk_cell BKad.out 0).trans rfl; have hcz45_1 : wr.cell? ⟨gbad, 1, none⟩ = some (.slice A0_1 l0_1.length c0_1) := (blk_cell BKad.out 1).trans rfl; have hcz45_2 : wr.cell? ⟨gbad, 2, none⟩ = some (.slice A0_2 l0_2.length c0_2) := (blk_cell BKad.out 2).trans rfl; have hfz45_0 := blk_frozen BKad.out 0; have hfz45_1 := blk_frozen BKad.out 1; have hfz45_2 := blk_frozen BKad.out 2; have p361 : 0 ≤ (x78_5 : Int) := of_decide_eq_true Zq4; have q361 : x78_5 < (l0_2.length : Int) := of_decide_eq_true Zq4; obtain ⟨adbU, AbU_1, cbU_1, AbU_2, cbU_2, e361, hx361_0, hx361_1, hx361_2, hl361_1, hi361_1, hl361_2, hi361_2⟩ := at_T30 HR0_2.out x78_5 p361 q361
                      cases e361
                      replace hx361_0 := (HB.out.cell (World.block_lt_of_cell? w _ hx361_0)).trans hx361_0; replace hx361_1 := (HB.out.cell (World.block_lt_of_cell? w _ hx361_1)).trans hx361_1; replace hx361_2 := (HB.out.cell (World.block_lt_of_cell? w _ hx361_2)).trans hx361_2; have HRbU_1 := Ak hi361_1; have HCbU_1 := Ak hl361_1; clear hi361_1 hl361_1; have HRbU_2 := Ak hi361_2; have HCbU_2 := Ak hl361_2; clear hi361_2 hl361_2; replace p361 := eq_true p361; replace q361 := eq_true q361; have p362 : 0 ≤ (x74_4 : Int) := of_decide_eq_true Zq4; have q362 : x74_4 < (l0_2.length : Int) := of_decide_eq_true Zq4; obtain ⟨adbV, AbV_1, cbV_1, AbV_2, cbV_2, e362, hx362_0, hx362_1, hx362_2, hl362_1, hi362_1, hl362_2, hi362_2⟩ := at_T30 HR0_2.out x74_4 p362 q362
                      obtain rfl : adbU = adbV := (by injection e362)
                      replace hx362_0 := (HB.out.cell (World.block_lt_of_cell? w _ hx362_0)).trans hx362_0; replace hx362_1 := (HB.out.cell (World.block_lt_of_cell? w _ hx362_1)).trans hx362_1; replace hx362_2 := (HB.out.cell (World.block_lt_of_cell? w _ hx362_2)).trans hx362_2; have HRbV_1 := Ak hi362_1; have HCbV_1 := Ak hl362_1; clear hi362_1 hl362_1; have HRbV_2 := Ak hi362_2; have HCbV_2 := Ak hl362_2; clear hi362_2 hl362_2; replace p362 := eq_true p362; replace q362 := eq_true q362
                      go_wp2
                      repeat (go_quiet (fail); try go_wp2)
                      go_roundg k5
                      case measure => have := HJ4.out; have := HK2.out; have := HK3.out; have := HK4.out; have := HK5.out; omega
                      case rel => exact ⟨(wrap64 (x78_5 + 1)), Zq6, H', ⟨Zq58⟩, ⟨Zq22⟩, ⟨Zq15⟩⟩
                    ·rw [if_neg c42] at H; exact absurd H Zq8
                   ·rw [if_neg c41] at H; exact absurd H Zq8
                  ·rw [if_neg c40] at H; exact absurd H Zq8
                 ·rw [if_neg c39] at H; exact absurd H Zq8
                ·rw [if_neg c38] at H; have c38b0 : decide (x78_5 < x74_4) = false := decide_eq_false c38; clear c38; have H' := Ak H; clear H
                 go_wp2
                 repeat (go_quiet (fail); try go_wp2)
                 go_roundg k5
                 case measure => have := HJ4.out; have := HK2.out; have := HK3.out; have := HK4.out; have := HK5.out; omega
                 case rel => exact ⟨(wrap64 (x74_4 + 1)), Zq6, H', ⟨Zq58⟩, ⟨Zq22⟩, ⟨Zq15⟩⟩
             ·rw [if_neg c37] at H; have c37b0 : decide (x74_4 < (l0_2.length : Int)) = false := decide_eq_false c37; clear c37; have H' := Ak H; clear H; have hcz46_0 : wr.cell? ⟨gbad, 0, none⟩ = some (.string a0_0) := (blk_cell BKad.out 0).trans rfl; have hcz46_1 : wr.cell? ⟨gbad, 1, none⟩ = some (.slice A0_1 l0_1.length c0_1) := (blk_cell BKad.out 1).trans rfl; have hcz46_2 : wr.cell? ⟨gbad, 2, none⟩ = some (.slice A0_2 l0_2.length c0_2) := (blk_cell BKad.out 2).trans rfl; have hfz46_0 := blk_frozen BKad.out 0; have hfz46_1 := blk_frozen BKad.out 1; have hfz46_2 := blk_frozen BKad.out 2
              go_wp2
              repeat (go_quiet (fail); try go_wp2)
              go_loopg [99] k4 (fun kq v99 w' => ∃ (x99_5 : Int), v99 = .int .i64 x99_5 ∧ Aside0 (arboretref01_wrong.l5 kq a1 (l0_2.length : Int) x99_5 a0_0 l0_1 l0_2 = some r) ∧ Aside0 (kq ≤ k4) ∧ Aside0 (w'.heap[gbad]? = some (.cells #[.string a0_0, (.slice A0_1 l0_1.length c0_1), (.slice A0_2 l0_2.length c0_2)] 30 (0, 0))) ∧ Aside0 (Below w.heap.size w w'))
              case atStart => exact ⟨(0), Zq6, H', ⟨Nat.le_refl _⟩, ⟨Zq22⟩, ⟨Zq15⟩⟩
              case round =>
               clear H'
               try clear c1
               try clear c2
               try clear p2
               try clear c3
               try clear c3b0
               try clear p3
               try clear q3
               try clear hx3
               try clear c4
               try clear p6
               try clear c7
               try clear c7b0
               try clear c7b1
               try clear c8
               try clear c8b0
               try clear c8b1
               try clear c9
               try clear c9b0
               try clear c14
               try clear c14b0
               try clear c17
               try clear c19
               try clear c19b0
               try clear c20
               try clear c20b0
               try clear c21
               try clear c21b0
               try clear c23
               try clear c27
               try clear c27b0
               try clear c28
               try clear c28b0
               try clear c29
               try clear c29b0
               try clear c30
               try clear c30b0
               try clear c31
               try clear c31b0
               try clear c32
               try clear c32b0
               try clear c33
               try clear c33b0
               try clear c33b1
               try clear c35
               try clear p35
               try clear q35
               try clear hx35
               try clear c36
               try clear p36
               try clear q36
               try clear hx36
               try clear c37
               try clear c37b0
               try clear c38
               try clear c38b0
               try clear c39
               try clear c39b0
               try clear c40
               try clear c40b0
               try clear c41
               try clear c41b0
               try clear c42
               try clear c42b0
               try clear c43
               try clear c43b0
               try clear c43b1
               try clear hcz11_0
               try clear hcz11_1
               try clear hcz11_2
               try clear hcz12_0
               try clear hcz12_1
               try clear hcz12_2
               try clear hcz13_0
               try clear hcz13_1
               try clear hcz13_2
               try clear hcz16_0
               try clear hcz16_1
               try clear hcz16_2
               try clear hcz18_0
               try clear hcz18_1
               try clear hcz18_2
               try clear hcz24_0
               try clear hcz24_1
               try clear hcz24_2
               try clear hcz25_0
               try clear hcz25_1
               try clear hcz25_2
               try clear hcz26_0
               try clear hcz26_1
               try clear hcz26_2
               try clear hcz34_0
               try clear hcz34_1
               try clear hcz34_2
               try clear hcz35_0
               try clear hcz35_1
               try clear hcz35_2
               try clear hcz36_0
               try clear hcz36_1
               try clear hcz36_2
               try clear hcz44_0
               try clear hcz44_1
               try clear hcz44_2
               try clear hcz45_0
               try clear hcz45_1
               try clear hcz45_2
               try clear hcz46_0
               try clear hcz46_1
               try clear hcz46_2
               try clear hfz11_0
               try clear hfz11_1
               try clear hfz11_2
               try clear hfz12_0
               try clear hfz12_1
               try clear hfz12_2
               try clear hfz13_0
               try clear hfz13_1
               try clear hfz13_2
               try clear hfz16_0
               try clear hfz16_1
               try clear hfz16_2
               try clear hfz18_0
               try clear hfz18_1
               try clear hfz18_2
               try clear hfz24_0
               try clear hfz24_1
               try clear hfz24_2
               try clear hfz25_0
               try clear hfz25_1
               try clear hfz25_2
               try clear hfz26_0
               try clear hfz26_1
               try clear hfz26_2
               try clear hfz34_0
               try clear hfz34_1
               try clear hfz34_2
               try clear hfz35_0
               try clear hfz35_1
               try clear hfz35_2
               try clear hfz36_0
               try clear hfz36_1
               try clear hfz36_2
               try clear hfz44_0
               try clear hfz44_1
               try clear hfz44_2
               try clear hfz45_0
               try clear hfz45_1
               try clear hfz45_2
               try clear hfz46_0
               try clear hfz46_1
               try clear hfz46_2
               try clear hx357_0
               try clear hx357_1
               try clear hx359_0
               try clear hx359_1
               try clear hx360_0
               try clear hx360_1
               try clear hx361_0
               try clear hx361_1
               try clear hx361_2
               try clear hx362_0
               try clear hx362_1
               try clear hx362_2
               try clear p2
               try clear p3
               try clear p35
               try clear p357
               try clear p359
               try clear p36
               try clear p360
               try clear p361
               try clear p362
               try clear p6
               try clear q3
               try clear q35
               try clear q357
               try clear q359
               try clear q36
               try clear q360
               try clear q361
               try clear q362
               obtain ⟨x99_5, rfl, HA, HK5, BKad, HB⟩ := hrel
               cases gk with
               | zero => exact absurd HA.out (by simp [arboretref01_wrong.l5])
               | succ k5 =>
                have H := HA.out; clear HA; simp only [arboretref01_wrong.l5] at H
                by_cases c47 : x99_5 < (l0_2.length : Int)
                ·rw [if_pos c47] at H; have c47b0 : decide (x99_5 < (l0_2.length : Int)) = true := decide_eq_true c47; clear c47
                 by_cases c48 : 0 ≤ x99_5
                 ·rw [if_pos c48] at H; have c48b0 : decide (0 ≤ x99_5) = true := decide_eq_true c48; clear c48
                  by_cases c49 : x99_5 < (l0_2.length : Int)
                  ·rw [if_pos c49] at H; have c49b0 : decide (x99_5 < (l0_2.length : Int)) = true := decide_eq_true c49; clear c49; replace H := Option.bind_eq_some_iff.mp H; obtain ⟨tcj, AfM, H⟩ := H; replace H : (if tcj = 0 then (arboretref01_wrong.l5 k5 a1 (l0_2.length : Int) (wrap64 (x99_5 + 1)) a0_0 l0_1 l0_2) else (some tcj)) = some r := H; have A50 := Ak AfM; clear AfM
                   by_cases c51 : tcj = 0
                   ·rw [if_pos c51] at H; have c51b0 : (tcj == 0) = true := beq_iff_eq.mpr c51; have c51b1 : (tcj != 0) = false := bne_eq_false_iff_eq.mpr c51; clear c51; have H' := Ak H; clear H; have hcz52_0 : wr.cell? ⟨gbad, 0, none⟩ = some (.string a0_0) := (blk_cell BKad.out 0).trans rfl; have hcz52_1 : wr.cell? ⟨gbad, 1, none⟩ = some (.slice A0_1 l0_1.length c0_1) := (blk_cell BKad.out 1).trans rfl; have hcz52_2 : wr.cell? ⟨gbad, 2, none⟩ = some (.slice A0_2 l0_2.length c0_2) := (blk_cell BKad.out 2).trans rfl; have hfz52_0 := blk_frozen BKad.out 0; have hfz52_1 := blk_frozen BKad.out 1; have hfz52_2 := blk_frozen BKad.out 2; have p363 : 0 ≤ (x99_5 : Int) := of_decide_eq_true Zq4; have q363 : x99_5 < (l0_2.length : Int) := of_decide_eq_true Zq4; obtain ⟨adbt, Abt_1, cbt_1, Abt_2, cbt_2, e363, hx363_0, hx363_1, hx363_2, hl363_1, hi363_1, hl363_2, hi363_2⟩ := at_T30 HR0_2.out x99_5 p363 q363
                    cases e363
                    replace hx363_0 := (HB.out.cell (World.block_lt_of_cell? w _ hx363_0)).trans hx363_0; replace hx363_1 := (HB.out.cell (World.block_lt_of_cell? w _ hx363_1)).trans hx363_1; replace hx363_2 := (HB.out.cell (World.block_lt_of_cell? w _ hx363_2)).trans hx363_2; have HRbt_1 := Ak hi363_1; have HCbt_1 := Ak hl363_1; clear hi363_1 hl363_1; have HRbt_2 := Ak hi363_2; have HCbt_2 := Ak hl363_2; clear hi363_2 hl363_2; replace p363 := eq_true p363; replace q363 := eq_true q363
                    go_wp2_with (first | (go_at_call 47; (with_reducible refine (ih k5 Zq58 ((rd_T30 l0_2 x99_5).f0) _ _ ((rd_T30 l0_2 x99_5).f1) _ _ ((rd_T30 l0_2 x99_5).f2) (wrap64 (a1 + 1)) tcj _ ?side1 ?side2 ?side3 ?side4 A50.out).mono ?_); (case side1 => repeat (first | exact Zq209 | (with_reducible refine Kd.C_alloc ?_ _) | (with_reducible refine Kd.C_drewN ?_ _) | (with_reducible refine Kd.C_drew ?_))); (case side2 => exact HCbt_1.out); (case side3 => repeat (first | exact Zq210 | (with_reducible refine Kd.C_alloc ?_ _) | (with_reducible refine Kd.C_drewN ?_ _) | (with_reducible refine Kd.C_drew ?_))); (case side4 => exact HCbt_2.out); rintro e w53 ⟨rfl, hb⟩; have n0_ := Zq138; have n1_ := Zq216; clear BKad HB; have BKad := n0_; have HB := n1_; clear n0_ n1_; (try clear hb); (try clear hb2); (try clear hk); (try clear hi)))
                    repeat (go_quiet (first | (go_at_call 47; (with_reducible refine (ih k5 Zq58 ((rd_T30 l0_2 x99_5).f0) _ _ ((rd_T30 l0_2 x99_5).f1) _ _ ((rd_T30 l0_2 x99_5).f2) (wrap64 (a1 + 1)) tcj _ ?side1 ?side2 ?side3 ?side4 A50.out).mono ?_); (case side1 => repeat (first | exact Zq209 | (with_reducible refine Kd.C_alloc ?_ _) | (with_reducible refine Kd.C_drewN ?_ _) | (with_reducible refine Kd.C_drew ?_))); (case side2 => exact HCbt_1.out); (case side3 => repeat (first | exact Zq210 | (with_reducible refine Kd.C_alloc ?_ _) | (with_reducible refine Kd.C_drewN ?_ _) | (with_reducible refine Kd.C_drew ?_))); (case side4 => exact HCbt_2.out); rintro e w53 ⟨rfl, hb⟩; have n0_ := Zq138; have n1_ := Zq216; clear BKad HB; have BKad := n0_; have HB := n1_; clear n0_ n1_; (try clear hb); (try clear hb2); (try clear hk); (try clear hi))); try go_wp2_with (first | (go_at_call 47; (with_reducible refine (ih k5 Zq58 ((rd_T30 l0_2 x99_5).f0) _ _ ((rd_T30 l0_2 x99_5).f1) _ _ ((rd_T30 l0_2 x99_5).f2) (wrap64 (a1 + 1)) tcj _ ?side1 ?side2 ?side3 ?side4 A50.out).mono ?_); (case side1 => repeat (first | exact Zq209 | (with_reducible refine Kd.C_alloc ?_ _) | (with_reducible refine Kd.C_drewN ?_ _) | (with_reducible refine Kd.C_drew ?_))); (case side2 => exact HCbt_1.out); (case side3 => repeat (first | exact Zq210 | (with_reducible refine Kd.C_alloc ?_ _) | (with_reducible refine Kd.C_drewN ?_ _) | (with_reducible refine Kd.C_drew ?_))); (case side4 => exact HCbt_2.out); rintro e w53 ⟨rfl, hb⟩; have n0_ := Zq138; have n1_ := Zq216; clear BKad HB; have BKad := n0_; have HB := n1_; clear n0_ n1_; (try clear hb); (try clear hb2); (try clear hk); (try clear hi))))
                    go_roundg k5
                    case measure => have := HJ4.out; have := HK2.out; have := HK3.out; have := HK4.out; have := HK5.out; omega
                    case rel => exact ⟨(wrap64 (x99_5 + 1)), Zq6, H', ⟨Zq58⟩, ⟨Zq22⟩, ⟨Zq15⟩⟩
                   ·rw [if_neg c51] at H; have c51b0 : (tcj == 0) = false := beq_eq_false_iff_ne.mpr c51; have c51b1 : (tcj != 0) = true := bne_iff_ne.mpr c51; obtain rfl := Option.some.inj H; have hcz54_0 : wr.cell? ⟨gbad, 0, none⟩ = some (.string a0_0) := (blk_cell BKad.out 0).trans rfl; have hcz54_1 : wr.cell? ⟨gbad, 1, none⟩ = some (.slice A0_1 l0_1.length c0_1) := (blk_cell BKad.out 1).trans rfl; have hcz54_2 : wr.cell? ⟨gbad, 2, none⟩ = some (.slice A0_2 l0_2.length c0_2) := (blk_cell BKad.out 2).trans rfl; have hfz54_0 := blk_frozen BKad.out 0; have hfz54_1 := blk_frozen BKad.out 1; have hfz54_2 := blk_frozen BKad.out 2; have p363 : 0 ≤ (x99_5 : Int) := of_decide_eq_true Zq4; have q363 : x99_5 < (l0_2.length : Int) := of_decide_eq_true Zq4; obtain ⟨adbt, Abt_1, cbt_1, Abt_2, cbt_2, e363, hx363_0, hx363_1, hx363_2, hl363_1, hi363_1, hl363_2, hi363_2⟩ := at_T30 HR0_2.out x99_5 p363 q363
                    cases e363
                    replace hx363_0 := (HB.out.cell (World.block_lt_of_cell? w _ hx363_0)).trans hx363_0; replace hx363_1 := (HB.out.cell (World.block_lt_of_cell? w _ hx363_1)).trans hx363_1; replace hx363_2 := (HB.out.cell (World.block_lt_of_cell? w _ hx363_2)).trans hx363_2; have HRbt_1 := Ak hi363_1; have HCbt_1 := Ak hl363_1; clear hi363_1 hl363_1; have HRbt_2 := Ak hi363_2; have HCbt_2 := Ak hl363_2; clear hi363_2 hl363_2; replace p363 := eq_true p363; replace q363 := eq_true q363
                    go_wp2_with (first | (go_at_call 47; (with_reducible refine (ih k5 Zq58 ((rd_T30 l0_2 x99_5).f0) _ _ ((rd_T30 l0_2 x99_5).f1) _ _ ((rd_T30 l0_2 x99_5).f2) (wrap64 (a1 + 1)) tcj _ ?side1 ?side2 ?side3 ?side4 A50.out).mono ?_); (case side1 => repeat (first | exact Zq209 | (with_reducible refine Kd.C_alloc ?_ _) | (with_reducible refine Kd.C_drewN ?_ _) | (with_reducible refine Kd.C_drew ?_))); (case side2 => exact HCbt_1.out); (case side3 => repeat (first | exact Zq210 | (with_reducible refine Kd.C_alloc ?_ _) | (with_reducible refine Kd.C_drewN ?_ _) | (with_reducible refine Kd.C_drew ?_))); (case side4 => exact HCbt_2.out); rintro e w55 ⟨rfl, hb⟩; have n0_ := Zq138; have n1_ := Zq216; clear BKad HB; have BKad := n0_; have HB := n1_; clear n0_ n1_; (try clear hb); (try clear hb2); (try clear hk); (try clear hi)))
                    repeat (go_quiet (first | (go_at_call 47; (with_reducible refine (ih k5 Zq58 ((rd_T30 l0_2 x99_5).f0) _ _ ((rd_T30 l0_2 x99_5).f1) _ _ ((rd_T30 l0_2 x99_5).f2) (wrap64 (a1 + 1)) tcj _ ?side1 ?side2 ?side3 ?side4 A50.out).mono ?_); (case side1 => repeat (first | exact Zq209 | (with_reducible refine Kd.C_alloc ?_ _) | (with_reducible refine Kd.C_drewN ?_ _) | (with_reducible refine Kd.C_drew ?_))); (case side2 => exact HCbt_1.out); (case side3 => repeat (first | exact Zq210 | (with_reducible refine Kd.C_alloc ?_ _) | (with_reducible refine Kd.C_drewN ?_ _) | (with_reducible refine Kd.C_drew ?_))); (case side4 => exact HCbt_2.out); rintro e w55 ⟨rfl, hb⟩; have n0_ := Zq138; have n1_ := Zq216; clear BKad HB; have BKad := n0_; have HB := n1_; clear n0_ n1_; (try clear hb); (try clear hb2); (try clear hk); (try clear hi))); try go_wp2_with (first | (go_at_call 47; (with_reducible refine (ih k5 Zq58 ((rd_T30 l0_2 x99_5).f0) _ _ ((rd_T30 l0_2 x99_5).f1) _ _ ((rd_T30 l0_2 x99_5).f2) (wrap64 (a1 + 1)) tcj _ ?side1 ?side2 ?side3 ?side4 A50.out).mono ?_); (case side1 => repeat (first | exact Zq209 | (with_reducible refine Kd.C_alloc ?_ _) | (with_reducible refine Kd.C_drewN ?_ _) | (with_reducible refine Kd.C_drew ?_))); (case side2 => exact HCbt_1.out); (case side3 => repeat (first | exact Zq210 | (with_reducible refine Kd.C_alloc ?_ _) | (with_reducible refine Kd.C_drewN ?_ _) | (with_reducible refine Kd.C_drew ?_))); (case side4 => exact HCbt_2.out); rintro e w55 ⟨rfl, hb⟩; have n0_ := Zq138; have n1_ := Zq216; clear BKad HB; have BKad := n0_; have HB := n1_; clear n0_ n1_; (try clear hb); (try clear hb2); (try clear hk); (try clear hi))))
                    go_ret
                    exact ⟨Zq10, Zq15⟩
                  ·rw [if_neg c49] at H; exact absurd H Zq8
                 ·rw [if_neg c48] at H; exact absurd H Zq8
                ·rw [if_neg c47] at H; have c47b0 : decide (x99_5 < (l0_2.length : Int)) = false := decide_eq_false c47; clear c47; obtain rfl := Option.some.inj H
                 go_wp2
                 repeat (go_quiet (fail); try go_wp2)
                 go_ret
                 exact ⟨Zq10, Zq15⟩
end Go.Proofs.Yteejaaeglfpcmab.PX

namespace Go.Proofs.Yteejaaeglfpcmab.PX
open Go.RowKit Go.Proofs.YteejaaeglfpcmabW.PrintWords Go.Proofs.YteejaaeglfpcmabW.PrintLast Go.Proofs.YteejaaeglfpcmabW.PrintMore
attribute [local go_sem] max2_int min2_int max_two min_two max_three min_three max_four min_four
mutual
def arboretref01_Check.j0 : Nat → Bool → Int → List (S94) → ByteArray → List (S77) → List (S30) → Option (Int)
 | 0, _, _, _, _, _, _ => none
 | k + 1, x30, xeS, xdL, xeT, xeU, xeV => if x30 = true then (some 7) else (arboretref01_Check.l0 k (xdL.length : Int) 0 xeS xdL xeT xeU xeV)
def arboretref01_Check.l0 : Nat → Int → Int → Int → List (S94) → ByteArray → List (S77) → List (S30) → Option (Int)
 | 0, _, _, _, _, _, _, _ => none
 | k + 1, x33, x34, xeS, xdL, xeT, xeU, xeV => if x34 < x33 then (if 0 ≤ x34 then (if x34 < (xdL.length : Int) then (if ((rd_T94 xdL x34).f0) = 0 then (if ((rd_T94 xdL x34).f1) = 0 then (some 7) else (arboretref01_Check.l0 k x33 (wrap64 (x34 + 1)) xeS xdL xeT xeU xeV)) else (arboretref01_Check.l0 k x33 (wrap64 (x34 + 1)) xeS xdL xeT xeU xeV)) else (none)) else (none)) else (some 0)
end
def arboretref01_Check.f (k : Nat) (a0_0 : Int) (l0_1 : List (S94)) (a0_2 : ByteArray) (l0_3 : List (S77)) (l0_4 : List (S30)) : Option (Int) := (arboretref01_wrong.f k a0_2 l0_3 l0_4 1).bind fun tcq => (if tcq = 0 then ((arboretref01_Count.f k a0_2 l0_3 l0_4).bind fun btcu => (if btcu.1 > 4096 then (arboretref01_Check.j0 k true a0_0 l0_1 a0_2 l0_3 l0_4) else (if btcu.2 > 8192 then (arboretref01_Check.j0 k true a0_0 l0_1 a0_2 l0_3 l0_4) else (arboretref01_Check.j0 k (decide ((l0_1.length : Int) > 64)) a0_0 l0_1 a0_2 l0_3 l0_4)))) else (some tcq))
set_option maxHeartbeats 8000000 in
set_option maxRecDepth 100000 in
theorem arboretref01_Check.calls (k : Nat) (a0_0 : Int) (A0_1 : Option Addr) (c0_1 : Nat) (l0_1 : List (S94)) (a0_2 : ByteArray) (A0_3 : Option Addr) (c0_3 : Nat) (l0_3 : List (S77)) (A0_4 : Option Addr) (c0_4 : Nat) (l0_4 : List (S30)) (r : Int) (w : World) (hr0_1 : Kd.C k94 w A0_1 l0_1.length l0_1) (hc0_1 : l0_1.length ≤ c0_1) (hr0_3 : Kd.C k77 w A0_3 l0_3.length l0_3) (hc0_3 : l0_3.length ≤ c0_3) (hr0_4 : Kd.C k30 w A0_4 l0_4.length l0_4) (hc0_4 : l0_4.length ≤ c0_4) (h : arboretref01_Check.f k a0_0 l0_1 a0_2 l0_3 l0_4 = some r) :
  Calls Try.prog 19 #[.agg #[.int .u32 a0_0, .slice A0_1 l0_1.length c0_1, .string a0_2, .slice A0_3 l0_3.length c0_3, .slice A0_4 l0_4.length c0_4]] w fun e w' => e = .returned (.int .i64 r) ∧ Below w.heap.size w w' := by
 have hu35 := Try.underlying35; have hu30 := Try.underlying30; have HR0_1 := Ak hr0_1; have HC0_1 := Ak hc0_1; clear hr0_1 hc0_1; have HR0_3 := Ak hr0_3; have HC0_3 := Ak hc0_3; clear hr0_3 hc0_3; have HR0_4 := Ak hr0_4; have HC0_4 := Ak hc0_4; clear hr0_4 hc0_4; have HB := Zq129; have H : ((arboretref01_wrong.f k a0_2 l0_3 l0_4 1).bind fun tcq => (if tcq = 0 then ((arboretref01_Count.f k a0_2 l0_3 l0_4).bind fun btcu => (if btcu.1 > 4096 then (arboretref01_Check.j0 k true a0_0 l0_1 a0_2 l0_3 l0_4) else (if btcu.2 > 8192 then (arboretref01_Check.j0 k true a0_0 l0_1 a0_2 l0_3 l0_4) else (arboretref01_Check.j0 k (decide ((l0_1.length : Int) > 64)) a0_0 l0_1 a0_2 l0_3 l0_4)))) else (some tcq))) = some r := h; clear h; replace H := Option.bind_eq_some_iff.mp H; obtain ⟨tcq, A20, H⟩ := H; replace H : (if tcq = 0 then ((arboretref01_Count.f k a0_2 l0_3 l0_4).bind fun btcu => (if btcu.1 > 4096 then (arboretref01_Check.j0 k true a0_0 l0_1 a0_2 l0_3 l0_4) else (if btcu.2 > 8192 then (arboretref01_Check.j0 k true a0_0 l0_1 a0_2 l0_3 l0_4) else (arboretref01_Check.j0 k (decide ((l0_1.length : Int) > 64)) a0_0 l0_1 a0_2 l0_3 l0_4)))) else (some tcq)) = some r := H; have A2 := Ak A20; clear A20
 by_cases c3 : tcq = 0
 ·rw [if_pos c3] at H; have c3b0 : (tcq == 0) = true := beq_iff_eq.mpr c3; have c3b1 : (tcq != 0) = false := bne_eq_false_iff_eq.mpr c3; clear c3; replace H := Option.bind_eq_some_iff.mp H; obtain ⟨⟨tcu, teE⟩, A40, H⟩ := H; replace H : (if tcu > 4096 then (arboretref01_Check.j0 k true a0_0 l0_1 a0_2 l0_3 l0_4) else (if teE > 8192 then (arboretref01_Check.j0 k true a0_0 l0_1 a0_2 l0_3 l0_4) else (arboretref01_Check.j0 k (decide ((l0_1.length : Int) > 64)) a0_0 l0_1 a0_2 l0_3 l0_4))) = some r := H; have A4 := Ak A40; clear A40; have HC5 := Ak H; clear H
  go_enter Try.func19, Try.ntmps19
  go_upto_region 5 with (first | ((with_reducible refine gate_dst (N := 1) rfl ?_); (try (refine gate_guard Zq3 ?_; dsimp only)); refine box_event ?hg (N := 1) ?hd (cs := #[.int .u32 a0_0, .slice A0_1 l0_1.length c0_1, .string a0_2, .slice A0_3 l0_3.length c0_3, .slice A0_4 l0_4.length c0_4]) (t := 35) ?hr ?_; (case hd | hg => rfl); (case hr => first | (go_simp; done) | (go_simp; rfl)); intro gbal hg w6 hbox hb; have n0_ := Zq122; have n1_ := Ak (hbox); have n2_ := Zq199; have n3_ := Zq199; clear HB; have HB := n0_; have BKal := n1_; have GWal := n2_; have GEal := n3_; clear n0_ n1_ n2_ n3_ hb hbox hg; have hcz7_0 : w6.cell? ⟨gbal, 0, none⟩ = some (.int .u32 a0_0) := (blk_cell BKal.out 0).trans rfl; have hcz7_1 : w6.cell? ⟨gbal, 1, none⟩ = some (.slice A0_1 l0_1.length c0_1) := (blk_cell BKal.out 1).trans rfl; have hcz7_2 : w6.cell? ⟨gbal, 2, none⟩ = some (.string a0_2) := (blk_cell BKal.out 2).trans rfl; have hcz7_3 : w6.cell? ⟨gbal, 3, none⟩ = some (.slice A0_3 l0_3.length c0_3) := (blk_cell BKal.out 3).trans rfl; have hcz7_4 : w6.cell? ⟨gbal, 4, none⟩ = some (.slice A0_4 l0_4.length c0_4) := (blk_cell BKal.out 4).trans rfl; have hfz7_0 := blk_frozen BKal.out 0; have hfz7_1 := blk_frozen BKal.out 1; have hfz7_2 := blk_frozen BKal.out 2; have hfz7_3 := blk_frozen BKal.out 3; have hfz7_4 := blk_frozen BKal.out 4) | ((with_reducible refine gate_callee (f := 47) rfl ?_); refine goesL_ (some 9) rfl rfl Try.func47 Zq2 rfl #[.agg #[.string a0_2, .slice A0_3 l0_3.length c0_3, .slice A0_4 l0_4.length c0_4], .int .i64 1] rfl Zq9 ?_; (with_reducible refine (arboretref01_wrong.calls k a0_2 _ _ l0_3 _ _ l0_4 1 tcq _ ?side1 ?side2 ?side3 ?side4 A2.out).mono ?_); (case side1 => repeat (first | exact Zq157 | (with_reducible refine Kd.C_alloc ?_ _) | (with_reducible refine Kd.C_drewN ?_ _) | (with_reducible refine Kd.C_drew ?_))); (case side2 => exact HC0_3.out); (case side3 => repeat (first | exact Zq158 | (with_reducible refine Kd.C_alloc ?_ _) | (with_reducible refine Kd.C_drewN ?_ _) | (with_reducible refine Kd.C_drew ?_))); (case side4 => exact HC0_4.out); rintro e w8 ⟨rfl, hb⟩; refine ⟨_, rfl, ?_⟩; have n0_ := Zq171; have n1_ := Ak (below_step Zq43 hb); clear BKal HB; have BKal := n0_; have HB := n1_; clear n0_ n1_; (try clear hb); (try clear hb2); (try clear hk); (try clear hi); have hcz9_0 : w8.cell? ⟨gbal, 0, none⟩ = some (.int .u32 a0_0) := (blk_cell BKal.out 0).trans rfl; have hcz9_1 : w8.cell? ⟨gbal, 1, none⟩ = some (.slice A0_1 l0_1.length c0_1) := (blk_cell BKal.out 1).trans rfl; have hcz9_2 : w8.cell? ⟨gbal, 2, none⟩ = some (.string a0_2) := (blk_cell BKal.out 2).trans rfl; have hcz9_3 : w8.cell? ⟨gbal, 3, none⟩ = some (.slice A0_3 l0_3.length c0_3) := (blk_cell BKal.out 3).trans rfl; have hcz9_4 : w8.cell? ⟨gbal, 4, none⟩ = some (.slice A0_4 l0_4.length c0_4) := (blk_cell BKal.out 4).trans rfl; have hfz9_0 := blk_frozen BKal.out 0; have hfz9_1 := blk_frozen BKal.out 1; have hfz9_2 := blk_frozen BKal.out 2; have hfz9_3 := blk_frozen BKal.out 3; have hfz9_4 := blk_frozen BKal.out 4) | ((with_reducible refine gate_callee (f := 30) rfl ?_); refine goesL_ (some 16) rfl rfl Try.func30 Zq2 rfl #[.agg #[.string a0_2, .slice A0_3 l0_3.length c0_3, .slice A0_4 l0_4.length c0_4]] rfl Zq9 ?_; (with_reducible refine (arboretref01_Count.calls k a0_2 _ _ l0_3 _ _ l0_4 tcu teE _ ?side1 ?side2 ?side3 ?side4 A4.out).mono ?_); (case side1 => repeat (first | exact Zq157 | (with_reducible refine Kd.C_alloc ?_ _) | (with_reducible refine Kd.C_drewN ?_ _) | (with_reducible refine Kd.C_drew ?_))); (case side2 => exact HC0_3.out); (case side3 => repeat (first | exact Zq158 | (with_reducible refine Kd.C_alloc ?_ _) | (with_reducible refine Kd.C_drewN ?_ _) | (with_reducible refine Kd.C_drew ?_))); (case side4 => exact HC0_4.out); rintro e w10 ⟨rfl, hb⟩; refine ⟨_, rfl, ?_⟩; have n0_ := Zq171; have n1_ := Ak (below_step Zq43 hb); clear BKal HB; have BKal := n0_; have HB := n1_; clear n0_ n1_; (try clear hb); (try clear hb2); (try clear hk); (try clear hi)))
  (try simp only [Act.put, List.setIfInBounds_toArray, List.set_cons_zero, List.set_cons_succ])
  go_cut [30] (fun v30 wc => ∃ (kq : Nat) (x30_4 : Bool), v30 = .bool x30_4 ∧ Aside0 (arboretref01_Check.j0 kq x30_4 a0_0 l0_1 a0_2 l0_3 l0_4 = some r) ∧ Aside0 (kq ≤ k) ∧ Aside0 (wc.heap[gbal]? = some (.cells #[.int .u32 a0_0, (.slice A0_1 l0_1.length c0_1), .string a0_2, (.slice A0_3 l0_3.length c0_3), (.slice A0_4 l0_4.length c0_4)] 35 (0, 0))) ∧ Aside0 (Below w.heap.size w wc))
  case first =>
   have H := HC5.out; clear HC5
   by_cases c11 : tcu > 4096
   ·rw [if_pos c11] at H; have c11b0 : decide (4096 < tcu) = true := decide_eq_true c11; clear c11
    (first | rw [c11b0] | (simp only [i64_w, i32_w]; rw [c11b0]) | skip)
    have H' := Ak H; clear H
    go_wp2
    go_meet
    case rel => exact ⟨_, (true), Zq6, H', ⟨Zq13⟩, ⟨Zq59⟩, ⟨Zq43⟩⟩
   ·rw [if_neg c11] at H; have c11b0 : decide (4096 < tcu) = false := decide_eq_false c11; clear c11
    (first | rw [c11b0] | (simp only [i64_w, i32_w]; rw [c11b0]) | skip)
    by_cases c12 : teE > 8192
    ·rw [if_pos c12] at H; have c12b0 : decide (8192 < teE) = true := decide_eq_true c12; clear c12; have H' := Ak H; clear H
     go_wp2
     go_meet
     case rel => exact ⟨_, (true), Zq6, H', ⟨Zq13⟩, ⟨Zq59⟩, ⟨Zq43⟩⟩
    ·rw [if_neg c12] at H; have c12b0 : decide (8192 < teE) = false := decide_eq_false c12; clear c12; have H' := Ak H; clear H; have hcz13_0 : w10.cell? ⟨gbal, 0, none⟩ = some (.int .u32 a0_0) := (blk_cell BKal.out 0).trans rfl; have hcz13_1 : w10.cell? ⟨gbal, 1, none⟩ = some (.slice A0_1 l0_1.length c0_1) := (blk_cell BKal.out 1).trans rfl; have hcz13_2 : w10.cell? ⟨gbal, 2, none⟩ = some (.string a0_2) := (blk_cell BKal.out 2).trans rfl; have hcz13_3 : w10.cell? ⟨gbal, 3, none⟩ = some (.slice A0_3 l0_3.length c0_3) := (blk_cell BKal.out 3).trans rfl; have hcz13_4 : w10.cell? ⟨gbal, 4, none⟩ = some (.slice A0_4 l0_4.length c0_4) := (blk_cell BKal.out 4).trans rfl; have hfz13_0 := blk_frozen BKal.out 0; have hfz13_1 := blk_frozen BKal.out 1; have hfz13_2 := blk_frozen BKal.out 2; have hfz13_3 := blk_frozen BKal.out 3; have hfz13_4 := blk_frozen BKal.out 4
     go_wp2
     go_meet
     case rel => exact ⟨_, (decide ((l0_1.length : Int) > 64)), Zq6, H', ⟨Zq13⟩, ⟨Zq59⟩, ⟨Zq43⟩⟩
  case rest =>
   clear HC5
   try clear c1
   try clear p2
   try clear c3
   try clear c3b0
   try clear c3b1
   try clear c4
   try clear c11
   try clear c11b0
   try clear c12
   try clear c12b0
   try clear hcz13_0
   try clear hcz13_1
   try clear hcz13_2
   try clear hcz13_3
   try clear hcz13_4
   try clear hcz7_0
   try clear hcz7_1
   try clear hcz7_2
   try clear hcz7_3
   try clear hcz7_4
   try clear hcz9_0
   try clear hcz9_1
   try clear hcz9_2
   try clear hcz9_3
   try clear hcz9_4
   try clear hfz13_0
   try clear hfz13_1
   try clear hfz13_2
   try clear hfz13_3
   try clear hfz13_4
   try clear hfz7_0
   try clear hfz7_1
   try clear hfz7_2
   try clear hfz7_3
   try clear hfz7_4
   try clear hfz9_0
   try clear hfz9_1
   try clear hfz9_2
   try clear hfz9_3
   try clear hfz9_4
   obtain ⟨kq, x30_4, rfl, HA, HJ4, BKal, HB⟩ := hcut
   cases kq with
   | zero => exact absurd HA.out (by simp [arboretref01_Check.j0])
   | succ kj4 =>
    have H := HA.out; clear HA; simp only [arboretref01_Check.j0] at H
    by_cases c14 : x30_4 = true
    ·subst c14
     have H1 : (some 7) = some r := by rw [if_pos rfl] at H; exact H
     clear H; have H := H1; clear H1; obtain rfl := Option.some.inj H
     go_wp2
     go_ret
     exact ⟨Zq10, Zq43⟩
    ·replace c14 := Bool.eq_false_iff.mpr c14; subst c14
     have H1 : (arboretref01_Check.l0 kj4 (l0_1.length : Int) 0 a0_0 l0_1 a0_2 l0_3 l0_4) = some r := by rw [if_neg (show ¬ (false = true) by decide)] at H; exact H
     clear H; have H := H1; clear H1; have H' := Ak H; clear H; have hcz15_0 : wc.cell? ⟨gbal, 0, none⟩ = some (.int .u32 a0_0) := (blk_cell BKal.out 0).trans rfl; have hcz15_1 : wc.cell? ⟨gbal, 1, none⟩ = some (.slice A0_1 l0_1.length c0_1) := (blk_cell BKal.out 1).trans rfl; have hcz15_2 : wc.cell? ⟨gbal, 2, none⟩ = some (.string a0_2) := (blk_cell BKal.out 2).trans rfl; have hcz15_3 : wc.cell? ⟨gbal, 3, none⟩ = some (.slice A0_3 l0_3.length c0_3) := (blk_cell BKal.out 3).trans rfl; have hcz15_4 : wc.cell? ⟨gbal, 4, none⟩ = some (.slice A0_4 l0_4.length c0_4) := (blk_cell BKal.out 4).trans rfl; have hfz15_0 := blk_frozen BKal.out 0; have hfz15_1 := blk_frozen BKal.out 1; have hfz15_2 := blk_frozen BKal.out 2; have hfz15_3 := blk_frozen BKal.out 3; have hfz15_4 := blk_frozen BKal.out 4
     go_wp2
     go_loopg [34] kj4 (fun kq v34 w' => ∃ (x34_2 : Int), v34 = .int .i64 x34_2 ∧ Aside0 (arboretref01_Check.l0 kq (l0_1.length : Int) x34_2 a0_0 l0_1 a0_2 l0_3 l0_4 = some r) ∧ Aside0 (kq ≤ kj4) ∧ Aside0 (w'.heap[gbal]? = some (.cells #[.int .u32 a0_0, (.slice A0_1 l0_1.length c0_1), .string a0_2, (.slice A0_3 l0_3.length c0_3), (.slice A0_4 l0_4.length c0_4)] 35 (0, 0))) ∧ Aside0 (Below w.heap.size w w'))
     case atStart => exact ⟨(0), Zq6, H', ⟨Nat.le_refl _⟩, ⟨Zq59⟩, ⟨Zq43⟩⟩
     case round =>
      clear H'
      try clear c1
      try clear p2
      try clear c3
      try clear c3b0
      try clear c3b1
      try clear c4
      try clear c11
      try clear c11b0
      try clear c12
      try clear c12b0
      try clear c14
      try clear hcz13_0
      try clear hcz13_1
      try clear hcz13_2
      try clear hcz13_3
      try clear hcz13_4
      try clear hcz15_0
      try clear hcz15_1
      try clear hcz15_2
      try clear hcz15_3
      try clear hcz15_4
      try clear hcz7_0
      try clear hcz7_1
      try clear hcz7_2
      try clear hcz7_3
      try clear hcz7_4
      try clear hcz9_0
      try clear hcz9_1
      try clear hcz9_2
      try clear hcz9_3
      try clear hcz9_4
      try clear hfz13_0
      try clear hfz13_1
      try clear hfz13_2
      try clear hfz13_3
      try clear hfz13_4
      try clear hfz15_0
      try clear hfz15_1
      try clear hfz15_2
      try clear hfz15_3
      try clear hfz15_4
      try clear hfz7_0
      try clear hfz7_1
      try clear hfz7_2
      try clear hfz7_3
      try clear hfz7_4
      try clear hfz9_0
      try clear hfz9_1
      try clear hfz9_2
      try clear hfz9_3
      try clear hfz9_4
      try clear p2
      obtain ⟨x34_2, rfl, HA, HK2, BKal, HB⟩ := hrel
      cases gk with
      | zero => exact absurd HA.out (by simp [arboretref01_Check.l0])
      | succ k2 =>
       have H := HA.out; clear HA; simp only [arboretref01_Check.l0] at H
       by_cases c16 : x34_2 < (l0_1.length : Int)
       ·rw [if_pos c16] at H; have c16b0 : decide (x34_2 < (l0_1.length : Int)) = true := decide_eq_true c16; clear c16
        by_cases c17 : 0 ≤ x34_2
        ·rw [if_pos c17] at H; have c17b0 : decide (0 ≤ x34_2) = true := decide_eq_true c17; clear c17
         by_cases c18 : x34_2 < (l0_1.length : Int)
         ·rw [if_pos c18] at H; have c18b0 : decide (x34_2 < (l0_1.length : Int)) = true := decide_eq_true c18; clear c18
          by_cases c19 : ((rd_T94 l0_1 x34_2).f0) = 0
          ·rw [if_pos c19] at H; have c19b0 : (((rd_T94 l0_1 x34_2).f0) == 0) = true := beq_iff_eq.mpr c19; have c19b1 : (((rd_T94 l0_1 x34_2).f0) != 0) = false := bne_eq_false_iff_eq.mpr c19; clear c19
           by_cases c20 : ((rd_T94 l0_1 x34_2).f1) = 0
           ·rw [if_pos c20] at H; have c20b0 : (((rd_T94 l0_1 x34_2).f1) == 0) = true := beq_iff_eq.mpr c20; have c20b1 : (((rd_T94 l0_1 x34_2).f1) != 0) = false := bne_eq_false_iff_eq.mpr c20; clear c20; obtain rfl := Option.some.inj H; have hcz21_0 : wr.cell? ⟨gbal, 0, none⟩ = some (.int .u32 a0_0) := (blk_cell BKal.out 0).trans rfl; have hcz21_1 : wr.cell? ⟨gbal, 1, none⟩ = some (.slice A0_1 l0_1.length c0_1) := (blk_cell BKal.out 1).trans rfl; have hcz21_2 : wr.cell? ⟨gbal, 2, none⟩ = some (.string a0_2) := (blk_cell BKal.out 2).trans rfl; have hcz21_3 : wr.cell? ⟨gbal, 3, none⟩ = some (.slice A0_3 l0_3.length c0_3) := (blk_cell BKal.out 3).trans rfl; have hcz21_4 : wr.cell? ⟨gbal, 4, none⟩ = some (.slice A0_4 l0_4.length c0_4) := (blk_cell BKal.out 4).trans rfl; have hfz21_0 := blk_frozen BKal.out 0; have hfz21_1 := blk_frozen BKal.out 1; have hfz21_2 := blk_frozen BKal.out 2; have hfz21_3 := blk_frozen BKal.out 3; have hfz21_4 := blk_frozen BKal.out 4; have p369 : 0 ≤ (x34_2 : Int) := of_decide_eq_true Zq4; have q369 : x34_2 < (l0_1.length : Int) := of_decide_eq_true Zq4; obtain ⟨adeW, e369, hx369_0, hx369_1⟩ := at_T94 HR0_1.out x34_2 p369 q369
            cases e369
            replace hx369_0 := (HB.out.cell (World.block_lt_of_cell? w _ hx369_0)).trans hx369_0; replace hx369_1 := (HB.out.cell (World.block_lt_of_cell? w _ hx369_1)).trans hx369_1; replace p369 := eq_true p369; replace q369 := eq_true q369; have p370 : 0 ≤ (x34_2 : Int) := of_decide_eq_true Zq4; have q370 : x34_2 < (l0_1.length : Int) := of_decide_eq_true Zq4; obtain ⟨adeo, e370, hx370_0, hx370_1⟩ := at_T94 HR0_1.out x34_2 p370 q370
            obtain rfl : adeW = adeo := (by injection e370)
            replace hx370_0 := (HB.out.cell (World.block_lt_of_cell? w _ hx370_0)).trans hx370_0; replace hx370_1 := (HB.out.cell (World.block_lt_of_cell? w _ hx370_1)).trans hx370_1; replace p370 := eq_true p370; replace q370 := eq_true q370
            go_wp2
            go_ret
            exact ⟨Zq10, Zq43⟩
           ·rw [if_neg c20] at H; have c20b0 : (((rd_T94 l0_1 x34_2).f1) == 0) = false := beq_eq_false_iff_ne.mpr c20; have c20b1 : (((rd_T94 l0_1 x34_2).f1) != 0) = true := bne_iff_ne.mpr c20; have H' := Ak H; clear H; have hcz22_0 : wr.cell? ⟨gbal, 0, none⟩ = some (.int .u32 a0_0) := (blk_cell BKal.out 0).trans rfl; have hcz22_1 : wr.cell? ⟨gbal, 1, none⟩ = some (.slice A0_1 l0_1.length c0_1) := (blk_cell BKal.out 1).trans rfl; have hcz22_2 : wr.cell? ⟨gbal, 2, none⟩ = some (.string a0_2) := (blk_cell BKal.out 2).trans rfl; have hcz22_3 : wr.cell? ⟨gbal, 3, none⟩ = some (.slice A0_3 l0_3.length c0_3) := (blk_cell BKal.out 3).trans rfl; have hcz22_4 : wr.cell? ⟨gbal, 4, none⟩ = some (.slice A0_4 l0_4.length c0_4) := (blk_cell BKal.out 4).trans rfl; have hfz22_0 := blk_frozen BKal.out 0; have hfz22_1 := blk_frozen BKal.out 1; have hfz22_2 := blk_frozen BKal.out 2; have hfz22_3 := blk_frozen BKal.out 3; have hfz22_4 := blk_frozen BKal.out 4; have p369 : 0 ≤ (x34_2 : Int) := of_decide_eq_true Zq4; have q369 : x34_2 < (l0_1.length : Int) := of_decide_eq_true Zq4; obtain ⟨adeW, e369, hx369_0, hx369_1⟩ := at_T94 HR0_1.out x34_2 p369 q369
            cases e369
            replace hx369_0 := (HB.out.cell (World.block_lt_of_cell? w _ hx369_0)).trans hx369_0; replace hx369_1 := (HB.out.cell (World.block_lt_of_cell? w _ hx369_1)).trans hx369_1; replace p369 := eq_true p369; replace q369 := eq_true q369; have p370 : 0 ≤ (x34_2 : Int) := of_decide_eq_true Zq4; have q370 : x34_2 < (l0_1.length : Int) := of_decide_eq_true Zq4; obtain ⟨adeo, e370, hx370_0, hx370_1⟩ := at_T94 HR0_1.out x34_2 p370 q370
            obtain rfl : adeW = adeo := (by injection e370)
            replace hx370_0 := (HB.out.cell (World.block_lt_of_cell? w _ hx370_0)).trans hx370_0; replace hx370_1 := (HB.out.cell (World.block_lt_of_cell? w _ hx370_1)).trans hx370_1; replace p370 := eq_true p370; replace q370 := eq_true q370
            go_wp2
            go_roundg k2
            case measure => have := HJ4.out; have := HK2.out; omega
            case rel => exact ⟨(wrap64 (x34_2 + 1)), Zq6, H', ⟨by have := HJ4.out; have := HK2.out; omega⟩, ⟨Zq59⟩, ⟨Zq43⟩⟩
          ·rw [if_neg c19] at H; have c19b0 : (((rd_T94 l0_1 x34_2).f0) == 0) = false := beq_eq_false_iff_ne.mpr c19; have c19b1 : (((rd_T94 l0_1 x34_2).f0) != 0) = true := bne_iff_ne.mpr c19; have H' := Ak H; clear H; have hcz23_0 : wr.cell? ⟨gbal, 0, none⟩ = some (.int .u32 a0_0) := (blk_cell BKal.out 0).trans rfl; have hcz23_1 : wr.cell? ⟨gbal, 1, none⟩ = some (.slice A0_1 l0_1.length c0_1) := (blk_cell BKal.out 1).trans rfl; have hcz23_2 : wr.cell? ⟨gbal, 2, none⟩ = some (.string a0_2) := (blk_cell BKal.out 2).trans rfl; have hcz23_3 : wr.cell? ⟨gbal, 3, none⟩ = some (.slice A0_3 l0_3.length c0_3) := (blk_cell BKal.out 3).trans rfl; have hcz23_4 : wr.cell? ⟨gbal, 4, none⟩ = some (.slice A0_4 l0_4.length c0_4) := (blk_cell BKal.out 4).trans rfl; have hfz23_0 := blk_frozen BKal.out 0; have hfz23_1 := blk_frozen BKal.out 1; have hfz23_2 := blk_frozen BKal.out 2; have hfz23_3 := blk_frozen BKal.out 3; have hfz23_4 := blk_frozen BKal.out 4; have p369 : 0 ≤ (x34_2 : Int) := of_decide_eq_true Zq4; have q369 : x34_2 < (l0_1.length : Int) := of_decide_eq_true Zq4; obtain ⟨adeW, e369, hx369_0, hx369_1⟩ := at_T94 HR0_1.out x34_2 p369 q369
           cases e369
           replace hx369_0 := (HB.out.cell (World.block_lt_of_cell? w _ hx369_0)).trans hx369_0; replace hx369_1 := (HB.out.cell (World.block_lt_of_cell? w _ hx369_1)).trans hx369_1; replace p369 := eq_true p369; replace q369 := eq_true q369
           go_wp2
           go_roundg k2
           case measure => have := HJ4.out; have := HK2.out; omega
           case rel => exact ⟨(wrap64 (x34_2 + 1)), Zq6, H', ⟨by have := HJ4.out; have := HK2.out; omega⟩, ⟨Zq59⟩, ⟨Zq43⟩⟩
         ·rw [if_neg c18] at H; exact absurd H Zq8
        ·rw [if_neg c17] at H; exact absurd H Zq8
       ·rw [if_neg c16] at H; have c16b0 : decide (x34_2 < (l0_1.length : Int)) = false := decide_eq_false c16; clear c16; obtain rfl := Option.some.inj H
        go_wp2
        go_ret
        exact ⟨Zq10, Zq43⟩
 ·rw [if_neg c3] at H; have c3b0 : (tcq == 0) = false := beq_eq_false_iff_ne.mpr c3; have c3b1 : (tcq != 0) = true := bne_iff_ne.mpr c3; obtain rfl := Option.some.inj H
  go_enter Try.func19, Try.ntmps19
  go_wp2_with (first | ((with_reducible refine gate_dst (N := 1) rfl ?_); (try (refine gate_guard Zq3 ?_; dsimp only)); refine box_event ?hg (N := 1) ?hd (cs := #[.int .u32 a0_0, .slice A0_1 l0_1.length c0_1, .string a0_2, .slice A0_3 l0_3.length c0_3, .slice A0_4 l0_4.length c0_4]) (t := 35) ?hr ?_; (case hd | hg => rfl); (case hr => first | (go_simp; done) | (go_simp; rfl)); intro gbal hg w24 hbox hb; have n0_ := Zq122; have n1_ := Ak (hbox); have n2_ := Zq199; have n3_ := Zq199; clear HB; have HB := n0_; have BKal := n1_; have GWal := n2_; have GEal := n3_; clear n0_ n1_ n2_ n3_ hb hbox hg; have hcz25_0 : w24.cell? ⟨gbal, 0, none⟩ = some (.int .u32 a0_0) := (blk_cell BKal.out 0).trans rfl; have hcz25_1 : w24.cell? ⟨gbal, 1, none⟩ = some (.slice A0_1 l0_1.length c0_1) := (blk_cell BKal.out 1).trans rfl; have hcz25_2 : w24.cell? ⟨gbal, 2, none⟩ = some (.string a0_2) := (blk_cell BKal.out 2).trans rfl; have hcz25_3 : w24.cell? ⟨gbal, 3, none⟩ = some (.slice A0_3 l0_3.length c0_3) := (blk_cell BKal.out 3).trans rfl; have hcz25_4 : w24.cell? ⟨gbal, 4, none⟩ = some (.slice A0_4 l0_4.length c0_4) := (blk_cell BKal.out 4).trans rfl; have hfz25_0 := blk_frozen BKal.out 0; have hfz25_1 := blk_frozen BKal.out 1; have hfz25_2 := blk_frozen BKal.out 2; have hfz25_3 := blk_frozen BKal.out 3; have hfz25_4 := blk_frozen BKal.out 4) | ((with_reducible refine gate_callee (f := 47) rfl ?_); refine goesL_ (some 9) rfl rfl Try.func47 Zq2 rfl #[.agg #[.string a0_2, .slice A0_3 l0_3.length c0_3, .slice A0_4 l0_4.length c0_4], .int .i64 1] rfl Zq9 ?_; (with_reducible refine (arboretref01_wrong.calls k a0_2 _ _ l0_3 _ _ l0_4 1 tcq _ ?side1 ?side2 ?side3 ?side4 A2.out).mono ?_); (case side1 => repeat (first | exact Zq157 | (with_reducible refine Kd.C_alloc ?_ _) | (with_reducible refine Kd.C_drewN ?_ _) | (with_reducible refine Kd.C_drew ?_))); (case side2 => exact HC0_3.out); (case side3 => repeat (first | exact Zq158 | (with_reducible refine Kd.C_alloc ?_ _) | (with_reducible refine Kd.C_drewN ?_ _) | (with_reducible refine Kd.C_drew ?_))); (case side4 => exact HC0_4.out); rintro e w26 ⟨rfl, hb⟩; refine ⟨_, rfl, ?_⟩; have n0_ := Zq171; have n1_ := Ak (below_step Zq43 hb); clear BKal HB; have BKal := n0_; have HB := n1_; clear n0_ n1_; (try clear hb); (try clear hb2); (try clear hk); (try clear hi)))
  go_ret
  exact ⟨Zq10, Zq43⟩
def arboretref01_Find.l0 : Nat → ByteArray → Int → Int → ByteArray → List (S77) → List (S30) → Option (Int)
 | 0, _, _, _, _, _, _ => none
 | k + 1, x1, x8, x9, xgf, xfl, xgg => if x9 < x8 then (if 0 ≤ x9 then (if x9 < (xfl.length : Int) then (if ((rd_T77 xfl x9).f0).toList = x1.toList then (some x9) else (arboretref01_Find.l0 k x1 x8 (wrap64 (x9 + 1)) xgf xfl xgg)) else (none)) else (none)) else (some (-1))
def arboretref01_Find.f (k : Nat) (a0_0 : ByteArray) (l0_1 : List (S77)) (l0_2 : List (S30)) (a1 : ByteArray) : Option (Int) := arboretref01_Find.l0 k a1 (l0_1.length : Int) 0 a0_0 l0_1 l0_2
set_option maxHeartbeats 8000000 in
set_option maxRecDepth 100000 in
theorem arboretref01_Find.calls (k : Nat) (a0_0 : ByteArray) (A0_1 : Option Addr) (c0_1 : Nat) (l0_1 : List (S77)) (A0_2 : Option Addr) (c0_2 : Nat) (l0_2 : List (S30)) (a1 : ByteArray) (r : Int) (w : World) (hr0_1 : Kd.C k77 w A0_1 l0_1.length l0_1) (hc0_1 : l0_1.length ≤ c0_1) (hr0_2 : Kd.C k30 w A0_2 l0_2.length l0_2) (hc0_2 : l0_2.length ≤ c0_2) (h : arboretref01_Find.f k a0_0 l0_1 l0_2 a1 = some r) :
  Calls Try.prog 32 #[.agg #[.string a0_0, .slice A0_1 l0_1.length c0_1, .slice A0_2 l0_2.length c0_2], .string a1] w fun e w' => e = .returned (.int .i64 r) ∧ Below w.heap.size w w' := by
 have hu30 := Try.underlying30; have HR0_1 := Ak hr0_1; have HC0_1 := Ak hc0_1; clear hr0_1 hc0_1; have HR0_2 := Ak hr0_2; have HC0_2 := Ak hc0_2; clear hr0_2 hc0_2; have HB := Zq129; have H : (arboretref01_Find.l0 k a1 (l0_1.length : Int) 0 a0_0 l0_1 l0_2) = some r := h; clear h; have H' := Ak H; clear H
 go_enter Try.func32, Try.ntmps32
 go_wp2_with (first | ((with_reducible refine gate_dst (N := 2) rfl ?_); refine box_event ?hg (N := 2) ?hd (cs := #[.string a0_0, .slice A0_1 l0_1.length c0_1, .slice A0_2 l0_2.length c0_2]) (t := 30) ?hr ?_; (case hd | hg => rfl); (case hr => first | (go_simp; done) | (go_simp; rfl)); intro gbbo hg w3 hbox hb; have n0_ := Zq122; have n1_ := Ak (hbox); have n2_ := Ak ((by rw [hg]; exact (below_size Zq5) : w.heap.size ≤ gbbo)); have n3_ := Ak ((by rw [hg]; exact (below_size Zq5) : w.heap.size ≤ gbbo)); clear HB; have HB := n0_; have BKbo := n1_; have GWbo := n2_; have GEbo := n3_; clear n0_ n1_ n2_ n3_ hb hbox hg; have hcz4_0 : w3.cell? ⟨gbbo, 0, none⟩ = some (.string a0_0) := (blk_cell BKbo.out 0).trans rfl; have hcz4_1 : w3.cell? ⟨gbbo, 1, none⟩ = some (.slice A0_1 l0_1.length c0_1) := (blk_cell BKbo.out 1).trans rfl; have hcz4_2 : w3.cell? ⟨gbbo, 2, none⟩ = some (.slice A0_2 l0_2.length c0_2) := (blk_cell BKbo.out 2).trans rfl; have hfz4_0 := blk_frozen BKbo.out 0; have hfz4_1 := blk_frozen BKbo.out 1; have hfz4_2 := blk_frozen BKbo.out 2))
 go_loopg [9] k (fun kq v9 w' => ∃ (x9_1 : Int), v9 = .int .i64 x9_1 ∧ Aside0 (arboretref01_Find.l0 kq a1 (l0_1.length : Int) x9_1 a0_0 l0_1 l0_2 = some r) ∧ Aside0 (kq ≤ k) ∧ Aside0 (w'.heap[gbbo]? = some (.cells #[.string a0_0, (.slice A0_1 l0_1.length c0_1), (.slice A0_2 l0_2.length c0_2)] 30 (0, 0))) ∧ Aside0 (Below w.heap.size w w'))
 case atStart => exact ⟨(0), Zq6, H', ⟨Nat.le_refl _⟩, ⟨by (with_reducible repeat (first | refine blk_drewN ?_ _ | refine blk_drew ?_ | refine blk_alloc ?_ _)); exact BKbo.out⟩, ⟨Zq112⟩⟩
 case round =>
  clear H'
  try clear p2
  try clear c3
  try clear hcz4_0
  try clear hcz4_1
  try clear hcz4_2
  try clear hfz4_0
  try clear hfz4_1
  try clear hfz4_2
  obtain ⟨x9_1, rfl, HA, HK1, BKbo, HB⟩ := hrel
  cases gk with
  | zero => exact absurd HA.out (by simp [arboretref01_Find.l0])
  | succ k1 =>
   have H := HA.out; clear HA; simp only [arboretref01_Find.l0] at H
   by_cases c5 : x9_1 < (l0_1.length : Int)
   ·rw [if_pos c5] at H; have c5b0 : decide (x9_1 < (l0_1.length : Int)) = true := decide_eq_true c5; clear c5
    by_cases c6 : 0 ≤ x9_1
    ·rw [if_pos c6] at H; have c6b0 : decide (0 ≤ x9_1) = true := decide_eq_true c6; clear c6
     by_cases c7 : x9_1 < (l0_1.length : Int)
     ·rw [if_pos c7] at H; have c7b0 : decide (x9_1 < (l0_1.length : Int)) = true := decide_eq_true c7; clear c7
      by_cases c8 : ((rd_T77 l0_1 x9_1).f0).toList = a1.toList
      ·rw [if_pos c8] at H; have c8b0 : (((rd_T77 l0_1 x9_1).f0).toList == a1.toList) = true := beq_iff_eq.mpr c8; have c8b1 : (((rd_T77 l0_1 x9_1).f0).toList != a1.toList) = false := bne_eq_false_iff_eq.mpr c8; clear c8; obtain rfl := Option.some.inj H; have hcz9_0 : wr.cell? ⟨gbbo, 0, none⟩ = some (.string a0_0) := (blk_cell BKbo.out 0).trans rfl; have hcz9_1 : wr.cell? ⟨gbbo, 1, none⟩ = some (.slice A0_1 l0_1.length c0_1) := (blk_cell BKbo.out 1).trans rfl; have hcz9_2 : wr.cell? ⟨gbbo, 2, none⟩ = some (.slice A0_2 l0_2.length c0_2) := (blk_cell BKbo.out 2).trans rfl; have hfz9_0 := blk_frozen BKbo.out 0; have hfz9_1 := blk_frozen BKbo.out 1; have hfz9_2 := blk_frozen BKbo.out 2; have p282 : 0 ≤ (x9_1 : Int) := of_decide_eq_true Zq4; have q282 : x9_1 < (l0_1.length : Int) := of_decide_eq_true Zq4; obtain ⟨addw, Adw_1, cdw_1, e282, hx282_0, hx282_1, hl282_1, hi282_1⟩ := at_T77 HR0_1.out x9_1 p282 q282
       cases e282
       replace hx282_0 := (HB.out.cell (World.block_lt_of_cell? w _ hx282_0)).trans hx282_0; replace hx282_1 := (HB.out.cell (World.block_lt_of_cell? w _ hx282_1)).trans hx282_1; have HRdw_1 := Ak hi282_1; have HCdw_1 := Ak hl282_1; clear hi282_1 hl282_1; replace p282 := eq_true p282; replace q282 := eq_true q282
       go_wp2
       go_ret
       exact ⟨Zq10, Zq112⟩
      ·rw [if_neg c8] at H; have c8b0 : (((rd_T77 l0_1 x9_1).f0).toList == a1.toList) = false := beq_eq_false_iff_ne.mpr c8; have c8b1 : (((rd_T77 l0_1 x9_1).f0).toList != a1.toList) = true := bne_iff_ne.mpr c8; have H' := Ak H; clear H; have hcz10_0 : wr.cell? ⟨gbbo, 0, none⟩ = some (.string a0_0) := (blk_cell BKbo.out 0).trans rfl; have hcz10_1 : wr.cell? ⟨gbbo, 1, none⟩ = some (.slice A0_1 l0_1.length c0_1) := (blk_cell BKbo.out 1).trans rfl; have hcz10_2 : wr.cell? ⟨gbbo, 2, none⟩ = some (.slice A0_2 l0_2.length c0_2) := (blk_cell BKbo.out 2).trans rfl; have hfz10_0 := blk_frozen BKbo.out 0; have hfz10_1 := blk_frozen BKbo.out 1; have hfz10_2 := blk_frozen BKbo.out 2; have p282 : 0 ≤ (x9_1 : Int) := of_decide_eq_true Zq4; have q282 : x9_1 < (l0_1.length : Int) := of_decide_eq_true Zq4; obtain ⟨addw, Adw_1, cdw_1, e282, hx282_0, hx282_1, hl282_1, hi282_1⟩ := at_T77 HR0_1.out x9_1 p282 q282
       cases e282
       replace hx282_0 := (HB.out.cell (World.block_lt_of_cell? w _ hx282_0)).trans hx282_0; replace hx282_1 := (HB.out.cell (World.block_lt_of_cell? w _ hx282_1)).trans hx282_1; have HRdw_1 := Ak hi282_1; have HCdw_1 := Ak hl282_1; clear hi282_1 hl282_1; replace p282 := eq_true p282; replace q282 := eq_true q282
       go_wp2
       go_roundg k1
       case measure => have := HK1.out; omega
       case rel => exact ⟨(wrap64 (x9_1 + 1)), Zq6, H', ⟨Zq26⟩, ⟨by (with_reducible repeat (first | refine blk_drewN ?_ _ | refine blk_drew ?_ | refine blk_alloc ?_ _)); exact BKbo.out⟩, ⟨Zq112⟩⟩
     ·rw [if_neg c7] at H; exact absurd H Zq8
    ·rw [if_neg c6] at H; exact absurd H Zq8
   ·rw [if_neg c5] at H; have c5b0 : decide (x9_1 < (l0_1.length : Int)) = false := decide_eq_false c5; clear c5; obtain rfl := Option.some.inj H
    go_wp2
    go_ret
    exact ⟨Zq10, Zq112⟩
mutual
def arboretref01_Number.j0 : Nat → List Int → Int → Int → Bool → Option (Int × Bool)
 | 0, _, _, _, _ => none
 | k + 1, x0, x1, x2, x25 => if x25 = true then (some (0, false)) else (arboretref01_Number.l0 k x0 x1 0 x2 0)
def arboretref01_Number.l0 : Nat → List Int → Int → Int → Int → Int → Option (Int × Bool)
 | 0, _, _, _, _, _ => none
 | k + 1, x0, x1, x8, x26, x27 => if x27 < x26 then (if 0 ≤ (wrap64 (x1 + x27)) then (if (wrap64 (x1 + x27)) < (x0.length : Int) then (arboretref01_Number.l0 k x0 x1 (IntKind.u64.wrap ((IntKind.u64.wrap (x8 * 256)) + (IntKind.u64.wrap (rd x0 (wrap64 (x1 + x27)))))) x26 (wrap64 (x27 + 1))) else (none)) else (none)) else (some (x8, true))
end
def arboretref01_Number.f (k : Nat) (l0 : List Int) (a1 : Int) (a2 : Int) : Option (Int × Bool) := if a1 < 0 then (arboretref01_Number.j0 k l0 a1 a2 true) else (if a1 > (l0.length : Int) then (arboretref01_Number.j0 k l0 a1 a2 true) else (arboretref01_Number.j0 k l0 a1 a2 (decide ((wrap64 ((l0.length : Int) - a1)) < a2))))
set_option maxHeartbeats 8000000 in
set_option maxRecDepth 100000 in
theorem arboretref01_Number.calls (k : Nat) (A0 : Option Addr) (c0 : Nat) (l0 : List Int) (a1 : Int) (a2 : Int) (r1 : Int) (r2 : Bool) (w : World) (hr0 : Kd.C (Kd.int .u8) w A0 l0.length l0) (hc0 : l0.length ≤ c0) (h : arboretref01_Number.f k l0 a1 a2 = some (r1, r2)) :
  Calls Try.prog 73 #[.slice A0 l0.length c0, .int .i64 a1, .int .i64 a2] w fun e w' => e = .returned (.tuple #[.int .u64 r1, .bool r2]) ∧ Drawn0 w w' := by
 have HR0 := Ak hr0; have HC0 := Ak hc0; clear hr0 hc0; have H : (if a1 < 0 then (arboretref01_Number.j0 k l0 a1 a2 true) else (if a1 > (l0.length : Int) then (arboretref01_Number.j0 k l0 a1 a2 true) else (arboretref01_Number.j0 k l0 a1 a2 (decide ((wrap64 ((l0.length : Int) - a1)) < a2))))) = some (r1, r2) := h; clear h; have HC4 := Ak H; clear H
 go_enter Try.func73, Try.ntmps73
 go_upto_region 1 with (fail)
 go_cut [25] (fun v25 wc => ∃ (kq : Nat) (x25_3 : Bool), v25 = .bool x25_3 ∧ Aside0 (arboretref01_Number.j0 kq l0 a1 a2 x25_3 = some (r1, r2)) ∧ Aside0 (kq ≤ k) ∧ Drawn0 w wc)
 case first =>
  have H := HC4.out; clear HC4
  by_cases c5 : a1 < 0
  ·rw [if_pos c5] at H; have c5b0 : decide (a1 < 0) = true := decide_eq_true c5; clear c5
   (first | rw [c5b0] | (simp only [i64_w, i32_w]; rw [c5b0]) | skip)
   have H' := Ak H; clear H
   go_wp2
   go_meet
   case rel => exact ⟨_, (true), Zq6, H', ⟨Zq13⟩, Zq11⟩
  ·rw [if_neg c5] at H; have c5b0 : decide (a1 < 0) = false := decide_eq_false c5; clear c5
   (first | rw [c5b0] | (simp only [i64_w, i32_w]; rw [c5b0]) | skip)
   by_cases c6 : a1 > (l0.length : Int)
   ·rw [if_pos c6] at H; have c6b0 : decide ((l0.length : Int) < a1) = true := decide_eq_true c6; clear c6; have H' := Ak H; clear H
    go_wp2
    go_meet
    case rel => exact ⟨_, (true), Zq6, H', ⟨Zq13⟩, Zq11⟩
   ·rw [if_neg c6] at H; have c6b0 : decide ((l0.length : Int) < a1) = false := decide_eq_false c6; clear c6; have H' := Ak H; clear H
    go_wp2
    go_meet
    case rel => exact ⟨_, (decide ((wrap64 ((l0.length : Int) - a1)) < a2)), Zq6, H', ⟨Zq13⟩, Zq11⟩
 case rest =>
  clear HC4
  try clear p2
  try clear c5
  try clear c5b0
  try clear c6
  try clear c6b0
  try clear p6
  obtain ⟨kq, x25_3, rfl, HA, HJ3, ⟨mc3, rfl⟩⟩ := hcut
  cases kq with
  | zero => exact absurd HA.out (by simp [arboretref01_Number.j0])
  | succ kj3 =>
   have H := HA.out; clear HA; simp only [arboretref01_Number.j0] at H
   by_cases c7 : x25_3 = true
   ·subst c7
    have H1 : (some (0, false)) = some (r1, r2) := by rw [if_pos rfl] at H; exact H
    clear H; have H := H1; clear H1; simp only [Option.some.injEq, Prod.mk.injEq] at H; obtain ⟨rfl, rfl⟩ := H
    go_wp2
    go_ret2
    exact ⟨Zq6, Zq11⟩
   ·replace c7 := Bool.eq_false_iff.mpr c7; subst c7
    have H1 : (arboretref01_Number.l0 kj3 l0 a1 0 a2 0) = some (r1, r2) := by rw [if_neg (show ¬ (false = true) by decide)] at H; exact H
    clear H; have H := H1; clear H1; have H' := Ak H; clear H
    go_wp2
    go_loopg [8, 27] kj3 (fun kq v8 v27 w' => ∃ (x8_2 : Int) (x27_2 : Int), v8 = .int .u64 x8_2 ∧ v27 = .int .i64 x27_2 ∧ Aside0 (arboretref01_Number.l0 kq l0 a1 x8_2 a2 x27_2 = some (r1, r2)) ∧ Aside0 (kq ≤ kj3) ∧ Drawn0 w w')
    case atStart => exact ⟨(0), (0), Zq6, Zq6, H', ⟨Nat.le_refl _⟩, Zq11⟩
    case round =>
     clear H'
     try clear p2
     try clear c3
     try clear c5
     try clear c5b0
     try clear c6
     try clear c6b0
     try clear p6
     try clear c7
     try clear p2
     try clear p6
     obtain ⟨x8_2, x27_2, rfl, rfl, HA, HK2, ⟨m2, rfl⟩⟩ := hrel
     cases gk with
     | zero => exact absurd HA.out (by simp [arboretref01_Number.l0])
     | succ k2 =>
      have H := HA.out; clear HA; simp only [arboretref01_Number.l0] at H
      by_cases c8 : x27_2 < a2
      ·rw [if_pos c8] at H; have c8b0 : decide (x27_2 < a2) = true := decide_eq_true c8; clear c8
       obtain ⟨ji9, hji9⟩ : ∃ j_ : Int, (wrap64 (a1 + x27_2)) = j_ := ⟨_, rfl⟩
       replace H : (if 0 ≤ (ji9) then (if (ji9) < (l0.length : Int) then (arboretref01_Number.l0 k2 l0 a1 (IntKind.u64.wrap ((IntKind.u64.wrap (x8_2 * 256)) + (IntKind.u64.wrap (rd l0 (ji9))))) a2 (wrap64 (x27_2 + 1))) else (none)) else (none)) = some (r1, r2) := by first | (rw [hji9] at H; exact H) | (simp only [hji9] at H ⊢; exact H)
       have hji9w : (IntKind.i64.wrap (a1 + x27_2)) = ji9 := (i64_w _).trans hji9
       by_cases c10 : 0 ≤ (ji9)
       ·rw [if_pos c10] at H; have c10b0 : decide (0 ≤ (ji9)) = true := decide_eq_true c10; clear c10
        by_cases c11 : (ji9) < (l0.length : Int)
        ·rw [if_pos c11] at H; have c11b0 : decide ((ji9) < (l0.length : Int)) = true := decide_eq_true c11; clear c11; have H' := Ak H; clear H; have p283 : 0 ≤ ((ji9) : Int) := of_decide_eq_true Zq4; have q283 : (ji9) < (l0.length : Int) := of_decide_eq_true Zq4; obtain ⟨adgy, e283, hx283_0⟩ := Kd.at_int HR0.out (ji9) p283 q283
         cases e283
         replace p283 := eq_true p283; replace q283 := eq_true q283
         go_wp2
         first | (go_roundg k2) | ((try subst hji9); go_roundg k2)
         case measure => have := HJ3.out; have := HK2.out; omega
         case rel => exact ⟨(IntKind.u64.wrap ((IntKind.u64.wrap (x8_2 * 256)) + (IntKind.u64.wrap (rd l0 (ji9))))), (wrap64 (x27_2 + 1)), (by first | rfl | (simp; done) | (simp only [← hji9] <;> (first | rfl | simp)) | (simp [*]; done)), Zq6, H', ⟨by have := HJ3.out; have := HK2.out; omega⟩, Zq11⟩
        ·rw [if_neg c11] at H; exact absurd H Zq8
       ·rw [if_neg c10] at H; exact absurd H Zq8
      ·rw [if_neg c8] at H; have c8b0 : decide (x27_2 < a2) = false := decide_eq_false c8; clear c8; simp only [Option.some.injEq, Prod.mk.injEq] at H; obtain ⟨rfl, rfl⟩ := H
       go_wp2
       go_ret2
       exact ⟨Zq6, Zq11⟩
def arboretref06_Cells.l0 : Nat → List Int → List Int → Int → Option (List Int × Int)
 | 0, _, _, _ => none
 | k + 1, x0, x4, x5 => if x5 < (x0.length : Int) then ((arboretref01_Number.f k x0 x5 4).bind fun btdV => (if x4.length < 35184372088832 then (arboretref06_Cells.l0 k x0 (x4 ++ [(btdV.1) % 4294967296]) (wrap64 (x5 + 4))) else (none))) else (some (x4, 0))
def arboretref06_Cells.f (k : Nat) (l0 : List Int) : Option (List Int × Int) := if ((l0.length : Int) % 4) = 0 then (arboretref06_Cells.l0 k l0 ([] : List Int) 0) else (some (([] : List Int), 4))
set_option maxHeartbeats 8000000 in
set_option maxRecDepth 100000 in
theorem arboretref06_Cells.calls (k : Nat) (A0 : Option Addr) (c0 : Nat) (l0 : List Int) (r1 : List Int) (r2 : Int) (w : World) (hr0 : Kd.C (Kd.int .u8) w A0 l0.length l0) (hc0 : l0.length ≤ c0) (h : arboretref06_Cells.f k l0 = some (r1, r2)) :
  Calls Try.prog 99 #[.slice A0 l0.length c0] w fun e w' => ∃ v0_ : Value, e = .returned (.tuple #[v0_, .int .i64 r2]) ∧ Kd.R (Kd.int .u32) 32 w' w.heap.size (fun _ => True) v0_ r1 ∧ Below w.heap.size w w' := by
 have HR0 := Ak hr0; have HC0 := Ak hc0; clear hr0 hc0; have HB := Zq129; have H : (if ((l0.length : Int) % 4) = 0 then (arboretref06_Cells.l0 k l0 ([] : List Int) 0) else (some (([] : List Int), 4))) = some (r1, r2) := h; clear h
 by_cases c2 : ((l0.length : Int) % 4) = 0
 ·rw [if_pos c2] at H; have c2b0 : (((l0.length : Int) % 4) == 0) = true := beq_iff_eq.mpr c2; have c2b1 : (((l0.length : Int) % 4) != 0) = false := bne_eq_false_iff_eq.mpr c2; clear c2; have H' := Ak H; clear H
  go_enter Try.func99, Try.ntmps99
  go_wp2
  go_loopg [4, 5] k (fun kq v4 v5 w' => ∃ (x4_1 : List Int) (x5_1 : Int), v5 = .int .i64 x5_1 ∧ Aside0 (arboretref06_Cells.l0 kq l0 x4_1 x5_1 = some (r1, r2)) ∧ Aside0 (kq ≤ k) ∧ Aside0 (Kd.R (Kd.int .u32) 32 w' w.heap.size (fun _ => True) v4 x4_1) ∧ Aside0 (Below w.heap.size w w'))
  case atStart => exact ⟨(([] : List Int)), (0), Zq6, H', ⟨Nat.le_refl _⟩, ⟨Zq32⟩, ⟨Zq5⟩⟩
  case round =>
   clear H'
   try clear c2
   try clear c2b0
   try clear c2b1
   try clear p2
   obtain ⟨x4_1, x5_1, rfl, HA, HK1, HO_4, HB⟩ := hrel
   cases gk with
   | zero => exact absurd HA.out (by simp [arboretref06_Cells.l0])
   | succ k1 =>
    have H := HA.out; clear HA; simp only [arboretref06_Cells.l0] at H
    by_cases c3 : x5_1 < (l0.length : Int)
    ·rw [if_pos c3] at H; have c3b0 : decide (x5_1 < (l0.length : Int)) = true := decide_eq_true c3; clear c3; replace H := Option.bind_eq_some_iff.mp H; obtain ⟨⟨tdV, tgh⟩, A40, H⟩ := H; replace H : (if x4_1.length < 35184372088832 then (arboretref06_Cells.l0 k1 l0 (x4_1 ++ [(tdV) % 4294967296]) (wrap64 (x5_1 + 4))) else (none)) = some (r1, r2) := H; have A4 := Ak A40; clear A40
     by_cases c5 : x4_1.length < 35184372088832
     ·rw [if_pos c5] at H; have LMc5 := Ak c5; clear c5
      obtain ⟨ycY, hycY⟩ : ∃ y_ : List Int, y_ = (x4_1 ++ [(tdV) % 4294967296]) := ⟨_, rfl⟩
      replace H : (arboretref06_Cells.l0 k1 l0 ycY (wrap64 (x5_1 + 4))) = some (r1, r2) := by first | (rw [hycY]; with_reducible exact H) | (have H2_ := (Option.bind_some _ _).symm.trans H; rw [hycY]; with_reducible exact H2_) | (have H2_ := (Option.bind_some _ _).symm.trans H; with_reducible exact H2_) | with_reducible exact H | (rw [hycY]; exact H) | exact H
      have NycY := Ak hycY; clear hycY; have H' := Ak H; clear H
      go_wp2_with (first | ((with_reducible refine gate_callee (f := 73) rfl ?_); refine goesL_ (some 21) rfl rfl Try.func73 Zq2 rfl #[.slice A0 l0.length c0, .int .i64 x5_1, .int .i64 4] rfl Zq9 ?_; (with_reducible refine (arboretref01_Number.calls k1 _ _ l0 x5_1 4 tdV tgh _ ?side1 ?side2 A4.out).mono ?_); (case side1 => repeat (first | exact (Kd.C_below HR0.out HB.out) | (with_reducible refine Kd.C_alloc ?_ _) | (with_reducible refine Kd.C_drewN ?_ _) | (with_reducible refine Kd.C_drew ?_))); (case side2 => exact HC0.out); rintro e w' ⟨rfl, ⟨nd, rfl⟩⟩; refine ⟨_, rfl, ?_⟩) | ((with_reducible refine gate_builtin (b := .append) (xs := #[.tmp 24, .tmp 27]) rfl ?_); at_builtin; refine Kd.R_append (Kd.int .u32) (w0 := w) w.heap.size rfl (.tmp 24) (.tmp 27) 86 32 (.int .u32 0) 4 rfl Try.underlying86 info32 rfl Zq7 Zq1 u4 x4_1 ((tdV) % 4294967296) [.int .u32 ((tdV) % 4294967296)] (fun _ => True) (fun _ => False) rfl rfl ?aP (fun _ hk => hk.elim) ?aF ?aO ?aB ?aS ?aL ?_; (case aP => exact rfl); (case aB => exact Zq5); (case aF => exact (fun _ _ => trivial)); (case aO => exact Zq102); (case aS => exact (below_size Zq5)); (case aL => have := LMc5.out; omega); intro v287 w6 ho hb hg hat; rw [← NycY.out] at ho; have n0_ := Ak (hb); have n1_ := Ak (ho); clear HB HO_4; have HB := n0_; have HOgi := n1_; clear n0_ n1_ ho hb hg hat))
      go_roundg k1
      case measure => have := HK1.out; omega
      case rel => exact ⟨(ycY), (wrap64 (x5_1 + 4)), Zq6, H', ⟨Zq26⟩, ⟨by (with_reducible repeat (first | apply Kd.R_alloc | apply Kd.R_drewN | apply Kd.R_drew)); exact HOgi.out⟩, ⟨Zq5⟩⟩
     ·rw [if_neg c5] at H; exact absurd H Zq8
    ·rw [if_neg c3] at H; have c3b0 : decide (x5_1 < (l0.length : Int)) = false := decide_eq_false c3; clear c3; simp only [Option.some.injEq, Prod.mk.injEq] at H; obtain ⟨rfl, rfl⟩ := H
     go_wp2
     go_ret2
     exact ⟨_, Zq10, Zq102, Zq5⟩
 ·rw [if_neg c2] at H; have c2b0 : (((l0.length : Int) % 4) == 0) = false := beq_eq_false_iff_ne.mpr c2; have c2b1 : (((l0.length : Int) % 4) != 0) = true := bne_iff_ne.mpr c2; simp only [Option.some.injEq, Prod.mk.injEq] at H; obtain ⟨rfl, rfl⟩ := H
  go_enter Try.func99, Try.ntmps99
  go_wp2
  go_ret2
  exact ⟨_, Zq10, Zq32, Zq5⟩
def arboretref06_One.f (k : Nat) (a0_0 : ByteArray) (l0_1 : List (S77)) (l0_2 : List (S30)) (a1 : ByteArray) : Option (Int × Bool × Int) := (arboretref01_Find.f k a0_0 l0_1 l0_2 a1).bind fun tbi => (if tbi < 0 then (some (0, false, 0)) else (if 0 ≤ tbi then (if tbi < (l0_1.length : Int) then ((arboretref06_Cells.f k ((rd_T77 l0_1 tbi).f1)).bind fun btbu => (if btbu.2 = 0 then (if (btbu.1.length : Int) = 1 then (if 0 < (btbu.1.length : Int) then (some (rd btbu.1 0, true, 0)) else (none)) else (some (0, false, 4))) else (some (0, false, 4)))) else (none)) else (none)))
end Go.Proofs.Yteejaaeglfpcmab.PX

namespace Go.Proofs.Yteejaaeglfpcmab.PX
open Go.RowKit Go.Proofs.YteejaaeglfpcmabW.PrintWords Go.Proofs.YteejaaeglfpcmabW.PrintLast Go.Proofs.YteejaaeglfpcmabW.PrintMore
attribute [local go_sem] max2_int min2_int max_two min_two max_three min_three max_four min_four
set_option maxHeartbeats 8000000 in
set_option maxRecDepth 100000 in
theorem arboretref06_One.calls (k : Nat) (a0_0 : ByteArray) (A0_1 : Option Addr) (c0_1 : Nat) (l0_1 : List (S77)) (A0_2 : Option Addr) (c0_2 : Nat) (l0_2 : List (S30)) (a1 : ByteArray) (r1 : Int) (r2 : Bool) (r3 : Int) (w : World) (hr0_1 : Kd.C k77 w A0_1 l0_1.length l0_1) (hc0_1 : l0_1.length ≤ c0_1) (hr0_2 : Kd.C k30 w A0_2 l0_2.length l0_2) (hc0_2 : l0_2.length ≤ c0_2) (h : arboretref06_One.f k a0_0 l0_1 l0_2 a1 = some (r1, r2, r3)) :
  Calls Try.prog 89 #[.agg #[.string a0_0, .slice A0_1 l0_1.length c0_1, .slice A0_2 l0_2.length c0_2], .string a1] w fun e w' => e = .returned (.tuple #[.int .u32 r1, .bool r2, .int .i64 r3]) ∧ Below w.heap.size w w' := by
 have hu30 := Try.underlying30; have HR0_1 := Ak hr0_1; have HC0_1 := Ak hc0_1; clear hr0_1 hc0_1; have HR0_2 := Ak hr0_2; have HC0_2 := Ak hc0_2; clear hr0_2 hc0_2; have HB := Zq129; have H : ((arboretref01_Find.f k a0_0 l0_1 l0_2 a1).bind fun tbi => (if tbi < 0 then (some (0, false, 0)) else (if 0 ≤ tbi then (if tbi < (l0_1.length : Int) then ((arboretref06_Cells.f k ((rd_T77 l0_1 tbi).f1)).bind fun btbu => (if btbu.2 = 0 then (if (btbu.1.length : Int) = 1 then (if 0 < (btbu.1.length : Int) then (some (rd btbu.1 0, true, 0)) else (none)) else (some (0, false, 4))) else (some (0, false, 4)))) else (none)) else (none)))) = some (r1, r2, r3) := h; clear h; replace H := Option.bind_eq_some_iff.mp H; obtain ⟨tbi, A30, H⟩ := H; replace H : (if tbi < 0 then (some (0, false, 0)) else (if 0 ≤ tbi then (if tbi < (l0_1.length : Int) then ((arboretref06_Cells.f k ((rd_T77 l0_1 tbi).f1)).bind fun btbu => (if btbu.2 = 0 then (if (btbu.1.length : Int) = 1 then (if 0 < (btbu.1.length : Int) then (some (rd btbu.1 0, true, 0)) else (none)) else (some (0, false, 4))) else (some (0, false, 4)))) else (none)) else (none))) = some (r1, r2, r3) := H; have A3 := Ak A30; clear A30
 by_cases c4 : tbi < 0
 ·rw [if_pos c4] at H; have c4b0 : decide (tbi < 0) = true := decide_eq_true c4; clear c4; simp only [Option.some.injEq, Prod.mk.injEq] at H; obtain ⟨rfl, rfl, rfl⟩ := H
  go_enter Try.func89, Try.ntmps89
  go_wp2_with (first | ((with_reducible refine gate_dst (N := 2) rfl ?_); (try (refine gate_guard Zq3 ?_; dsimp only)); refine box_event ?hg (N := 2) ?hd (cs := #[.string a0_0, .slice A0_1 l0_1.length c0_1, .slice A0_2 l0_2.length c0_2]) (t := 30) ?hr ?_; (case hd | hg => rfl); (case hr => first | (go_simp; done) | (go_simp; rfl)); intro gbax hg w5 hbox hb; have n0_ := Zq122; have n1_ := Ak (hbox); have n2_ := Zq155; have n3_ := Zq155; clear HB; have HB := n0_; have BKax := n1_; have GWax := n2_; have GEax := n3_; clear n0_ n1_ n2_ n3_ hb hbox hg; have hcz6_0 : w5.cell? ⟨gbax, 0, none⟩ = some (.string a0_0) := (blk_cell BKax.out 0).trans rfl; have hcz6_1 : w5.cell? ⟨gbax, 1, none⟩ = some (.slice A0_1 l0_1.length c0_1) := (blk_cell BKax.out 1).trans rfl; have hcz6_2 : w5.cell? ⟨gbax, 2, none⟩ = some (.slice A0_2 l0_2.length c0_2) := (blk_cell BKax.out 2).trans rfl; have hfz6_0 := blk_frozen BKax.out 0; have hfz6_1 := blk_frozen BKax.out 1; have hfz6_2 := blk_frozen BKax.out 2) | ((with_reducible refine gate_callee (f := 32) rfl ?_); refine goesL_ (some 12) rfl rfl Try.func32 Zq2 rfl #[.agg #[.string a0_0, .slice A0_1 l0_1.length c0_1, .slice A0_2 l0_2.length c0_2], .string a1] rfl Zq9 ?_; (with_reducible refine (arboretref01_Find.calls k a0_0 _ _ l0_1 _ _ l0_2 a1 tbi _ ?side1 ?side2 ?side3 ?side4 A3.out).mono ?_); (case side1 => repeat (first | exact Zq126 | (with_reducible refine Kd.C_alloc ?_ _) | (with_reducible refine Kd.C_drewN ?_ _) | (with_reducible refine Kd.C_drew ?_))); (case side2 => exact HC0_1.out); (case side3 => repeat (first | exact Zq142 | (with_reducible refine Kd.C_alloc ?_ _) | (with_reducible refine Kd.C_drewN ?_ _) | (with_reducible refine Kd.C_drew ?_))); (case side4 => exact HC0_2.out); rintro e w7 ⟨rfl, hb⟩; refine ⟨_, rfl, ?_⟩; have n0_ := Zq163; have n1_ := Zq205; clear BKax HB; have BKax := n0_; have HB := n1_; clear n0_ n1_; (try clear hb); (try clear hb2); (try clear hk); (try clear hi)))
  go_ret3
  exact ⟨Zq10, Zq41⟩
 ·rw [if_neg c4] at H; have c4b0 : decide (tbi < 0) = false := decide_eq_false c4; clear c4
  by_cases c8 : 0 ≤ tbi
  ·rw [if_pos c8] at H; have c8b0 : decide (0 ≤ tbi) = true := decide_eq_true c8; clear c8
   by_cases c9 : tbi < (l0_1.length : Int)
   ·rw [if_pos c9] at H; have c9b0 : decide (tbi < (l0_1.length : Int)) = true := decide_eq_true c9; clear c9; replace H := Option.bind_eq_some_iff.mp H; obtain ⟨⟨tbu, tdx⟩, AdK, H⟩ := H; replace H : (if tdx = 0 then (if (tbu.length : Int) = 1 then (if 0 < (tbu.length : Int) then (some (rd tbu 0, true, 0)) else (none)) else (some (0, false, 4))) else (some (0, false, 4))) = some (r1, r2, r3) := H; have A10 := Ak AdK; clear AdK
    by_cases c11 : tdx = 0
    ·rw [if_pos c11] at H; have c11b0 : (tdx == 0) = true := beq_iff_eq.mpr c11; have c11b1 : (tdx != 0) = false := bne_eq_false_iff_eq.mpr c11; clear c11
     by_cases c12 : (tbu.length : Int) = 1
     ·rw [if_pos c12] at H; have c12b0 : ((tbu.length : Int) == 1) = true := beq_iff_eq.mpr c12; have c12b1 : ((tbu.length : Int) != 1) = false := bne_eq_false_iff_eq.mpr c12; clear c12
      by_cases c13 : 0 < (tbu.length : Int)
      ·rw [if_pos c13] at H; have c13b0 : decide (0 < (tbu.length : Int)) = true := decide_eq_true c13; have c13b1 : decide (0 < tbu.length) = true := decide_eq_true Zq1; clear c13; simp only [Option.some.injEq, Prod.mk.injEq] at H; obtain ⟨rfl, rfl, rfl⟩ := H
       go_enter Try.func89, Try.ntmps89
       go_wp2_with (first | ((with_reducible refine gate_dst (N := 2) rfl ?_); (try (refine gate_guard Zq3 ?_; dsimp only)); refine box_event ?hg (N := 2) ?hd (cs := #[.string a0_0, .slice A0_1 l0_1.length c0_1, .slice A0_2 l0_2.length c0_2]) (t := 30) ?hr ?_; (case hd | hg => rfl); (case hr => first | (go_simp; done) | (go_simp; rfl)); intro gbax hg w14 hbox hb; have n0_ := Zq122; have n1_ := Ak (hbox); have n2_ := Zq155; have n3_ := Zq155; clear HB; have HB := n0_; have BKax := n1_; have GWax := n2_; have GEax := n3_; clear n0_ n1_ n2_ n3_ hb hbox hg; have hcz15_0 : w14.cell? ⟨gbax, 0, none⟩ = some (.string a0_0) := (blk_cell BKax.out 0).trans rfl; have hcz15_1 : w14.cell? ⟨gbax, 1, none⟩ = some (.slice A0_1 l0_1.length c0_1) := (blk_cell BKax.out 1).trans rfl; have hcz15_2 : w14.cell? ⟨gbax, 2, none⟩ = some (.slice A0_2 l0_2.length c0_2) := (blk_cell BKax.out 2).trans rfl; have hfz15_0 := blk_frozen BKax.out 0; have hfz15_1 := blk_frozen BKax.out 1; have hfz15_2 := blk_frozen BKax.out 2) | ((with_reducible refine gate_callee (f := 32) rfl ?_); refine goesL_ (some 12) rfl rfl Try.func32 Zq2 rfl #[.agg #[.string a0_0, .slice A0_1 l0_1.length c0_1, .slice A0_2 l0_2.length c0_2], .string a1] rfl Zq9 ?_; (with_reducible refine (arboretref01_Find.calls k a0_0 _ _ l0_1 _ _ l0_2 a1 tbi _ ?side1 ?side2 ?side3 ?side4 A3.out).mono ?_); (case side1 => repeat (first | exact Zq126 | (with_reducible refine Kd.C_alloc ?_ _) | (with_reducible refine Kd.C_drewN ?_ _) | (with_reducible refine Kd.C_drew ?_))); (case side2 => exact HC0_1.out); (case side3 => repeat (first | exact Zq142 | (with_reducible refine Kd.C_alloc ?_ _) | (with_reducible refine Kd.C_drewN ?_ _) | (with_reducible refine Kd.C_drew ?_))); (case side4 => exact HC0_2.out); rintro e w16 ⟨rfl, hb⟩; refine ⟨_, rfl, ?_⟩; have n0_ := Zq163; have n1_ := Zq205; clear BKax HB; have BKax := n0_; have HB := n1_; clear n0_ n1_; (try clear hb); (try clear hb2); (try clear hk); (try clear hi); have hcz17_0 : w16.cell? ⟨gbax, 0, none⟩ = some (.string a0_0) := (blk_cell BKax.out 0).trans rfl; have hcz17_1 : w16.cell? ⟨gbax, 1, none⟩ = some (.slice A0_1 l0_1.length c0_1) := (blk_cell BKax.out 1).trans rfl; have hcz17_2 : w16.cell? ⟨gbax, 2, none⟩ = some (.slice A0_2 l0_2.length c0_2) := (blk_cell BKax.out 2).trans rfl; have hfz17_0 := blk_frozen BKax.out 0; have hfz17_1 := blk_frozen BKax.out 1; have hfz17_2 := blk_frozen BKax.out 2; have p291 : 0 ≤ (tbi : Int) := of_decide_eq_true Zq4; have q291 : tbi < (l0_1.length : Int) := of_decide_eq_true Zq4; obtain ⟨adbC, AbC_1, cbC_1, e291, hx291_0, hx291_1, hl291_1, hi291_1⟩ := at_T77 HR0_1.out tbi p291 q291; cases e291; replace hx291_0 := (HB.out.cell (World.block_lt_of_cell? w _ hx291_0)).trans hx291_0; replace hx291_1 := (HB.out.cell (World.block_lt_of_cell? w _ hx291_1)).trans hx291_1; have HRbC_1 := Ak hi291_1; have HCbC_1 := Ak hl291_1; clear hi291_1 hl291_1; replace p291 := eq_true p291; replace q291 := eq_true q291) | ((with_reducible refine gate_callee (f := 99) rfl ?_); refine goesL_ (some 22) rfl rfl Try.func99 Zq2 rfl #[.slice AbC_1 ((rd_T77 l0_1 tbi).f1).length cbC_1] rfl Zq9 ?_; (with_reducible refine (arboretref06_Cells.calls k _ _ ((rd_T77 l0_1 tbi).f1) tbu tdx _ ?side1 ?side2 A10.out).mono ?_); (case side1 => repeat (first | exact (Kd.C_below HRbC_1.out HB.out) | (with_reducible refine Kd.C_alloc ?_ _) | (with_reducible refine Kd.C_drewN ?_ _) | (with_reducible refine Kd.C_drew ?_))); (case side2 => exact HCbC_1.out); rintro e w18 ⟨v294, rfl, ho0, hb⟩; refine ⟨_, rfl, ?_⟩; have n0_ := Ak (Kd.R_lower ho0 (below_size Zq41)); have n1_ := Zq182; have n2_ := Zq205; clear BKax HB; have HOeF := n0_; have BKax := n1_; have HB := n2_; clear n0_ n1_ n2_; (try clear hb); (try clear hb2); (try clear hk); (try clear hi); (try clear ho0); obtain ⟨Ao19, co19, eo19⟩ := Kd.R_slice HOeF.out; subst eo19; have p296 : 0 ≤ (0 : Int) := Zq1; have q296 : 0 < (tbu.length : Int) := of_decide_eq_true Zq4; obtain ⟨adgz, e296, hx296_0⟩ := Kd.at_int (Kd.R_reads' HOeF.out).2.2 0 p296 q296; cases e296; have qi296 : (0 < tbu.length) = True := eq_true Zq1; (try rw [show ((0 : Int)).toNat = 0 from rfl] at hx296_0); (try rw [Addr.add_zero'] at hx296_0); replace p296 := eq_true p296; replace q296 := eq_true q296))
       go_ret3
       exact ⟨Zq10, Zq41⟩
      ·rw [if_neg c13] at H; exact absurd H Zq8
     ·rw [if_neg c12] at H; have c12b0 : ((tbu.length : Int) == 1) = false := beq_eq_false_iff_ne.mpr c12; have c12b1 : ((tbu.length : Int) != 1) = true := bne_iff_ne.mpr c12; simp only [Option.some.injEq, Prod.mk.injEq] at H; obtain ⟨rfl, rfl, rfl⟩ := H
      go_enter Try.func89, Try.ntmps89
      go_wp2_with (first | ((with_reducible refine gate_dst (N := 2) rfl ?_); (try (refine gate_guard Zq3 ?_; dsimp only)); refine box_event ?hg (N := 2) ?hd (cs := #[.string a0_0, .slice A0_1 l0_1.length c0_1, .slice A0_2 l0_2.length c0_2]) (t := 30) ?hr ?_; (case hd | hg => rfl); (case hr => first | (go_simp; done) | (go_simp; rfl)); intro gbax hg w20 hbox hb; have n0_ := Zq122; have n1_ := Ak (hbox); have n2_ := Zq155; have n3_ := Zq155; clear HB; have HB := n0_; have BKax := n1_; have GWax := n2_; have GEax := n3_; clear n0_ n1_ n2_ n3_ hb hbox hg; have hcz21_0 : w20.cell? ⟨gbax, 0, none⟩ = some (.string a0_0) := (blk_cell BKax.out 0).trans rfl; have hcz21_1 : w20.cell? ⟨gbax, 1, none⟩ = some (.slice A0_1 l0_1.length c0_1) := (blk_cell BKax.out 1).trans rfl; have hcz21_2 : w20.cell? ⟨gbax, 2, none⟩ = some (.slice A0_2 l0_2.length c0_2) := (blk_cell BKax.out 2).trans rfl; have hfz21_0 := blk_frozen BKax.out 0; have hfz21_1 := blk_frozen BKax.out 1; have hfz21_2 := blk_frozen BKax.out 2) | ((with_reducible refine gate_callee (f := 32) rfl ?_); refine goesL_ (some 12) rfl rfl Try.func32 Zq2 rfl #[.agg #[.string a0_0, .slice A0_1 l0_1.length c0_1, .slice A0_2 l0_2.length c0_2], .string a1] rfl Zq9 ?_; (with_reducible refine (arboretref01_Find.calls k a0_0 _ _ l0_1 _ _ l0_2 a1 tbi _ ?side1 ?side2 ?side3 ?side4 A3.out).mono ?_); (case side1 => repeat (first | exact Zq126 | (with_reducible refine Kd.C_alloc ?_ _) | (with_reducible refine Kd.C_drewN ?_ _) | (with_reducible refine Kd.C_drew ?_))); (case side2 => exact HC0_1.out); (case side3 => repeat (first | exact Zq142 | (with_reducible refine Kd.C_alloc ?_ _) | (with_reducible refine Kd.C_drewN ?_ _) | (with_reducible refine Kd.C_drew ?_))); (case side4 => exact HC0_2.out); rintro e w22 ⟨rfl, hb⟩; refine ⟨_, rfl, ?_⟩; have n0_ := Zq163; have n1_ := Zq205; clear BKax HB; have BKax := n0_; have HB := n1_; clear n0_ n1_; (try clear hb); (try clear hb2); (try clear hk); (try clear hi); have hcz23_0 : w22.cell? ⟨gbax, 0, none⟩ = some (.string a0_0) := (blk_cell BKax.out 0).trans rfl; have hcz23_1 : w22.cell? ⟨gbax, 1, none⟩ = some (.slice A0_1 l0_1.length c0_1) := (blk_cell BKax.out 1).trans rfl; have hcz23_2 : w22.cell? ⟨gbax, 2, none⟩ = some (.slice A0_2 l0_2.length c0_2) := (blk_cell BKax.out 2).trans rfl; have hfz23_0 := blk_frozen BKax.out 0; have hfz23_1 := blk_frozen BKax.out 1; have hfz23_2 := blk_frozen BKax.out 2; have p291 : 0 ≤ (tbi : Int) := of_decide_eq_true Zq4; have q291 : tbi < (l0_1.length : Int) := of_decide_eq_true Zq4; obtain ⟨adbC, AbC_1, cbC_1, e291, hx291_0, hx291_1, hl291_1, hi291_1⟩ := at_T77 HR0_1.out tbi p291 q291; cases e291; replace hx291_0 := (HB.out.cell (World.block_lt_of_cell? w _ hx291_0)).trans hx291_0; replace hx291_1 := (HB.out.cell (World.block_lt_of_cell? w _ hx291_1)).trans hx291_1; have HRbC_1 := Ak hi291_1; have HCbC_1 := Ak hl291_1; clear hi291_1 hl291_1; replace p291 := eq_true p291; replace q291 := eq_true q291) | ((with_reducible refine gate_callee (f := 99) rfl ?_); refine goesL_ (some 22) rfl rfl Try.func99 Zq2 rfl #[.slice AbC_1 ((rd_T77 l0_1 tbi).f1).length cbC_1] rfl Zq9 ?_; (with_reducible refine (arboretref06_Cells.calls k _ _ ((rd_T77 l0_1 tbi).f1) tbu tdx _ ?side1 ?side2 A10.out).mono ?_); (case side1 => repeat (first | exact (Kd.C_below HRbC_1.out HB.out) | (with_reducible refine Kd.C_alloc ?_ _) | (with_reducible refine Kd.C_drewN ?_ _) | (with_reducible refine Kd.C_drew ?_))); (case side2 => exact HCbC_1.out); rintro e w24 ⟨v294, rfl, ho0, hb⟩; refine ⟨_, rfl, ?_⟩; have n0_ := Ak (Kd.R_lower ho0 (below_size Zq41)); have n1_ := Zq182; have n2_ := Zq205; clear BKax HB; have HOeF := n0_; have BKax := n1_; have HB := n2_; clear n0_ n1_ n2_; (try clear hb); (try clear hb2); (try clear hk); (try clear hi); (try clear ho0); obtain ⟨Ao25, co25, eo25⟩ := Kd.R_slice HOeF.out; subst eo25))
      go_ret3
      exact ⟨Zq10, Zq41⟩
    ·rw [if_neg c11] at H; have c11b0 : (tdx == 0) = false := beq_eq_false_iff_ne.mpr c11; have c11b1 : (tdx != 0) = true := bne_iff_ne.mpr c11; simp only [Option.some.injEq, Prod.mk.injEq] at H; obtain ⟨rfl, rfl, rfl⟩ := H
     go_enter Try.func89, Try.ntmps89
     go_wp2_with (first | ((with_reducible refine gate_dst (N := 2) rfl ?_); (try (refine gate_guard Zq3 ?_; dsimp only)); refine box_event ?hg (N := 2) ?hd (cs := #[.string a0_0, .slice A0_1 l0_1.length c0_1, .slice A0_2 l0_2.length c0_2]) (t := 30) ?hr ?_; (case hd | hg => rfl); (case hr => first | (go_simp; done) | (go_simp; rfl)); intro gbax hg w26 hbox hb; have n0_ := Zq122; have n1_ := Ak (hbox); have n2_ := Zq155; have n3_ := Zq155; clear HB; have HB := n0_; have BKax := n1_; have GWax := n2_; have GEax := n3_; clear n0_ n1_ n2_ n3_ hb hbox hg; have hcz27_0 : w26.cell? ⟨gbax, 0, none⟩ = some (.string a0_0) := (blk_cell BKax.out 0).trans rfl; have hcz27_1 : w26.cell? ⟨gbax, 1, none⟩ = some (.slice A0_1 l0_1.length c0_1) := (blk_cell BKax.out 1).trans rfl; have hcz27_2 : w26.cell? ⟨gbax, 2, none⟩ = some (.slice A0_2 l0_2.length c0_2) := (blk_cell BKax.out 2).trans rfl; have hfz27_0 := blk_frozen BKax.out 0; have hfz27_1 := blk_frozen BKax.out 1; have hfz27_2 := blk_frozen BKax.out 2) | ((with_reducible refine gate_callee (f := 32) rfl ?_); refine goesL_ (some 12) rfl rfl Try.func32 Zq2 rfl #[.agg #[.string a0_0, .slice A0_1 l0_1.length c0_1, .slice A0_2 l0_2.length c0_2], .string a1] rfl Zq9 ?_; (with_reducible refine (arboretref01_Find.calls k a0_0 _ _ l0_1 _ _ l0_2 a1 tbi _ ?side1 ?side2 ?side3 ?side4 A3.out).mono ?_); (case side1 => repeat (first | exact Zq126 | (with_reducible refine Kd.C_alloc ?_ _) | (with_reducible refine Kd.C_drewN ?_ _) | (with_reducible refine Kd.C_drew ?_))); (case side2 => exact HC0_1.out); (case side3 => repeat (first | exact Zq142 | (with_reducible refine Kd.C_alloc ?_ _) | (with_reducible refine Kd.C_drewN ?_ _) | (with_reducible refine Kd.C_drew ?_))); (case side4 => exact HC0_2.out); rintro e w28 ⟨rfl, hb⟩; refine ⟨_, rfl, ?_⟩; have n0_ := Zq163; have n1_ := Zq205; clear BKax HB; have BKax := n0_; have HB := n1_; clear n0_ n1_; (try clear hb); (try clear hb2); (try clear hk); (try clear hi); have hcz29_0 : w28.cell? ⟨gbax, 0, none⟩ = some (.string a0_0) := (blk_cell BKax.out 0).trans rfl; have hcz29_1 : w28.cell? ⟨gbax, 1, none⟩ = some (.slice A0_1 l0_1.length c0_1) := (blk_cell BKax.out 1).trans rfl; have hcz29_2 : w28.cell? ⟨gbax, 2, none⟩ = some (.slice A0_2 l0_2.length c0_2) := (blk_cell BKax.out 2).trans rfl; have hfz29_0 := blk_frozen BKax.out 0; have hfz29_1 := blk_frozen BKax.out 1; have hfz29_2 := blk_frozen BKax.out 2; have p291 : 0 ≤ (tbi : Int) := of_decide_eq_true Zq4; have q291 : tbi < (l0_1.length : Int) := of_decide_eq_true Zq4; obtain ⟨adbC, AbC_1, cbC_1, e291, hx291_0, hx291_1, hl291_1, hi291_1⟩ := at_T77 HR0_1.out tbi p291 q291; cases e291; replace hx291_0 := (HB.out.cell (World.block_lt_of_cell? w _ hx291_0)).trans hx291_0; replace hx291_1 := (HB.out.cell (World.block_lt_of_cell? w _ hx291_1)).trans hx291_1; have HRbC_1 := Ak hi291_1; have HCbC_1 := Ak hl291_1; clear hi291_1 hl291_1; replace p291 := eq_true p291; replace q291 := eq_true q291) | ((with_reducible refine gate_callee (f := 99) rfl ?_); refine goesL_ (some 22) rfl rfl Try.func99 Zq2 rfl #[.slice AbC_1 ((rd_T77 l0_1 tbi).f1).length cbC_1] rfl Zq9 ?_; (with_reducible refine (arboretref06_Cells.calls k _ _ ((rd_T77 l0_1 tbi).f1) tbu tdx _ ?side1 ?side2 A10.out).mono ?_); (case side1 => repeat (first | exact (Kd.C_below HRbC_1.out HB.out) | (with_reducible refine Kd.C_alloc ?_ _) | (with_reducible refine Kd.C_drewN ?_ _) | (with_reducible refine Kd.C_drew ?_))); (case side2 => exact HCbC_1.out); rintro e w30 ⟨v294, rfl, ho0, hb⟩; refine ⟨_, rfl, ?_⟩; have n0_ := Ak (Kd.R_lower ho0 (below_size Zq41)); have n1_ := Zq182; have n2_ := Zq205; clear BKax HB; have HOeF := n0_; have BKax := n1_; have HB := n2_; clear n0_ n1_ n2_; (try clear hb); (try clear hb2); (try clear hk); (try clear hi); (try clear ho0)))
     go_ret3
     exact ⟨Zq10, Zq41⟩
   ·rw [if_neg c9] at H; exact absurd H Zq8
  ·rw [if_neg c8] at H; exact absurd H Zq8
def arboretref12_count.j0 : Nat → Int → Int → Bool → Bool → Option (Int)
 | 0, _, _, _, _ => none
 | k + 1, x2, x7, x8, x22 => if x22 = true then (some (-1)) else (if x8 = true then (some (wrap64 (x7))) else (some x2))
def arboretref12_count.f (k : Nat) (a0_0 : ByteArray) (l0_1 : List (S77)) (l0_2 : List (S30)) (a1 : ByteArray) (a2 : Int) : Option (Int) := (arboretref06_One.f k a0_0 l0_1 l0_2 a1).bind fun btbN => (if btbN.2.2 = 0 then (arboretref12_count.j0 k a2 btbN.1 btbN.2.1 (decide (btbN.1 > 2))) else (arboretref12_count.j0 k a2 btbN.1 btbN.2.1 true))
set_option maxHeartbeats 8000000 in
set_option maxRecDepth 100000 in
theorem arboretref12_count.calls (k : Nat) (a0_0 : ByteArray) (A0_1 : Option Addr) (c0_1 : Nat) (l0_1 : List (S77)) (A0_2 : Option Addr) (c0_2 : Nat) (l0_2 : List (S30)) (a1 : ByteArray) (a2 : Int) (r : Int) (w : World) (hr0_1 : Kd.C k77 w A0_1 l0_1.length l0_1) (hc0_1 : l0_1.length ≤ c0_1) (hr0_2 : Kd.C k30 w A0_2 l0_2.length l0_2) (hc0_2 : l0_2.length ≤ c0_2) (h : arboretref12_count.f k a0_0 l0_1 l0_2 a1 a2 = some r) :
  Calls Try.prog 72 #[.agg #[.string a0_0, .slice A0_1 l0_1.length c0_1, .slice A0_2 l0_2.length c0_2], .string a1, .int .i64 a2] w fun e w' => e = .returned (.int .i64 r) ∧ Below w.heap.size w w' := by
 have hu30 := Try.underlying30; have HR0_1 := Ak hr0_1; have HC0_1 := Ak hc0_1; clear hr0_1 hc0_1; have HR0_2 := Ak hr0_2; have HC0_2 := Ak hc0_2; clear hr0_2 hc0_2; have HB := Zq129; have H : ((arboretref06_One.f k a0_0 l0_1 l0_2 a1).bind fun btbN => (if btbN.2.2 = 0 then (arboretref12_count.j0 k a2 btbN.1 btbN.2.1 (decide (btbN.1 > 2))) else (arboretref12_count.j0 k a2 btbN.1 btbN.2.1 true))) = some r := h; clear h; replace H := Option.bind_eq_some_iff.mp H; obtain ⟨⟨tbN, tep, tdW⟩, A40, H⟩ := H; replace H : (if tdW = 0 then (arboretref12_count.j0 k a2 tbN tep (decide (tbN > 2))) else (arboretref12_count.j0 k a2 tbN tep true)) = some r := H; have A4 := Ak A40; clear A40; have HC5 := Ak H; clear H
 go_enter Try.func72, Try.ntmps72
 go_upto_region 2 with (first | ((with_reducible refine gate_dst (N := 3) rfl ?_); refine box_event ?hg (N := 3) ?hd (cs := #[.string a0_0, .slice A0_1 l0_1.length c0_1, .slice A0_2 l0_2.length c0_2]) (t := 30) ?hr ?_; (case hd | hg => rfl); (case hr => first | (go_simp; done) | (go_simp; rfl)); intro gbbK hg w6 hbox hb; have n0_ := Zq122; have n1_ := Ak (hbox); have n2_ := Ak ((by rw [hg]; exact (below_size Zq5) : w.heap.size ≤ gbbK)); have n3_ := Ak ((by rw [hg]; exact (below_size Zq5) : w.heap.size ≤ gbbK)); clear HB; have HB := n0_; have BKbK := n1_; have GWbK := n2_; have GEbK := n3_; clear n0_ n1_ n2_ n3_ hb hbox hg; have hcz7_0 : w6.cell? ⟨gbbK, 0, none⟩ = some (.string a0_0) := (blk_cell BKbK.out 0).trans rfl; have hcz7_1 : w6.cell? ⟨gbbK, 1, none⟩ = some (.slice A0_1 l0_1.length c0_1) := (blk_cell BKbK.out 1).trans rfl; have hcz7_2 : w6.cell? ⟨gbbK, 2, none⟩ = some (.slice A0_2 l0_2.length c0_2) := (blk_cell BKbK.out 2).trans rfl; have hfz7_0 := blk_frozen BKbK.out 0; have hfz7_1 := blk_frozen BKbK.out 1; have hfz7_2 := blk_frozen BKbK.out 2) | ((with_reducible refine gate_callee (f := 89) rfl ?_); refine goesL_ (some 13) rfl rfl Try.func89 Zq2 rfl #[.agg #[.string a0_0, .slice A0_1 l0_1.length c0_1, .slice A0_2 l0_2.length c0_2], .string a1] rfl Zq9 ?_; (with_reducible refine (arboretref06_One.calls k a0_0 _ _ l0_1 _ _ l0_2 a1 tbN tep tdW _ ?side1 ?side2 ?side3 ?side4 A4.out).mono ?_); (case side1 => repeat (first | exact Zq126 | (with_reducible refine Kd.C_alloc ?_ _) | (with_reducible refine Kd.C_drewN ?_ _) | (with_reducible refine Kd.C_drew ?_))); (case side2 => exact HC0_1.out); (case side3 => repeat (first | exact Zq142 | (with_reducible refine Kd.C_alloc ?_ _) | (with_reducible refine Kd.C_drewN ?_ _) | (with_reducible refine Kd.C_drew ?_))); (case side4 => exact HC0_2.out); rintro e w8 ⟨rfl, hb⟩; refine ⟨_, rfl, ?_⟩; have n0_ := Ak (blk_below (g := gbbK) (o := .cells #[.string a0_0, .slice A0_1 l0_1.length c0_1, .slice A0_2 l0_2.length c0_2] 30 (0, 0)) (by (with_reducible repeat (first | refine blk_drewN ?_ _ | refine blk_drew ?_ | refine blk_alloc ?_ _)); exact BKbK.out) hb); have n1_ := Ak (below_step Zq82 hb); clear BKbK HB; have BKbK := n0_; have HB := n1_; clear n0_ n1_; (try clear hb); (try clear hb2); (try clear hk); (try clear hi)))
 (try simp only [Act.put, List.setIfInBounds_toArray, List.set_cons_zero, List.set_cons_succ])
 go_cut [22] (fun v22 wc => ∃ (kq : Nat) (x22_4 : Bool), v22 = .bool x22_4 ∧ Aside0 (arboretref12_count.j0 kq a2 tbN tep x22_4 = some r) ∧ Aside0 (kq ≤ k) ∧ Aside0 (wc.heap[gbbK]? = some (.cells #[.string a0_0, (.slice A0_1 l0_1.length c0_1), (.slice A0_2 l0_2.length c0_2)] 30 (0, 0))) ∧ Aside0 (Below w.heap.size w wc))
 case first =>
  have H := HC5.out; clear HC5
  by_cases c9 : tdW = 0
  ·rw [if_pos c9] at H; have c9b0 : (tdW == 0) = true := beq_iff_eq.mpr c9; have c9b1 : (tdW != 0) = false := bne_eq_false_iff_eq.mpr c9; clear c9
   (first | rw [c9b0] | (simp only [i64_w, i32_w]; rw [c9b0]) | skip)
   have H' := Ak H; clear H
   go_wp2
   go_meet
   case rel => exact ⟨_, (decide (tbN > 2)), Zq6, H', ⟨Zq13⟩, ⟨by (with_reducible repeat (first | refine blk_drewN ?_ _ | refine blk_drew ?_ | refine blk_alloc ?_ _)); exact BKbK.out⟩, ⟨Zq82⟩⟩
  ·rw [if_neg c9] at H; have c9b0 : (tdW == 0) = false := beq_eq_false_iff_ne.mpr c9; have c9b1 : (tdW != 0) = true := bne_iff_ne.mpr c9
   (first | rw [c9b0] | (simp only [i64_w, i32_w]; rw [c9b0]) | skip)
   have H' := Ak H; clear H
   go_wp2
   go_meet
   case rel => exact ⟨_, (true), Zq6, H', ⟨Zq13⟩, ⟨by (with_reducible repeat (first | refine blk_drewN ?_ _ | refine blk_drew ?_ | refine blk_alloc ?_ _)); exact BKbK.out⟩, ⟨Zq82⟩⟩
 case rest =>
  clear HC5
  try clear p2
  try clear c7
  try clear c8
  try clear c9
  try clear c9b0
  try clear c9b1
  try clear hcz7_0
  try clear hcz7_1
  try clear hcz7_2
  try clear hfz7_0
  try clear hfz7_1
  try clear hfz7_2
  obtain ⟨kq, x22_4, rfl, HA, HJ4, BKbK, HB⟩ := hcut
  cases kq with
  | zero => exact absurd HA.out (by simp [arboretref12_count.j0])
  | succ kj4 =>
   have H := HA.out; clear HA; simp only [arboretref12_count.j0] at H
   by_cases c10 : x22_4 = true
   ·subst c10
    have H1 : (some (-1)) = some r := by rw [if_pos rfl] at H; exact H
    clear H; have H := H1; clear H1; obtain rfl := Option.some.inj H
    go_wp2
    go_ret
    exact ⟨Zq10, Zq82⟩
   ·replace c10 := Bool.eq_false_iff.mpr c10; subst c10
    have H1 : (if tep = true then (some (wrap64 (tbN))) else (some a2)) = some r := by rw [if_neg (show ¬ (false = true) by decide)] at H; exact H
    clear H; have H := H1; clear H1
    by_cases c11 : tep = true
    ·subst c11
     have H1 : (some (wrap64 (tbN))) = some r := by rw [if_pos rfl] at H; exact H
     clear H; have H := H1; clear H1; obtain rfl := Option.some.inj H
     go_wp2
     go_ret
     exact ⟨Zq10, Zq82⟩
    ·replace c11 := Bool.eq_false_iff.mpr c11; subst c11
     have H1 : (some a2) = some r := by rw [if_neg (show ¬ (false = true) by decide)] at H; exact H
     clear H; have H := H1; clear H1; obtain rfl := Option.some.inj H
     go_wp2
     go_ret
     exact ⟨Zq10, Zq82⟩
def arboretref12_Counts.f (k : Nat) (a0_0 : ByteArray) (l0_1 : List (S77)) (l0_2 : List (S30)) : Option (Int × Int × Bool) := (arboretref12_count.f k a0_0 l0_1 l0_2 (⟨#[35, 97, 100, 100, 114, 101, 115, 115, 45, 99, 101, 108, 108, 115]⟩ : ByteArray) 2).bind fun tbW => ((arboretref12_count.f k a0_0 l0_1 l0_2 (⟨#[35, 115, 105, 122, 101, 45, 99, 101, 108, 108, 115]⟩ : ByteArray) 1).bind fun tcf => (if tbW ≥ 0 then (some (tbW, tcf, decide (tcf ≥ 0))) else (some (tbW, tcf, false))))
set_option maxHeartbeats 8000000 in
set_option maxRecDepth 100000 in
theorem arboretref12_Counts.calls (k : Nat) (a0_0 : ByteArray) (A0_1 : Option Addr) (c0_1 : Nat) (l0_1 : List (S77)) (A0_2 : Option Addr) (c0_2 : Nat) (l0_2 : List (S30)) (r1 : Int) (r2 : Int) (r3 : Bool) (w : World) (hr0_1 : Kd.C k77 w A0_1 l0_1.length l0_1) (hc0_1 : l0_1.length ≤ c0_1) (hr0_2 : Kd.C k30 w A0_2 l0_2.length l0_2) (hc0_2 : l0_2.length ≤ c0_2) (h : arboretref12_Counts.f k a0_0 l0_1 l0_2 = some (r1, r2, r3)) :
  Calls Try.prog 45 #[.agg #[.string a0_0, .slice A0_1 l0_1.length c0_1, .slice A0_2 l0_2.length c0_2]] w fun e w' => e = .returned (.tuple #[.int .i64 r1, .int .i64 r2, .bool r3]) ∧ Below w.heap.size w w' := by
 have hu30 := Try.underlying30; have HR0_1 := Ak hr0_1; have HC0_1 := Ak hc0_1; clear hr0_1 hc0_1; have HR0_2 := Ak hr0_2; have HC0_2 := Ak hc0_2; clear hr0_2 hc0_2; have HB := Zq129; have H : ((arboretref12_count.f k a0_0 l0_1 l0_2 (⟨#[35, 97, 100, 100, 114, 101, 115, 115, 45, 99, 101, 108, 108, 115]⟩ : ByteArray) 2).bind fun tbW => ((arboretref12_count.f k a0_0 l0_1 l0_2 (⟨#[35, 115, 105, 122, 101, 45, 99, 101, 108, 108, 115]⟩ : ByteArray) 1).bind fun tcf => (if tbW ≥ 0 then (some (tbW, tcf, decide (tcf ≥ 0))) else (some (tbW, tcf, false))))) = some (r1, r2, r3) := h; clear h; replace H := Option.bind_eq_some_iff.mp H; obtain ⟨tbW, A20, H⟩ := H; replace H : ((arboretref12_count.f k a0_0 l0_1 l0_2 (⟨#[35, 115, 105, 122, 101, 45, 99, 101, 108, 108, 115]⟩ : ByteArray) 1).bind fun tcf => (if tbW ≥ 0 then (some (tbW, tcf, decide (tcf ≥ 0))) else (some (tbW, tcf, false)))) = some (r1, r2, r3) := H; have A2 := Ak A20; clear A20; replace H := Option.bind_eq_some_iff.mp H; obtain ⟨tcf, A30, H⟩ := H; replace H : (if tbW ≥ 0 then (some (tbW, tcf, decide (tcf ≥ 0))) else (some (tbW, tcf, false))) = some (r1, r2, r3) := H; have A3 := Ak A30; clear A30
 by_cases c4 : tbW ≥ 0
 ·rw [if_pos c4] at H; have c4b0 : decide (0 ≤ tbW) = true := decide_eq_true c4; clear c4; simp only [Option.some.injEq, Prod.mk.injEq] at H; obtain ⟨rfl, rfl, rfl⟩ := H
  go_enter Try.func45, Try.ntmps45
  try go_wp2_with (first | ((with_reducible refine gate_dst (N := 1) rfl ?_); refine box_event ?hg (N := 1) ?hd (cs := #[.string a0_0, .slice A0_1 l0_1.length c0_1, .slice A0_2 l0_2.length c0_2]) (t := 30) ?hr ?_; (case hd | hg => rfl); (case hr => first | (go_simp; done) | (go_simp; rfl)); intro gbbc hg w5 hbox hb; have n0_ := Zq122; have n1_ := Ak (hbox); have n2_ := Zq200; have n3_ := Zq200; clear HB; have HB := n0_; have BKbc := n1_; have GWbc := n2_; have GEbc := n3_; clear n0_ n1_ n2_ n3_ hb hbox hg))
  have n0_ := Ak (blk_drew BKbc.out); have n1_ := Zq164; clear BKbc HB; have BKbc := n0_; have HB := n1_; clear n0_ n1_; refine start_ (n := 6) (S := fun w' => w'.cell? ⟨gbbc, 0, none⟩ = some (.string a0_0) ∧ w'.cell? ⟨gbbc, 1, none⟩ = some (.slice A0_1 l0_1.length c0_1) ∧ w'.cell? ⟨gbbc, 2, none⟩ = some (.slice A0_2 l0_2.length c0_2)) (ds := []) #[false, false, false, false, false, false] Zq2 rfl rfl ⟨(blk_cell BKbc.out 0).trans rfl, (blk_cell BKbc.out 1).trans rfl, (blk_cell BKbc.out 2).trans rfl⟩ (fun hHeld => ?_); generalize w5.drew = w6 at BKbc HB hHeld ⊢; refine take_ (i := 0) (N := some 7) (v := ?_) (a' := ?_) #[true, false, false, false, false, false] rfl rfl Zq2 (fun _ _ _ h => h) (Or.inl ⟨Zq3, ?_⟩) hHeld ?_ ?_
  rotate_left
  ·rintro w' ⟨s0, s1, s2⟩
   go_simp
   with_reducible rfl
  rotate_left
  ·simp only [Sx]
   rfl
  refine take_ (i := 2) (N := some 9) (v := ?_) (a' := ?_) #[true, false, true, false, false, false] rfl rfl Zq2 (fun _ _ _ h => h) (Or.inl ⟨Zq3, ?_⟩) hHeld ?_ ?_
  rotate_left
  ·rintro w' ⟨s0, s1, s2⟩
   go_simp
   with_reducible rfl
  rotate_left
  ·simp only [Sx]
   rfl
  refine one_ (i := 1) (N := some 8) #[true, true, true, false, false, false] rfl rfl Zq2 Zq7 (fun K hK => ?_); refine goes_ Try.func72 Zq2 rfl #[.agg #[.string a0_0, .slice A0_1 l0_1.length c0_1, .slice A0_2 l0_2.length c0_2], .string (⟨#[35, 97, 100, 100, 114, 101, 115, 115, 45, 99, 101, 108, 108, 115]⟩ : ByteArray), .int .i64 2] Zq3 rfl rfl Zq9 ?_; with_reducible refine (arboretref12_count.calls k a0_0 _ _ l0_1 _ _ l0_2 (⟨#[35, 97, 100, 100, 114, 101, 115, 115, 45, 99, 101, 108, 108, 115]⟩ : ByteArray) 2 tbW _ ?side1 ?side2 ?side3 ?side4 A2.out).mono ?_
  (case side1 => repeat (first | exact Zq126 | (with_reducible refine Kd.C_alloc ?_ _) | (with_reducible refine Kd.C_drewN ?_ _) | (with_reducible refine Kd.C_drew ?_)))
  (case side2 => exact HC0_1.out)
  (case side3 => repeat (first | exact Zq142 | (with_reducible refine Kd.C_alloc ?_ _) | (with_reducible refine Kd.C_drewN ?_ _) | (with_reducible refine Kd.C_drew ?_)))
  (case side4 => exact HC0_2.out)
  rintro e w7 ⟨rfl, hb⟩
  refine ⟨_, rfl, ?_⟩; have n0_ := Zq162; have n1_ := Ak (below_step Zq83 hb); clear BKbc HB; have BKbc := n0_; have HB := n1_; clear n0_ n1_
  (try clear hb)
  (try clear hb2)
  (try clear hk)
  (try clear hi)
  refine hK.out _ _ ⟨(blk_cell BKbc.out 0).trans rfl, (blk_cell BKbc.out 1).trans rfl, (blk_cell BKbc.out 2).trans rfl⟩ (fun hHeld => ?_); clear hK K; refine norm_ (a' := ?_) ?_ ?_
  rotate_left
  ·show Act.put _ (some 8) _ = _
   simp only [Sx]
   rfl
  refine one_ (i := 3) (N := some 10) #[true, true, true, true, false, false] rfl rfl Zq2 Zq7 (fun K hK => ?_); refine goes_ Try.func72 Zq2 rfl #[.agg #[.string a0_0, .slice A0_1 l0_1.length c0_1, .slice A0_2 l0_2.length c0_2], .string (⟨#[35, 115, 105, 122, 101, 45, 99, 101, 108, 108, 115]⟩ : ByteArray), .int .i64 1] Zq3 rfl rfl Zq9 ?_; with_reducible refine (arboretref12_count.calls k a0_0 _ _ l0_1 _ _ l0_2 (⟨#[35, 115, 105, 122, 101, 45, 99, 101, 108, 108, 115]⟩ : ByteArray) 1 tcf _ ?side1 ?side2 ?side3 ?side4 A3.out).mono ?_
  (case side1 => repeat (first | exact Zq126 | (with_reducible refine Kd.C_alloc ?_ _) | (with_reducible refine Kd.C_drewN ?_ _) | (with_reducible refine Kd.C_drew ?_)))
  (case side2 => exact HC0_1.out)
  (case side3 => repeat (first | exact Zq142 | (with_reducible refine Kd.C_alloc ?_ _) | (with_reducible refine Kd.C_drewN ?_ _) | (with_reducible refine Kd.C_drew ?_)))
  (case side4 => exact HC0_2.out)
  rintro e w8 ⟨rfl, hb⟩
  refine ⟨_, rfl, ?_⟩; have n0_ := Zq162; have n1_ := Ak (below_step Zq83 hb); clear BKbc HB; have BKbc := n0_; have HB := n1_; clear n0_ n1_
  (try clear hb)
  (try clear hb2)
  (try clear hk)
  (try clear hi)
  refine hK.out _ _ ⟨(blk_cell BKbc.out 0).trans rfl, (blk_cell BKbc.out 1).trans rfl, (blk_cell BKbc.out 2).trans rfl⟩ (fun hHeld => ?_); clear hK K; refine norm_ (a' := ?_) ?_ ?_
  rotate_left
  ·show Act.put _ (some 10) _ = _
   simp only [Sx]
   rfl
  refine pure_ (i := 4) (N := some 5) (v := ?_) (a' := ?_) #[true, true, true, true, true, false] rfl rfl Zq2 (fun _ _ _ h => h) (Or.inl ⟨Zq3, ?_⟩) ?_ ?_
  rotate_left
  ·intro w'
   go_simp
   with_reducible rfl
  rotate_left
  ·simp only [Sx]
   rfl
  refine pure_ (i := 5) (N := some 6) (v := ?_) (a' := ?_) #[true, true, true, true, true, true] rfl rfl Zq2 (fun _ _ _ h => h) (Or.inl ⟨Zq3, ?_⟩) ?_ ?_
  rotate_left
  ·intro w'
   go_simp
   with_reducible rfl
  rotate_left
  ·simp only [Sx]
   rfl
  refine done_ Zq2 ?_
  try go_wp2
  go_ret3
  exact ⟨Zq10, Zq83⟩
 ·rw [if_neg c4] at H; have c4b0 : decide (0 ≤ tbW) = false := decide_eq_false c4; clear c4; simp only [Option.some.injEq, Prod.mk.injEq] at H; obtain ⟨rfl, rfl, rfl⟩ := H
  go_enter Try.func45, Try.ntmps45
  try go_wp2_with (first | ((with_reducible refine gate_dst (N := 1) rfl ?_); refine box_event ?hg (N := 1) ?hd (cs := #[.string a0_0, .slice A0_1 l0_1.length c0_1, .slice A0_2 l0_2.length c0_2]) (t := 30) ?hr ?_; (case hd | hg => rfl); (case hr => first | (go_simp; done) | (go_simp; rfl)); intro gbbc hg w9 hbox hb; have n0_ := Zq122; have n1_ := Ak (hbox); have n2_ := Zq200; have n3_ := Zq200; clear HB; have HB := n0_; have BKbc := n1_; have GWbc := n2_; have GEbc := n3_; clear n0_ n1_ n2_ n3_ hb hbox hg))
  have n0_ := Ak (blk_drew BKbc.out); have n1_ := Zq164; clear BKbc HB; have BKbc := n0_; have HB := n1_; clear n0_ n1_; refine start_ (n := 6) (S := fun w' => w'.cell? ⟨gbbc, 0, none⟩ = some (.string a0_0) ∧ w'.cell? ⟨gbbc, 1, none⟩ = some (.slice A0_1 l0_1.length c0_1) ∧ w'.cell? ⟨gbbc, 2, none⟩ = some (.slice A0_2 l0_2.length c0_2)) (ds := []) #[false, false, false, false, false, false] Zq2 rfl rfl ⟨(blk_cell BKbc.out 0).trans rfl, (blk_cell BKbc.out 1).trans rfl, (blk_cell BKbc.out 2).trans rfl⟩ (fun hHeld => ?_); generalize w9.drew = w10 at BKbc HB hHeld ⊢; refine take_ (i := 0) (N := some 7) (v := ?_) (a' := ?_) #[true, false, false, false, false, false] rfl rfl Zq2 (fun _ _ _ h => h) (Or.inl ⟨Zq3, ?_⟩) hHeld ?_ ?_
  rotate_left
  ·rintro w' ⟨s0, s1, s2⟩
   go_simp
   with_reducible rfl
  rotate_left
  ·simp only [Sx]
   rfl
  refine take_ (i := 2) (N := some 9) (v := ?_) (a' := ?_) #[true, false, true, false, false, false] rfl rfl Zq2 (fun _ _ _ h => h) (Or.inl ⟨Zq3, ?_⟩) hHeld ?_ ?_
  rotate_left
  ·rintro w' ⟨s0, s1, s2⟩
   go_simp
   with_reducible rfl
  rotate_left
  ·simp only [Sx]
   rfl
  refine one_ (i := 1) (N := some 8) #[true, true, true, false, false, false] rfl rfl Zq2 Zq7 (fun K hK => ?_); refine goes_ Try.func72 Zq2 rfl #[.agg #[.string a0_0, .slice A0_1 l0_1.length c0_1, .slice A0_2 l0_2.length c0_2], .string (⟨#[35, 97, 100, 100, 114, 101, 115, 115, 45, 99, 101, 108, 108, 115]⟩ : ByteArray), .int .i64 2] Zq3 rfl rfl Zq9 ?_; with_reducible refine (arboretref12_count.calls k a0_0 _ _ l0_1 _ _ l0_2 (⟨#[35, 97, 100, 100, 114, 101, 115, 115, 45, 99, 101, 108, 108, 115]⟩ : ByteArray) 2 tbW _ ?side1 ?side2 ?side3 ?side4 A2.out).mono ?_
  (case side1 => repeat (first | exact Zq126 | (with_reducible refine Kd.C_alloc ?_ _) | (with_reducible refine Kd.C_drewN ?_ _) | (with_reducible refine Kd.C_drew ?_)))
  (case side2 => exact HC0_1.out)
  (case side3 => repeat (first | exact Zq142 | (with_reducible refine Kd.C_alloc ?_ _) | (with_reducible refine Kd.C_drewN ?_ _) | (with_reducible refine Kd.C_drew ?_)))
  (case side4 => exact HC0_2.out)
  rintro e w11 ⟨rfl, hb⟩
  refine ⟨_, rfl, ?_⟩; have n0_ := Zq162; have n1_ := Ak (below_step Zq83 hb); clear BKbc HB; have BKbc := n0_; have HB := n1_; clear n0_ n1_
  (try clear hb)
  (try clear hb2)
  (try clear hk)
  (try clear hi)
  refine hK.out _ _ ⟨(blk_cell BKbc.out 0).trans rfl, (blk_cell BKbc.out 1).trans rfl, (blk_cell BKbc.out 2).trans rfl⟩ (fun hHeld => ?_); clear hK K; refine norm_ (a' := ?_) ?_ ?_
  rotate_left
  ·show Act.put _ (some 8) _ = _
   simp only [Sx]
   rfl
  refine one_ (i := 3) (N := some 10) #[true, true, true, true, false, false] rfl rfl Zq2 Zq7 (fun K hK => ?_); refine goes_ Try.func72 Zq2 rfl #[.agg #[.string a0_0, .slice A0_1 l0_1.length c0_1, .slice A0_2 l0_2.length c0_2], .string (⟨#[35, 115, 105, 122, 101, 45, 99, 101, 108, 108, 115]⟩ : ByteArray), .int .i64 1] Zq3 rfl rfl Zq9 ?_; with_reducible refine (arboretref12_count.calls k a0_0 _ _ l0_1 _ _ l0_2 (⟨#[35, 115, 105, 122, 101, 45, 99, 101, 108, 108, 115]⟩ : ByteArray) 1 tcf _ ?side1 ?side2 ?side3 ?side4 A3.out).mono ?_
  (case side1 => repeat (first | exact Zq126 | (with_reducible refine Kd.C_alloc ?_ _) | (with_reducible refine Kd.C_drewN ?_ _) | (with_reducible refine Kd.C_drew ?_)))
  (case side2 => exact HC0_1.out)
  (case side3 => repeat (first | exact Zq142 | (with_reducible refine Kd.C_alloc ?_ _) | (with_reducible refine Kd.C_drewN ?_ _) | (with_reducible refine Kd.C_drew ?_)))
  (case side4 => exact HC0_2.out)
  rintro e w12 ⟨rfl, hb⟩
  refine ⟨_, rfl, ?_⟩; have n0_ := Zq162; have n1_ := Ak (below_step Zq83 hb); clear BKbc HB; have BKbc := n0_; have HB := n1_; clear n0_ n1_
  (try clear hb)
  (try clear hb2)
  (try clear hk)
  (try clear hi)
  refine hK.out _ _ ⟨(blk_cell BKbc.out 0).trans rfl, (blk_cell BKbc.out 1).trans rfl, (blk_cell BKbc.out 2).trans rfl⟩ (fun hHeld => ?_); clear hK K; refine norm_ (a' := ?_) ?_ ?_
  rotate_left
  ·show Act.put _ (some 10) _ = _
   simp only [Sx]
   rfl
  refine pure_ (i := 4) (N := some 5) (v := ?_) (a' := ?_) #[true, true, true, true, true, false] rfl rfl Zq2 (fun _ _ _ h => h) (Or.inl ⟨Zq3, ?_⟩) ?_ ?_
  rotate_left
  ·intro w'
   go_simp
   with_reducible rfl
  rotate_left
  ·simp only [Sx]
   rfl
  refine pure_ (i := 5) (N := some 6) (v := ?_) (a' := ?_) #[true, true, true, true, true, true] rfl rfl Zq2 (fun _ _ _ h => h) (Or.inl ⟨Zq3, ?_⟩) ?_ ?_
  rotate_left
  ·intro w'
   go_simp
   with_reducible rfl
  rotate_left
  ·simp only [Sx]
   rfl
  refine done_ Zq2 ?_
  try go_wp2
  go_ret3
  exact ⟨Zq10, Zq83⟩
def arboretref12_wide.f (k : Nat) (l0 : List Int) : Option (Int) := (arboretref01_Number.f k l0 0 (l0.length : Int)).bind fun bteq => (some bteq.1)
set_option maxHeartbeats 8000000 in
set_option maxRecDepth 100000 in
theorem arboretref12_wide.calls (k : Nat) (A0 : Option Addr) (c0 : Nat) (l0 : List Int) (r : Int) (w : World) (hr0 : Kd.C (Kd.int .u8) w A0 l0.length l0) (hc0 : l0.length ≤ c0) (h : arboretref12_wide.f k l0 = some r) :
  Calls Try.prog 46 #[.slice A0 l0.length c0] w fun e w' => e = .returned (.int .u64 r) ∧ Drawn0 w w' := by
 have HR0 := Ak hr0; have HC0 := Ak hc0; clear hr0 hc0; have H : ((arboretref01_Number.f k l0 0 (l0.length : Int)).bind fun bteq => (some bteq.1)) = some r := h; clear h; replace H := Option.bind_eq_some_iff.mp H; obtain ⟨⟨teq, tgj⟩, A20, H⟩ := H; replace H : (some teq) = some r := H; have A2 := Ak A20; clear A20; obtain rfl := Option.some.inj H
 go_enter Try.func46, Try.ntmps46
 go_wp2_with (first | ((with_reducible refine gate_callee (f := 73) rfl ?_); refine goesL_ (some 9) rfl rfl Try.func73 Zq2 rfl #[.slice A0 l0.length c0, .int .i64 0, .int .i64 (l0.length : Int)] rfl Zq9 ?_; (with_reducible refine (arboretref01_Number.calls k _ _ l0 0 (l0.length : Int) teq tgj _ ?side1 ?side2 A2.out).mono ?_); (case side1 => repeat (first | exact HR0.out | (with_reducible refine Kd.C_alloc ?_ _) | (with_reducible refine Kd.C_drewN ?_ _) | (with_reducible refine Kd.C_drew ?_))); (case side2 => exact HC0.out); rintro e w' ⟨rfl, ⟨nd, rfl⟩⟩; refine ⟨_, rfl, ?_⟩))
 go_ret
 exact ⟨Zq6, Zq11⟩
mutual
def arboretref12_Ranges.j0 : Nat → List Int → Int → Int → Int → Bool → Option ((List (S45)) × Bool × Bool)
 | 0, _, _, _, _, _ => none
 | k + 1, x8, x9, x10, x12, x65 => if x65 = true then (some (([] : List (S45)), false, false)) else (if (x8.length : Int) = 0 then (some ((([(⟨0, 0, 18446744073709551615⟩ : S45)] : List (S45))), true, true)) else (arboretref12_Ranges.l0 k x8 x9 x10 x12 ([] : List (S45)) 0))
def arboretref12_Ranges.l0 : Nat → List Int → Int → Int → Int → List (S45) → Int → Option ((List (S45)) × Bool × Bool)
 | 0, _, _, _, _, _, _ => none
 | k + 1, x8, x9, x10, x12, x15, x16 => if x16 < (x8.length : Int) then (if 0 ≤ x16 then (if x16 ≤ (wrap64 (x16 + (wrap64 (4 * (wrap64 ((wrap64 (x9 + x12)) + x10)))))) then (if (wrap64 (x16 + (wrap64 (4 * (wrap64 ((wrap64 (x9 + x12)) + x10)))))) ≤ (x8.length : Int) then (if 0 ≤ (wrap64 (4 * x9)) then (if (wrap64 (4 * x9)) ≤ (((x8.take ((wrap64 (x16 + (wrap64 (4 * (wrap64 ((wrap64 (x9 + x12)) + x10)))))) : Int).toNat).drop (x16 : Int).toNat).length : Int) then ((arboretref12_wide.f k (((x8.take ((wrap64 (x16 + (wrap64 (4 * (wrap64 ((wrap64 (x9 + x12)) + x10)))))) : Int).toNat).drop (x16 : Int).toNat).take ((wrap64 (4 * x9)) : Int).toNat)).bind fun tcH => (if (wrap64 (4 * x9)) ≤ (wrap64 ((wrap64 (4 * x9)) + (wrap64 (4 * x12)))) then (if (wrap64 ((wrap64 (4 * x9)) + (wrap64 (4 * x12)))) ≤ (((x8.take ((wrap64 (x16 + (wrap64 (4 * (wrap64 ((wrap64 (x9 + x12)) + x10)))))) : Int).toNat).drop (x16 : Int).toNat).length : Int) then ((arboretref12_wide.f k ((((x8.take ((wrap64 (x16 + (wrap64 (4 * (wrap64 ((wrap64 (x9 + x12)) + x10)))))) : Int).toNat).drop (x16 : Int).toNat).take ((wrap64 ((wrap64 (4 * x9)) + (wrap64 (4 * x12)))) : Int).toNat).drop ((wrap64 (4 * x9)) : Int).toNat)).bind fun tcv => (if 0 ≤ (wrap64 ((wrap64 (4 * x9)) + (wrap64 (4 * x12)))) then ((arboretref12_wide.f k (((x8.take ((wrap64 (x16 + (wrap64 (4 * (wrap64 ((wrap64 (x9 + x12)) + x10)))))) : Int).toNat).drop (x16 : Int).toNat).drop ((wrap64 ((wrap64 (4 * x9)) + (wrap64 (4 * x12)))) : Int).toNat)).bind fun tck => (if x15.length < 5864062014805 then (arboretref12_Ranges.l0 k x8 x9 x10 x12 (x15 ++ [(⟨tcH, tcv, tck⟩ : S45)]) (wrap64 (x16 + (wrap64 (4 * (wrap64 ((wrap64 (x9 + x12)) + x10))))))) else (none))) else (none))) else (none)) else (none))) else (none)) else (none)) else (none)) else (none)) else (none)) else (some (x15, true, true))
end
def arboretref12_Ranges.f (k : Nat) (a0_0 : ByteArray) (l0_1 : List (S77)) (l0_2 : List (S30)) (a1_0 : ByteArray) (l1_1 : List (S77)) (l1_2 : List (S30)) : Option ((List (S45)) × Bool × Bool) := (arboretref01_Find.f k a1_0 l1_1 l1_2 (⟨#[114, 97, 110, 103, 101, 115]⟩ : ByteArray)).bind fun tan => (if tan < 0 then (some (([] : List (S45)), false, true)) else (if 0 ≤ tan then (if tan < (l1_1.length : Int) then ((arboretref12_Counts.f k a1_0 l1_1 l1_2).bind fun btah => ((arboretref12_Counts.f k a0_0 l0_1 l0_2).bind fun btai => (if btah.2.2 = true then (if btai.2.2 = true then (if btah.1 = 0 then (arboretref12_Ranges.j0 k ((rd_T77 l1_1 tan).f1) btah.1 btah.2.1 btai.1 true) else (if btai.1 = 0 then (arboretref12_Ranges.j0 k ((rd_T77 l1_1 tan).f1) btah.1 btah.2.1 btai.1 true) else (if (wrap64 (4 * (wrap64 ((wrap64 (btah.1 + btai.1)) + btah.2.1)))) = 0 then (none) else (arboretref12_Ranges.j0 k ((rd_T77 l1_1 tan).f1) btah.1 btah.2.1 btai.1 (((((rd_T77 l1_1 tan).f1).length : Int) % (wrap64 (4 * (wrap64 ((wrap64 (btah.1 + btai.1)) + btah.2.1))))) != 0))))) else (arboretref12_Ranges.j0 k ((rd_T77 l1_1 tan).f1) btah.1 btah.2.1 btai.1 true)) else (arboretref12_Ranges.j0 k ((rd_T77 l1_1 tan).f1) btah.1 btah.2.1 btai.1 true)))) else (none)) else (none)))
def arboretref12_Ranges.T16 : Bool × List (List Nat × List Nat) := (true, [([], []), ([], []), ([], []), ([2], [2]), ([1, 3], [1, 3]), ([4], [4]), ([], []), ([], []), ([7], [7]), ([], []), ([9], [9]), ([], []), ([11], [11]), ([10, 12], [10, 12]), ([6, 8, 13], [6, 8, 13]), ([14, 5], [14]), ([], []), ([], []), ([17], [17]), ([], []), ([19], [19]), ([18, 20], [18, 20]), ([16, 21], [16, 21]), ([22, 15], [22]), ([5, 15, 23], [5, 15, 23]), ([24], [24]), ([0, 25, 23], [0, 25]), ([26, 26, 0, 1, 2, 3, 4, 5, 6, 7, 8, 9, 10, 11, 12, 13, 14, 15, 16, 17, 18, 19, 20, 21, 22, 23, 24, 25, 26], [0, 26])])
def arboretref12_Ranges.B16 : List Nat := [0, 0, 0, 4, 14, 30, 0, 0, 128, 0, 512, 0, 2048, 7680, 16320, 32766, 0, 0, 131072, 0, 524288, 1966080, 4128768, 8388606, 16777214, 33554430, 67108863, 134217727]
theorem arboretref12_Ranges.tab16 : rtab .any (opsOf Try.f18 16) = arboretref12_Ranges.T16 := by kernel_rfl
theorem arboretref12_Ranges.bits16 : waitsOk arboretref12_Ranges.T16.2 arboretref12_Ranges.B16 = true := by kernel_rfl
end Go.Proofs.Yteejaaeglfpcmab.PX

namespace Go.Proofs.Yteejaaeglfpcmab.PX
open Go.RowKit Go.Proofs.YteejaaeglfpcmabW.PrintWords Go.Proofs.YteejaaeglfpcmabW.PrintLast Go.Proofs.YteejaaeglfpcmabW.PrintMore
attribute [local go_sem] max2_int min2_int max_two min_two max_three min_three max_four min_four
set_option maxHeartbeats 8000000 in
set_option maxRecDepth 100000 in
theorem arboretref12_Ranges.calls (k : Nat) (a0_0 : ByteArray) (A0_1 : Option Addr) (c0_1 : Nat) (l0_1 : List (S77)) (A0_2 : Option Addr) (c0_2 : Nat) (l0_2 : List (S30)) (a1_0 : ByteArray) (A1_1 : Option Addr) (c1_1 : Nat) (l1_1 : List (S77)) (A1_2 : Option Addr) (c1_2 : Nat) (l1_2 : List (S30)) (r1 : List (S45)) (r2 : Bool) (r3 : Bool) (w : World) (hr0_1 : Kd.C k77 w A0_1 l0_1.length l0_1) (hc0_1 : l0_1.length ≤ c0_1) (hr0_2 : Kd.C k30 w A0_2 l0_2.length l0_2) (hc0_2 : l0_2.length ≤ c0_2) (hr1_1 : Kd.C k77 w A1_1 l1_1.length l1_1) (hc1_1 : l1_1.length ≤ c1_1) (hr1_2 : Kd.C k30 w A1_2 l1_2.length l1_2) (hc1_2 : l1_2.length ≤ c1_2) (h : arboretref12_Ranges.f k a0_0 l0_1 l0_2 a1_0 l1_1 l1_2 = some (r1, r2, r3)) :
  Calls Try.prog 18 #[.agg #[.string a0_0, .slice A0_1 l0_1.length c0_1, .slice A0_2 l0_2.length c0_2], .agg #[.string a1_0, .slice A1_1 l1_1.length c1_1, .slice A1_2 l1_2.length c1_2]] w fun e w' => ∃ v0_ : Value, e = .returned (.tuple #[v0_, .bool r2, .bool r3]) ∧ Kd.R k45 45 w' w.heap.size (fun _ => True) v0_ r1 ∧ Below w.heap.size w w' := by
 have hu30 := Try.underlying30; have hu45 := Try.underlying45; have HR0_1 := Ak hr0_1; have HC0_1 := Ak hc0_1; clear hr0_1 hc0_1; have HR0_2 := Ak hr0_2; have HC0_2 := Ak hc0_2; clear hr0_2 hc0_2; have HR1_1 := Ak hr1_1; have HC1_1 := Ak hc1_1; clear hr1_1 hc1_1; have HR1_2 := Ak hr1_2; have HC1_2 := Ak hc1_2; clear hr1_2 hc1_2; have HB := Zq129; have H : ((arboretref01_Find.f k a1_0 l1_1 l1_2 (⟨#[114, 97, 110, 103, 101, 115]⟩ : ByteArray)).bind fun tan => (if tan < 0 then (some (([] : List (S45)), false, true)) else (if 0 ≤ tan then (if tan < (l1_1.length : Int) then ((arboretref12_Counts.f k a1_0 l1_1 l1_2).bind fun btah => ((arboretref12_Counts.f k a0_0 l0_1 l0_2).bind fun btai => (if btah.2.2 = true then (if btai.2.2 = true then (if btah.1 = 0 then (arboretref12_Ranges.j0 k ((rd_T77 l1_1 tan).f1) btah.1 btah.2.1 btai.1 true) else (if btai.1 = 0 then (arboretref12_Ranges.j0 k ((rd_T77 l1_1 tan).f1) btah.1 btah.2.1 btai.1 true) else (if (wrap64 (4 * (wrap64 ((wrap64 (btah.1 + btai.1)) + btah.2.1)))) = 0 then (none) else (arboretref12_Ranges.j0 k ((rd_T77 l1_1 tan).f1) btah.1 btah.2.1 btai.1 (((((rd_T77 l1_1 tan).f1).length : Int) % (wrap64 (4 * (wrap64 ((wrap64 (btah.1 + btai.1)) + btah.2.1))))) != 0))))) else (arboretref12_Ranges.j0 k ((rd_T77 l1_1 tan).f1) btah.1 btah.2.1 btai.1 true)) else (arboretref12_Ranges.j0 k ((rd_T77 l1_1 tan).f1) btah.1 btah.2.1 btai.1 true)))) else (none)) else (none)))) = some (r1, r2, r3) := h; clear h; replace H := Option.bind_eq_some_iff.mp H; obtain ⟨tan, A30, H⟩ := H; replace H : (if tan < 0 then (some (([] : List (S45)), false, true)) else (if 0 ≤ tan then (if tan < (l1_1.length : Int) then ((arboretref12_Counts.f k a1_0 l1_1 l1_2).bind fun btah => ((arboretref12_Counts.f k a0_0 l0_1 l0_2).bind fun btai => (if btah.2.2 = true then (if btai.2.2 = true then (if btah.1 = 0 then (arboretref12_Ranges.j0 k ((rd_T77 l1_1 tan).f1) btah.1 btah.2.1 btai.1 true) else (if btai.1 = 0 then (arboretref12_Ranges.j0 k ((rd_T77 l1_1 tan).f1) btah.1 btah.2.1 btai.1 true) else (if (wrap64 (4 * (wrap64 ((wrap64 (btah.1 + btai.1)) + btah.2.1)))) = 0 then (none) else (arboretref12_Ranges.j0 k ((rd_T77 l1_1 tan).f1) btah.1 btah.2.1 btai.1 (((((rd_T77 l1_1 tan).f1).length : Int) % (wrap64 (4 * (wrap64 ((wrap64 (btah.1 + btai.1)) + btah.2.1))))) != 0))))) else (arboretref12_Ranges.j0 k ((rd_T77 l1_1 tan).f1) btah.1 btah.2.1 btai.1 true)) else (arboretref12_Ranges.j0 k ((rd_T77 l1_1 tan).f1) btah.1 btah.2.1 btai.1 true)))) else (none)) else (none))) = some (r1, r2, r3) := H; have A3 := Ak A30; clear A30
 by_cases c4 : tan < 0
 ·rw [if_pos c4] at H; have c4b0 : decide (tan < 0) = true := decide_eq_true c4; clear c4; simp only [Option.some.injEq, Prod.mk.injEq] at H; obtain ⟨rfl, rfl, rfl⟩ := H
  go_enter Try.func18, Try.ntmps18
  go_wp2_with (first | ((with_reducible refine gate_dst (N := 2) rfl ?_); (try (refine gate_guard Zq3 ?_; dsimp only)); refine box_event ?hg (N := 2) ?hd (cs := #[.string a0_0, .slice A0_1 l0_1.length c0_1, .slice A0_2 l0_2.length c0_2]) (t := 30) ?hr ?_; (case hd | hg => rfl); (case hr => first | (go_simp; done) | (go_simp; rfl)); intro gbbb hg w5 hbox hb; have n0_ := Zq122; have n1_ := Ak (hbox); have n2_ := Zq201; have n3_ := Zq201; clear HB; have HB := n0_; have BKbb := n1_; have GWbb := n2_; have GEbb := n3_; clear n0_ n1_ n2_ n3_ hb hbox hg) | ((with_reducible refine gate_dst (N := 3) rfl ?_); (try (refine gate_guard Zq3 ?_; dsimp only)); refine box_event ?hg (N := 3) ?hd (cs := #[.string a1_0, .slice A1_1 l1_1.length c1_1, .slice A1_2 l1_2.length c1_2]) (t := 30) ?hr ?_; (case hd | hg => rfl); (case hr => first | (go_simp; done) | (go_simp; rfl)); intro gbaR hg w6 hbox hb; have n0_ := Zq135; have n1_ := Ak (below_step Zq84 hb); have n2_ := Ak (hbox); have n3_ := Zq191; have n4_ := Zq191; have n5_ := Ak ((by rw [hg]; exact Nat.ne_of_lt Zq169 : gbbb ≠ gbaR)); have n6_ := Ak ((by rw [hg]; exact Nat.ne_of_gt Zq169 : gbaR ≠ gbbb)); clear BKbb HB; have BKbb := n0_; have HB := n1_; have BKaR := n2_; have GWaR := n3_; have GEaR := n4_; have NB306_307 := n5_; have NB307_306 := n6_; clear n0_ n1_ n2_ n3_ n4_ n5_ n6_ hb hbox hg; have hnb7 := NB307_306.out; have hnc7 := NB306_307.out; have hcz8_0 : w6.cell? ⟨gbaR, 0, none⟩ = some (.string a1_0) := (blk_cell BKaR.out 0).trans rfl; have hcz8_1 : w6.cell? ⟨gbaR, 1, none⟩ = some (.slice A1_1 l1_1.length c1_1) := (blk_cell BKaR.out 1).trans rfl; have hcz8_2 : w6.cell? ⟨gbaR, 2, none⟩ = some (.slice A1_2 l1_2.length c1_2) := (blk_cell BKaR.out 2).trans rfl; have hfz8_0 := blk_frozen BKaR.out 0; have hfz8_1 := blk_frozen BKaR.out 1; have hfz8_2 := blk_frozen BKaR.out 2) | ((with_reducible refine gate_callee (f := 32) rfl ?_); refine goesL_ (some 19) rfl rfl Try.func32 Zq2 rfl #[.agg #[.string a1_0, .slice A1_1 l1_1.length c1_1, .slice A1_2 l1_2.length c1_2], .string (⟨#[114, 97, 110, 103, 101, 115]⟩ : ByteArray)] rfl Zq114 ?_; (with_reducible refine (arboretref01_Find.calls k a1_0 _ _ l1_1 _ _ l1_2 (⟨#[114, 97, 110, 103, 101, 115]⟩ : ByteArray) tan _ ?side1 ?side2 ?side3 ?side4 A3.out).mono ?_); (case side1 => repeat (first | exact Zq176 | (with_reducible refine Kd.C_alloc ?_ _) | (with_reducible refine Kd.C_drewN ?_ _) | (with_reducible refine Kd.C_drew ?_))); (case side2 => exact HC1_1.out); (case side3 => repeat (first | exact Zq177 | (with_reducible refine Kd.C_alloc ?_ _) | (with_reducible refine Kd.C_drewN ?_ _) | (with_reducible refine Kd.C_drew ?_))); (case side4 => exact HC1_2.out); rintro e w9 ⟨rfl, hb⟩; refine ⟨_, rfl, ?_⟩; have n0_ := Zq135; have n1_ := Zq218; have n2_ := Ak (below_step Zq25 hb); clear BKbb BKaR HB; have BKbb := n0_; have BKaR := n1_; have HB := n2_; clear n0_ n1_ n2_; (try clear hb); (try clear hb2); (try clear hk); (try clear hi)))
  go_ret3
  exact ⟨_, Zq10, Zq32, Zq25⟩
 ·rw [if_neg c4] at H; have c4b0 : decide (tan < 0) = false := decide_eq_false c4; clear c4
  by_cases c10 : 0 ≤ tan
  ·rw [if_pos c10] at H; have c10b0 : decide (0 ≤ tan) = true := decide_eq_true c10; clear c10
   by_cases c11 : tan < (l1_1.length : Int)
   ·rw [if_pos c11] at H; have c11b0 : decide (tan < (l1_1.length : Int)) = true := decide_eq_true c11; clear c11; replace H := Option.bind_eq_some_iff.mp H; obtain ⟨⟨tah, taw, teX⟩, AeG, H⟩ := H; replace H : ((arboretref12_Counts.f k a0_0 l0_1 l0_2).bind fun btai => (if teX = true then (if btai.2.2 = true then (if tah = 0 then (arboretref12_Ranges.j0 k ((rd_T77 l1_1 tan).f1) tah taw btai.1 true) else (if btai.1 = 0 then (arboretref12_Ranges.j0 k ((rd_T77 l1_1 tan).f1) tah taw btai.1 true) else (if (wrap64 (4 * (wrap64 ((wrap64 (tah + btai.1)) + taw)))) = 0 then (none) else (arboretref12_Ranges.j0 k ((rd_T77 l1_1 tan).f1) tah taw btai.1 (((((rd_T77 l1_1 tan).f1).length : Int) % (wrap64 (4 * (wrap64 ((wrap64 (tah + btai.1)) + taw))))) != 0))))) else (arboretref12_Ranges.j0 k ((rd_T77 l1_1 tan).f1) tah taw btai.1 true)) else (arboretref12_Ranges.j0 k ((rd_T77 l1_1 tan).f1) tah taw btai.1 true))) = some (r1, r2, r3) := H; have A12 := Ak AeG; clear AeG; replace H := Option.bind_eq_some_iff.mp H; obtain ⟨⟨tai, tgk, teY⟩, AaA, H⟩ := H; replace H : (if teX = true then (if teY = true then (if tah = 0 then (arboretref12_Ranges.j0 k ((rd_T77 l1_1 tan).f1) tah taw tai true) else (if tai = 0 then (arboretref12_Ranges.j0 k ((rd_T77 l1_1 tan).f1) tah taw tai true) else (if (wrap64 (4 * (wrap64 ((wrap64 (tah + tai)) + taw)))) = 0 then (none) else (arboretref12_Ranges.j0 k ((rd_T77 l1_1 tan).f1) tah taw tai (((((rd_T77 l1_1 tan).f1).length : Int) % (wrap64 (4 * (wrap64 ((wrap64 (tah + tai)) + taw))))) != 0))))) else (arboretref12_Ranges.j0 k ((rd_T77 l1_1 tan).f1) tah taw tai true)) else (arboretref12_Ranges.j0 k ((rd_T77 l1_1 tan).f1) tah taw tai true)) = some (r1, r2, r3) := H; have A13 := Ak AaA; clear AaA; have HC14 := Ak H; clear H
    go_enter Try.func18, Try.ntmps18
    go_upto_region 7 with (first | ((with_reducible refine gate_dst (N := 2) rfl ?_); (try (refine gate_guard Zq3 ?_; dsimp only)); refine box_event ?hg (N := 2) ?hd (cs := #[.string a0_0, .slice A0_1 l0_1.length c0_1, .slice A0_2 l0_2.length c0_2]) (t := 30) ?hr ?_; (case hd | hg => rfl); (case hr => first | (go_simp; done) | (go_simp; rfl)); intro gbbb hg w15 hbox hb; have n0_ := Zq122; have n1_ := Ak (hbox); have n2_ := Zq201; have n3_ := Zq201; clear HB; have HB := n0_; have BKbb := n1_; have GWbb := n2_; have GEbb := n3_; clear n0_ n1_ n2_ n3_ hb hbox hg) | ((with_reducible refine gate_dst (N := 3) rfl ?_); (try (refine gate_guard Zq3 ?_; dsimp only)); refine box_event ?hg (N := 3) ?hd (cs := #[.string a1_0, .slice A1_1 l1_1.length c1_1, .slice A1_2 l1_2.length c1_2]) (t := 30) ?hr ?_; (case hd | hg => rfl); (case hr => first | (go_simp; done) | (go_simp; rfl)); intro gbaR hg w16 hbox hb; have n0_ := Zq135; have n1_ := Ak (below_step Zq84 hb); have n2_ := Ak (hbox); have n3_ := Zq191; have n4_ := Zq191; have n5_ := Ak ((by rw [hg]; exact Nat.ne_of_lt Zq169 : gbbb ≠ gbaR)); have n6_ := Ak ((by rw [hg]; exact Nat.ne_of_gt Zq169 : gbaR ≠ gbbb)); clear BKbb HB; have BKbb := n0_; have HB := n1_; have BKaR := n2_; have GWaR := n3_; have GEaR := n4_; have NB306_307 := n5_; have NB307_306 := n6_; clear n0_ n1_ n2_ n3_ n4_ n5_ n6_ hb hbox hg; have hnb17 := NB307_306.out; have hnc17 := NB306_307.out; have hcz18_0 : w16.cell? ⟨gbaR, 0, none⟩ = some (.string a1_0) := (blk_cell BKaR.out 0).trans rfl; have hcz18_1 : w16.cell? ⟨gbaR, 1, none⟩ = some (.slice A1_1 l1_1.length c1_1) := (blk_cell BKaR.out 1).trans rfl; have hcz18_2 : w16.cell? ⟨gbaR, 2, none⟩ = some (.slice A1_2 l1_2.length c1_2) := (blk_cell BKaR.out 2).trans rfl; have hfz18_0 := blk_frozen BKaR.out 0; have hfz18_1 := blk_frozen BKaR.out 1; have hfz18_2 := blk_frozen BKaR.out 2) | ((with_reducible refine gate_callee (f := 32) rfl ?_); refine goesL_ (some 19) rfl rfl Try.func32 Zq2 rfl #[.agg #[.string a1_0, .slice A1_1 l1_1.length c1_1, .slice A1_2 l1_2.length c1_2], .string (⟨#[114, 97, 110, 103, 101, 115]⟩ : ByteArray)] rfl Zq114 ?_; (with_reducible refine (arboretref01_Find.calls k a1_0 _ _ l1_1 _ _ l1_2 (⟨#[114, 97, 110, 103, 101, 115]⟩ : ByteArray) tan _ ?side1 ?side2 ?side3 ?side4 A3.out).mono ?_); (case side1 => repeat (first | exact Zq176 | (with_reducible refine Kd.C_alloc ?_ _) | (with_reducible refine Kd.C_drewN ?_ _) | (with_reducible refine Kd.C_drew ?_))); (case side2 => exact HC1_1.out); (case side3 => repeat (first | exact Zq177 | (with_reducible refine Kd.C_alloc ?_ _) | (with_reducible refine Kd.C_drewN ?_ _) | (with_reducible refine Kd.C_drew ?_))); (case side4 => exact HC1_2.out); rintro e w19 ⟨rfl, hb⟩; refine ⟨_, rfl, ?_⟩; have n0_ := Zq135; have n1_ := Zq218; have n2_ := Ak (below_step Zq25 hb); clear BKbb BKaR HB; have BKbb := n0_; have BKaR := n1_; have HB := n2_; clear n0_ n1_ n2_; (try clear hb); (try clear hb2); (try clear hk); (try clear hi); have hcz20_0 : w19.cell? ⟨gbaR, 0, none⟩ = some (.string a1_0) := (blk_cell BKaR.out 0).trans rfl; have hcz20_1 : w19.cell? ⟨gbaR, 1, none⟩ = some (.slice A1_1 l1_1.length c1_1) := (blk_cell BKaR.out 1).trans rfl; have hcz20_2 : w19.cell? ⟨gbaR, 2, none⟩ = some (.slice A1_2 l1_2.length c1_2) := (blk_cell BKaR.out 2).trans rfl; have hfz20_0 := blk_frozen BKaR.out 0; have hfz20_1 := blk_frozen BKaR.out 1; have hfz20_2 := blk_frozen BKaR.out 2; have p309 : 0 ≤ (tan : Int) := of_decide_eq_true Zq4; have q309 : tan < (l1_1.length : Int) := of_decide_eq_true Zq4; obtain ⟨adbX, AbX_1, cbX_1, e309, hx309_0, hx309_1, hl309_1, hi309_1⟩ := at_T77 HR1_1.out tan p309 q309; cases e309; replace hx309_0 := (HB.out.cell (World.block_lt_of_cell? w _ hx309_0)).trans hx309_0; replace hx309_1 := (HB.out.cell (World.block_lt_of_cell? w _ hx309_1)).trans hx309_1; have HRbX_1 := Ak hi309_1; have HCbX_1 := Ak hl309_1; clear hi309_1 hl309_1; replace p309 := eq_true p309; replace q309 := eq_true q309) | ((with_reducible refine gate_callee (f := 45) rfl ?_); refine goesL_ (some 30) rfl rfl Try.func45 Zq2 rfl #[.agg #[.string a1_0, .slice (some adbX) l1_1.length c1_1, .slice A1_2 l1_2.length c1_2]] rfl Zq114 ?_; (with_reducible refine (arboretref12_Counts.calls k a1_0 _ _ l1_1 _ _ l1_2 tah taw teX _ ?side1 ?side2 ?side3 ?side4 A12.out).mono ?_); (case side1 => repeat (first | exact Zq176 | (with_reducible refine Kd.C_alloc ?_ _) | (with_reducible refine Kd.C_drewN ?_ _) | (with_reducible refine Kd.C_drew ?_))); (case side2 => exact HC1_1.out); (case side3 => repeat (first | exact Zq177 | (with_reducible refine Kd.C_alloc ?_ _) | (with_reducible refine Kd.C_drewN ?_ _) | (with_reducible refine Kd.C_drew ?_))); (case side4 => exact HC1_2.out); rintro e w21 ⟨rfl, hb⟩; refine ⟨_, rfl, ?_⟩; have n0_ := Zq135; have n1_ := Zq183; have n2_ := Ak (below_step Zq25 hb); clear BKbb BKaR HB; have BKbb := n0_; have BKaR := n1_; have HB := n2_; clear n0_ n1_ n2_; (try clear hb); (try clear hb2); (try clear hk); (try clear hi); have hcz22_0 : w21.cell? ⟨gbbb, 0, none⟩ = some (.string a0_0) := (blk_cell BKbb.out 0).trans rfl; have hcz22_1 : w21.cell? ⟨gbbb, 1, none⟩ = some (.slice A0_1 l0_1.length c0_1) := (blk_cell BKbb.out 1).trans rfl; have hcz22_2 : w21.cell? ⟨gbbb, 2, none⟩ = some (.slice A0_2 l0_2.length c0_2) := (blk_cell BKbb.out 2).trans rfl; have hfz22_0 := blk_frozen BKbb.out 0; have hfz22_1 := blk_frozen BKbb.out 1; have hfz22_2 := blk_frozen BKbb.out 2) | ((with_reducible refine gate_callee (f := 45) rfl ?_); refine goesL_ (some 36) rfl rfl Try.func45 Zq2 rfl #[.agg #[.string a0_0, .slice A0_1 l0_1.length c0_1, .slice A0_2 l0_2.length c0_2]] rfl Zq114 ?_; (with_reducible refine (arboretref12_Counts.calls k a0_0 _ _ l0_1 _ _ l0_2 tai tgk teY _ ?side1 ?side2 ?side3 ?side4 A13.out).mono ?_); (case side1 => repeat (first | exact Zq126 | (with_reducible refine Kd.C_alloc ?_ _) | (with_reducible refine Kd.C_drewN ?_ _) | (with_reducible refine Kd.C_drew ?_))); (case side2 => exact HC0_1.out); (case side3 => repeat (first | exact Zq142 | (with_reducible refine Kd.C_alloc ?_ _) | (with_reducible refine Kd.C_drewN ?_ _) | (with_reducible refine Kd.C_drew ?_))); (case side4 => exact HC0_2.out); rintro e w23 ⟨rfl, hb⟩; refine ⟨_, rfl, ?_⟩; have n0_ := Zq135; have n1_ := Zq183; have n2_ := Ak (below_step Zq25 hb); clear BKbb BKaR HB; have BKbb := n0_; have BKaR := n1_; have HB := n2_; clear n0_ n1_ n2_; (try clear hb); (try clear hb2); (try clear hk); (try clear hi)))
    (try simp only [Act.put, List.setIfInBounds_toArray, List.set_cons_zero, List.set_cons_succ])
    go_cut [65] (fun v65 wc => ∃ (kq : Nat) (x65_13 : Bool), v65 = .bool x65_13 ∧ Aside0 (arboretref12_Ranges.j0 kq ((rd_T77 l1_1 tan).f1) tah taw tai x65_13 = some (r1, r2, r3)) ∧ Aside0 (kq ≤ k) ∧ Aside0 (wc.heap[gbbb]? = some (.cells #[.string a0_0, (.slice A0_1 l0_1.length c0_1), (.slice A0_2 l0_2.length c0_2)] 30 (0, 0))) ∧ Aside0 (wc.heap[gbaR]? = some (.cells #[.string a1_0, (.slice (some adbX) l1_1.length c1_1), (.slice A1_2 l1_2.length c1_2)] 30 (0, 0))) ∧ Aside0 (Below w.heap.size w wc))
    case first =>
     have H := HC14.out; clear HC14
     by_cases c24 : teX = true
     ·subst c24
      have H1 : (if teY = true then (if tah = 0 then (arboretref12_Ranges.j0 k ((rd_T77 l1_1 tan).f1) tah taw tai true) else (if tai = 0 then (arboretref12_Ranges.j0 k ((rd_T77 l1_1 tan).f1) tah taw tai true) else (if (wrap64 (4 * (wrap64 ((wrap64 (tah + tai)) + taw)))) = 0 then (none) else (arboretref12_Ranges.j0 k ((rd_T77 l1_1 tan).f1) tah taw tai (((((rd_T77 l1_1 tan).f1).length : Int) % (wrap64 (4 * (wrap64 ((wrap64 (tah + tai)) + taw))))) != 0))))) else (arboretref12_Ranges.j0 k ((rd_T77 l1_1 tan).f1) tah taw tai true)) = some (r1, r2, r3) := by rw [if_pos rfl] at H; exact H
      clear H; have H := H1; clear H1
      by_cases c25 : teY = true
      ·subst c25
       have H1 : (if tah = 0 then (arboretref12_Ranges.j0 k ((rd_T77 l1_1 tan).f1) tah taw tai true) else (if tai = 0 then (arboretref12_Ranges.j0 k ((rd_T77 l1_1 tan).f1) tah taw tai true) else (if (wrap64 (4 * (wrap64 ((wrap64 (tah + tai)) + taw)))) = 0 then (none) else (arboretref12_Ranges.j0 k ((rd_T77 l1_1 tan).f1) tah taw tai (((((rd_T77 l1_1 tan).f1).length : Int) % (wrap64 (4 * (wrap64 ((wrap64 (tah + tai)) + taw))))) != 0))))) = some (r1, r2, r3) := by rw [if_pos rfl] at H; exact H
       clear H; have H := H1; clear H1
       by_cases c26 : tah = 0
       ·rw [if_pos c26] at H; have c26b0 : (tah == 0) = true := beq_iff_eq.mpr c26; have c26b1 : (tah != 0) = false := bne_eq_false_iff_eq.mpr c26; clear c26
        (first | rw [c26b0] | (simp only [i64_w, i32_w]; rw [c26b0]) | skip)
        have H' := Ak H; clear H
        go_wp2
        go_meet
        case rel => exact ⟨_, (true), Zq6, H', ⟨Zq13⟩, ⟨Zq29⟩, ⟨Zq44⟩, ⟨Zq25⟩⟩
       ·rw [if_neg c26] at H; have c26b0 : (tah == 0) = false := beq_eq_false_iff_ne.mpr c26; have c26b1 : (tah != 0) = true := bne_iff_ne.mpr c26
        (first | rw [c26b0] | (simp only [i64_w, i32_w]; rw [c26b0]) | skip)
        by_cases c27 : tai = 0
        ·rw [if_pos c27] at H; have c27b0 : (tai == 0) = true := beq_iff_eq.mpr c27; have c27b1 : (tai != 0) = false := bne_eq_false_iff_eq.mpr c27; clear c27; have H' := Ak H; clear H
         go_wp2
         go_meet
         case rel => exact ⟨_, (true), Zq6, H', ⟨Zq13⟩, ⟨Zq29⟩, ⟨Zq44⟩, ⟨Zq25⟩⟩
        ·rw [if_neg c27] at H; have c27b0 : (tai == 0) = false := beq_eq_false_iff_ne.mpr c27; have c27b1 : (tai != 0) = true := bne_iff_ne.mpr c27
         by_cases c28 : (wrap64 (4 * (wrap64 ((wrap64 (tah + tai)) + taw)))) = 0
         ·rw [if_pos c28] at H; exact absurd H Zq8
         ·rw [if_neg c28] at H; have c28b0 : ((wrap64 (4 * (wrap64 ((wrap64 (tah + tai)) + taw)))) == 0) = false := beq_eq_false_iff_ne.mpr c28; have c28b1 : ((wrap64 (4 * (wrap64 ((wrap64 (tah + tai)) + taw)))) != 0) = true := bne_iff_ne.mpr c28; have H' := Ak H; clear H
          go_wp2
          go_meet
          case rel => exact ⟨_, ((((((rd_T77 l1_1 tan).f1).length : Int) % (wrap64 (4 * (wrap64 ((wrap64 (tah + tai)) + taw))))) != 0)), Zq6, H', ⟨Zq13⟩, ⟨Zq29⟩, ⟨Zq44⟩, ⟨Zq25⟩⟩
      ·replace c25 := Bool.eq_false_iff.mpr c25; subst c25
       have H1 : (arboretref12_Ranges.j0 k ((rd_T77 l1_1 tan).f1) tah taw tai true) = some (r1, r2, r3) := by rw [if_neg (show ¬ (false = true) by decide)] at H; exact H
       clear H; have H := H1; clear H1; have H' := Ak H; clear H
       go_wp2
       go_meet
       case rel => exact ⟨_, (true), Zq6, H', ⟨Zq13⟩, ⟨Zq29⟩, ⟨Zq44⟩, ⟨Zq25⟩⟩
     ·replace c24 := Bool.eq_false_iff.mpr c24; subst c24
      have H1 : (arboretref12_Ranges.j0 k ((rd_T77 l1_1 tan).f1) tah taw tai true) = some (r1, r2, r3) := by rw [if_neg (show ¬ (false = true) by decide)] at H; exact H
      clear H; have H := H1; clear H1; have H' := Ak H; clear H
      go_wp2
      go_meet
      case rel => exact ⟨_, (true), Zq6, H', ⟨Zq13⟩, ⟨Zq29⟩, ⟨Zq44⟩, ⟨Zq25⟩⟩
    case rest =>
     clear HC14
     try clear c1
     try clear c2
     try clear p2
     try clear c3
     try clear p3
     try clear q3
     try clear hx3
     try clear c4
     try clear c4b0
     try clear p6
     try clear c7
     try clear c10
     try clear c10b0
     try clear c11
     try clear c11b0
     try clear c17
     try clear c18
     try clear c24
     try clear c25
     try clear c26
     try clear c26b0
     try clear c26b1
     try clear c27
     try clear c27b0
     try clear c27b1
     try clear c28
     try clear c28b0
     try clear c28b1
     try clear hcz18_0
     try clear hcz18_1
     try clear hcz18_2
     try clear hcz20_0
     try clear hcz20_1
     try clear hcz20_2
     try clear hcz22_0
     try clear hcz22_1
     try clear hcz22_2
     try clear hcz8_0
     try clear hcz8_1
     try clear hcz8_2
     try clear hfz18_0
     try clear hfz18_1
     try clear hfz18_2
     try clear hfz20_0
     try clear hfz20_1
     try clear hfz20_2
     try clear hfz22_0
     try clear hfz22_1
     try clear hfz22_2
     try clear hfz8_0
     try clear hfz8_1
     try clear hfz8_2
     try clear hx309_0
     try clear hx309_1
     try clear p309
     try clear q309
     obtain ⟨kq, x65_13, rfl, HA, HJ13, BKbb, BKaR, HB⟩ := hcut
     cases kq with
     | zero => exact absurd HA.out (by simp [arboretref12_Ranges.j0])
     | succ kj13 =>
      have H := HA.out; clear HA; simp only [arboretref12_Ranges.j0] at H
      by_cases c29 : x65_13 = true
      ·subst c29
       have H1 : (some (([] : List (S45)), false, false)) = some (r1, r2, r3) := by rw [if_pos rfl] at H; exact H
       clear H; have H := H1; clear H1; simp only [Option.some.injEq, Prod.mk.injEq] at H; obtain ⟨rfl, rfl, rfl⟩ := H
       go_wp2
       go_ret3
       exact ⟨_, Zq10, Zq32, Zq25⟩
      ·replace c29 := Bool.eq_false_iff.mpr c29; subst c29
       have H1 : (if (((rd_T77 l1_1 tan).f1).length : Int) = 0 then (some ((([(⟨0, 0, 18446744073709551615⟩ : S45)] : List (S45))), true, true)) else (arboretref12_Ranges.l0 kj13 ((rd_T77 l1_1 tan).f1) tah taw tai ([] : List (S45)) 0)) = some (r1, r2, r3) := by rw [if_neg (show ¬ (false = true) by decide)] at H; exact H
       clear H; have H := H1; clear H1
       by_cases c30 : (((rd_T77 l1_1 tan).f1).length : Int) = 0
       ·rw [if_pos c30] at H; have c30b0 : ((((rd_T77 l1_1 tan).f1).length : Int) == 0) = true := beq_iff_eq.mpr c30; have c30b1 : ((((rd_T77 l1_1 tan).f1).length : Int) != 0) = false := bne_eq_false_iff_eq.mpr c30; clear c30
        obtain ⟨ycZ, hycZ⟩ : ∃ y_ : List (S45), y_ = (([(⟨0, 0, 18446744073709551615⟩ : S45)] : List (S45))) := ⟨_, rfl⟩
        replace H : (some (ycZ, true, true)) = some (r1, r2, r3) := by first | (rw [hycZ]; with_reducible exact H) | (have H2_ := (Option.bind_some _ _).symm.trans H; rw [hycZ]; with_reducible exact H2_) | (have H2_ := (Option.bind_some _ _).symm.trans H; with_reducible exact H2_) | with_reducible exact H | (rw [hycZ]; exact H) | exact H
        have NycZ := Ak hycZ; clear hycZ; simp only [Option.some.injEq, Prod.mk.injEq] at H; obtain ⟨rfl, rfl, rfl⟩ := H
        go_wp2_with (first | ((with_reducible refine gate_dst (N := 70) rfl ?_); (try (refine gate_guard Zq3 ?_; dsimp only)); refine Kd.R_lit k45 _ 45 ?hg (N := 70) ?hd (xs := ([(⟨0, 0, 18446744073709551615⟩ : S45)] : List (S45))) (inner := [.int .u64 0, .int .u64 0, .int .u64 18446744073709551615]) (ok := fun _ => True) (okp := fun _ => True) ?hr ?hp (fun _ hk => hk) trivial (Below.refl _ _) (Nat.le_refl _) Zq8 ?_; (case hd | hg => rfl); (case hr => first | (go_simp; done) | (go_simp; rfl)); (case hp => exact (Reps.c3 (show Kd.M k45 _ _ _ (⟨0, 0, 18446744073709551615⟩ : S45) [.int .u64 0, .int .u64 0, .int .u64 18446744073709551615] from (k45_mkM _ _ _ (⟨0, 0, 18446744073709551615⟩ : S45) )) (Reps.none _ _))); intro v317 w31 ho32 hb hg_ hnew_; clear hg_ hnew_; (first | rw [← NycZ.out] at ho32 | (simp only [Int.reduceToNat] at ho32; rw [← NycZ.out] at ho32)); have n0_ := Ak (Kd.R_lower ho32 (below_size Zq25)); have n1_ := Zq135; have n2_ := Zq183; have n3_ := Ak (below_step Zq25 hb); clear BKbb BKaR HB; have HOgl := n0_; have BKbb := n1_; have BKaR := n2_; have HB := n3_; clear n0_ n1_ n2_ n3_ hb ho32))
        go_ret3
        exact ⟨_, Zq10, by (with_reducible repeat (first | apply Kd.R_alloc | apply Kd.R_drewN | apply Kd.R_drew)); exact HOgl.out, Zq25⟩
       ·rw [if_neg c30] at H; have c30b0 : ((((rd_T77 l1_1 tan).f1).length : Int) == 0) = false := beq_eq_false_iff_ne.mpr c30; have c30b1 : ((((rd_T77 l1_1 tan).f1).length : Int) != 0) = true := bne_iff_ne.mpr c30
        have c30b2 : ¬ (((rd_T77 l1_1 tan).f1) = []) := fun h_ => c30 (by rw [h_]; rfl)
        have H' := Ak H; clear H
        go_wp2
        go_loopg [15, 16] kj13 (fun kq v15 v16 w' => ∃ (x15_2 : List (S45)) (x16_2 : Int), v16 = .int .i64 x16_2 ∧ Aside0 (arboretref12_Ranges.l0 kq ((rd_T77 l1_1 tan).f1) tah taw tai x15_2 x16_2 = some (r1, r2, r3)) ∧ Aside0 (kq ≤ kj13) ∧ Aside0 (Kd.R k45 45 w' w.heap.size (fun _ => True) v15 x15_2) ∧ Aside0 (w'.heap[gbbb]? = some (.cells #[.string a0_0, (.slice A0_1 l0_1.length c0_1), (.slice A0_2 l0_2.length c0_2)] 30 (0, 0))) ∧ Aside0 (w'.heap[gbaR]? = some (.cells #[.string a1_0, (.slice (some adbX) l1_1.length c1_1), (.slice A1_2 l1_2.length c1_2)] 30 (0, 0))) ∧ Aside0 (Below w.heap.size w w'))
        case atStart => exact ⟨(([] : List (S45))), (0), Zq6, H', ⟨Nat.le_refl _⟩, ⟨Zq32⟩, ⟨Zq29⟩, ⟨Zq44⟩, ⟨Zq25⟩⟩
        case round =>
         clear H'
         try clear c1
         try clear c2
         try clear p2
         try clear c3
         try clear p3
         try clear q3
         try clear hx3
         try clear c4
         try clear c4b0
         try clear p6
         try clear c7
         try clear c10
         try clear c10b0
         try clear c11
         try clear c11b0
         try clear c17
         try clear c18
         try clear c24
         try clear c25
         try clear c26
         try clear c26b0
         try clear c26b1
         try clear c27
         try clear c27b0
         try clear c27b1
         try clear c28
         try clear c28b0
         try clear c28b1
         try clear c29
         try clear c30
         try clear c30b0
         try clear c30b1
         try clear c30b2
         try clear p30
         try clear q30
         try clear hx30
         try clear c32
         try clear hcz18_0
         try clear hcz18_1
         try clear hcz18_2
         try clear hcz20_0
         try clear hcz20_1
         try clear hcz20_2
         try clear hcz22_0
         try clear hcz22_1
         try clear hcz22_2
         try clear hcz8_0
         try clear hcz8_1
         try clear hcz8_2
         try clear hfz18_0
         try clear hfz18_1
         try clear hfz18_2
         try clear hfz20_0
         try clear hfz20_1
         try clear hfz20_2
         try clear hfz22_0
         try clear hfz22_1
         try clear hfz22_2
         try clear hfz8_0
         try clear hfz8_1
         try clear hfz8_2
         try clear hx309_0
         try clear hx309_1
         try clear p2
         try clear p3
         try clear p309
         try clear p6
         try clear q3
         try clear q309
         obtain ⟨x15_2, x16_2, rfl, HA, HK2, HO_15, BKbb, BKaR, HB⟩ := hrel
         cases gk with
         | zero => exact absurd HA.out (by simp [arboretref12_Ranges.l0])
         | succ k2 =>
          have H := HA.out; clear HA; simp only [arboretref12_Ranges.l0] at H
          by_cases c33 : x16_2 < (((rd_T77 l1_1 tan).f1).length : Int)
          ·rw [if_pos c33] at H; have c33b0 : decide (x16_2 < (((rd_T77 l1_1 tan).f1).length : Int)) = true := decide_eq_true c33; clear c33
           by_cases c34 : 0 ≤ x16_2
           ·rw [if_pos c34] at H; have c34b0 := eq_true c34; have c34b1 : decide (0 ≤ x16_2) = true := decide_eq_true c34; clear c34
            by_cases c35 : x16_2 ≤ (wrap64 (x16_2 + (wrap64 (4 * (wrap64 ((wrap64 (tah + tai)) + taw))))))
            ·rw [if_pos c35] at H; have c35b0 := eq_true c35; have c35b1 : decide (x16_2 ≤ (wrap64 (x16_2 + (wrap64 (4 * (wrap64 ((wrap64 (tah + tai)) + taw))))))) = true := decide_eq_true c35
             by_cases c36 : (wrap64 (x16_2 + (wrap64 (4 * (wrap64 ((wrap64 (tah + tai)) + taw)))))) ≤ (((rd_T77 l1_1 tan).f1).length : Int)
             ·rw [if_pos c36] at H; have c36b0 := eq_true c36; have c36b1 : decide ((wrap64 (x16_2 + (wrap64 (4 * (wrap64 ((wrap64 (tah + tai)) + taw)))))) ≤ (((rd_T77 l1_1 tan).f1).length : Int)) = true := decide_eq_true c36
              obtain ⟨ji37, hji37⟩ : ∃ j_ : Int, (wrap64 (4 * tah)) = j_ := ⟨_, rfl⟩
              replace H : (if 0 ≤ (ji37) then (if (ji37) ≤ (((((rd_T77 l1_1 tan).f1).take ((wrap64 (x16_2 + (wrap64 (4 * (wrap64 ((wrap64 (tah + tai)) + taw)))))) : Int).toNat).drop (x16_2 : Int).toNat).length : Int) then ((arboretref12_wide.f k2 (((((rd_T77 l1_1 tan).f1).take ((wrap64 (x16_2 + (wrap64 (4 * (wrap64 ((wrap64 (tah + tai)) + taw)))))) : Int).toNat).drop (x16_2 : Int).toNat).take ((ji37) : Int).toNat)).bind fun tcH => (if (ji37) ≤ (wrap64 ((ji37) + (wrap64 (4 * tai)))) then (if (wrap64 ((ji37) + (wrap64 (4 * tai)))) ≤ (((((rd_T77 l1_1 tan).f1).take ((wrap64 (x16_2 + (wrap64 (4 * (wrap64 ((wrap64 (tah + tai)) + taw)))))) : Int).toNat).drop (x16_2 : Int).toNat).length : Int) then ((arboretref12_wide.f k2 ((((((rd_T77 l1_1 tan).f1).take ((wrap64 (x16_2 + (wrap64 (4 * (wrap64 ((wrap64 (tah + tai)) + taw)))))) : Int).toNat).drop (x16_2 : Int).toNat).take ((wrap64 ((ji37) + (wrap64 (4 * tai)))) : Int).toNat).drop ((ji37) : Int).toNat)).bind fun tcv => (if 0 ≤ (wrap64 ((ji37) + (wrap64 (4 * tai)))) then ((arboretref12_wide.f k2 (((((rd_T77 l1_1 tan).f1).take ((wrap64 (x16_2 + (wrap64 (4 * (wrap64 ((wrap64 (tah + tai)) + taw)))))) : Int).toNat).drop (x16_2 : Int).toNat).drop ((wrap64 ((ji37) + (wrap64 (4 * tai)))) : Int).toNat)).bind fun tck => (if x15_2.length < 5864062014805 then (arboretref12_Ranges.l0 k2 ((rd_T77 l1_1 tan).f1) tah taw tai (x15_2 ++ [(⟨tcH, tcv, tck⟩ : S45)]) (wrap64 (x16_2 + (wrap64 (4 * (wrap64 ((wrap64 (tah + tai)) + taw))))))) else (none))) else (none))) else (none)) else (none))) else (none)) else (none)) = some (r1, r2, r3) := by first | (rw [hji37] at H; exact H) | (simp only [hji37] at H ⊢; exact H)
              have hji37w : (IntKind.i64.wrap (4 * tah)) = ji37 := (i64_w _).trans hji37
              by_cases c38 : 0 ≤ (ji37)
              ·rw [if_pos c38] at H; have c38b0 := eq_true c38; have c38b1 : decide (0 ≤ (ji37)) = true := decide_eq_true c38; clear c38
               by_cases c39 : (ji37) ≤ (((((rd_T77 l1_1 tan).f1).take ((wrap64 (x16_2 + (wrap64 (4 * (wrap64 ((wrap64 (tah + tai)) + taw)))))) : Int).toNat).drop (x16_2 : Int).toNat).length : Int)
               ·rw [if_pos c39] at H; have c39b0 := eq_true c39; have c39b1 : decide ((ji37) ≤ (((((rd_T77 l1_1 tan).f1).take ((wrap64 (x16_2 + (wrap64 (4 * (wrap64 ((wrap64 (tah + tai)) + taw)))))) : Int).toNat).drop (x16_2 : Int).toNat).length : Int)) = true := decide_eq_true c39; replace H := Option.bind_eq_some_iff.mp H; obtain ⟨tcH, AfN, H⟩ := H; replace H : (if (ji37) ≤ (wrap64 ((ji37) + (wrap64 (4 * tai)))) then (if (wrap64 ((ji37) + (wrap64 (4 * tai)))) ≤ (((((rd_T77 l1_1 tan).f1).take ((wrap64 (x16_2 + (wrap64 (4 * (wrap64 ((wrap64 (tah + tai)) + taw)))))) : Int).toNat).drop (x16_2 : Int).toNat).length : Int) then ((arboretref12_wide.f k2 ((((((rd_T77 l1_1 tan).f1).take ((wrap64 (x16_2 + (wrap64 (4 * (wrap64 ((wrap64 (tah + tai)) + taw)))))) : Int).toNat).drop (x16_2 : Int).toNat).take ((wrap64 ((ji37) + (wrap64 (4 * tai)))) : Int).toNat).drop ((ji37) : Int).toNat)).bind fun tcv => (if 0 ≤ (wrap64 ((ji37) + (wrap64 (4 * tai)))) then ((arboretref12_wide.f k2 (((((rd_T77 l1_1 tan).f1).take ((wrap64 (x16_2 + (wrap64 (4 * (wrap64 ((wrap64 (tah + tai)) + taw)))))) : Int).toNat).drop (x16_2 : Int).toNat).drop ((wrap64 ((ji37) + (wrap64 (4 * tai)))) : Int).toNat)).bind fun tck => (if x15_2.length < 5864062014805 then (arboretref12_Ranges.l0 k2 ((rd_T77 l1_1 tan).f1) tah taw tai (x15_2 ++ [(⟨tcH, tcv, tck⟩ : S45)]) (wrap64 (x16_2 + (wrap64 (4 * (wrap64 ((wrap64 (tah + tai)) + taw))))))) else (none))) else (none))) else (none)) else (none)) = some (r1, r2, r3) := H; have A40 := Ak AfN; clear AfN; have c41b0 := eq_true (of_decide_eq_true Zq4 : 0 ≤ (ji37))
                by_cases c42 : (ji37) ≤ (wrap64 ((ji37) + (wrap64 (4 * tai))))
                ·rw [if_pos c42] at H; have c42b0 := eq_true c42; have c42b1 : decide ((ji37) ≤ (wrap64 ((ji37) + (wrap64 (4 * tai))))) = true := decide_eq_true c42
                 by_cases c43 : (wrap64 ((ji37) + (wrap64 (4 * tai)))) ≤ (((((rd_T77 l1_1 tan).f1).take ((wrap64 (x16_2 + (wrap64 (4 * (wrap64 ((wrap64 (tah + tai)) + taw)))))) : Int).toNat).drop (x16_2 : Int).toNat).length : Int)
                 ·rw [if_pos c43] at H; have c43b0 := eq_true c43; have c43b1 : decide ((wrap64 ((ji37) + (wrap64 (4 * tai)))) ≤ (((((rd_T77 l1_1 tan).f1).take ((wrap64 (x16_2 + (wrap64 (4 * (wrap64 ((wrap64 (tah + tai)) + taw)))))) : Int).toNat).drop (x16_2 : Int).toNat).length : Int)) = true := decide_eq_true c43; replace H := Option.bind_eq_some_iff.mp H; obtain ⟨tcv, Abp, H⟩ := H; replace H : (if 0 ≤ (wrap64 ((ji37) + (wrap64 (4 * tai)))) then ((arboretref12_wide.f k2 (((((rd_T77 l1_1 tan).f1).take ((wrap64 (x16_2 + (wrap64 (4 * (wrap64 ((wrap64 (tah + tai)) + taw)))))) : Int).toNat).drop (x16_2 : Int).toNat).drop ((wrap64 ((ji37) + (wrap64 (4 * tai)))) : Int).toNat)).bind fun tck => (if x15_2.length < 5864062014805 then (arboretref12_Ranges.l0 k2 ((rd_T77 l1_1 tan).f1) tah taw tai (x15_2 ++ [(⟨tcH, tcv, tck⟩ : S45)]) (wrap64 (x16_2 + (wrap64 (4 * (wrap64 ((wrap64 (tah + tai)) + taw))))))) else (none))) else (none)) = some (r1, r2, r3) := H; have A44 := Ak Abp; clear Abp
                  obtain ⟨ji45, hji45⟩ : ∃ j_ : Int, (wrap64 ((ji37) + (wrap64 (4 * tai)))) = j_ := ⟨_, rfl⟩
                  replace H : (if 0 ≤ (ji45) then ((arboretref12_wide.f k2 (((((rd_T77 l1_1 tan).f1).take ((wrap64 (x16_2 + (wrap64 (4 * (wrap64 ((wrap64 (tah + tai)) + taw)))))) : Int).toNat).drop (x16_2 : Int).toNat).drop ((ji45) : Int).toNat)).bind fun tck => (if x15_2.length < 5864062014805 then (arboretref12_Ranges.l0 k2 ((rd_T77 l1_1 tan).f1) tah taw tai (x15_2 ++ [(⟨tcH, tcv, tck⟩ : S45)]) (wrap64 (x16_2 + (wrap64 (4 * (wrap64 ((wrap64 (tah + tai)) + taw))))))) else (none))) else (none)) = some (r1, r2, r3) := by first | (rw [hji45] at H; exact H) | (simp only [hji45] at H ⊢; exact H)
                  (try rw [hji45] at c42b0)
                  (try rw [hji45] at c42b1)
                  (try rw [hji45] at c42)
                  (try rw [hji45] at c43b0)
                  (try rw [hji45] at c43b1)
                  (try rw [hji45] at c43)
                  (try rw [hji45] at A40)
                  (try rw [hji45] at A44)
                  have hji45w : (IntKind.i64.wrap ((ji37) + (wrap64 (4 * tai)))) = ji45 := (i64_w _).trans hji45
                  by_cases c46 : 0 ≤ (ji45)
                  ·rw [if_pos c46] at H; have c46b0 := eq_true c46; have c46b1 : decide (0 ≤ (ji45)) = true := decide_eq_true c46; clear c46; have c47b0 := eq_true (of_decide_eq_true Zq4 : (ji45) ≤ (((((rd_T77 l1_1 tan).f1).take ((wrap64 (x16_2 + (wrap64 (4 * (wrap64 ((wrap64 (tah + tai)) + taw)))))) : Int).toNat).drop (x16_2 : Int).toNat).length : Int)); replace H := Option.bind_eq_some_iff.mp H; obtain ⟨tck, AfO, H⟩ := H; replace H : (if x15_2.length < 5864062014805 then (arboretref12_Ranges.l0 k2 ((rd_T77 l1_1 tan).f1) tah taw tai (x15_2 ++ [(⟨tcH, tcv, tck⟩ : S45)]) (wrap64 (x16_2 + (wrap64 (4 * (wrap64 ((wrap64 (tah + tai)) + taw))))))) else (none)) = some (r1, r2, r3) := H; have A48 := Ak AfO; clear AfO
                   by_cases c49 : x15_2.length < 5864062014805
                   ·rw [if_pos c49] at H; have LMc49 := Ak c49; clear c49
                    obtain ⟨yda, hyda⟩ : ∃ y_ : List (S45), y_ = (x15_2 ++ [(⟨tcH, tcv, tck⟩ : S45)]) := ⟨_, rfl⟩
                    replace H : (arboretref12_Ranges.l0 k2 ((rd_T77 l1_1 tan).f1) tah taw tai yda (wrap64 (x16_2 + (wrap64 (4 * (wrap64 ((wrap64 (tah + tai)) + taw))))))) = some (r1, r2, r3) := by first | (rw [hyda]; with_reducible exact H) | (have H2_ := (Option.bind_some _ _).symm.trans H; rw [hyda]; with_reducible exact H2_) | (have H2_ := (Option.bind_some _ _).symm.trans H; with_reducible exact H2_) | with_reducible exact H | (rw [hyda]; exact H) | exact H
                    have Nyda := Ak hyda; clear hyda; have H' := Ak H; clear H; obtain ⟨i050, hi050, _, hsz50, _⟩ := info_parts info5; obtain ⟨A50, hcut50, hA50, hC50⟩ := print_mid_of (P := Try.prog) (Value.int .u8) 0 72 5 .i64 .i64 Try.underlying72 hi050 hsz50 AbX_1 cbX_1 ((rd_T77 l1_1 tan).f1) x16_2 (wrap64 (x16_2 + (wrap64 (4 * (wrap64 ((wrap64 (tah + tai)) + taw)))))) (of_decide_eq_true Zq4) (by first | omega | exact of_decide_eq_true Zq4) (of_decide_eq_true Zq4) HCbX_1.out; have HRdX := Ak (Kd.C_of_reads (h1 := fun _ => rfl) (hA50 _ (Kd.reads_of_C HRbX_1.out))); have HCdX := Ak hC50; clear hA50 hC50 hi050 hsz50
                    try go_wp2
                    have n0_ := Ak (Kd.R_drew HO_15.out); have n1_ := Ak (blk_drew BKbb.out); have n2_ := Ak (blk_drew BKaR.out); have n3_ := Zq164; clear HO_15 BKbb BKaR HB; have HO_15 := n0_; have BKbb := n1_; have BKaR := n2_; have HB := n3_; clear n0_ n1_ n2_ n3_; obtain ⟨i052, hi052, _, hsz52, _⟩ := info_parts info5; obtain ⟨hcut52, hA52, hC52⟩ := print_take_of (P := Try.prog) (Value.int .u8) 0 72 5 .i64 Try.underlying72 hi052 hsz52 A50 (cbX_1 - x16_2.toNat) ((((rd_T77 l1_1 tan).f1).take ((wrap64 (x16_2 + (wrap64 (4 * (wrap64 ((wrap64 (tah + tai)) + taw)))))) : Int).toNat).drop (x16_2 : Int).toNat) (ji37) (of_decide_eq_true Zq4) (of_decide_eq_true Zq4) HCdX.out
                    have hlen52 : (((((rd_T77 l1_1 tan).f1).take ((wrap64 (x16_2 + (wrap64 (4 * (wrap64 ((wrap64 (tah + tai)) + taw)))))) : Int).toNat).drop (x16_2 : Int).toNat)).length = ((wrap64 (x16_2 + (wrap64 (4 * (wrap64 ((wrap64 (tah + tai)) + taw)))))) : Int).toNat - (x16_2 : Int).toNat := (by have q_ : (wrap64 (x16_2 + (wrap64 (4 * (wrap64 ((wrap64 (tah + tai)) + taw)))))) ≤ (((rd_T77 l1_1 tan).f1).length : Int) := of_decide_eq_true Zq4; simp only [List.length_drop, List.length_take]; omega)
                    have hlr52 : ((((((rd_T77 l1_1 tan).f1).take ((wrap64 (x16_2 + (wrap64 (4 * (wrap64 ((wrap64 (tah + tai)) + taw)))))) : Int).toNat).drop (x16_2 : Int).toNat)).take ((ji37) : Int).toNat).length = ((ji37) : Int).toNat := (by have q_ : (ji37) ≤ ((((((rd_T77 l1_1 tan).f1).take ((wrap64 (x16_2 + (wrap64 (4 * (wrap64 ((wrap64 (tah + tai)) + taw)))))) : Int).toNat).drop (x16_2 : Int).toNat)).length : Int) := of_decide_eq_true Zq4; have q2_ := hlen52; simp only [List.length_drop, List.length_take] at q_ q2_ ⊢; omega)
                    rw [hlen52, hlr52] at hcut52; have HReZ := Ak (Kd.C_of_reads (h1 := fun _ => rfl) (hA52 _ (Kd.reads_of_C HRdX.out))); have HCeZ := Ak hC52; clear hA52 hC52 hi052 hsz52; obtain ⟨i053, hi053, _, hsz53, _⟩ := info_parts info5; obtain ⟨A53, hcut53, hA53, hC53⟩ := print_mid_of (P := Try.prog) (Value.int .u8) 0 72 5 .i64 .i64 Try.underlying72 hi053 hsz53 A50 (cbX_1 - x16_2.toNat) ((((rd_T77 l1_1 tan).f1).take ((wrap64 (x16_2 + (wrap64 (4 * (wrap64 ((wrap64 (tah + tai)) + taw)))))) : Int).toNat).drop (x16_2 : Int).toNat) (ji37) (ji45) (of_decide_eq_true Zq4) (by first | omega | exact of_decide_eq_true Zq4) (of_decide_eq_true Zq4) HCdX.out
                    have hlen53 : (((((rd_T77 l1_1 tan).f1).take ((wrap64 (x16_2 + (wrap64 (4 * (wrap64 ((wrap64 (tah + tai)) + taw)))))) : Int).toNat).drop (x16_2 : Int).toNat)).length = ((wrap64 (x16_2 + (wrap64 (4 * (wrap64 ((wrap64 (tah + tai)) + taw)))))) : Int).toNat - (x16_2 : Int).toNat := (by have q_ : (wrap64 (x16_2 + (wrap64 (4 * (wrap64 ((wrap64 (tah + tai)) + taw)))))) ≤ (((rd_T77 l1_1 tan).f1).length : Int) := of_decide_eq_true Zq4; simp only [List.length_drop, List.length_take]; omega)
                    have hlr53 : (((((((rd_T77 l1_1 tan).f1).take ((wrap64 (x16_2 + (wrap64 (4 * (wrap64 ((wrap64 (tah + tai)) + taw)))))) : Int).toNat).drop (x16_2 : Int).toNat)).take ((ji45) : Int).toNat).drop ((ji37) : Int).toNat).length = ((ji45) : Int).toNat - ((ji37) : Int).toNat := (by have q_ : (ji45) ≤ ((((((rd_T77 l1_1 tan).f1).take ((wrap64 (x16_2 + (wrap64 (4 * (wrap64 ((wrap64 (tah + tai)) + taw)))))) : Int).toNat).drop (x16_2 : Int).toNat)).length : Int) := of_decide_eq_true Zq4; have q2_ := hlen53; simp only [List.length_drop, List.length_take] at q_ q2_ ⊢; omega)
                    rw [hlen53, hlr53] at hcut53; have HRfa := Ak (Kd.C_of_reads (h1 := fun _ => rfl) (hA53 _ (Kd.reads_of_C HRdX.out))); have HCfa := Ak hC53; clear hA53 hC53 hi053 hsz53; obtain ⟨i054, hi054, _, hsz54, _⟩ := info_parts info5; obtain ⟨A54, hcut54, hA54, hC54⟩ := print_drop_of (P := Try.prog) (Value.int .u8) 0 72 5 .i64 Try.underlying72 hi054 hsz54 A50 (cbX_1 - x16_2.toNat) ((((rd_T77 l1_1 tan).f1).take ((wrap64 (x16_2 + (wrap64 (4 * (wrap64 ((wrap64 (tah + tai)) + taw)))))) : Int).toNat).drop (x16_2 : Int).toNat) (ji45) (of_decide_eq_true Zq4) (of_decide_eq_true Zq4) HCdX.out
                    have hlen54 : (((((rd_T77 l1_1 tan).f1).take ((wrap64 (x16_2 + (wrap64 (4 * (wrap64 ((wrap64 (tah + tai)) + taw)))))) : Int).toNat).drop (x16_2 : Int).toNat)).length = ((wrap64 (x16_2 + (wrap64 (4 * (wrap64 ((wrap64 (tah + tai)) + taw)))))) : Int).toNat - (x16_2 : Int).toNat := (by have q_ : (wrap64 (x16_2 + (wrap64 (4 * (wrap64 ((wrap64 (tah + tai)) + taw)))))) ≤ (((rd_T77 l1_1 tan).f1).length : Int) := of_decide_eq_true Zq4; simp only [List.length_drop, List.length_take]; omega)
                    have hlr54 : ((((((rd_T77 l1_1 tan).f1).take ((wrap64 (x16_2 + (wrap64 (4 * (wrap64 ((wrap64 (tah + tai)) + taw)))))) : Int).toNat).drop (x16_2 : Int).toNat)).drop ((ji45) : Int).toNat).length = ((wrap64 (x16_2 + (wrap64 (4 * (wrap64 ((wrap64 (tah + tai)) + taw)))))) : Int).toNat - (x16_2 : Int).toNat - ((ji45) : Int).toNat := (by have q_ : (ji45) ≤ ((((((rd_T77 l1_1 tan).f1).take ((wrap64 (x16_2 + (wrap64 (4 * (wrap64 ((wrap64 (tah + tai)) + taw)))))) : Int).toNat).drop (x16_2 : Int).toNat)).length : Int) := of_decide_eq_true Zq4; have q2_ := hlen54; simp only [List.length_drop, List.length_take] at q_ q2_ ⊢; omega)
                    rw [hlen54, hlr54] at hcut54; have HRfb := Ak (Kd.C_of_reads (h1 := fun _ => rfl) (hA54 _ (Kd.reads_of_C HRdX.out))); have HCfb := Ak hC54; clear hA54 hC54 hi054 hsz54; refine start_ (n := 28) (S := fun w' => True) (ds := []) #[false, false, false, false, false, false, false, false, false, false, false, false, false, false, false, false, false, false, false, false, false, false, false, false, false, false, false, false] Zq2 rfl rfl trivial (fun hHeld => ?_); refine with_tabW arboretref12_Ranges.tab16 arboretref12_Ranges.bits16 (fun HT_ HW_ => ?_); generalize wr.drew = w51 at HO_15 BKbb BKaR HB HReZ HRfa HRfb hHeld ⊢; refine pure_ (i := 0) (N := some 94) (v := ?_) (a' := ?_) #[true, false, false, false, false, false, false, false, false, false, false, false, false, false, false, false, false, false, false, false, false, false, false, false, false, false, false, false] rfl rfl (any_of HT_.out Zq2) (fun _ _ _ h => h) (Or.inl ⟨Zq3, ?_⟩) ?_ ?_
                    rotate_left
                    ·intro w'
                     go_simp
                     with_reducible rfl
                    rotate_left
                    ·simp only [Sx]
                     rfl
                    refine pure_ (i := 1) (N := some 95) (v := ?_) (a' := ?_) #[true, true, false, false, false, false, false, false, false, false, false, false, false, false, false, false, false, false, false, false, false, false, false, false, false, false, false, false] rfl rfl (any_of HT_.out Zq2) (fun _ _ _ h => h) (Or.inl ⟨Zq3, ?_⟩) ?_ ?_
                    rotate_left
                    ·intro w'
                     go_simp
                     with_reducible rfl
                    rotate_left
                    ·simp only [Sx]
                     rfl
                    refine pure_ (i := 2) (N := some 96) (v := ?_) (a' := ?_) #[true, true, true, false, false, false, false, false, false, false, false, false, false, false, false, false, false, false, false, false, false, false, false, false, false, false, false, false] rfl rfl (any_of HT_.out Zq2) (fun _ _ _ h => h) (Or.inl ⟨Zq3, ?_⟩) ?_ ?_
                    rotate_left
                    ·intro w'
                     go_simp
                     with_reducible rfl
                    rotate_left
                    ·simp only [Sx]
                     rfl
                    refine pure_ (i := 3) (N := some 97) (v := ?_) (a' := ?_) #[true, true, true, true, false, false, false, false, false, false, false, false, false, false, false, false, false, false, false, false, false, false, false, false, false, false, false, false] rfl rfl (any_of HT_.out Zq2) (fun _ _ _ h => h) (Or.inl ⟨Zq3, ?_⟩) ?_ ?_
                    rotate_left
                    ·intro w'
                     go_simp
                     with_reducible rfl
                    rotate_left
                    ·simp only [Sx]
                     rfl
                    refine pure_ (i := 4) (N := some 98) (v := ?_) (a' := ?_) #[true, true, true, true, true, false, false, false, false, false, false, false, false, false, false, false, false, false, false, false, false, false, false, false, false, false, false, false] rfl rfl (any_of HT_.out Zq2) (fun _ _ _ h => h) (Or.inl ⟨Zq3, ?_⟩) ?_ ?_
                    rotate_left
                    ·intro w'
                     go_simp
                     with_reducible rfl
                    rotate_left
                    ·simp only [Sx]
                     rfl
                    refine pure_ (i := 6) (N := some 100) (v := ?_) (a' := ?_) #[true, true, true, true, true, false, true, false, false, false, false, false, false, false, false, false, false, false, false, false, false, false, false, false, false, false, false, false] rfl rfl (any_of HT_.out Zq2) (fun _ _ _ h => h) (Or.inl ⟨Zq3, ?_⟩) ?_ ?_
                    rotate_left
                    ·intro w'
                     go_simp
                     with_reducible rfl
                    rotate_left
                    ·simp only [Sx]
                     rfl
                    refine pure_ (i := 7) (N := some 101) (v := ?_) (a' := ?_) #[true, true, true, true, true, false, true, true, false, false, false, false, false, false, false, false, false, false, false, false, false, false, false, false, false, false, false, false] rfl rfl (any_of HT_.out Zq2) (fun _ _ _ h => h) (Or.inl ⟨Zq3, ?_⟩) ?_ ?_
                    rotate_left
                    ·intro w'
                     go_simp
                     with_reducible rfl
                    rotate_left
                    ·simp only [Sx]
                     rfl
                    refine pure_ (i := 8) (N := some 102) (v := ?_) (a' := ?_) #[true, true, true, true, true, false, true, true, true, false, false, false, false, false, false, false, false, false, false, false, false, false, false, false, false, false, false, false] rfl rfl (any_of HT_.out Zq2) (fun _ _ _ h => h) (Or.inl ⟨Zq3, ?_⟩) ?_ ?_
                    rotate_left
                    ·intro w'
                     go_simp
                     with_reducible rfl
                    rotate_left
                    ·simp only [Sx]
                     rfl
                    refine pure_ (i := 9) (N := some 103) (v := ?_) (a' := ?_) #[true, true, true, true, true, false, true, true, true, true, false, false, false, false, false, false, false, false, false, false, false, false, false, false, false, false, false, false] rfl rfl (any_of HT_.out Zq2) (fun _ _ _ h => h) (Or.inl ⟨Zq3, ?_⟩) ?_ ?_
                    rotate_left
                    ·intro w'
                     go_simp
                     with_reducible rfl
                    rotate_left
                    ·simp only [Sx]
                     rfl
                    refine pure_ (i := 10) (N := some 104) (v := ?_) (a' := ?_) #[true, true, true, true, true, false, true, true, true, true, true, false, false, false, false, false, false, false, false, false, false, false, false, false, false, false, false, false] rfl rfl (any_of HT_.out Zq2) (fun _ _ _ h => h) (Or.inl ⟨Zq3, ?_⟩) ?_ ?_
                    rotate_left
                    ·intro w'
                     go_simp
                     with_reducible rfl
                    rotate_left
                    ·simp only [Sx]
                     rfl
                    refine pure_ (i := 11) (N := some 105) (v := ?_) (a' := ?_) #[true, true, true, true, true, false, true, true, true, true, true, true, false, false, false, false, false, false, false, false, false, false, false, false, false, false, false, false] rfl rfl (any_of HT_.out Zq2) (fun _ _ _ h => h) (Or.inl ⟨Zq3, ?_⟩) ?_ ?_
                    rotate_left
                    ·intro w'
                     go_simp
                     with_reducible rfl
                    rotate_left
                    ·simp only [Sx]
                     rfl
                    refine pure_ (i := 12) (N := some 106) (v := ?_) (a' := ?_) #[true, true, true, true, true, false, true, true, true, true, true, true, true, false, false, false, false, false, false, false, false, false, false, false, false, false, false, false] rfl rfl (any_of HT_.out Zq2) (fun _ _ _ h => h) (Or.inl ⟨Zq3, ?_⟩) ?_ ?_
                    rotate_left
                    ·intro w'
                     go_simp
                     with_reducible rfl
                    rotate_left
                    ·simp only [Sx]
                     rfl
                    refine pure_ (i := 13) (N := some 107) (v := ?_) (a' := ?_) #[true, true, true, true, true, false, true, true, true, true, true, true, true, true, false, false, false, false, false, false, false, false, false, false, false, false, false, false] rfl rfl (any_of HT_.out Zq2) (fun _ _ _ h => h) (Or.inl ⟨Zq3, ?_⟩) ?_ ?_
                    rotate_left
                    ·intro w'
                     go_simp
                     with_reducible rfl
                    rotate_left
                    ·simp only [Sx]
                     rfl
                    refine pure_ (i := 14) (N := some 108) (v := ?_) (a' := ?_) #[true, true, true, true, true, false, true, true, true, true, true, true, true, true, true, false, false, false, false, false, false, false, false, false, false, false, false, false] rfl rfl (any_of HT_.out Zq2) (fun _ _ _ h => h) (Or.inl ⟨Zq3, ?_⟩) ?_ ?_
                    rotate_left
                    ·intro w'
                     go_simp
                     with_reducible rfl
                    rotate_left
                    ·simp only [Sx]
                     rfl
                    refine pure_ (i := 16) (N := some 110) (v := ?_) (a' := ?_) #[true, true, true, true, true, false, true, true, true, true, true, true, true, true, true, false, true, false, false, false, false, false, false, false, false, false, false, false] rfl rfl (any_of HT_.out Zq2) (fun _ _ _ h => h) (Or.inl ⟨Zq3, ?_⟩) ?_ ?_
                    rotate_left
                    ·intro w'
                     go_simp
                     with_reducible rfl
                    rotate_left
                    ·simp only [Sx]
                     rfl
                    refine pure_ (i := 17) (N := some 111) (v := ?_) (a' := ?_) #[true, true, true, true, true, false, true, true, true, true, true, true, true, true, true, false, true, true, false, false, false, false, false, false, false, false, false, false] rfl rfl (any_of HT_.out Zq2) (fun _ _ _ h => h) (Or.inl ⟨Zq3, ?_⟩) ?_ ?_
                    rotate_left
                    ·intro w'
                     go_simp
                     with_reducible rfl
                    rotate_left
                    ·simp only [Sx]
                     rfl
                    refine pure_ (i := 18) (N := some 112) (v := ?_) (a' := ?_) #[true, true, true, true, true, false, true, true, true, true, true, true, true, true, true, false, true, true, true, false, false, false, false, false, false, false, false, false] rfl rfl (any_of HT_.out Zq2) (fun _ _ _ h => h) (Or.inl ⟨Zq3, ?_⟩) ?_ ?_
                    rotate_left
                    ·intro w'
                     go_simp
                     with_reducible rfl
                    rotate_left
                    ·simp only [Sx]
                     rfl
                    refine pure_ (i := 19) (N := some 113) (v := ?_) (a' := ?_) #[true, true, true, true, true, false, true, true, true, true, true, true, true, true, true, false, true, true, true, true, false, false, false, false, false, false, false, false] rfl rfl (any_of HT_.out Zq2) (fun _ _ _ h => h) (Or.inl ⟨Zq3, ?_⟩) ?_ ?_
                    rotate_left
                    ·intro w'
                     go_simp
                     with_reducible rfl
                    rotate_left
                    ·simp only [Sx]
                     rfl
                    refine pure_ (i := 20) (N := some 114) (v := ?_) (a' := ?_) #[true, true, true, true, true, false, true, true, true, true, true, true, true, true, true, false, true, true, true, true, true, false, false, false, false, false, false, false] rfl rfl (any_of HT_.out Zq2) (fun _ _ _ h => h) (Or.inl ⟨Zq3, ?_⟩) ?_ ?_
                    rotate_left
                    ·intro w'
                     go_simp
                     with_reducible rfl
                    rotate_left
                    ·simp only [Sx]
                     rfl
                    refine pure_ (i := 21) (N := some 115) (v := ?_) (a' := ?_) #[true, true, true, true, true, false, true, true, true, true, true, true, true, true, true, false, true, true, true, true, true, true, false, false, false, false, false, false] rfl rfl (any_of HT_.out Zq2) (fun _ _ _ h => h) (Or.inl ⟨Zq3, ?_⟩) ?_ ?_
                    rotate_left
                    ·intro w'
                     go_simp
                     with_reducible rfl
                    rotate_left
                    ·simp only [Sx]
                     rfl
                    refine pure_ (i := 22) (N := some 116) (v := ?_) (a' := ?_) #[true, true, true, true, true, false, true, true, true, true, true, true, true, true, true, false, true, true, true, true, true, true, true, false, false, false, false, false] rfl rfl (any_of HT_.out Zq2) (fun _ _ _ h => h) (Or.inl ⟨Zq3, ?_⟩) ?_ ?_
                    rotate_left
                    ·intro w'
                     go_simp
                     with_reducible rfl
                    rotate_left
                    ·simp only [Sx]
                     rfl
                    refine one_ (i := 5) (N := some 99) #[true, true, true, true, true, true, true, true, true, true, true, true, true, true, true, false, true, true, true, true, true, true, true, false, false, false, false, false] rfl rfl (one_of HT_.out Zq2) Zq7 (fun K hK => ?_); refine goes_ Try.func46 Zq2 rfl #[.slice A50 (((((rd_T77 l1_1 tan).f1).take ((wrap64 (x16_2 + (wrap64 (4 * (wrap64 ((wrap64 (tah + tai)) + taw)))))) : Int).toNat).drop (x16_2 : Int).toNat).take ((ji37) : Int).toNat).length (cbX_1 - x16_2.toNat)] Zq3 rfl rfl (by (try simp only [List.map_toArray, List.map_cons, List.map_nil]); first | done | (rw [hlr52]; rfl) | (rw [hlr53]; rfl) | (rw [hlr54]; rfl) | (rw [show (((((rd_T77 l1_1 tan).f1).take ((wrap64 (x16_2 + (wrap64 (4 * (wrap64 ((wrap64 (tah + tai)) + taw)))))) : Int).toNat).drop (x16_2 : Int).toNat).take ((ji37) : Int).toNat).length = (ji37).toNat from (by rw [List.length_take]; have h_ : ((ji37) : Int) ≤ (((((rd_T77 l1_1 tan).f1).take ((wrap64 (x16_2 + (wrap64 (4 * (wrap64 ((wrap64 (tah + tai)) + taw)))))) : Int).toNat).drop (x16_2 : Int).toNat).length : Int) := of_decide_eq_true Zq4; omega)] <;> rfl) | (simp only [hji37]; rfl) | rfl | (simp only [List.length_drop, List.length_take]; rfl)) ?_; with_reducible refine (arboretref12_wide.calls k2 _ _ (((((rd_T77 l1_1 tan).f1).take ((wrap64 (x16_2 + (wrap64 (4 * (wrap64 ((wrap64 (tah + tai)) + taw)))))) : Int).toNat).drop (x16_2 : Int).toNat).take ((ji37) : Int).toNat) tcH _ ?side1 ?side2 A40.out).mono ?_
                    (case side1 => repeat (first | exact (Kd.C_below HReZ.out HB.out) | (with_reducible refine Kd.C_alloc ?_ _) | (with_reducible refine Kd.C_drewN ?_ _) | (with_reducible refine Kd.C_drew ?_)))
                    (case side2 => exact HCeZ.out)
                    rintro e w' ⟨rfl, ⟨nd, rfl⟩⟩
                    refine ⟨_, rfl, ?_⟩; refine hK.out _ _ trivial (fun hHeld => ?_); clear hK K; refine norm_ (a' := ?_) ?_ ?_
                    rotate_left
                    ·show Act.put _ (some 99) _ = _
                     simp only [Sx]
                     rfl
                    refine one_ (i := 15) (N := some 109) #[true, true, true, true, true, true, true, true, true, true, true, true, true, true, true, true, true, true, true, true, true, true, true, false, false, false, false, false] rfl rfl (one_of HT_.out Zq2) Zq7 (fun K hK => ?_); refine goes_ Try.func46 Zq2 rfl #[.slice A53 ((((((rd_T77 l1_1 tan).f1).take ((wrap64 (x16_2 + (wrap64 (4 * (wrap64 ((wrap64 (tah + tai)) + taw)))))) : Int).toNat).drop (x16_2 : Int).toNat).take ((ji45) : Int).toNat).drop ((ji37) : Int).toNat).length ((cbX_1 - x16_2.toNat) - (ji37).toNat)] Zq3 rfl rfl (by (try simp only [List.map_toArray, List.map_cons, List.map_nil]); first | done | (rw [hlr52]; rfl) | (rw [hlr53]; rfl) | (rw [hlr54]; rfl) | (rw [show ((((((rd_T77 l1_1 tan).f1).take ((wrap64 (x16_2 + (wrap64 (4 * (wrap64 ((wrap64 (tah + tai)) + taw)))))) : Int).toNat).drop (x16_2 : Int).toNat).take ((ji45) : Int).toNat).drop ((ji37) : Int).toNat).length = ((ji45).toNat - (ji37).toNat) from (by rw [List.length_drop, List.length_take]; have h_ : ((ji45) : Int) ≤ (((((rd_T77 l1_1 tan).f1).take ((wrap64 (x16_2 + (wrap64 (4 * (wrap64 ((wrap64 (tah + tai)) + taw)))))) : Int).toNat).drop (x16_2 : Int).toNat).length : Int) := of_decide_eq_true Zq4; omega)] <;> rfl) | (simp only [hji37, hji45]; rfl) | rfl | (simp only [List.length_drop, List.length_take]; rfl)) ?_; with_reducible refine (arboretref12_wide.calls k2 _ _ ((((((rd_T77 l1_1 tan).f1).take ((wrap64 (x16_2 + (wrap64 (4 * (wrap64 ((wrap64 (tah + tai)) + taw)))))) : Int).toNat).drop (x16_2 : Int).toNat).take ((ji45) : Int).toNat).drop ((ji37) : Int).toNat) tcv _ ?side1 ?side2 A44.out).mono ?_
                    (case side1 => repeat (first | exact (Kd.C_below HRfa.out Zq25) | (with_reducible refine Kd.C_alloc ?_ _) | (with_reducible refine Kd.C_drewN ?_ _) | (with_reducible refine Kd.C_drew ?_)))
                    (case side2 => exact HCfa.out)
                    rintro e w' ⟨rfl, ⟨nd, rfl⟩⟩
                    refine ⟨_, rfl, ?_⟩; refine hK.out _ _ trivial (fun hHeld => ?_); clear hK K; refine norm_ (a' := ?_) ?_ ?_
                    rotate_left
                    ·show Act.put _ (some 109) _ = _
                     simp only [Sx]
                     rfl
                    refine one_ (i := 23) (N := some 117) #[true, true, true, true, true, true, true, true, true, true, true, true, true, true, true, true, true, true, true, true, true, true, true, true, false, false, false, false] rfl rfl (one_of HT_.out Zq2) Zq7 (fun K hK => ?_); refine goes_ Try.func46 Zq2 rfl #[.slice A54 (((((rd_T77 l1_1 tan).f1).take ((wrap64 (x16_2 + (wrap64 (4 * (wrap64 ((wrap64 (tah + tai)) + taw)))))) : Int).toNat).drop (x16_2 : Int).toNat).drop ((ji45) : Int).toNat).length ((cbX_1 - x16_2.toNat) - (ji45).toNat)] Zq3 rfl rfl (by (try simp only [List.map_toArray, List.map_cons, List.map_nil]); first | done | (rw [hlr52]; rfl) | (rw [hlr53]; rfl) | (rw [hlr54]; rfl) | (rw [show (((((rd_T77 l1_1 tan).f1).take ((wrap64 (x16_2 + (wrap64 (4 * (wrap64 ((wrap64 (tah + tai)) + taw)))))) : Int).toNat).drop (x16_2 : Int).toNat).drop ((ji45) : Int).toNat).length = (((((rd_T77 l1_1 tan).f1).take ((wrap64 (x16_2 + (wrap64 (4 * (wrap64 ((wrap64 (tah + tai)) + taw)))))) : Int).toNat).drop (x16_2 : Int).toNat).length - (ji45).toNat) from List.length_drop] <;> rfl) | (simp only [hji45]; rfl) | rfl | (simp only [List.length_drop, List.length_take]; rfl)) ?_; with_reducible refine (arboretref12_wide.calls k2 _ _ (((((rd_T77 l1_1 tan).f1).take ((wrap64 (x16_2 + (wrap64 (4 * (wrap64 ((wrap64 (tah + tai)) + taw)))))) : Int).toNat).drop (x16_2 : Int).toNat).drop ((ji45) : Int).toNat) tck _ ?side1 ?side2 A48.out).mono ?_
                    (case side1 => repeat (first | exact (Kd.C_below HRfb.out Zq25) | (with_reducible refine Kd.C_alloc ?_ _) | (with_reducible refine Kd.C_drewN ?_ _) | (with_reducible refine Kd.C_drew ?_)))
                    (case side2 => exact HCfb.out)
                    rintro e w' ⟨rfl, ⟨nd, rfl⟩⟩
                    refine ⟨_, rfl, ?_⟩; refine hK.out _ _ trivial (fun hHeld => ?_); clear hK K; refine norm_ (a' := ?_) ?_ ?_
                    rotate_left
                    ·show Act.put _ (some 117) _ = _
                     simp only [Sx]
                     rfl
                    refine pure_ (i := 24) (N := some 118) (v := ?_) (a' := ?_) #[true, true, true, true, true, true, true, true, true, true, true, true, true, true, true, true, true, true, true, true, true, true, true, true, true, false, false, false] rfl rfl (any_of HT_.out Zq2) (fun _ _ _ h => h) (Or.inl ⟨Zq3, ?_⟩) ?_ ?_
                    rotate_left
                    ·intro w'
                     go_simp
                     with_reducible rfl
                    rotate_left
                    ·simp only [Sx]
                     rfl
                    refine one_ (i := 25) (N := some 119) #[true, true, true, true, true, true, true, true, true, true, true, true, true, true, true, true, true, true, true, true, true, true, true, true, true, true, false, false] rfl rfl (one_of HT_.out Zq2) Zq7 (fun K hK => ?_); refine value_ (w1 := ?_) (v := ?_) Zq3 rfl ?_ ?_
                    rotate_left 2
                    ·go_simp
                     constructor
                     ·rfl
                     ·rfl
                    refine hK.out _ _ trivial (fun hHeld => ?_); clear hK K; refine norm_ (a' := ?_) ?_ ?_
                    rotate_left
                    ·show Act.put _ (some 119) _ = _
                     simp only [Sx]
                     rfl
                    refine one_ (i := 26) (N := some 120) #[true, true, true, true, true, true, true, true, true, true, true, true, true, true, true, true, true, true, true, true, true, true, true, true, true, true, true, false] rfl rfl (one_of HT_.out Zq2) Zq7 (fun K hK => ?_); refine Kd.R_append_step k45 (w0 := w) w.heap.size Zq3 (.tmp 94) (.tmp 119) 40 45 (.agg #[(.int .u64 0), (.int .u64 0), (.int .u64 0)]) 24 rfl Try.underlying40 info45 rfl Zq7 Zq1 u15 x15_2 (⟨tcH, tcv, tck⟩ : S45) [.int .u64 tcH, .int .u64 tcv, .int .u64 tck] (fun _ => True) (fun _ => False) rfl rfl ?aP (fun _ hk => hk.elim) ?aF ?aO ?aB ?aS ?aL ?_
                    (case aP => exact k45_mkM _ _ _ (⟨tcH, tcv, tck⟩ : S45))
                    (case aB => exact Zq25)
                    (case aF => exact (fun _ _ => trivial))
                    (case aO => exact (by (with_reducible repeat (first | apply Kd.R_alloc | apply Kd.R_drewN | apply Kd.R_drew)); exact HO_15.out))
                    (case aS => exact (below_size Zq25))
                    (case aL => have := LMc49.out; omega)
                    intro v327 w55 ho hb hg hat; rw [← Nyda.out] at ho; have n0_ := Ak (blk_grown (g := gbbb) (o := .cells #[.string a0_0, .slice A0_1 l0_1.length c0_1, .slice A0_2 l0_2.length c0_2] 30 (0, 0)) Zq29 hg (Kd.R_ne HO_15.out BKbb.out Zq7)); have n1_ := Ak (blk_grown (g := gbaR) (o := .cells #[.string a1_0, .slice (some adbX) l1_1.length c1_1, .slice A1_2 l1_2.length c1_2] 30 (0, 0)) Zq44 hg (Kd.R_ne HO_15.out BKaR.out Zq7)); have n2_ := Ak (hb); have n3_ := Ak (ho); clear BKbb BKaR HB HO_15; have BKbb := n0_; have BKaR := n1_; have HB := n2_; have HOgm := n3_; clear n0_ n1_ n2_ n3_ ho hb hg hat; refine hK.out _ _ trivial (fun hHeld => ?_); clear hK K; refine norm_ (a' := ?_) ?_ ?_
                    rotate_left
                    ·show Act.put _ (some 120) _ = _
                     simp only [Sx]
                     rfl
                    refine pure_ (i := 27) (N := some 15) (v := ?_) (a' := ?_) #[true, true, true, true, true, true, true, true, true, true, true, true, true, true, true, true, true, true, true, true, true, true, true, true, true, true, true, true] rfl rfl (any_of HT_.out Zq2) (fun _ _ _ h => h) (Or.inl ⟨Zq3, ?_⟩) ?_ ?_
                    rotate_left
                    ·intro w'
                     go_simp
                     with_reducible rfl
                    rotate_left
                    ·simp only [Sx]
                     rfl
                    refine done_ (done_of HT_.out Zq2) ?_
                    try go_wp2
                    first | (go_roundg k2) | ((try subst hji37); (try subst hji45); go_roundg k2)
                    case measure => have := HJ13.out; have := HK2.out; omega
                    case rel => exact ⟨(yda), (wrap64 (x16_2 + (wrap64 (4 * (wrap64 ((wrap64 (tah + tai)) + taw)))))), Zq6, H', ⟨by have := HJ13.out; have := HK2.out; omega⟩, ⟨by (with_reducible repeat (first | apply Kd.R_alloc | apply Kd.R_drewN | apply Kd.R_drew)); exact HOgm.out⟩, ⟨Zq29⟩, ⟨Zq44⟩, ⟨Zq25⟩⟩
                   ·rw [if_neg c49] at H; exact absurd H Zq8
                  ·rw [if_neg c46] at H; exact absurd H Zq8
                 ·rw [if_neg c43] at H; exact absurd H Zq8
                ·rw [if_neg c42] at H; exact absurd H Zq8
               ·rw [if_neg c39] at H; exact absurd H Zq8
              ·rw [if_neg c38] at H; exact absurd H Zq8
             ·rw [if_neg c36] at H; exact absurd H Zq8
            ·rw [if_neg c35] at H; exact absurd H Zq8
           ·rw [if_neg c34] at H; exact absurd H Zq8
          ·rw [if_neg c33] at H; have c33b0 : decide (x16_2 < (((rd_T77 l1_1 tan).f1).length : Int)) = false := decide_eq_false c33; clear c33; simp only [Option.some.injEq, Prod.mk.injEq] at H; obtain ⟨rfl, rfl, rfl⟩ := H
           go_wp2
           go_ret3
           exact ⟨_, Zq10, by (with_reducible repeat (first | apply Kd.R_alloc | apply Kd.R_drewN | apply Kd.R_drew)); exact HO_15.out, Zq25⟩
   ·rw [if_neg c11] at H; exact absurd H Zq8
  ·rw [if_neg c10] at H; exact absurd H Zq8
end Go.Proofs.Yteejaaeglfpcmab.PX

namespace Go.Proofs.Yteejaaeglfpcmab.PX
open Go.RowKit Go.Proofs.YteejaaeglfpcmabW.PrintWords Go.Proofs.YteejaaeglfpcmabW.PrintLast Go.Proofs.YteejaaeglfpcmabW.PrintMore
attribute [local go_sem] max2_int min2_int max_two min_two max_three min_three max_four min_four
def arboretref06_Get.l0 : Nat → List Int → Int → Int → ByteArray → List (S77) → List (S30) → Option (ByteArray × (List (S77)) × (List (S30)) × Bool)
 | 0, _, _, _, _, _, _ => none
 | k + 1, x1, x11, x12, xcl, xbB, xaJ => if x12 < x11 then (if 0 ≤ x12 then (if x12 < (x1.length : Int) then (if (rd x1 x12) < 0 then (some ((⟨#[]⟩ : ByteArray), ([] : List (S77)), ([] : List (S30)), false)) else (if (rd x1 x12) ≥ (xaJ.length : Int) then (some ((⟨#[]⟩ : ByteArray), ([] : List (S77)), ([] : List (S30)), false)) else (if 0 ≤ (rd x1 x12) then (if (rd x1 x12) < (xaJ.length : Int) then (arboretref06_Get.l0 k x1 x11 (wrap64 (x12 + 1)) ((rd_T30 xaJ (rd x1 x12)).f0) ((rd_T30 xaJ (rd x1 x12)).f1) ((rd_T30 xaJ (rd x1 x12)).f2)) else (none)) else (none)))) else (none)) else (none)) else (some (xcl, xbB, xaJ, true))
def arboretref06_Get.f (k : Nat) (a0_0 : Int) (l0_1 : List (S94)) (a0_2 : ByteArray) (l0_3 : List (S77)) (l0_4 : List (S30)) (l1 : List Int) : Option (ByteArray × (List (S77)) × (List (S30)) × Bool) := arboretref06_Get.l0 k l1 (l1.length : Int) 0 a0_2 l0_3 l0_4
def arboretref06_Get.T5 : Bool × List (List Nat × List Nat) := (true, [([], []), ([], []), ([0, 1], [0, 1]), ([2], [2]), ([3], [3]), ([4], [4]), ([5], [5]), ([5], [5]), ([6, 7, 5], [5, 6, 7]), ([8, 5], [5, 8]), ([5], [5]), ([10, 5], [5, 10]), ([11, 5], [5, 11]), ([9, 12, 5], [5, 9, 12]), ([5, 13], [5, 13])])
def arboretref06_Get.B5 : List Nat := [0, 0, 3, 7, 15, 31, 63, 63, 255, 511, 63, 1087, 3135, 8191, 16383]
theorem arboretref06_Get.tab5 : rtab .any (opsOf Try.f21 5) = arboretref06_Get.T5 := by kernel_rfl
theorem arboretref06_Get.bits5 : waitsOk arboretref06_Get.T5.2 arboretref06_Get.B5 = true := by kernel_rfl
def arboretref06_Get.T7 : Bool × List (List Nat × List Nat) := (true, [([], []), ([0], [0]), ([], []), ([], []), ([2, 3], [2, 3]), ([4], [4]), ([1, 5], [1, 5]), ([6], [6]), ([7, 0, 1, 2, 3, 4, 5, 6, 7], [7])])
def arboretref06_Get.B7 : List Nat := [0, 1, 0, 0, 12, 28, 63, 127, 255]
theorem arboretref06_Get.tab7 : rtab .any (opsOf Try.f21 7) = arboretref06_Get.T7 := by kernel_rfl
theorem arboretref06_Get.bits7 : waitsOk arboretref06_Get.T7.2 arboretref06_Get.B7 = true := by kernel_rfl
end Go.Proofs.Yteejaaeglfpcmab.PX

namespace Go.Proofs.Yteejaaeglfpcmab.PX
open Go.RowKit Go.Proofs.YteejaaeglfpcmabW.PrintWords Go.Proofs.YteejaaeglfpcmabW.PrintLast Go.Proofs.YteejaaeglfpcmabW.PrintMore
attribute [local go_sem] max2_int min2_int max_two min_two max_three min_three max_four min_four
set_option maxHeartbeats 8000000 in
set_option maxRecDepth 100000 in
theorem arboretref06_Get.calls (k : Nat) (a0_0 : Int) (A0_1 : Option Addr) (c0_1 : Nat) (l0_1 : List (S94)) (a0_2 : ByteArray) (P0_3_ : Nat → Prop) (A0_3 : Option Addr) (c0_3 : Nat) (l0_3 : List (S77)) (P0_4_ : Nat → Prop) (A0_4 : Option Addr) (c0_4 : Nat) (l0_4 : List (S30)) (A1 : Option Addr) (c1 : Nat) (l1 : List Int) (r1 : ByteArray) (r2 : List (S77)) (r3 : List (S30)) (r4 : Bool) (w : World) (hr0_1 : Kd.C k94 w A0_1 l0_1.length l0_1) (hc0_1 : l0_1.length ≤ c0_1) (hs0_3 : Kd.V k77 77 w w.heap.size (fun k_ => P0_3_ k_) (.slice A0_3 l0_3.length c0_3) l0_3) (hs0_4 : Kd.V k30 30 w w.heap.size (fun k_ => P0_4_ k_) (.slice A0_4 l0_4.length c0_4) l0_4) (hr1 : Kd.C (Kd.int .i64) w A1 l1.length l1) (hc1 : l1.length ≤ c1) (h : arboretref06_Get.f k a0_0 l0_1 a0_2 l0_3 l0_4 l1 = some (r1, r2, r3, r4)) :
  Calls Try.prog 21 #[.agg #[.int .u32 a0_0, .slice A0_1 l0_1.length c0_1, .string a0_2, .slice A0_3 l0_3.length c0_3, .slice A0_4 l0_4.length c0_4], .slice A1 l1.length c1] w fun e w' => ∃ v1_ v2_ : Value, e = .returned (.tuple #[.agg #[.string r1, v1_, v2_], .bool r4]) ∧ Kd.V k77 77 w' w.heap.size (fun k_ => ((P0_3_ k_ ∨ P0_4_ k_) ∨ w.heap.size ≤ k_)) v1_ r2 ∧ Kd.V k30 30 w' w.heap.size (fun k_ => ((P0_3_ k_ ∨ P0_4_ k_) ∨ w.heap.size ≤ k_)) v2_ r3 ∧ Below w.heap.size w w' := by
 have hu35 := Try.underlying35; have hu30 := Try.underlying30; have HR0_1 := Ak hr0_1; have HC0_1 := Ak hc0_1; clear hr0_1 hc0_1; have HO0_3 := Zq203; have HO0_4 := Zq204; have HR1 := Ak hr1; have HC1 := Ak hc1; clear hr1 hc1; have HB := Zq129; have H : (arboretref06_Get.l0 k l1 (l1.length : Int) 0 a0_2 l0_3 l0_4) = some (r1, r2, r3, r4) := h; clear h; have H' := Ak H; clear H
 go_enter Try.func21, Try.ntmps21
 go_wp2_with (first | ((with_reducible refine gate_dst (N := 2) rfl ?_); (try (refine gate_guard Zq3 ?_; dsimp only)); refine box_event ?hg (N := 2) ?hd (cs := #[.int .u32 a0_0, .slice A0_1 l0_1.length c0_1, .string a0_2, .slice A0_3 l0_3.length c0_3, .slice A0_4 l0_4.length c0_4]) (t := 35) ?hr ?_; (case hd | hg => rfl); (case hr => first | (go_simp; done) | (go_simp; rfl)); intro gbaV hg w3 hbox hb; have n0_ := Ak (Kd.V_below (Kd.V_elderB Zq60 gbaV (Nat.le_of_eq hg.symm)) hb); have n1_ := Ak (Kd.V_below (Kd.V_elderB Zq61 gbaV (Nat.le_of_eq hg.symm)) hb); have n2_ := Zq122; have n3_ := Ak (hbox); have n4_ := Ak ((by rw [hg]; exact (below_size Zq5) : w.heap.size ≤ gbaV)); have n5_ := Ak ((by rw [hg]; exact (below_size Zq5) : w.heap.size ≤ gbaV)); clear HO0_3 HO0_4 HB; have HO0_3 := n0_; have HO0_4 := n1_; have HB := n2_; have BKaV := n3_; have GWaV := n4_; have GEaV := n5_; clear n0_ n1_ n2_ n3_ n4_ n5_ hb hbox hg) | ((with_reducible refine gate_dst (N := 4) rfl ?_); (try (refine gate_guard Zq3 ?_; dsimp only)); refine box_event ?hg (N := 4) ?hd (cs := #[.string (⟨#[]⟩ : ByteArray), .slice none 0 0, .slice none 0 0]) (t := 30) ?hr ?_; (case hd | hg => rfl); (case hr => first | (go_simp; done) | (go_simp; rfl)); intro gbaF hg w4 hbox hb; have n0_ := Ak (Kd.V_below (Kd.V_elderB Zq60 gbaF (Nat.le_of_eq hg.symm)) hb); have n1_ := Ak (Kd.V_below (Kd.V_elderB Zq61 gbaF (Nat.le_of_eq hg.symm)) hb); have n2_ := Zq202; have n3_ := Ak (below_step (by repeat (first | (with_reducible first | exact HB.out | apply below_alloc | apply pw_below_drewN | apply below_drew1 | refine below_set ?_ GEaV.out) | exact HB.out)) hb); have n4_ := Ak (hbox); have n5_ := Ak ((by rw [hg]; exact (below_size (by repeat (first | (with_reducible first | exact HB.out | apply below_alloc | apply pw_below_drewN | apply below_drew1 | refine below_set ?_ GEaV.out) | exact HB.out))) : w.heap.size ≤ gbaF)); have n6_ := Ak ((by rw [hg]; exact (below_size (by repeat (first | (with_reducible first | exact HB.out | apply below_alloc | apply pw_below_drewN | apply below_drew1 | refine below_set ?_ GEaV.out) | exact HB.out))) : w.heap.size ≤ gbaF)); have n7_ := Ak ((by rw [hg]; exact Nat.ne_of_lt Zq149 : gbaV ≠ gbaF)); have n8_ := Ak ((by rw [hg]; exact Nat.ne_of_gt Zq149 : gbaF ≠ gbaV)); clear HO0_3 HO0_4 BKaV HB; have HO0_3 := n0_; have HO0_4 := n1_; have BKaV := n2_; have HB := n3_; have BKaF := n4_; have GWaF := n5_; have GEaF := n6_; have NB371_372 := n7_; have NB372_371 := n8_; clear n0_ n1_ n2_ n3_ n4_ n5_ n6_ n7_ n8_ hb hbox hg; have hnb5 := NB371_372.out; have hnc5 := NB372_371.out; have hcz6_0 : w4.cell? ⟨gbaV, 0, none⟩ = some (.int .u32 a0_0) := (blk_cell BKaV.out 0).trans rfl; have hcz6_1 : w4.cell? ⟨gbaV, 1, none⟩ = some (.slice A0_1 l0_1.length c0_1) := (blk_cell BKaV.out 1).trans rfl; have hcz6_2 : w4.cell? ⟨gbaV, 2, none⟩ = some (.string a0_2) := (blk_cell BKaV.out 2).trans rfl; have hcz6_3 : w4.cell? ⟨gbaV, 3, none⟩ = some (.slice A0_3 l0_3.length c0_3) := (blk_cell BKaV.out 3).trans rfl; have hcz6_4 : w4.cell? ⟨gbaV, 4, none⟩ = some (.slice A0_4 l0_4.length c0_4) := (blk_cell BKaV.out 4).trans rfl; have hfz6_0 := blk_frozen BKaV.out 0; have hfz6_1 := blk_frozen BKaV.out 1; have hfz6_2 := blk_frozen BKaV.out 2; have hfz6_3 := blk_frozen BKaV.out 3; have hfz6_4 := blk_frozen BKaV.out 4) | ((with_reducible refine gate_dst (N := 6) rfl ?_); (try (refine gate_guard Zq3 ?_; dsimp only)); refine box_event ?hg (N := 6) ?hd (cs := #[.string (⟨#[]⟩ : ByteArray), .slice none 0 0, .slice none 0 0]) (t := 30) ?hr ?_; (case hd | hg => rfl); (case hr => first | (go_simp; done) | (go_simp; rfl)); intro gbaq hg w7 hbox hb; have n0_ := Ak (Kd.V_below (Kd.V_elderB Zq60 gbaq (Nat.le_of_eq hg.symm)) hb); have n1_ := Ak (Kd.V_below (Kd.V_elderB Zq61 gbaq (Nat.le_of_eq hg.symm)) hb); have n2_ := Zq202; have n3_ := Ak (blk_below (g := gbaF) (o := .cells #[.string (⟨#[]⟩ : ByteArray), .slice none 0 0, .slice none 0 0] 30 (0, 0)) (by (with_reducible repeat (first | refine blk_drewN ?_ _ | refine blk_drew ?_ | refine blk_alloc ?_ _)); exact BKaF.out) hb); have n4_ := Ak (below_step Zq116 hb); have n5_ := Ak (hbox); have n6_ := Ak ((by rw [hg]; exact (below_size Zq116) : w.heap.size ≤ gbaq)); have n7_ := Ak ((by rw [hg]; exact (below_size Zq116) : w.heap.size ≤ gbaq)); have n8_ := Ak ((by rw [hg]; exact Nat.ne_of_lt Zq149 : gbaV ≠ gbaq)); have n9_ := Ak ((by rw [hg]; exact Nat.ne_of_gt Zq149 : gbaq ≠ gbaV)); have n10_ := Ak ((by rw [hg]; exact Nat.ne_of_lt (blk_lt (g := gbaF) (o := .cells #[.string (⟨#[]⟩ : ByteArray), .slice none 0 0, .slice none 0 0] 30 (0, 0)) (by (with_reducible repeat (first | refine blk_drewN ?_ _ | refine blk_drew ?_ | refine blk_alloc ?_ _)); exact BKaF.out)) : gbaF ≠ gbaq)); have n11_ := Ak ((by rw [hg]; exact Nat.ne_of_gt (blk_lt (g := gbaF) (o := .cells #[.string (⟨#[]⟩ : ByteArray), .slice none 0 0, .slice none 0 0] 30 (0, 0)) (by (with_reducible repeat (first | refine blk_drewN ?_ _ | refine blk_drew ?_ | refine blk_alloc ?_ _)); exact BKaF.out)) : gbaq ≠ gbaF)); clear HO0_3 HO0_4 BKaV BKaF HB; have HO0_3 := n0_; have HO0_4 := n1_; have BKaV := n2_; have BKaF := n3_; have HB := n4_; have BKaq := n5_; have GWaq := n6_; have GEaq := n7_; have NB371_373 := n8_; have NB373_371 := n9_; have NB372_373 := n10_; have NB373_372 := n11_; clear n0_ n1_ n2_ n3_ n4_ n5_ n6_ n7_ n8_ n9_ n10_ n11_ hb hbox hg; have hnb8 := NB373_371.out; have hnc8 := NB371_373.out; have hnb9 := NB373_372.out; have hnc9 := NB372_373.out; have hcz10_0 : w7.cell? ⟨gbaq, 0, none⟩ = some (.string (⟨#[]⟩ : ByteArray)) := (blk_cell BKaq.out 0).trans rfl; have hcz10_1 : w7.cell? ⟨gbaq, 1, none⟩ = some (.slice none 0 0) := (blk_cell BKaq.out 1).trans rfl; have hcz10_2 : w7.cell? ⟨gbaq, 2, none⟩ = some (.slice none 0 0) := (blk_cell BKaq.out 2).trans rfl; have hfz10_0 := blk_frozen BKaq.out 0; have hfz10_1 := blk_frozen BKaq.out 1; have hfz10_2 := blk_frozen BKaq.out 2))
 go_loopg [12] k (fun kq v12 w' => ∃ (x12_1 : Int) (xdy_1 : ByteArray) (xcl_1 : ByteArray) (xbB_1 : List (S77)) (xaJ_1 : List (S30)) (u374001 : Value) (u374002 : Value), v12 = .int .i64 x12_1 ∧ Aside0 (arboretref06_Get.l0 kq l1 (l1.length : Int) x12_1 xcl_1 xbB_1 xaJ_1 = some (r1, r2, r3, r4)) ∧ Aside0 (kq ≤ k) ∧ Aside0 (Kd.V k77 77 w' w.heap.size (fun k_ => ((P0_3_ k_ ∨ P0_4_ k_) ∨ w.heap.size ≤ k_) ∧ k_ ≠ gbaV ∧ k_ ≠ gbaF ∧ k_ ≠ gbaq) (.slice A0_3 l0_3.length c0_3) l0_3) ∧ Aside0 (Kd.V k30 30 w' w.heap.size (fun k_ => ((P0_3_ k_ ∨ P0_4_ k_) ∨ w.heap.size ≤ k_) ∧ k_ ≠ gbaV ∧ k_ ≠ gbaF ∧ k_ ≠ gbaq) (.slice A0_4 l0_4.length c0_4) l0_4) ∧ Aside0 (Kd.V k77 77 w' w.heap.size (fun k_ => ((P0_3_ k_ ∨ P0_4_ k_) ∨ w.heap.size ≤ k_) ∧ k_ ≠ gbaV ∧ k_ ≠ gbaF ∧ k_ ≠ gbaq) u374001 xbB_1) ∧ Aside0 (Kd.V k30 30 w' w.heap.size (fun k_ => ((P0_3_ k_ ∨ P0_4_ k_) ∨ w.heap.size ≤ k_) ∧ k_ ≠ gbaV ∧ k_ ≠ gbaF ∧ k_ ≠ gbaq) u374002 xaJ_1) ∧ Aside0 (w'.heap[gbaV]? = some (.cells #[.int .u32 a0_0, (.slice A0_1 l0_1.length c0_1), .string a0_2, (.slice A0_3 l0_3.length c0_3), (.slice A0_4 l0_4.length c0_4)] 35 (0, 0))) ∧ Aside0 (w'.heap[gbaF]? = some (.cells #[.string xdy_1, (.slice none 0 0), (.slice none 0 0)] 30 (0, 0))) ∧ Aside0 (w'.heap[gbaq]? = some (.cells #[.string xcl_1, u374001, u374002] 30 (0, 0))) ∧ Aside0 (Below w.heap.size w w'))
 case atStart => exact ⟨(0), ((⟨#[]⟩ : ByteArray)), (a0_2), (l0_3), (l0_4), (.slice A0_3 l0_3.length c0_3), (.slice A0_4 l0_4.length c0_4), Zq6, H', ⟨Nat.le_refl _⟩, ⟨by (with_reducible repeat (first | apply Kd.V_alloc | apply Kd.V_drewN | apply Kd.V_drew)); exact Kd.V_mono (Kd.V_far (p := ⟨gbaq, 2, none⟩) (Kd.V_far (p := ⟨gbaq, 1, none⟩) (Kd.V_far (p := ⟨gbaq, 0, none⟩) (Kd.V_mono HO0_3.out (fun k_ hk => (⟨hk, hk.2⟩ : _ ∧ k_ ≠ gbaq))) (fun _ hk => hk.2) (.string a0_2)) (fun _ hk => hk.2) (.slice A0_3 l0_3.length c0_3)) (fun _ hk => hk.2) (.slice A0_4 l0_4.length c0_4)) (fun _ hk => ⟨hk.1.1.1.1, ⟨hk.1.1.1.2, ⟨hk.1.1.2, hk.1.2⟩⟩⟩)⟩, ⟨by (with_reducible repeat (first | apply Kd.V_alloc | apply Kd.V_drewN | apply Kd.V_drew)); exact Kd.V_mono (Kd.V_far (p := ⟨gbaq, 2, none⟩) (Kd.V_far (p := ⟨gbaq, 1, none⟩) (Kd.V_far (p := ⟨gbaq, 0, none⟩) (Kd.V_mono HO0_4.out (fun k_ hk => (⟨hk, hk.2⟩ : _ ∧ k_ ≠ gbaq))) (fun _ hk => hk.2) (.string a0_2)) (fun _ hk => hk.2) (.slice A0_3 l0_3.length c0_3)) (fun _ hk => hk.2) (.slice A0_4 l0_4.length c0_4)) (fun _ hk => ⟨hk.1.1.1.1, ⟨hk.1.1.1.2, ⟨hk.1.1.2, hk.1.2⟩⟩⟩)⟩, ⟨by (with_reducible repeat (first | apply Kd.V_alloc | apply Kd.V_drewN | apply Kd.V_drew)); exact Kd.V_mono (Kd.V_far (p := ⟨gbaq, 2, none⟩) (Kd.V_far (p := ⟨gbaq, 1, none⟩) (Kd.V_far (p := ⟨gbaq, 0, none⟩) (Kd.V_mono HO0_3.out (fun k_ hk => (⟨hk, hk.2⟩ : _ ∧ k_ ≠ gbaq))) (fun _ hk => hk.2) (.string a0_2)) (fun _ hk => hk.2) (.slice A0_3 l0_3.length c0_3)) (fun _ hk => hk.2) (.slice A0_4 l0_4.length c0_4)) (fun _ hk => ⟨hk.1.1.1.1, ⟨hk.1.1.1.2, ⟨hk.1.1.2, hk.1.2⟩⟩⟩)⟩, ⟨by (with_reducible repeat (first | apply Kd.V_alloc | apply Kd.V_drewN | apply Kd.V_drew)); exact Kd.V_mono (Kd.V_far (p := ⟨gbaq, 2, none⟩) (Kd.V_far (p := ⟨gbaq, 1, none⟩) (Kd.V_far (p := ⟨gbaq, 0, none⟩) (Kd.V_mono HO0_4.out (fun k_ hk => (⟨hk, hk.2⟩ : _ ∧ k_ ≠ gbaq))) (fun _ hk => hk.2) (.string a0_2)) (fun _ hk => hk.2) (.slice A0_3 l0_3.length c0_3)) (fun _ hk => hk.2) (.slice A0_4 l0_4.length c0_4)) (fun _ hk => ⟨hk.1.1.1.1, ⟨hk.1.1.1.2, ⟨hk.1.1.2, hk.1.2⟩⟩⟩)⟩, ⟨by (with_reducible repeat (first | refine blk_drewN ?_ _ | refine blk_drew ?_ | refine blk_alloc ?_ _)); refine blk_far ?_ NB371_373.out _; (with_reducible repeat (first | refine blk_drewN ?_ _ | refine blk_drew ?_ | refine blk_alloc ?_ _)); refine blk_far ?_ NB371_373.out _; (with_reducible repeat (first | refine blk_drewN ?_ _ | refine blk_drew ?_ | refine blk_alloc ?_ _)); refine blk_far ?_ NB371_373.out _; (with_reducible repeat (first | refine blk_drewN ?_ _ | refine blk_drew ?_ | refine blk_alloc ?_ _)); exact BKaV.out⟩, ⟨by (with_reducible repeat (first | refine blk_drewN ?_ _ | refine blk_drew ?_ | refine blk_alloc ?_ _)); refine blk_far ?_ NB372_373.out _; (with_reducible repeat (first | refine blk_drewN ?_ _ | refine blk_drew ?_ | refine blk_alloc ?_ _)); refine blk_far ?_ NB372_373.out _; (with_reducible repeat (first | refine blk_drewN ?_ _ | refine blk_drew ?_ | refine blk_alloc ?_ _)); refine blk_far ?_ NB372_373.out _; (with_reducible repeat (first | refine blk_drewN ?_ _ | refine blk_drew ?_ | refine blk_alloc ?_ _)); exact BKaF.out⟩, ⟨by (with_reducible repeat (first | refine blk_drewN ?_ _ | refine blk_drew ?_ | refine blk_alloc ?_ _)); refine blk_put (cs := #[.string a0_2, .slice A0_3 l0_3.length c0_3, .slice none 0 0]) ?_ 2 _ rfl; (with_reducible repeat (first | refine blk_drewN ?_ _ | refine blk_drew ?_ | refine blk_alloc ?_ _)); refine blk_put (cs := #[.string a0_2, .slice none 0 0, .slice none 0 0]) ?_ 1 _ rfl; (with_reducible repeat (first | refine blk_drewN ?_ _ | refine blk_drew ?_ | refine blk_alloc ?_ _)); refine blk_put (cs := #[.string (⟨#[]⟩ : ByteArray), .slice none 0 0, .slice none 0 0]) ?_ 0 _ rfl; (with_reducible repeat (first | refine blk_drewN ?_ _ | refine blk_drew ?_ | refine blk_alloc ?_ _)); exact BKaq.out⟩, ⟨Zq90⟩⟩
 case round =>
  clear H'
  try clear c1
  try clear c2
  try clear p2
  try clear c5
  try clear c8
  try clear c9
  try clear hcz10_0
  try clear hcz10_1
  try clear hcz10_2
  try clear hcz6_0
  try clear hcz6_1
  try clear hcz6_2
  try clear hcz6_3
  try clear hcz6_4
  try clear hfz10_0
  try clear hfz10_1
  try clear hfz10_2
  try clear hfz6_0
  try clear hfz6_1
  try clear hfz6_2
  try clear hfz6_3
  try clear hfz6_4
  obtain ⟨x12_1, xdy_1, xcl_1, xbB_1, xaJ_1, u374001, u374002, rfl, HA, HK1, HO_cg, HO_ch, HO_bB, HO_aJ, BKaV, BKaF, BKaq, HB⟩ := hrel
  cases gk with
  | zero => exact absurd HA.out (by simp [arboretref06_Get.l0])
  | succ k1 =>
   have H := HA.out; clear HA; simp only [arboretref06_Get.l0] at H
   by_cases c11 : x12_1 < (l1.length : Int)
   ·rw [if_pos c11] at H; have c11b0 : decide (x12_1 < (l1.length : Int)) = true := decide_eq_true c11; clear c11
    by_cases c12 : 0 ≤ x12_1
    ·rw [if_pos c12] at H; have c12b0 : decide (0 ≤ x12_1) = true := decide_eq_true c12; clear c12
     by_cases c13 : x12_1 < (l1.length : Int)
     ·rw [if_pos c13] at H; have c13b0 : decide (x12_1 < (l1.length : Int)) = true := decide_eq_true c13; clear c13
      by_cases c14 : (rd l1 x12_1) < 0
      ·rw [if_pos c14] at H; have c14b0 : decide ((rd l1 x12_1) < 0) = true := decide_eq_true c14; clear c14; simp only [Option.some.injEq, Prod.mk.injEq] at H; obtain ⟨rfl, rfl, rfl, rfl⟩ := H
       try go_wp2
       have n0_ := Ak (Kd.V_drew HO_cg.out); have n1_ := Ak (Kd.V_drew HO_ch.out); have n2_ := Ak (Kd.V_drew HO_bB.out); have n3_ := Ak (Kd.V_drew HO_aJ.out); have n4_ := Ak (blk_drew BKaV.out); have n5_ := Ak (blk_drew BKaF.out); have n6_ := Ak (blk_drew BKaq.out); have n7_ := Zq164; clear HO_cg HO_ch HO_bB HO_aJ BKaV BKaF BKaq HB; have HO_cg := n0_; have HO_ch := n1_; have HO_bB := n2_; have HO_aJ := n3_; have BKaV := n4_; have BKaF := n5_; have BKaq := n6_; have HB := n7_; clear n0_ n1_ n2_ n3_ n4_ n5_ n6_ n7_; have p374 : 0 ≤ (x12_1 : Int) := of_decide_eq_true Zq4; have q374 : x12_1 < (l1.length : Int) := of_decide_eq_true Zq4; obtain ⟨adcP, e374, hx374_0⟩ := Kd.at_int HR1.out x12_1 p374 q374; have hw374_0 := hx374_0
       cases e374
       replace hx374_0 := (HB.out.cell (World.block_lt_of_cell? w _ hx374_0)).trans hx374_0; replace p374 := eq_true p374; replace q374 := eq_true q374; refine start_ (n := 15) (S := fun w' => w'.cell? (adcP.add (x12_1).toNat) = some (.int .i64 (rd l1 x12_1))) (ds := []) #[false, false, false, false, false, false, false, false, false, false, false, false, false, false, false] Zq2 rfl rfl (((HB.out.cell (World.block_lt_of_cell? w _ hw374_0)).trans hw374_0)) (fun hHeld => ?_); refine with_tabW arboretref06_Get.tab5 arboretref06_Get.bits5 (fun HT_ HW_ => ?_); generalize wr.drew = w15 at HO_cg HO_ch HO_bB HO_aJ BKaV BKaF BKaq HB hx374_0 hHeld ⊢; refine pure_ (i := 0) (N := some 15) (v := ?_) (a' := ?_) #[true, false, false, false, false, false, false, false, false, false, false, false, false, false, false] rfl rfl (any_of HT_.out Zq2) (fun _ _ _ h => h) (Or.inl ⟨Zq3, ?_⟩) ?_ ?_
       rotate_left
       ·intro w'
        go_simp
        with_reducible rfl
       rotate_left
       ·simp only [Sx]
        rfl
       refine pure_ (i := 1) (N := some 16) (v := ?_) (a' := ?_) #[true, true, false, false, false, false, false, false, false, false, false, false, false, false, false] rfl rfl (any_of HT_.out Zq2) (fun _ _ _ h => h) (Or.inl ⟨Zq3, ?_⟩) ?_ ?_
       rotate_left
       ·intro w'
        go_simp
        with_reducible rfl
       rotate_left
       ·simp only [Sx]
        rfl
       refine pure_ (i := 2) (N := some 17) (v := ?_) (a' := ?_) #[true, true, true, false, false, false, false, false, false, false, false, false, false, false, false] rfl rfl (any_of HT_.out Zq2) (fun _ _ _ h => h) (Or.inl ⟨Zq3, ?_⟩) ?_ ?_
       rotate_left
       ·intro w'
        go_simp
        with_reducible rfl
       rotate_left
       ·simp only [Sx]
        rfl
       refine take_ (i := 3) (N := some 18) (v := ?_) (a' := ?_) #[true, true, true, true, false, false, false, false, false, false, false, false, false, false, false] rfl rfl (take_ofW HT_.out HW_.out Zq2) (fun _ _ _ h => h) (Or.inl ⟨Zq3, ?_⟩) hHeld ?_ ?_
       rotate_left
       ·intro w' s0
        go_simp
        with_reducible rfl
       rotate_left
       ·simp only [Sx]
        rfl
       refine pure_ (i := 4) (N := some 19) (v := ?_) (a' := ?_) #[true, true, true, true, true, false, false, false, false, false, false, false, false, false, false] rfl rfl (any_of HT_.out Zq2) (fun _ _ _ h => h) (Or.inl ⟨Zq3, ?_⟩) ?_ ?_
       rotate_left
       ·intro w'
        go_simp
        with_reducible rfl
       rotate_left
       ·simp only [Sx]
        rfl
       refine pure_ (i := 5) (N := some 20) (v := ?_) (a' := ?_) #[true, true, true, true, true, true, false, false, false, false, false, false, false, false, false] rfl rfl (any_of HT_.out Zq2) (fun _ _ _ h => h) (Or.inl ⟨Zq3, ?_⟩) ?_ ?_
       rotate_left
       ·intro w'
        go_simp
        with_reducible rfl
       rotate_left
       ·simp only [Sx]
        rfl
       refine pure_ (i := 6) (N := some 21) (v := undef) (a' := ?_) #[true, true, true, true, true, true, true, false, false, false, false, false, false, false, false] rfl rfl (any_of HT_.out Zq2) (fun _ _ _ h => h) (Or.inr ⟨Zq3, rfl⟩) ?_ ?_
       rotate_left
       ·simp only [Sx]
        rfl
       refine pure_ (i := 7) (N := some 22) (v := undef) (a' := ?_) #[true, true, true, true, true, true, true, true, false, false, false, false, false, false, false] rfl rfl (any_of HT_.out Zq2) (fun _ _ _ h => h) (Or.inr ⟨Zq3, rfl⟩) ?_ ?_
       rotate_left
       ·simp only [Sx]
        rfl
       refine pure_ (i := 8) (N := some 23) (v := undef) (a' := ?_) #[true, true, true, true, true, true, true, true, true, false, false, false, false, false, false] rfl rfl (any_of HT_.out Zq2) (fun _ _ _ h => h) (Or.inr ⟨Zq3, rfl⟩) ?_ ?_
       rotate_left
       ·simp only [Sx]
        rfl
       refine pure_ (i := 9) (N := some 24) (v := undef) (a' := ?_) #[true, true, true, true, true, true, true, true, true, true, false, false, false, false, false] rfl rfl (any_of HT_.out Zq2) (fun _ _ _ h => h) (Or.inr ⟨Zq3, rfl⟩) ?_ ?_
       rotate_left
       ·simp only [Sx]
        rfl
       refine pure_ (i := 10) (N := some 25) (v := undef) (a' := ?_) #[true, true, true, true, true, true, true, true, true, true, true, false, false, false, false] rfl rfl (any_of HT_.out Zq2) (fun _ _ _ h => h) (Or.inr ⟨Zq3, rfl⟩) ?_ ?_
       rotate_left
       ·simp only [Sx]
        rfl
       refine pure_ (i := 11) (N := some 26) (v := undef) (a' := ?_) #[true, true, true, true, true, true, true, true, true, true, true, true, false, false, false] rfl rfl (any_of HT_.out Zq2) (fun _ _ _ h => h) (Or.inr ⟨Zq3, rfl⟩) ?_ ?_
       rotate_left
       ·simp only [Sx]
        rfl
       refine pure_ (i := 12) (N := some 27) (v := undef) (a' := ?_) #[true, true, true, true, true, true, true, true, true, true, true, true, true, false, false] rfl rfl (any_of HT_.out Zq2) (fun _ _ _ h => h) (Or.inr ⟨Zq3, rfl⟩) ?_ ?_
       rotate_left
       ·simp only [Sx]
        rfl
       refine pure_ (i := 13) (N := some 28) (v := undef) (a' := ?_) #[true, true, true, true, true, true, true, true, true, true, true, true, true, true, false] rfl rfl (any_of HT_.out Zq2) (fun _ _ _ h => h) (Or.inr ⟨Zq3, rfl⟩) ?_ ?_
       rotate_left
       ·simp only [Sx]
        rfl
       refine pure_ (i := 14) (N := some 29) (v := ?_) (a' := ?_) #[true, true, true, true, true, true, true, true, true, true, true, true, true, true, true] rfl rfl (any_of HT_.out Zq2) (fun _ _ _ h => h) (Or.inl ⟨Zq3, ?_⟩) ?_ ?_
       rotate_left
       ·intro w'
        go_simp
        with_reducible rfl
       rotate_left
       ·simp only [Sx]
        rfl
       refine done_ (done_of HT_.out Zq2) ?_; have hnb16 := NB372_371.out; have hnc16 := NB371_372.out; have hnb17 := NB372_373.out; have hnc17 := NB373_372.out; have hcz18_0 : w15.cell? ⟨gbaF, 0, none⟩ = some (.string xdy_1) := (blk_cell BKaF.out 0).trans rfl; have hcz18_1 : w15.cell? ⟨gbaF, 1, none⟩ = some (.slice none 0 0) := (blk_cell BKaF.out 1).trans rfl; have hcz18_2 : w15.cell? ⟨gbaF, 2, none⟩ = some (.slice none 0 0) := (blk_cell BKaF.out 2).trans rfl; have hfz18_0 := blk_frozen BKaF.out 0; have hfz18_1 := blk_frozen BKaF.out 1; have hfz18_2 := blk_frozen BKaF.out 2
       try go_wp2
       refine bodyPost_ret (results_ct rfl _ _ gbaF 30 #[.string (⟨#[]⟩ : ByteArray), .slice none 0 0, .slice none 0 0] (0, 0) _ rfl (by (with_reducible repeat (first | refine blk_drewN ?_ _ | refine blk_drew ?_ | refine blk_alloc ?_ _)); refine blk_put (cs := #[.string (⟨#[]⟩ : ByteArray), .slice none 0 0, .slice none 0 0]) ?_ 2 _ rfl; (with_reducible repeat (first | refine blk_drewN ?_ _ | refine blk_drew ?_ | refine blk_alloc ?_ _)); refine blk_put (cs := #[.string (⟨#[]⟩ : ByteArray), .slice none 0 0, .slice none 0 0]) ?_ 1 _ rfl; (with_reducible repeat (first | refine blk_drewN ?_ _ | refine blk_drew ?_ | refine blk_alloc ?_ _)); refine blk_put (cs := #[.string xdy_1, .slice none 0 0, .slice none 0 0]) ?_ 0 _ rfl; (with_reducible repeat (first | refine blk_drewN ?_ _ | refine blk_drew ?_ | refine blk_alloc ?_ _)); exact BKaF.out) Try.underlying30 rfl Zq2) rfl ?_
       exact ⟨_, _, Zq10, Kd.V_nil _ _ _ _ _, Kd.V_nil _ _ _ _ _, Zq90⟩
      ·rw [if_neg c14] at H; have c14b0 : decide ((rd l1 x12_1) < 0) = false := decide_eq_false c14; clear c14
       by_cases c19 : (rd l1 x12_1) ≥ (xaJ_1.length : Int)
       ·rw [if_pos c19] at H; have c19b0 : decide ((xaJ_1.length : Int) ≤ (rd l1 x12_1)) = true := decide_eq_true c19; clear c19; simp only [Option.some.injEq, Prod.mk.injEq] at H; obtain ⟨rfl, rfl, rfl, rfl⟩ := H
        try go_wp2
        have n0_ := Ak (Kd.V_drew HO_cg.out); have n1_ := Ak (Kd.V_drew HO_ch.out); have n2_ := Ak (Kd.V_drew HO_bB.out); have n3_ := Ak (Kd.V_drew HO_aJ.out); have n4_ := Ak (blk_drew BKaV.out); have n5_ := Ak (blk_drew BKaF.out); have n6_ := Ak (blk_drew BKaq.out); have n7_ := Zq164; clear HO_cg HO_ch HO_bB HO_aJ BKaV BKaF BKaq HB; have HO_cg := n0_; have HO_ch := n1_; have HO_bB := n2_; have HO_aJ := n3_; have BKaV := n4_; have BKaF := n5_; have BKaq := n6_; have HB := n7_; clear n0_ n1_ n2_ n3_ n4_ n5_ n6_ n7_; have p374 : 0 ≤ (x12_1 : Int) := of_decide_eq_true Zq4; have q374 : x12_1 < (l1.length : Int) := of_decide_eq_true Zq4; obtain ⟨adcP, e374, hx374_0⟩ := Kd.at_int HR1.out x12_1 p374 q374; have hw374_0 := hx374_0
        cases e374
        replace hx374_0 := (HB.out.cell (World.block_lt_of_cell? w _ hx374_0)).trans hx374_0; replace p374 := eq_true p374; replace q374 := eq_true q374; have p375 : 0 ≤ (x12_1 : Int) := of_decide_eq_true Zq4; have q375 : x12_1 < (l1.length : Int) := of_decide_eq_true Zq4; obtain ⟨adfm, e375, hx375_0⟩ := Kd.at_int HR1.out x12_1 p375 q375; have hw375_0 := hx375_0
        obtain rfl : adcP = adfm := (by injection e375)
        replace hx375_0 := (HB.out.cell (World.block_lt_of_cell? w _ hx375_0)).trans hx375_0; replace p375 := eq_true p375; replace q375 := eq_true q375; obtain ⟨Ao21, co21, eo21⟩ := Kd.V_slice HO_aJ.out
        (first | subst eo21 | (injection eo21 with f1_ f2_ f3_; have f4_ := f1_.symm; have f5_ := f3_.symm; clear f1_ f2_ f3_; subst f4_; subst f5_))
        refine start_ (n := 15) (S := fun w' => w'.cell? ⟨gbaq, 0, none⟩ = some (.string xcl_1) ∧ w'.cell? ⟨gbaq, 1, none⟩ = some (u374001) ∧ w'.cell? ⟨gbaq, 2, none⟩ = some (.slice Ao21 xaJ_1.length co21) ∧ w'.cell? (adcP.add (x12_1).toNat) = some (.int .i64 (rd l1 x12_1)) ∧ w'.cell? (adcP.add (x12_1).toNat) = some (.int .i64 (rd l1 x12_1))) (ds := []) #[false, false, false, false, false, false, false, false, false, false, false, false, false, false, false] Zq2 rfl rfl ⟨(blk_cell BKaq.out 0).trans rfl, (blk_cell BKaq.out 1).trans rfl, (blk_cell BKaq.out 2).trans rfl, ((HB.out.cell (World.block_lt_of_cell? w _ hw374_0)).trans hw374_0), ((HB.out.cell (World.block_lt_of_cell? w _ hw375_0)).trans hw375_0)⟩ (fun hHeld => ?_); refine with_tabW arboretref06_Get.tab5 arboretref06_Get.bits5 (fun HT_ HW_ => ?_); generalize wr.drew = w20 at HO_cg HO_ch HO_bB HO_aJ BKaV BKaF BKaq HB hx374_0 hx375_0 hHeld ⊢; refine pure_ (i := 0) (N := some 15) (v := ?_) (a' := ?_) #[true, false, false, false, false, false, false, false, false, false, false, false, false, false, false] rfl rfl (any_of HT_.out Zq2) (fun _ _ _ h => h) (Or.inl ⟨Zq3, ?_⟩) ?_ ?_
        rotate_left
        ·intro w'
         go_simp
         with_reducible rfl
        rotate_left
        ·simp only [Sx]
         rfl
        refine pure_ (i := 1) (N := some 16) (v := ?_) (a' := ?_) #[true, true, false, false, false, false, false, false, false, false, false, false, false, false, false] rfl rfl (any_of HT_.out Zq2) (fun _ _ _ h => h) (Or.inl ⟨Zq3, ?_⟩) ?_ ?_
        rotate_left
        ·intro w'
         go_simp
         with_reducible rfl
        rotate_left
        ·simp only [Sx]
         rfl
        refine pure_ (i := 2) (N := some 17) (v := ?_) (a' := ?_) #[true, true, true, false, false, false, false, false, false, false, false, false, false, false, false] rfl rfl (any_of HT_.out Zq2) (fun _ _ _ h => h) (Or.inl ⟨Zq3, ?_⟩) ?_ ?_
        rotate_left
        ·intro w'
         go_simp
         with_reducible rfl
        rotate_left
        ·simp only [Sx]
         rfl
        refine take_ (i := 3) (N := some 18) (v := ?_) (a' := ?_) #[true, true, true, true, false, false, false, false, false, false, false, false, false, false, false] rfl rfl (take_ofW HT_.out HW_.out Zq2) (fun _ _ _ h => h) (Or.inl ⟨Zq3, ?_⟩) hHeld ?_ ?_
        rotate_left
        ·rintro w' ⟨s0, s1, s2, s3, s4⟩
         go_simp
         with_reducible rfl
        rotate_left
        ·simp only [Sx]
         rfl
        refine pure_ (i := 4) (N := some 19) (v := ?_) (a' := ?_) #[true, true, true, true, true, false, false, false, false, false, false, false, false, false, false] rfl rfl (any_of HT_.out Zq2) (fun _ _ _ h => h) (Or.inl ⟨Zq3, ?_⟩) ?_ ?_
        rotate_left
        ·intro w'
         go_simp
         with_reducible rfl
        rotate_left
        ·simp only [Sx]
         rfl
        refine pure_ (i := 5) (N := some 20) (v := ?_) (a' := ?_) #[true, true, true, true, true, true, false, false, false, false, false, false, false, false, false] rfl rfl (any_of HT_.out Zq2) (fun _ _ _ h => h) (Or.inl ⟨Zq3, ?_⟩) ?_ ?_
        rotate_left
        ·intro w'
         go_simp
         with_reducible rfl
        rotate_left
        ·simp only [Sx]
         rfl
        refine pure_ (i := 6) (N := some 21) (v := ?_) (a' := ?_) #[true, true, true, true, true, true, true, false, false, false, false, false, false, false, false] rfl rfl (any_of HT_.out Zq2) (fun _ _ _ h => h) (Or.inl ⟨Zq3, ?_⟩) ?_ ?_
        rotate_left
        ·intro w'
         go_simp
         with_reducible rfl
        rotate_left
        ·simp only [Sx]
         rfl
        refine pure_ (i := 7) (N := some 22) (v := ?_) (a' := ?_) #[true, true, true, true, true, true, true, true, false, false, false, false, false, false, false] rfl rfl (any_of HT_.out Zq2) (fun _ _ _ h => h) (Or.inl ⟨Zq3, ?_⟩) ?_ ?_
        rotate_left
        ·intro w'
         go_simp
         with_reducible rfl
        rotate_left
        ·simp only [Sx]
         rfl
        refine pure_ (i := 8) (N := some 23) (v := ?_) (a' := ?_) #[true, true, true, true, true, true, true, true, true, false, false, false, false, false, false] rfl rfl (any_of HT_.out Zq2) (fun _ _ _ h => h) (Or.inl ⟨Zq3, ?_⟩) ?_ ?_
        rotate_left
        ·intro w'
         go_simp
         with_reducible rfl
        rotate_left
        ·simp only [Sx]
         rfl
        refine pure_ (i := 10) (N := some 25) (v := ?_) (a' := ?_) #[true, true, true, true, true, true, true, true, true, false, true, false, false, false, false] rfl rfl (any_of HT_.out Zq2) (fun _ _ _ h => h) (Or.inl ⟨Zq3, ?_⟩) ?_ ?_
        rotate_left
        ·intro w'
         go_simp
         with_reducible rfl
        rotate_left
        ·simp only [Sx]
         rfl
        refine take_ (i := 9) (N := some 24) (v := ?_) (a' := ?_) #[true, true, true, true, true, true, true, true, true, true, true, false, false, false, false] rfl rfl (take_ofW HT_.out HW_.out Zq2) (fun _ _ _ h => h) (Or.inl ⟨Zq3, ?_⟩) hHeld ?_ ?_
        rotate_left
        ·rintro w' ⟨s0, s1, s2, s3, s4⟩
         go_simp
         with_reducible rfl
        rotate_left
        ·simp only [Sx]
         rfl
        refine take_ (i := 11) (N := some 26) (v := ?_) (a' := ?_) #[true, true, true, true, true, true, true, true, true, true, true, true, false, false, false] rfl rfl (take_ofW HT_.out HW_.out Zq2) (fun _ _ _ h => h) (Or.inl ⟨Zq3, ?_⟩) hHeld ?_ ?_
        rotate_left
        ·rintro w' ⟨s0, s1, s2, s3, s4⟩
         go_simp
         with_reducible rfl
        rotate_left
        ·simp only [Sx]
         rfl
        refine pure_ (i := 12) (N := some 27) (v := ?_) (a' := ?_) #[true, true, true, true, true, true, true, true, true, true, true, true, true, false, false] rfl rfl (any_of HT_.out Zq2) (fun _ _ _ h => h) (Or.inl ⟨Zq3, ?_⟩) ?_ ?_
        rotate_left
        ·intro w'
         go_simp
         with_reducible rfl
        rotate_left
        ·simp only [Sx]
         rfl
        refine pure_ (i := 13) (N := some 28) (v := ?_) (a' := ?_) #[true, true, true, true, true, true, true, true, true, true, true, true, true, true, false] rfl rfl (any_of HT_.out Zq2) (fun _ _ _ h => h) (Or.inl ⟨Zq3, ?_⟩) ?_ ?_
        rotate_left
        ·intro w'
         go_simp
         with_reducible rfl
        rotate_left
        ·simp only [Sx]
         rfl
        refine pure_ (i := 14) (N := some 29) (v := ?_) (a' := ?_) #[true, true, true, true, true, true, true, true, true, true, true, true, true, true, true] rfl rfl (any_of HT_.out Zq2) (fun _ _ _ h => h) (Or.inl ⟨Zq3, ?_⟩) ?_ ?_
        rotate_left
        ·intro w'
         go_simp
         with_reducible rfl
        rotate_left
        ·simp only [Sx]
         rfl
        refine done_ (done_of HT_.out Zq2) ?_; have hnb22 := NB372_371.out; have hnc22 := NB371_372.out; have hnb23 := NB372_373.out; have hnc23 := NB373_372.out; have hcz24_0 : w20.cell? ⟨gbaF, 0, none⟩ = some (.string xdy_1) := (blk_cell BKaF.out 0).trans rfl; have hcz24_1 : w20.cell? ⟨gbaF, 1, none⟩ = some (.slice none 0 0) := (blk_cell BKaF.out 1).trans rfl; have hcz24_2 : w20.cell? ⟨gbaF, 2, none⟩ = some (.slice none 0 0) := (blk_cell BKaF.out 2).trans rfl; have hfz24_0 := blk_frozen BKaF.out 0; have hfz24_1 := blk_frozen BKaF.out 1; have hfz24_2 := blk_frozen BKaF.out 2
        try go_wp2
        refine bodyPost_ret (results_ct rfl _ _ gbaF 30 #[.string (⟨#[]⟩ : ByteArray), .slice none 0 0, .slice none 0 0] (0, 0) _ rfl (by (with_reducible repeat (first | refine blk_drewN ?_ _ | refine blk_drew ?_ | refine blk_alloc ?_ _)); refine blk_put (cs := #[.string (⟨#[]⟩ : ByteArray), .slice none 0 0, .slice none 0 0]) ?_ 2 _ rfl; (with_reducible repeat (first | refine blk_drewN ?_ _ | refine blk_drew ?_ | refine blk_alloc ?_ _)); refine blk_put (cs := #[.string (⟨#[]⟩ : ByteArray), .slice none 0 0, .slice none 0 0]) ?_ 1 _ rfl; (with_reducible repeat (first | refine blk_drewN ?_ _ | refine blk_drew ?_ | refine blk_alloc ?_ _)); refine blk_put (cs := #[.string xdy_1, .slice none 0 0, .slice none 0 0]) ?_ 0 _ rfl; (with_reducible repeat (first | refine blk_drewN ?_ _ | refine blk_drew ?_ | refine blk_alloc ?_ _)); exact BKaF.out) Try.underlying30 rfl Zq2) rfl ?_
        exact ⟨_, _, Zq10, Kd.V_nil _ _ _ _ _, Kd.V_nil _ _ _ _ _, Zq90⟩
       ·rw [if_neg c19] at H; have c19b0 : decide ((xaJ_1.length : Int) ≤ (rd l1 x12_1)) = false := decide_eq_false c19; clear c19
        by_cases c25 : 0 ≤ (rd l1 x12_1)
        ·rw [if_pos c25] at H; have c25b0 : decide (0 ≤ (rd l1 x12_1)) = true := decide_eq_true c25; clear c25
         by_cases c26 : (rd l1 x12_1) < (xaJ_1.length : Int)
         ·rw [if_pos c26] at H; have c26b0 : decide ((rd l1 x12_1) < (xaJ_1.length : Int)) = true := decide_eq_true c26; clear c26; have H' := Ak H; clear H
          try go_wp2
          have n0_ := Ak (Kd.V_drew HO_cg.out); have n1_ := Ak (Kd.V_drew HO_ch.out); have n2_ := Ak (Kd.V_drew HO_bB.out); have n3_ := Ak (Kd.V_drew HO_aJ.out); have n4_ := Ak (blk_drew BKaV.out); have n5_ := Ak (blk_drew BKaF.out); have n6_ := Ak (blk_drew BKaq.out); have n7_ := Zq164; clear HO_cg HO_ch HO_bB HO_aJ BKaV BKaF BKaq HB; have HO_cg := n0_; have HO_ch := n1_; have HO_bB := n2_; have HO_aJ := n3_; have BKaV := n4_; have BKaF := n5_; have BKaq := n6_; have HB := n7_; clear n0_ n1_ n2_ n3_ n4_ n5_ n6_ n7_; have p374 : 0 ≤ (x12_1 : Int) := of_decide_eq_true Zq4; have q374 : x12_1 < (l1.length : Int) := of_decide_eq_true Zq4; obtain ⟨adcP, e374, hx374_0⟩ := Kd.at_int HR1.out x12_1 p374 q374; have hw374_0 := hx374_0
          cases e374
          replace hx374_0 := (HB.out.cell (World.block_lt_of_cell? w _ hx374_0)).trans hx374_0; replace p374 := eq_true p374; replace q374 := eq_true q374; have p375 : 0 ≤ (x12_1 : Int) := of_decide_eq_true Zq4; have q375 : x12_1 < (l1.length : Int) := of_decide_eq_true Zq4; obtain ⟨adfm, e375, hx375_0⟩ := Kd.at_int HR1.out x12_1 p375 q375; have hw375_0 := hx375_0
          obtain rfl : adcP = adfm := (by injection e375)
          replace hx375_0 := (HB.out.cell (World.block_lt_of_cell? w _ hx375_0)).trans hx375_0; replace p375 := eq_true p375; replace q375 := eq_true q375; obtain ⟨Ao28, co28, eo28⟩ := Kd.V_slice HO_aJ.out
          (first | subst eo28 | (injection eo28 with f1_ f2_ f3_; have f4_ := f1_.symm; have f5_ := f3_.symm; clear f1_ f2_ f3_; subst f4_; subst f5_))
          refine start_ (n := 15) (S := fun w' => w'.cell? ⟨gbaq, 0, none⟩ = some (.string xcl_1) ∧ w'.cell? ⟨gbaq, 1, none⟩ = some (u374001) ∧ w'.cell? ⟨gbaq, 2, none⟩ = some (.slice Ao28 xaJ_1.length co28) ∧ w'.cell? (adcP.add (x12_1).toNat) = some (.int .i64 (rd l1 x12_1)) ∧ w'.cell? (adcP.add (x12_1).toNat) = some (.int .i64 (rd l1 x12_1))) (ds := []) #[false, false, false, false, false, false, false, false, false, false, false, false, false, false, false] Zq2 rfl rfl ⟨(blk_cell BKaq.out 0).trans rfl, (blk_cell BKaq.out 1).trans rfl, (blk_cell BKaq.out 2).trans rfl, ((HB.out.cell (World.block_lt_of_cell? w _ hw374_0)).trans hw374_0), ((HB.out.cell (World.block_lt_of_cell? w _ hw375_0)).trans hw375_0)⟩ (fun hHeld => ?_); refine with_tabW arboretref06_Get.tab5 arboretref06_Get.bits5 (fun HT_ HW_ => ?_); generalize wr.drew = w27 at HO_cg HO_ch HO_bB HO_aJ BKaV BKaF BKaq HB hx374_0 hx375_0 hHeld ⊢; refine pure_ (i := 0) (N := some 15) (v := ?_) (a' := ?_) #[true, false, false, false, false, false, false, false, false, false, false, false, false, false, false] rfl rfl (any_of HT_.out Zq2) (fun _ _ _ h => h) (Or.inl ⟨Zq3, ?_⟩) ?_ ?_
          rotate_left
          ·intro w'
           go_simp
           with_reducible rfl
          rotate_left
          ·simp only [Sx]
           rfl
          refine pure_ (i := 1) (N := some 16) (v := ?_) (a' := ?_) #[true, true, false, false, false, false, false, false, false, false, false, false, false, false, false] rfl rfl (any_of HT_.out Zq2) (fun _ _ _ h => h) (Or.inl ⟨Zq3, ?_⟩) ?_ ?_
          rotate_left
          ·intro w'
           go_simp
           with_reducible rfl
          rotate_left
          ·simp only [Sx]
           rfl
          refine pure_ (i := 2) (N := some 17) (v := ?_) (a' := ?_) #[true, true, true, false, false, false, false, false, false, false, false, false, false, false, false] rfl rfl (any_of HT_.out Zq2) (fun _ _ _ h => h) (Or.inl ⟨Zq3, ?_⟩) ?_ ?_
          rotate_left
          ·intro w'
           go_simp
           with_reducible rfl
          rotate_left
          ·simp only [Sx]
           rfl
          refine take_ (i := 3) (N := some 18) (v := ?_) (a' := ?_) #[true, true, true, true, false, false, false, false, false, false, false, false, false, false, false] rfl rfl (take_ofW HT_.out HW_.out Zq2) (fun _ _ _ h => h) (Or.inl ⟨Zq3, ?_⟩) hHeld ?_ ?_
          rotate_left
          ·rintro w' ⟨s0, s1, s2, s3, s4⟩
           go_simp
           with_reducible rfl
          rotate_left
          ·simp only [Sx]
           rfl
          refine pure_ (i := 4) (N := some 19) (v := ?_) (a' := ?_) #[true, true, true, true, true, false, false, false, false, false, false, false, false, false, false] rfl rfl (any_of HT_.out Zq2) (fun _ _ _ h => h) (Or.inl ⟨Zq3, ?_⟩) ?_ ?_
          rotate_left
          ·intro w'
           go_simp
           with_reducible rfl
          rotate_left
          ·simp only [Sx]
           rfl
          refine pure_ (i := 5) (N := some 20) (v := ?_) (a' := ?_) #[true, true, true, true, true, true, false, false, false, false, false, false, false, false, false] rfl rfl (any_of HT_.out Zq2) (fun _ _ _ h => h) (Or.inl ⟨Zq3, ?_⟩) ?_ ?_
          rotate_left
          ·intro w'
           go_simp
           with_reducible rfl
          rotate_left
          ·simp only [Sx]
           rfl
          refine pure_ (i := 6) (N := some 21) (v := ?_) (a' := ?_) #[true, true, true, true, true, true, true, false, false, false, false, false, false, false, false] rfl rfl (any_of HT_.out Zq2) (fun _ _ _ h => h) (Or.inl ⟨Zq3, ?_⟩) ?_ ?_
          rotate_left
          ·intro w'
           go_simp
           with_reducible rfl
          rotate_left
          ·simp only [Sx]
           rfl
          refine pure_ (i := 7) (N := some 22) (v := ?_) (a' := ?_) #[true, true, true, true, true, true, true, true, false, false, false, false, false, false, false] rfl rfl (any_of HT_.out Zq2) (fun _ _ _ h => h) (Or.inl ⟨Zq3, ?_⟩) ?_ ?_
          rotate_left
          ·intro w'
           go_simp
           with_reducible rfl
          rotate_left
          ·simp only [Sx]
           rfl
          refine pure_ (i := 8) (N := some 23) (v := ?_) (a' := ?_) #[true, true, true, true, true, true, true, true, true, false, false, false, false, false, false] rfl rfl (any_of HT_.out Zq2) (fun _ _ _ h => h) (Or.inl ⟨Zq3, ?_⟩) ?_ ?_
          rotate_left
          ·intro w'
           go_simp
           with_reducible rfl
          rotate_left
          ·simp only [Sx]
           rfl
          refine pure_ (i := 10) (N := some 25) (v := ?_) (a' := ?_) #[true, true, true, true, true, true, true, true, true, false, true, false, false, false, false] rfl rfl (any_of HT_.out Zq2) (fun _ _ _ h => h) (Or.inl ⟨Zq3, ?_⟩) ?_ ?_
          rotate_left
          ·intro w'
           go_simp
           with_reducible rfl
          rotate_left
          ·simp only [Sx]
           rfl
          refine take_ (i := 9) (N := some 24) (v := ?_) (a' := ?_) #[true, true, true, true, true, true, true, true, true, true, true, false, false, false, false] rfl rfl (take_ofW HT_.out HW_.out Zq2) (fun _ _ _ h => h) (Or.inl ⟨Zq3, ?_⟩) hHeld ?_ ?_
          rotate_left
          ·rintro w' ⟨s0, s1, s2, s3, s4⟩
           go_simp
           with_reducible rfl
          rotate_left
          ·simp only [Sx]
           rfl
          refine take_ (i := 11) (N := some 26) (v := ?_) (a' := ?_) #[true, true, true, true, true, true, true, true, true, true, true, true, false, false, false] rfl rfl (take_ofW HT_.out HW_.out Zq2) (fun _ _ _ h => h) (Or.inl ⟨Zq3, ?_⟩) hHeld ?_ ?_
          rotate_left
          ·rintro w' ⟨s0, s1, s2, s3, s4⟩
           go_simp
           with_reducible rfl
          rotate_left
          ·simp only [Sx]
           rfl
          refine pure_ (i := 12) (N := some 27) (v := ?_) (a' := ?_) #[true, true, true, true, true, true, true, true, true, true, true, true, true, false, false] rfl rfl (any_of HT_.out Zq2) (fun _ _ _ h => h) (Or.inl ⟨Zq3, ?_⟩) ?_ ?_
          rotate_left
          ·intro w'
           go_simp
           with_reducible rfl
          rotate_left
          ·simp only [Sx]
           rfl
          refine pure_ (i := 13) (N := some 28) (v := ?_) (a' := ?_) #[true, true, true, true, true, true, true, true, true, true, true, true, true, true, false] rfl rfl (any_of HT_.out Zq2) (fun _ _ _ h => h) (Or.inl ⟨Zq3, ?_⟩) ?_ ?_
          rotate_left
          ·intro w'
           go_simp
           with_reducible rfl
          rotate_left
          ·simp only [Sx]
           rfl
          refine pure_ (i := 14) (N := some 29) (v := ?_) (a' := ?_) #[true, true, true, true, true, true, true, true, true, true, true, true, true, true, true] rfl rfl (any_of HT_.out Zq2) (fun _ _ _ h => h) (Or.inl ⟨Zq3, ?_⟩) ?_ ?_
          rotate_left
          ·intro w'
           go_simp
           with_reducible rfl
          rotate_left
          ·simp only [Sx]
           rfl
          refine done_ (done_of HT_.out Zq2) ?_
          try go_wp2
          have n0_ := Ak (Kd.V_drew HO_cg.out); have n1_ := Ak (Kd.V_drew HO_ch.out); have n2_ := Ak (Kd.V_drew HO_bB.out); have n3_ := Ak (Kd.V_drew HO_aJ.out); have n4_ := Ak (blk_drew BKaV.out); have n5_ := Ak (blk_drew BKaF.out); have n6_ := Ak (blk_drew BKaq.out); have n7_ := Zq164; clear HO_cg HO_ch HO_bB HO_aJ BKaV BKaF BKaq HB; have HO_cg := n0_; have HO_ch := n1_; have HO_bB := n2_; have HO_aJ := n3_; have BKaV := n4_; have BKaF := n5_; have BKaq := n6_; have HB := n7_; clear n0_ n1_ n2_ n3_ n4_ n5_ n6_ n7_; have p376 : 0 ≤ (x12_1 : Int) := of_decide_eq_true Zq4; have q376 : x12_1 < (l1.length : Int) := of_decide_eq_true Zq4; obtain ⟨adgn, e376, hx376_0⟩ := Kd.at_int HR1.out x12_1 p376 q376; have hw376_0 := hx376_0
          obtain rfl : adcP = adgn := (by injection e376)
          replace hx376_0 := (HB.out.cell (World.block_lt_of_cell? w _ hx376_0)).trans hx376_0; replace p376 := eq_true p376; replace q376 := eq_true q376; have p377 : 0 ≤ ((rd l1 x12_1) : Int) := of_decide_eq_true Zq4; have q377 : (rd l1 x12_1) < (xaJ_1.length : Int) := of_decide_eq_true Zq4; obtain ⟨adbg, Abg_1, cbg_1, Abg_2, cbg_2, e377, hx377_0, hx377_1, hx377_2, hl377_1, hi377_1, hl377_2, hi377_2⟩ := at_T30 (Kd.V_reads' HO_aJ.out).2.2 (rd l1 x12_1) p377 q377
          cases e377
          obtain ⟨ce377, hce377, hMe377, hcc377⟩ := Kd.V_get HO_aJ.out z30 (rd l1 x12_1) p377 (by first | exact q377 | exact of_decide_eq_true Zq4 | (have e_ := (Kd.V_reads' HO_aJ.out).1; omega)); obtain ⟨ua377_1, uc377_1, ua377_2, uc377_2, rfl, ul377_1, ge377_1, ul377_2, ge377_2⟩ := k30_openF hMe377; have hv377_1 := hcc377 1 _ rfl; rw [add_field _ _ 1 Zq1] at hv377_1; replace hv377_1 := Option.some.inj (hv377_1.symm.trans hx377_1); injection hv377_1 with hva_ hvn_ hvc_; rw [hva_] at ge377_1; rw [hvc_] at ul377_1; have HL377_1 := Ak (show Kd.V k77 77 _ w.heap.size _ _ ((rd_T30 xaJ_1 (rd l1 x12_1)).f1) from Kd.V_mk ul377_1 ge377_1); clear hva_ hvn_ hvc_ ge377_1 ul377_1; have hv377_2 := hcc377 2 _ rfl; rw [add_field _ _ 2 Zq1] at hv377_2; replace hv377_2 := Option.some.inj (hv377_2.symm.trans hx377_2); injection hv377_2 with hva_ hvn_ hvc_; rw [hva_] at ge377_2; rw [hvc_] at ul377_2; have HL377_2 := Ak (show Kd.V k30 30 _ w.heap.size _ _ ((rd_T30 xaJ_1 (rd l1 x12_1)).f2) from Kd.V_mk ul377_2 ge377_2); clear hva_ hvn_ hvc_ ge377_2 ul377_2 hcc377 hce377; have HRbg_1 := Ak hi377_1; have HCbg_1 := Ak hl377_1; clear hi377_1 hl377_1; have HRbg_2 := Ak hi377_2; have HCbg_2 := Ak hl377_2; clear hi377_2 hl377_2; replace p377 := eq_true p377; replace q377 := eq_true q377; refine start_ (n := 9) (S := fun w' => w'.cell? ⟨gbaq, 0, none⟩ = some (.string xcl_1) ∧ w'.cell? ⟨gbaq, 1, none⟩ = some (u374001) ∧ w'.cell? ⟨gbaq, 2, none⟩ = some (.slice (some adbg) xaJ_1.length co28) ∧ w'.cell? (adcP.add (x12_1).toNat) = some (.int .i64 (rd l1 x12_1)) ∧ w'.cell? (adbg.add (((rd l1 x12_1)).toNat * 3)) = some (.string ((rd_T30 xaJ_1 (rd l1 x12_1)).f0)) ∧ w'.cell? ⟨(adbg.add (((rd l1 x12_1)).toNat * 3)).block, (adbg.add (((rd l1 x12_1)).toNat * 3)).off + 1, none⟩ = some (.slice Abg_1 ((rd_T30 xaJ_1 (rd l1 x12_1)).f1).length cbg_1) ∧ w'.cell? ⟨(adbg.add (((rd l1 x12_1)).toNat * 3)).block, (adbg.add (((rd l1 x12_1)).toNat * 3)).off + 2, none⟩ = some (.slice Abg_2 ((rd_T30 xaJ_1 (rd l1 x12_1)).f2).length cbg_2)) (ds := [8]) #[false, false, false, false, false, false, false, false, false] Zq2 rfl rfl ⟨(blk_cell BKaq.out 0).trans rfl, (blk_cell BKaq.out 1).trans rfl, (blk_cell BKaq.out 2).trans rfl, ((HB.out.cell (World.block_lt_of_cell? w _ hw376_0)).trans hw376_0), hx377_0, hx377_1, hx377_2⟩ (fun hHeld => ?_); refine with_tabW arboretref06_Get.tab7 arboretref06_Get.bits7 (fun HT_ HW_ => ?_); generalize w27.drew = w29 at HO_cg HO_ch HO_bB HO_aJ BKaV BKaF BKaq HB HL377_1 HL377_2 HRbg_1 HRbg_2 hx376_0 hx377_0 hx377_1 hx377_2 hHeld ⊢; refine pure_ (i := 0) (N := some 31) (v := ?_) (a' := ?_) #[true, false, false, false, false, false, false, false, false] rfl rfl (any_of HT_.out Zq2) (fun _ _ _ h => h) (Or.inl ⟨Zq3, ?_⟩) ?_ ?_
          rotate_left
          ·intro w'
           go_simp
           with_reducible rfl
          rotate_left
          ·simp only [Sx]
           rfl
          refine pure_ (i := 2) (N := some 33) (v := ?_) (a' := ?_) #[true, false, true, false, false, false, false, false, false] rfl rfl (any_of HT_.out Zq2) (fun _ _ _ h => h) (Or.inl ⟨Zq3, ?_⟩) ?_ ?_
          rotate_left
          ·intro w'
           go_simp
           with_reducible rfl
          rotate_left
          ·simp only [Sx]
           rfl
          refine pure_ (i := 3) (N := some 34) (v := ?_) (a' := ?_) #[true, false, true, true, false, false, false, false, false] rfl rfl (any_of HT_.out Zq2) (fun _ _ _ h => h) (Or.inl ⟨Zq3, ?_⟩) ?_ ?_
          rotate_left
          ·intro w'
           go_simp
           with_reducible rfl
          rotate_left
          ·simp only [Sx]
           rfl
          refine pure_ (i := 4) (N := some 35) (v := ?_) (a' := ?_) #[true, false, true, true, true, false, false, false, false] rfl rfl (any_of HT_.out Zq2) (fun _ _ _ h => h) (Or.inl ⟨Zq3, ?_⟩) ?_ ?_
          rotate_left
          ·intro w'
           go_simp
           with_reducible rfl
          rotate_left
          ·simp only [Sx]
           rfl
          refine take_ (i := 1) (N := some 32) (v := ?_) (a' := ?_) #[true, true, true, true, true, false, false, false, false] rfl rfl (take_ofW HT_.out HW_.out Zq2) (fun _ _ _ h => h) (Or.inl ⟨Zq3, ?_⟩) hHeld ?_ ?_
          rotate_left
          ·rintro w' ⟨s0, s1, s2, s3, s4, s5, s6⟩
           go_simp
           with_reducible rfl
          rotate_left
          ·simp only [Sx]
           rfl
          refine take_ (i := 5) (N := some 36) (v := ?_) (a' := ?_) #[true, true, true, true, true, true, false, false, false] rfl rfl (take_ofW HT_.out HW_.out Zq2) (fun _ _ _ h => h) (Or.inl ⟨Zq3, ?_⟩) hHeld ?_ ?_
          rotate_left
          ·rintro w' ⟨s0, s1, s2, s3, s4, s5, s6⟩
           go_simp
           with_reducible rfl
          rotate_left
          ·simp only [Sx]
           rfl
          refine pure_ (i := 6) (N := some 37) (v := ?_) (a' := ?_) #[true, true, true, true, true, true, true, false, false] rfl rfl (any_of HT_.out Zq2) (fun _ _ _ h => h) (Or.inl ⟨Zq3, ?_⟩) ?_ ?_
          rotate_left
          ·intro w'
           go_simp
           with_reducible rfl
          rotate_left
          ·simp only [Sx]
           rfl
          refine take_ (i := 7) (N := some 38) (v := ?_) (a' := ?_) #[true, true, true, true, true, true, true, true, false] rfl rfl (take_ofW HT_.out HW_.out Zq2) (fun _ _ _ h => h) (Or.inl ⟨Zq3, ?_⟩) hHeld ?_ ?_
          rotate_left
          ·rintro w' ⟨s0, s1, s2, s3, s4, s5, s6⟩
           go_simp
           with_reducible rfl
          rotate_left
          ·simp only [Sx]
           rfl
          refine last_ (i := 8) (N := none) #[true, true, true, true, true, true, true, true, true] rfl rfl (one_of HT_.out Zq2) Zq7 (fun K hK => ?_); have hs30 : w29.cell? ⟨gbaq, 0, none⟩ = some (.string xcl_1) := (blk_cell BKaq.out 0).trans rfl; have hfs30 := blk_frozen BKaq.out 0; have hns30_0 := NB371_373.out; have hns30_1 := NB372_373.out; have hms30_0 := NB373_371.out; have hms30_1 := NB373_372.out; have hs31 : w29.cell? ⟨gbaq, 1, none⟩ = some (u374001) := (blk_cell BKaq.out 1).trans rfl; have hfs31 := blk_frozen BKaq.out 1; have hns31_0 := NB371_373.out; have hns31_1 := NB372_373.out; have hms31_0 := NB373_371.out; have hms31_1 := NB373_372.out; have hs32 : w29.cell? ⟨gbaq, 2, none⟩ = some (.slice (some adbg) xaJ_1.length co28) := (blk_cell BKaq.out 2).trans rfl; have hfs32 := blk_frozen BKaq.out 2; have hns32_0 := NB371_373.out; have hns32_1 := NB372_373.out; have hms32_0 := NB373_371.out; have hms32_1 := NB373_372.out; refine skip_ (w1 := ?_) Zq3 rfl ?_ ?_
          rotate_left
          ·go_simp
           rfl
          refine hK.out _ _ ?_; clear hK K; refine done_ (done_of HT_.out Zq2) ?_
          try go_wp2
          go_roundg k1
          case measure => have := HK1.out; omega
          case rel => exact ⟨(wrap64 (x12_1 + 1)), (xdy_1), ((rd_T30 xaJ_1 (rd l1 x12_1)).f0), ((rd_T30 xaJ_1 (rd l1 x12_1)).f1), ((rd_T30 xaJ_1 (rd l1 x12_1)).f2), (.slice Abg_1 ((rd_T30 xaJ_1 (rd l1 x12_1)).f1).length cbg_1), (.slice Abg_2 ((rd_T30 xaJ_1 (rd l1 x12_1)).f2).length cbg_2), Zq6, H', ⟨Zq26⟩, ⟨by (with_reducible repeat (first | apply Kd.V_alloc | apply Kd.V_drewN | apply Kd.V_drew)); exact Kd.V_mono (Kd.V_far (p := ⟨gbaq, 2, none⟩) (Kd.V_far (p := ⟨gbaq, 1, none⟩) (Kd.V_far (p := ⟨gbaq, 0, none⟩) (Kd.V_mono HO_cg.out (fun k_ hk => (⟨hk, hk.2.2.2⟩ : _ ∧ k_ ≠ gbaq))) (fun _ hk => hk.2) (.string ((rd_T30 xaJ_1 (rd l1 x12_1)).f0))) (fun _ hk => hk.2) (.slice Abg_1 ((rd_T30 xaJ_1 (rd l1 x12_1)).f1).length cbg_1)) (fun _ hk => hk.2) (.slice Abg_2 ((rd_T30 xaJ_1 (rd l1 x12_1)).f2).length cbg_2)) (fun _ hk => ⟨hk.1.1, ⟨hk.1.2.1, ⟨hk.1.2.2.1, hk.1.2.2.2⟩⟩⟩)⟩, ⟨by (with_reducible repeat (first | apply Kd.V_alloc | apply Kd.V_drewN | apply Kd.V_drew)); exact Kd.V_mono (Kd.V_far (p := ⟨gbaq, 2, none⟩) (Kd.V_far (p := ⟨gbaq, 1, none⟩) (Kd.V_far (p := ⟨gbaq, 0, none⟩) (Kd.V_mono HO_ch.out (fun k_ hk => (⟨hk, hk.2.2.2⟩ : _ ∧ k_ ≠ gbaq))) (fun _ hk => hk.2) (.string ((rd_T30 xaJ_1 (rd l1 x12_1)).f0))) (fun _ hk => hk.2) (.slice Abg_1 ((rd_T30 xaJ_1 (rd l1 x12_1)).f1).length cbg_1)) (fun _ hk => hk.2) (.slice Abg_2 ((rd_T30 xaJ_1 (rd l1 x12_1)).f2).length cbg_2)) (fun _ hk => ⟨hk.1.1, ⟨hk.1.2.1, ⟨hk.1.2.2.1, hk.1.2.2.2⟩⟩⟩)⟩, ⟨by (with_reducible repeat (first | apply Kd.V_alloc | apply Kd.V_drewN | apply Kd.V_drew)); exact Kd.V_mono (Kd.V_far (p := ⟨gbaq, 2, none⟩) (Kd.V_far (p := ⟨gbaq, 1, none⟩) (Kd.V_far (p := ⟨gbaq, 0, none⟩) (Kd.V_mono HL377_1.out (fun k_ hk => (⟨hk, hk.2.2.2⟩ : _ ∧ k_ ≠ gbaq))) (fun _ hk => hk.2) (.string ((rd_T30 xaJ_1 (rd l1 x12_1)).f0))) (fun _ hk => hk.2) (.slice Abg_1 ((rd_T30 xaJ_1 (rd l1 x12_1)).f1).length cbg_1)) (fun _ hk => hk.2) (.slice Abg_2 ((rd_T30 xaJ_1 (rd l1 x12_1)).f2).length cbg_2)) (fun _ hk => ⟨hk.1.1, ⟨hk.1.2.1, ⟨hk.1.2.2.1, hk.1.2.2.2⟩⟩⟩)⟩, ⟨by (with_reducible repeat (first | apply Kd.V_alloc | apply Kd.V_drewN | apply Kd.V_drew)); exact Kd.V_mono (Kd.V_far (p := ⟨gbaq, 2, none⟩) (Kd.V_far (p := ⟨gbaq, 1, none⟩) (Kd.V_far (p := ⟨gbaq, 0, none⟩) (Kd.V_mono HL377_2.out (fun k_ hk => (⟨hk, hk.2.2.2⟩ : _ ∧ k_ ≠ gbaq))) (fun _ hk => hk.2) (.string ((rd_T30 xaJ_1 (rd l1 x12_1)).f0))) (fun _ hk => hk.2) (.slice Abg_1 ((rd_T30 xaJ_1 (rd l1 x12_1)).f1).length cbg_1)) (fun _ hk => hk.2) (.slice Abg_2 ((rd_T30 xaJ_1 (rd l1 x12_1)).f2).length cbg_2)) (fun _ hk => ⟨hk.1.1, ⟨hk.1.2.1, ⟨hk.1.2.2.1, hk.1.2.2.2⟩⟩⟩)⟩, ⟨by (with_reducible repeat (first | refine blk_drewN ?_ _ | refine blk_drew ?_ | refine blk_alloc ?_ _)); refine blk_far ?_ NB371_373.out _; (with_reducible repeat (first | refine blk_drewN ?_ _ | refine blk_drew ?_ | refine blk_alloc ?_ _)); refine blk_far ?_ NB371_373.out _; (with_reducible repeat (first | refine blk_drewN ?_ _ | refine blk_drew ?_ | refine blk_alloc ?_ _)); refine blk_far ?_ NB371_373.out _; (with_reducible repeat (first | refine blk_drewN ?_ _ | refine blk_drew ?_ | refine blk_alloc ?_ _)); exact BKaV.out⟩, ⟨by (with_reducible repeat (first | refine blk_drewN ?_ _ | refine blk_drew ?_ | refine blk_alloc ?_ _)); refine blk_far ?_ NB372_373.out _; (with_reducible repeat (first | refine blk_drewN ?_ _ | refine blk_drew ?_ | refine blk_alloc ?_ _)); refine blk_far ?_ NB372_373.out _; (with_reducible repeat (first | refine blk_drewN ?_ _ | refine blk_drew ?_ | refine blk_alloc ?_ _)); refine blk_far ?_ NB372_373.out _; (with_reducible repeat (first | refine blk_drewN ?_ _ | refine blk_drew ?_ | refine blk_alloc ?_ _)); exact BKaF.out⟩, ⟨by (with_reducible repeat (first | refine blk_drewN ?_ _ | refine blk_drew ?_ | refine blk_alloc ?_ _)); refine blk_put (cs := #[.string ((rd_T30 xaJ_1 (rd l1 x12_1)).f0), .slice Abg_1 ((rd_T30 xaJ_1 (rd l1 x12_1)).f1).length cbg_1, .slice (some adbg) xaJ_1.length co28]) ?_ 2 _ rfl; (with_reducible repeat (first | refine blk_drewN ?_ _ | refine blk_drew ?_ | refine blk_alloc ?_ _)); refine blk_put (cs := #[.string ((rd_T30 xaJ_1 (rd l1 x12_1)).f0), u374001, .slice (some adbg) xaJ_1.length co28]) ?_ 1 _ rfl; (with_reducible repeat (first | refine blk_drewN ?_ _ | refine blk_drew ?_ | refine blk_alloc ?_ _)); refine blk_put (cs := #[.string xcl_1, u374001, .slice (some adbg) xaJ_1.length co28]) ?_ 0 _ rfl; (with_reducible repeat (first | refine blk_drewN ?_ _ | refine blk_drew ?_ | refine blk_alloc ?_ _)); exact BKaq.out⟩, ⟨Zq90⟩⟩
         ·rw [if_neg c26] at H; exact absurd H Zq8
        ·rw [if_neg c25] at H; exact absurd H Zq8
     ·rw [if_neg c13] at H; exact absurd H Zq8
    ·rw [if_neg c12] at H; exact absurd H Zq8
   ·rw [if_neg c11] at H; have c11b0 : decide (x12_1 < (l1.length : Int)) = false := decide_eq_false c11; clear c11; simp only [Option.some.injEq, Prod.mk.injEq] at H; obtain ⟨rfl, rfl, rfl, rfl⟩ := H; have hnb33 := NB373_371.out; have hnc33 := NB371_373.out; have hnb34 := NB373_372.out; have hnc34 := NB372_373.out; have hcz35_0 : wr.cell? ⟨gbaq, 0, none⟩ = some (.string xcl_1) := (blk_cell BKaq.out 0).trans rfl; have hcz35_1 : wr.cell? ⟨gbaq, 1, none⟩ = some (u374001) := (blk_cell BKaq.out 1).trans rfl; have hcz35_2 : wr.cell? ⟨gbaq, 2, none⟩ = some (u374002) := (blk_cell BKaq.out 2).trans rfl; have hfz35_0 := blk_frozen BKaq.out 0; have hfz35_1 := blk_frozen BKaq.out 1; have hfz35_2 := blk_frozen BKaq.out 2; have hnb36 := NB372_371.out; have hnc36 := NB371_372.out; have hcz37_0 : wr.cell? ⟨gbaF, 0, none⟩ = some (.string xdy_1) := (blk_cell BKaF.out 0).trans rfl; have hcz37_1 : wr.cell? ⟨gbaF, 1, none⟩ = some (.slice none 0 0) := (blk_cell BKaF.out 1).trans rfl; have hcz37_2 : wr.cell? ⟨gbaF, 2, none⟩ = some (.slice none 0 0) := (blk_cell BKaF.out 2).trans rfl; have hfz37_0 := blk_frozen BKaF.out 0; have hfz37_1 := blk_frozen BKaF.out 1; have hfz37_2 := blk_frozen BKaF.out 2; obtain ⟨Ao38, co38, eo38⟩ := Kd.V_slice HO_bB.out; subst eo38; obtain ⟨Ao39, co39, eo39⟩ := Kd.V_slice HO_aJ.out; subst eo39
    go_wp2
    refine bodyPost_ret (results_ct rfl _ _ gbaF 30 #[.string xcl_1, .slice Ao38 xbB_1.length co38, .slice Ao39 xaJ_1.length co39] (0, 0) _ rfl (by (with_reducible repeat (first | refine blk_drewN ?_ _ | refine blk_drew ?_ | refine blk_alloc ?_ _)); refine blk_put (cs := #[.string xcl_1, .slice Ao38 xbB_1.length co38, .slice none 0 0]) ?_ 2 _ rfl; (with_reducible repeat (first | refine blk_drewN ?_ _ | refine blk_drew ?_ | refine blk_alloc ?_ _)); refine blk_put (cs := #[.string xcl_1, .slice none 0 0, .slice none 0 0]) ?_ 1 _ rfl; (with_reducible repeat (first | refine blk_drewN ?_ _ | refine blk_drew ?_ | refine blk_alloc ?_ _)); refine blk_put (cs := #[.string xdy_1, .slice none 0 0, .slice none 0 0]) ?_ 0 _ rfl; (with_reducible repeat (first | refine blk_drewN ?_ _ | refine blk_drew ?_ | refine blk_alloc ?_ _)); exact BKaF.out) Try.underlying30 rfl Zq2) rfl ?_
    exact ⟨_, _, Zq10, by (with_reducible repeat (first | apply Kd.V_alloc | apply Kd.V_drewN | apply Kd.V_drew)); exact Kd.V_mono (Kd.V_far (p := ⟨gbaF, 2, none⟩) (Kd.V_far (p := ⟨gbaF, 1, none⟩) (Kd.V_far (p := ⟨gbaF, 0, none⟩) (Kd.V_mono HO_bB.out (fun k_ hk => (⟨hk, hk.2.2.1⟩ : _ ∧ k_ ≠ gbaF))) (fun _ hk => hk.2) (.string xcl_1)) (fun _ hk => hk.2) (.slice Ao38 xbB_1.length co38)) (fun _ hk => hk.2) (.slice Ao39 xaJ_1.length co39)) (fun _ hk => hk.1.1), by (with_reducible repeat (first | apply Kd.V_alloc | apply Kd.V_drewN | apply Kd.V_drew)); exact Kd.V_mono (Kd.V_far (p := ⟨gbaF, 2, none⟩) (Kd.V_far (p := ⟨gbaF, 1, none⟩) (Kd.V_far (p := ⟨gbaF, 0, none⟩) (Kd.V_mono HO_aJ.out (fun k_ hk => (⟨hk, hk.2.2.1⟩ : _ ∧ k_ ≠ gbaF))) (fun _ hk => hk.2) (.string xcl_1)) (fun _ hk => hk.2) (.slice Ao38 xbB_1.length co38)) (fun _ hk => hk.2) (.slice Ao39 xaJ_1.length co39)) (fun _ hk => hk.1.1), Zq90⟩
def arboretref12_Whole.f (a0 : Int) (a1 : Int) : Option (Bool) := if a1 = 0 then (some true) else (some (decide ((IntKind.u64.wrap (a1 - 1)) ≤ (IntKind.u64.wrap (18446744073709551615 - a0)))))
set_option maxHeartbeats 8000000 in
set_option maxRecDepth 100000 in
theorem arboretref12_Whole.calls (a0 : Int) (a1 : Int) (r : Bool) (w : World) (h : arboretref12_Whole.f a0 a1 = some r) :
  Calls Try.prog 51 #[.int .u64 a0, .int .u64 a1] w fun e w' => e = .returned (.bool r) ∧ Drawn0 w w' := by
 have H : (if a1 = 0 then (some true) else (some (decide ((IntKind.u64.wrap (a1 - 1)) ≤ (IntKind.u64.wrap (18446744073709551615 - a0)))))) = some r := h; clear h
 by_cases c3 : a1 = 0
 ·rw [if_pos c3] at H; have c3b0 : (a1 == 0) = true := beq_iff_eq.mpr c3; have c3b1 : (a1 != 0) = false := bne_eq_false_iff_eq.mpr c3; clear c3; obtain rfl := Option.some.inj H
  go_enter Try.func51, Try.ntmps51
  go_wp2
  go_ret
  exact ⟨Zq6, Zq11⟩
 ·rw [if_neg c3] at H; have c3b0 : (a1 == 0) = false := beq_eq_false_iff_ne.mpr c3; have c3b1 : (a1 != 0) = true := bne_iff_ne.mpr c3; obtain rfl := Option.some.inj H
  go_enter Try.func51, Try.ntmps51
  go_wp2
  go_ret
  exact ⟨Zq6, Zq11⟩
end Go.Proofs.Yteejaaeglfpcmab.PX
