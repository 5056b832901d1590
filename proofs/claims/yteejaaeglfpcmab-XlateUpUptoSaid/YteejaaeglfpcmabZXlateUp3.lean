/- XlateUp: texts of this session's, and what the kit's print laid for this seat, as far as the law's row uses them (PXx0, PXx0, PXx0, PXx0, PXx0, PXx0). -/
import Derived.Test.YteejaaeglfpcmabZXlateUp2
set_option linter.unusedVariables false
set_option linter.unusedSimpArgs false
namespace Go.Proofs.Yteejaaeglfpcmab.PX
open Go.RowKit Go.Proofs.YteejaaeglfpcmabW.PrintWords Go.Proofs.YteejaaeglfpcmabW.PrintLast Go.Proofs.YteejaaeglfpcmabW.PrintMore
attribute [local go_sem] max2_int min2_int max_two min_two max_three min_three max_four min_four
set_option maxHeartbeats 8000000 in
set_option maxRecDepth 100000 in
theorem arboretref01_stands.calls (a0 : Int) (r : Bool) (w : World) (h : arboretref01_stands.f a0 = some r) :
  Calls Try.prog 90 #[.int .u8 a0] w fun e w' => e = .returned (.bool r) ∧ Drawn0 w w' := by
 have H : (if a0 ≥ 48 then (if a0 ≤ 57 then (some true) else (if a0 ≥ 97 then (if a0 ≤ 122 then (some true) else (if a0 ≥ 65 then (if a0 ≤ 90 then (some true) else (if a0 = 44 then (some true) else (if a0 = 46 then (some true) else (if a0 = 95 then (some true) else (if a0 = 43 then (some true) else (some (a0 == 45))))))) else (if a0 = 44 then (some true) else (if a0 = 46 then (some true) else (if a0 = 95 then (some true) else (if a0 = 43 then (some true) else (some (a0 == 45)))))))) else (if a0 ≥ 65 then (if a0 ≤ 90 then (some true) else (if a0 = 44 then (some true) else (if a0 = 46 then (some true) else (if a0 = 95 then (some true) else (if a0 = 43 then (some true) else (some (a0 == 45))))))) else (if a0 = 44 then (some true) else (if a0 = 46 then (some true) else (if a0 = 95 then (some true) else (if a0 = 43 then (some true) else (some (a0 == 45))))))))) else (if a0 ≥ 97 then (if a0 ≤ 122 then (some true) else (if a0 ≥ 65 then (if a0 ≤ 90 then (some true) else (if a0 = 44 then (some true) else (if a0 = 46 then (some true) else (if a0 = 95 then (some true) else (if a0 = 43 then (some true) else (some (a0 == 45))))))) else (if a0 = 44 then (some true) else (if a0 = 46 then (some true) else (if a0 = 95 then (some true) else (if a0 = 43 then (some true) else (some (a0 == 45)))))))) else (if a0 ≥ 65 then (if a0 ≤ 90 then (some true) else (if a0 = 44 then (some true) else (if a0 = 46 then (some true) else (if a0 = 95 then (some true) else (if a0 = 43 then (some true) else (some (a0 == 45))))))) else (if a0 = 44 then (some true) else (if a0 = 46 then (some true) else (if a0 = 95 then (some true) else (if a0 = 43 then (some true) else (some (a0 == 45))))))))) = some r := h; clear h
 by_cases c2 : a0 ≥ 48
 ·rw [if_pos c2] at H; have c2b0 : decide (48 ≤ a0) = true := decide_eq_true c2; clear c2
  by_cases c3 : a0 ≤ 57
  ·rw [if_pos c3] at H; have c3b0 : decide (a0 ≤ 57) = true := decide_eq_true c3; clear c3; obtain rfl := Option.some.inj H
   go_enter Try.func90, Try.ntmps90
   go_wp2
   go_ret
   exact ⟨Zq6, Zq10⟩
  ·rw [if_neg c3] at H; have c3b0 : decide (a0 ≤ 57) = false := decide_eq_false c3; clear c3
   by_cases c4 : a0 ≥ 97
   ·rw [if_pos c4] at H; have c4b0 : decide (97 ≤ a0) = true := decide_eq_true c4; clear c4
    by_cases c5 : a0 ≤ 122
    ·rw [if_pos c5] at H; have c5b0 : decide (a0 ≤ 122) = true := decide_eq_true c5; clear c5; obtain rfl := Option.some.inj H
     go_enter Try.func90, Try.ntmps90
     go_wp2
     go_ret
     exact ⟨Zq6, Zq10⟩
    ·rw [if_neg c5] at H; have c5b0 : decide (a0 ≤ 122) = false := decide_eq_false c5; clear c5
     by_cases c6 : a0 ≥ 65
     ·rw [if_pos c6] at H; have c6b0 : decide (65 ≤ a0) = true := decide_eq_true c6; clear c6
      by_cases c7 : a0 ≤ 90
      ·rw [if_pos c7] at H; have c7b0 : decide (a0 ≤ 90) = true := decide_eq_true c7; clear c7; obtain rfl := Option.some.inj H
       go_enter Try.func90, Try.ntmps90
       go_wp2
       go_ret
       exact ⟨Zq6, Zq10⟩
      ·rw [if_neg c7] at H; have c7b0 : decide (a0 ≤ 90) = false := decide_eq_false c7; clear c7
       by_cases c8 : a0 = 44
       ·rw [if_pos c8] at H; have c8b0 : (a0 == 44) = true := beq_iff_eq.mpr c8; have c8b1 : (a0 != 44) = false := bne_eq_false_iff_eq.mpr c8; clear c8; obtain rfl := Option.some.inj H
        go_enter Try.func90, Try.ntmps90
        go_wp2
        go_ret
        exact ⟨Zq6, Zq10⟩
       ·rw [if_neg c8] at H; have c8b0 : (a0 == 44) = false := beq_eq_false_iff_ne.mpr c8; have c8b1 : (a0 != 44) = true := bne_iff_ne.mpr c8
        by_cases c9 : a0 = 46
        ·rw [if_pos c9] at H; have c9b0 : (a0 == 46) = true := beq_iff_eq.mpr c9; have c9b1 : (a0 != 46) = false := bne_eq_false_iff_eq.mpr c9; clear c9; obtain rfl := Option.some.inj H
         go_enter Try.func90, Try.ntmps90
         go_wp2
         go_ret
         exact ⟨Zq6, Zq10⟩
        ·rw [if_neg c9] at H; have c9b0 : (a0 == 46) = false := beq_eq_false_iff_ne.mpr c9; have c9b1 : (a0 != 46) = true := bne_iff_ne.mpr c9
         by_cases c10 : a0 = 95
         ·rw [if_pos c10] at H; have c10b0 : (a0 == 95) = true := beq_iff_eq.mpr c10; have c10b1 : (a0 != 95) = false := bne_eq_false_iff_eq.mpr c10; clear c10; obtain rfl := Option.some.inj H
          go_enter Try.func90, Try.ntmps90
          go_wp2
          go_ret
          exact ⟨Zq6, Zq10⟩
         ·rw [if_neg c10] at H; have c10b0 : (a0 == 95) = false := beq_eq_false_iff_ne.mpr c10; have c10b1 : (a0 != 95) = true := bne_iff_ne.mpr c10
          by_cases c11 : a0 = 43
          ·rw [if_pos c11] at H; have c11b0 : (a0 == 43) = true := beq_iff_eq.mpr c11; have c11b1 : (a0 != 43) = false := bne_eq_false_iff_eq.mpr c11; clear c11; obtain rfl := Option.some.inj H
           go_enter Try.func90, Try.ntmps90
           go_wp2
           go_ret
           exact ⟨Zq6, Zq10⟩
          ·rw [if_neg c11] at H; have c11b0 : (a0 == 43) = false := beq_eq_false_iff_ne.mpr c11; have c11b1 : (a0 != 43) = true := bne_iff_ne.mpr c11; obtain rfl := Option.some.inj H
           go_enter Try.func90, Try.ntmps90
           go_wp2
           go_ret
           exact ⟨Zq6, Zq10⟩
     ·rw [if_neg c6] at H; have c6b0 : decide (65 ≤ a0) = false := decide_eq_false c6; clear c6
      by_cases c12 : a0 = 44
      ·rw [if_pos c12] at H; have c12b0 : (a0 == 44) = true := beq_iff_eq.mpr c12; have c12b1 : (a0 != 44) = false := bne_eq_false_iff_eq.mpr c12; clear c12; obtain rfl := Option.some.inj H
       go_enter Try.func90, Try.ntmps90
       go_wp2
       go_ret
       exact ⟨Zq6, Zq10⟩
      ·rw [if_neg c12] at H; have c12b0 : (a0 == 44) = false := beq_eq_false_iff_ne.mpr c12; have c12b1 : (a0 != 44) = true := bne_iff_ne.mpr c12
       by_cases c13 : a0 = 46
       ·rw [if_pos c13] at H; have c13b0 : (a0 == 46) = true := beq_iff_eq.mpr c13; have c13b1 : (a0 != 46) = false := bne_eq_false_iff_eq.mpr c13; clear c13; obtain rfl := Option.some.inj H
        go_enter Try.func90, Try.ntmps90
        go_wp2
        go_ret
        exact ⟨Zq6, Zq10⟩
       ·rw [if_neg c13] at H; have c13b0 : (a0 == 46) = false := beq_eq_false_iff_ne.mpr c13; have c13b1 : (a0 != 46) = true := bne_iff_ne.mpr c13
        by_cases c14 : a0 = 95
        ·rw [if_pos c14] at H; have c14b0 : (a0 == 95) = true := beq_iff_eq.mpr c14; have c14b1 : (a0 != 95) = false := bne_eq_false_iff_eq.mpr c14; clear c14; obtain rfl := Option.some.inj H
         go_enter Try.func90, Try.ntmps90
         go_wp2
         go_ret
         exact ⟨Zq6, Zq10⟩
        ·rw [if_neg c14] at H; have c14b0 : (a0 == 95) = false := beq_eq_false_iff_ne.mpr c14; have c14b1 : (a0 != 95) = true := bne_iff_ne.mpr c14
         by_cases c15 : a0 = 43
         ·rw [if_pos c15] at H; have c15b0 : (a0 == 43) = true := beq_iff_eq.mpr c15; have c15b1 : (a0 != 43) = false := bne_eq_false_iff_eq.mpr c15; clear c15; obtain rfl := Option.some.inj H
          go_enter Try.func90, Try.ntmps90
          go_wp2
          go_ret
          exact ⟨Zq6, Zq10⟩
         ·rw [if_neg c15] at H; have c15b0 : (a0 == 43) = false := beq_eq_false_iff_ne.mpr c15; have c15b1 : (a0 != 43) = true := bne_iff_ne.mpr c15; obtain rfl := Option.some.inj H
          go_enter Try.func90, Try.ntmps90
          go_wp2
          go_ret
          exact ⟨Zq6, Zq10⟩
   ·rw [if_neg c4] at H; have c4b0 : decide (97 ≤ a0) = false := decide_eq_false c4; clear c4
    by_cases c16 : a0 ≥ 65
    ·rw [if_pos c16] at H; have c16b0 : decide (65 ≤ a0) = true := decide_eq_true c16; clear c16
     by_cases c17 : a0 ≤ 90
     ·rw [if_pos c17] at H; have c17b0 : decide (a0 ≤ 90) = true := decide_eq_true c17; clear c17; obtain rfl := Option.some.inj H
      go_enter Try.func90, Try.ntmps90
      go_wp2
      go_ret
      exact ⟨Zq6, Zq10⟩
     ·rw [if_neg c17] at H; have c17b0 : decide (a0 ≤ 90) = false := decide_eq_false c17; clear c17
      by_cases c18 : a0 = 44
      ·rw [if_pos c18] at H; have c18b0 : (a0 == 44) = true := beq_iff_eq.mpr c18; have c18b1 : (a0 != 44) = false := bne_eq_false_iff_eq.mpr c18; clear c18; obtain rfl := Option.some.inj H
       go_enter Try.func90, Try.ntmps90
       go_wp2
       go_ret
       exact ⟨Zq6, Zq10⟩
      ·rw [if_neg c18] at H; have c18b0 : (a0 == 44) = false := beq_eq_false_iff_ne.mpr c18; have c18b1 : (a0 != 44) = true := bne_iff_ne.mpr c18
       by_cases c19 : a0 = 46
       ·rw [if_pos c19] at H; have c19b0 : (a0 == 46) = true := beq_iff_eq.mpr c19; have c19b1 : (a0 != 46) = false := bne_eq_false_iff_eq.mpr c19; clear c19; obtain rfl := Option.some.inj H
        go_enter Try.func90, Try.ntmps90
        go_wp2
        go_ret
        exact ⟨Zq6, Zq10⟩
       ·rw [if_neg c19] at H; have c19b0 : (a0 == 46) = false := beq_eq_false_iff_ne.mpr c19; have c19b1 : (a0 != 46) = true := bne_iff_ne.mpr c19
        by_cases c20 : a0 = 95
        ·rw [if_pos c20] at H; have c20b0 : (a0 == 95) = true := beq_iff_eq.mpr c20; have c20b1 : (a0 != 95) = false := bne_eq_false_iff_eq.mpr c20; clear c20; obtain rfl := Option.some.inj H
         go_enter Try.func90, Try.ntmps90
         go_wp2
         go_ret
         exact ⟨Zq6, Zq10⟩
        ·rw [if_neg c20] at H; have c20b0 : (a0 == 95) = false := beq_eq_false_iff_ne.mpr c20; have c20b1 : (a0 != 95) = true := bne_iff_ne.mpr c20
         by_cases c21 : a0 = 43
         ·rw [if_pos c21] at H; have c21b0 : (a0 == 43) = true := beq_iff_eq.mpr c21; have c21b1 : (a0 != 43) = false := bne_eq_false_iff_eq.mpr c21; clear c21; obtain rfl := Option.some.inj H
          go_enter Try.func90, Try.ntmps90
          go_wp2
          go_ret
          exact ⟨Zq6, Zq10⟩
         ·rw [if_neg c21] at H; have c21b0 : (a0 == 43) = false := beq_eq_false_iff_ne.mpr c21; have c21b1 : (a0 != 43) = true := bne_iff_ne.mpr c21; obtain rfl := Option.some.inj H
          go_enter Try.func90, Try.ntmps90
          go_wp2
          go_ret
          exact ⟨Zq6, Zq10⟩
    ·rw [if_neg c16] at H; have c16b0 : decide (65 ≤ a0) = false := decide_eq_false c16; clear c16
     by_cases c22 : a0 = 44
     ·rw [if_pos c22] at H; have c22b0 : (a0 == 44) = true := beq_iff_eq.mpr c22; have c22b1 : (a0 != 44) = false := bne_eq_false_iff_eq.mpr c22; clear c22; obtain rfl := Option.some.inj H
      go_enter Try.func90, Try.ntmps90
      go_wp2
      go_ret
      exact ⟨Zq6, Zq10⟩
     ·rw [if_neg c22] at H; have c22b0 : (a0 == 44) = false := beq_eq_false_iff_ne.mpr c22; have c22b1 : (a0 != 44) = true := bne_iff_ne.mpr c22
      by_cases c23 : a0 = 46
      ·rw [if_pos c23] at H; have c23b0 : (a0 == 46) = true := beq_iff_eq.mpr c23; have c23b1 : (a0 != 46) = false := bne_eq_false_iff_eq.mpr c23; clear c23; obtain rfl := Option.some.inj H
       go_enter Try.func90, Try.ntmps90
       go_wp2
       go_ret
       exact ⟨Zq6, Zq10⟩
      ·rw [if_neg c23] at H; have c23b0 : (a0 == 46) = false := beq_eq_false_iff_ne.mpr c23; have c23b1 : (a0 != 46) = true := bne_iff_ne.mpr c23
       by_cases c24 : a0 = 95
       ·rw [if_pos c24] at H; have c24b0 : (a0 == 95) = true := beq_iff_eq.mpr c24; have c24b1 : (a0 != 95) = false := bne_eq_false_iff_eq.mpr c24; clear c24; obtain rfl := Option.some.inj H
        go_enter Try.func90, Try.ntmps90
        go_wp2
        go_ret
        exact ⟨Zq6, Zq10⟩
       ·rw [if_neg c24] at H; have c24b0 : (a0 == 95) = false := beq_eq_false_iff_ne.mpr c24; have c24b1 : (a0 != 95) = true := bne_iff_ne.mpr c24
        by_cases c25 : a0 = 43
        ·rw [if_pos c25] at H; have c25b0 : (a0 == 43) = true := beq_iff_eq.mpr c25; have c25b1 : (a0 != 43) = false := bne_eq_false_iff_eq.mpr c25; clear c25; obtain rfl := Option.some.inj H
         go_enter Try.func90, Try.ntmps90
         go_wp2
         go_ret
         exact ⟨Zq6, Zq10⟩
        ·rw [if_neg c25] at H; have c25b0 : (a0 == 43) = false := beq_eq_false_iff_ne.mpr c25; have c25b1 : (a0 != 43) = true := bne_iff_ne.mpr c25; obtain rfl := Option.some.inj H
         go_enter Try.func90, Try.ntmps90
         go_wp2
         go_ret
         exact ⟨Zq6, Zq10⟩
 ·rw [if_neg c2] at H; have c2b0 : decide (48 ≤ a0) = false := decide_eq_false c2; clear c2
  by_cases c26 : a0 ≥ 97
  ·rw [if_pos c26] at H; have c26b0 : decide (97 ≤ a0) = true := decide_eq_true c26; clear c26
   by_cases c27 : a0 ≤ 122
   ·rw [if_pos c27] at H; have c27b0 : decide (a0 ≤ 122) = true := decide_eq_true c27; clear c27; obtain rfl := Option.some.inj H
    go_enter Try.func90, Try.ntmps90
    go_wp2
    go_ret
    exact ⟨Zq6, Zq10⟩
   ·rw [if_neg c27] at H; have c27b0 : decide (a0 ≤ 122) = false := decide_eq_false c27; clear c27
    by_cases c28 : a0 ≥ 65
    ·rw [if_pos c28] at H; have c28b0 : decide (65 ≤ a0) = true := decide_eq_true c28; clear c28
     by_cases c29 : a0 ≤ 90
     ·rw [if_pos c29] at H; have c29b0 : decide (a0 ≤ 90) = true := decide_eq_true c29; clear c29; obtain rfl := Option.some.inj H
      go_enter Try.func90, Try.ntmps90
      go_wp2
      go_ret
      exact ⟨Zq6, Zq10⟩
     ·rw [if_neg c29] at H; have c29b0 : decide (a0 ≤ 90) = false := decide_eq_false c29; clear c29
      by_cases c30 : a0 = 44
      ·rw [if_pos c30] at H; have c30b0 : (a0 == 44) = true := beq_iff_eq.mpr c30; have c30b1 : (a0 != 44) = false := bne_eq_false_iff_eq.mpr c30; clear c30; obtain rfl := Option.some.inj H
       go_enter Try.func90, Try.ntmps90
       go_wp2
       go_ret
       exact ⟨Zq6, Zq10⟩
      ·rw [if_neg c30] at H; have c30b0 : (a0 == 44) = false := beq_eq_false_iff_ne.mpr c30; have c30b1 : (a0 != 44) = true := bne_iff_ne.mpr c30
       by_cases c31 : a0 = 46
       ·rw [if_pos c31] at H; have c31b0 : (a0 == 46) = true := beq_iff_eq.mpr c31; have c31b1 : (a0 != 46) = false := bne_eq_false_iff_eq.mpr c31; clear c31; obtain rfl := Option.some.inj H
        go_enter Try.func90, Try.ntmps90
        go_wp2
        go_ret
        exact ⟨Zq6, Zq10⟩
       ·rw [if_neg c31] at H; have c31b0 : (a0 == 46) = false := beq_eq_false_iff_ne.mpr c31; have c31b1 : (a0 != 46) = true := bne_iff_ne.mpr c31
        by_cases c32 : a0 = 95
        ·rw [if_pos c32] at H; have c32b0 : (a0 == 95) = true := beq_iff_eq.mpr c32; have c32b1 : (a0 != 95) = false := bne_eq_false_iff_eq.mpr c32; clear c32; obtain rfl := Option.some.inj H
         go_enter Try.func90, Try.ntmps90
         go_wp2
         go_ret
         exact ⟨Zq6, Zq10⟩
        ·rw [if_neg c32] at H; have c32b0 : (a0 == 95) = false := beq_eq_false_iff_ne.mpr c32; have c32b1 : (a0 != 95) = true := bne_iff_ne.mpr c32
         by_cases c33 : a0 = 43
         ·rw [if_pos c33] at H; have c33b0 : (a0 == 43) = true := beq_iff_eq.mpr c33; have c33b1 : (a0 != 43) = false := bne_eq_false_iff_eq.mpr c33; clear c33; obtain rfl := Option.some.inj H
          go_enter Try.func90, Try.ntmps90
          go_wp2
          go_ret
          exact ⟨Zq6, Zq10⟩
         ·rw [if_neg c33] at H; have c33b0 : (a0 == 43) = false := beq_eq_false_iff_ne.mpr c33; have c33b1 : (a0 != 43) = true := bne_iff_ne.mpr c33; obtain rfl := Option.some.inj H
          go_enter Try.func90, Try.ntmps90
          go_wp2
          go_ret
          exact ⟨Zq6, Zq10⟩
    ·rw [if_neg c28] at H; have c28b0 : decide (65 ≤ a0) = false := decide_eq_false c28; clear c28
     by_cases c34 : a0 = 44
     ·rw [if_pos c34] at H; have c34b0 : (a0 == 44) = true := beq_iff_eq.mpr c34; have c34b1 : (a0 != 44) = false := bne_eq_false_iff_eq.mpr c34; clear c34; obtain rfl := Option.some.inj H
      go_enter Try.func90, Try.ntmps90
      go_wp2
      go_ret
      exact ⟨Zq6, Zq10⟩
     ·rw [if_neg c34] at H; have c34b0 : (a0 == 44) = false := beq_eq_false_iff_ne.mpr c34; have c34b1 : (a0 != 44) = true := bne_iff_ne.mpr c34
      by_cases c35 : a0 = 46
      ·rw [if_pos c35] at H; have c35b0 : (a0 == 46) = true := beq_iff_eq.mpr c35; have c35b1 : (a0 != 46) = false := bne_eq_false_iff_eq.mpr c35; clear c35; obtain rfl := Option.some.inj H
       go_enter Try.func90, Try.ntmps90
       go_wp2
       go_ret
       exact ⟨Zq6, Zq10⟩
      ·rw [if_neg c35] at H; have c35b0 : (a0 == 46) = false := beq_eq_false_iff_ne.mpr c35; have c35b1 : (a0 != 46) = true := bne_iff_ne.mpr c35
       by_cases c36 : a0 = 95
       ·rw [if_pos c36] at H; have c36b0 : (a0 == 95) = true := beq_iff_eq.mpr c36; have c36b1 : (a0 != 95) = false := bne_eq_false_iff_eq.mpr c36; clear c36; obtain rfl := Option.some.inj H
        go_enter Try.func90, Try.ntmps90
        go_wp2
        go_ret
        exact ⟨Zq6, Zq10⟩
       ·rw [if_neg c36] at H; have c36b0 : (a0 == 95) = false := beq_eq_false_iff_ne.mpr c36; have c36b1 : (a0 != 95) = true := bne_iff_ne.mpr c36
        by_cases c37 : a0 = 43
        ·rw [if_pos c37] at H; have c37b0 : (a0 == 43) = true := beq_iff_eq.mpr c37; have c37b1 : (a0 != 43) = false := bne_eq_false_iff_eq.mpr c37; clear c37; obtain rfl := Option.some.inj H
         go_enter Try.func90, Try.ntmps90
         go_wp2
         go_ret
         exact ⟨Zq6, Zq10⟩
        ·rw [if_neg c37] at H; have c37b0 : (a0 == 43) = false := beq_eq_false_iff_ne.mpr c37; have c37b1 : (a0 != 43) = true := bne_iff_ne.mpr c37; obtain rfl := Option.some.inj H
         go_enter Try.func90, Try.ntmps90
         go_wp2
         go_ret
         exact ⟨Zq6, Zq10⟩
  ·rw [if_neg c26] at H; have c26b0 : decide (97 ≤ a0) = false := decide_eq_false c26; clear c26
   by_cases c38 : a0 ≥ 65
   ·rw [if_pos c38] at H; have c38b0 : decide (65 ≤ a0) = true := decide_eq_true c38; clear c38
    by_cases c39 : a0 ≤ 90
    ·rw [if_pos c39] at H; have c39b0 : decide (a0 ≤ 90) = true := decide_eq_true c39; clear c39; obtain rfl := Option.some.inj H
     go_enter Try.func90, Try.ntmps90
     go_wp2
     go_ret
     exact ⟨Zq6, Zq10⟩
    ·rw [if_neg c39] at H; have c39b0 : decide (a0 ≤ 90) = false := decide_eq_false c39; clear c39
     by_cases c40 : a0 = 44
     ·rw [if_pos c40] at H; have c40b0 : (a0 == 44) = true := beq_iff_eq.mpr c40; have c40b1 : (a0 != 44) = false := bne_eq_false_iff_eq.mpr c40; clear c40; obtain rfl := Option.some.inj H
      go_enter Try.func90, Try.ntmps90
      go_wp2
      go_ret
      exact ⟨Zq6, Zq10⟩
     ·rw [if_neg c40] at H; have c40b0 : (a0 == 44) = false := beq_eq_false_iff_ne.mpr c40; have c40b1 : (a0 != 44) = true := bne_iff_ne.mpr c40
      by_cases c41 : a0 = 46
      ·rw [if_pos c41] at H; have c41b0 : (a0 == 46) = true := beq_iff_eq.mpr c41; have c41b1 : (a0 != 46) = false := bne_eq_false_iff_eq.mpr c41; clear c41; obtain rfl := Option.some.inj H
       go_enter Try.func90, Try.ntmps90
       go_wp2
       go_ret
       exact ⟨Zq6, Zq10⟩
      ·rw [if_neg c41] at H; have c41b0 : (a0 == 46) = false := beq_eq_false_iff_ne.mpr c41; have c41b1 : (a0 != 46) = true := bne_iff_ne.mpr c41
       by_cases c42 : a0 = 95
       ·rw [if_pos c42] at H; have c42b0 : (a0 == 95) = true := beq_iff_eq.mpr c42; have c42b1 : (a0 != 95) = false := bne_eq_false_iff_eq.mpr c42; clear c42; obtain rfl := Option.some.inj H
        go_enter Try.func90, Try.ntmps90
        go_wp2
        go_ret
        exact ⟨Zq6, Zq10⟩
       ·rw [if_neg c42] at H; have c42b0 : (a0 == 95) = false := beq_eq_false_iff_ne.mpr c42; have c42b1 : (a0 != 95) = true := bne_iff_ne.mpr c42
        by_cases c43 : a0 = 43
        ·rw [if_pos c43] at H; have c43b0 : (a0 == 43) = true := beq_iff_eq.mpr c43; have c43b1 : (a0 != 43) = false := bne_eq_false_iff_eq.mpr c43; clear c43; obtain rfl := Option.some.inj H
         go_enter Try.func90, Try.ntmps90
         go_wp2
         go_ret
         exact ⟨Zq6, Zq10⟩
        ·rw [if_neg c43] at H; have c43b0 : (a0 == 43) = false := beq_eq_false_iff_ne.mpr c43; have c43b1 : (a0 != 43) = true := bne_iff_ne.mpr c43; obtain rfl := Option.some.inj H
         go_enter Try.func90, Try.ntmps90
         go_wp2
         go_ret
         exact ⟨Zq6, Zq10⟩
   ·rw [if_neg c38] at H; have c38b0 : decide (65 ≤ a0) = false := decide_eq_false c38; clear c38
    by_cases c44 : a0 = 44
    ·rw [if_pos c44] at H; have c44b0 : (a0 == 44) = true := beq_iff_eq.mpr c44; have c44b1 : (a0 != 44) = false := bne_eq_false_iff_eq.mpr c44; clear c44; obtain rfl := Option.some.inj H
     go_enter Try.func90, Try.ntmps90
     go_wp2
     go_ret
     exact ⟨Zq6, Zq10⟩
    ·rw [if_neg c44] at H; have c44b0 : (a0 == 44) = false := beq_eq_false_iff_ne.mpr c44; have c44b1 : (a0 != 44) = true := bne_iff_ne.mpr c44
     by_cases c45 : a0 = 46
     ·rw [if_pos c45] at H; have c45b0 : (a0 == 46) = true := beq_iff_eq.mpr c45; have c45b1 : (a0 != 46) = false := bne_eq_false_iff_eq.mpr c45; clear c45; obtain rfl := Option.some.inj H
      go_enter Try.func90, Try.ntmps90
      go_wp2
      go_ret
      exact ⟨Zq6, Zq10⟩
     ·rw [if_neg c45] at H; have c45b0 : (a0 == 46) = false := beq_eq_false_iff_ne.mpr c45; have c45b1 : (a0 != 46) = true := bne_iff_ne.mpr c45
      by_cases c46 : a0 = 95
      ·rw [if_pos c46] at H; have c46b0 : (a0 == 95) = true := beq_iff_eq.mpr c46; have c46b1 : (a0 != 95) = false := bne_eq_false_iff_eq.mpr c46; clear c46; obtain rfl := Option.some.inj H
       go_enter Try.func90, Try.ntmps90
       go_wp2
       go_ret
       exact ⟨Zq6, Zq10⟩
      ·rw [if_neg c46] at H; have c46b0 : (a0 == 95) = false := beq_eq_false_iff_ne.mpr c46; have c46b1 : (a0 != 95) = true := bne_iff_ne.mpr c46
       by_cases c47 : a0 = 43
       ·rw [if_pos c47] at H; have c47b0 : (a0 == 43) = true := beq_iff_eq.mpr c47; have c47b1 : (a0 != 43) = false := bne_eq_false_iff_eq.mpr c47; clear c47; obtain rfl := Option.some.inj H
        go_enter Try.func90, Try.ntmps90
        go_wp2
        go_ret
        exact ⟨Zq6, Zq10⟩
       ·rw [if_neg c47] at H; have c47b0 : (a0 == 43) = false := beq_eq_false_iff_ne.mpr c47; have c47b1 : (a0 != 43) = true := bne_iff_ne.mpr c47; obtain rfl := Option.some.inj H
        go_enter Try.func90, Try.ntmps90
        go_wp2
        go_ret
        exact ⟨Zq6, Zq10⟩
mutual
def arboretref01_Node.j0 : Nat → ByteArray → Int → ByteArray → Option (Bool)
 | 0, _, _, _ => none
 | k + 1, x0, x3, x4 => arboretref01_Node.l0 k x0 x3 x4 (x0.size : Int) 0
def arboretref01_Node.l0 : Nat → ByteArray → Int → ByteArray → Int → Int → Option (Bool)
 | 0, _, _, _, _, _ => none
 | k + 1, x0, x3, x4, x29, x30 => if x30 < x29 then (if x30 = x3 then (arboretref01_Node.l0 k x0 x3 x4 x29 (wrap64 (x30 + 1))) else (if 0 ≤ x30 then (if x30 < (x0.size : Int) then ((arboretref01_stands.f (bt x0 x30)).bind fun teV => (if teV = true then (arboretref01_Node.l0 k x0 x3 x4 x29 (wrap64 (x30 + 1))) else (some false))) else (none)) else (none))) else (if (x4.size : Int) ≥ 1 then (if (x4.size : Int) ≤ 31 then (if 0 < (x4.size : Int) then (if (bt x4 0) = 95 then (some true) else (if (bt x4 0) ≥ 97 then (if (bt x4 0) ≤ 122 then (some true) else (if (bt x4 0) ≥ 65 then (some (decide ((bt x4 0) ≤ 90))) else (some false))) else (if (bt x4 0) ≥ 65 then (some (decide ((bt x4 0) ≤ 90))) else (some false)))) else (none)) else (some false)) else (some false))
end
def arboretref01_Node.f (k : Nat) (a0 : ByteArray) : Option (Bool) := (arboretref01_Cut.f k a0).bind fun tbl => (if tbl ≥ 0 then (if 0 ≤ tbl then (if tbl ≤ (a0.size : Int) then (if (wrap64 ((wrap64 ((a0.size : Int) - tbl)) - 1)) < 1 then (some false) else (if (wrap64 ((wrap64 ((a0.size : Int) - tbl)) - 1)) > 31 then (some false) else (arboretref01_Node.j0 k a0 tbl (a0.extract 0 (tbl : Int).toNat)))) else (none)) else (none)) else (arboretref01_Node.j0 k a0 tbl a0))
theorem arboretref01_Node.mono_l : ∀ k, (∀ y0 y1 y2, LeO (arboretref01_Node.j0 k y0 y1 y2) (arboretref01_Node.j0 (k + 1) y0 y1 y2)) ∧ (∀ y0 y1 y2 y3 y4, LeO (arboretref01_Node.l0 k y0 y1 y2 y3 y4) (arboretref01_Node.l0 (k + 1) y0 y1 y2 y3 y4))
 | 0 => ⟨fun _ _ _ r h => by simp [arboretref01_Node.j0] at h, fun _ _ _ _ _ r h => by simp [arboretref01_Node.l0] at h⟩
 | k + 1 => by
  obtain ⟨ih0, ih1⟩ := arboretref01_Node.mono_l k; refine ⟨?_, ?_⟩
  ·intro y0 y1 y2; unfold arboretref01_Node.j0
   repeat' first | (with_reducible first | exact ih0 _ _ _ | exact ih1 _ _ _ _ _ | exact arboretref01_Cut.mono _ _ | exact LeO.refl _ | exact LeO.none _ | refine LeO.ite ?_ ?_ | refine LeO.bind ?_ (fun _ => ?_))
  ·intro y0 y1 y2 y3 y4; unfold arboretref01_Node.l0
   repeat' first | (with_reducible first | exact ih0 _ _ _ | exact ih1 _ _ _ _ _ | exact arboretref01_Cut.mono _ _ | exact LeO.refl _ | exact LeO.none _ | refine LeO.ite ?_ ?_ | refine LeO.bind ?_ (fun _ => ?_))
theorem arboretref01_Node.mono : ∀ a0 k, LeO (arboretref01_Node.f k a0) (arboretref01_Node.f (k + 1) a0) := by
 intro a0 k; obtain ⟨ih0, ih1⟩ := arboretref01_Node.mono_l k; unfold arboretref01_Node.f
 repeat' first | (with_reducible first | exact ih0 _ _ _ | exact ih1 _ _ _ _ _ | exact arboretref01_Cut.mono _ _ | exact LeO.refl _ | exact LeO.none _ | refine LeO.ite ?_ ?_ | refine LeO.bind ?_ (fun _ => ?_))
set_option maxHeartbeats 8000000 in
set_option maxRecDepth 100000 in
theorem arboretref01_Node.calls (k : Nat) (a0 : ByteArray) (r : Bool) (w : World) (h : arboretref01_Node.f k a0 = some r) :
  Calls Try.prog 74 #[.string a0] w fun e w' => e = .returned (.bool r) ∧ Drawn0 w w' := by
 have H : ((arboretref01_Cut.f k a0).bind fun tbl => (if tbl ≥ 0 then (if 0 ≤ tbl then (if tbl ≤ (a0.size : Int) then (if (wrap64 ((wrap64 ((a0.size : Int) - tbl)) - 1)) < 1 then (some false) else (if (wrap64 ((wrap64 ((a0.size : Int) - tbl)) - 1)) > 31 then (some false) else (arboretref01_Node.j0 k a0 tbl (a0.extract 0 (tbl : Int).toNat)))) else (none)) else (none)) else (arboretref01_Node.j0 k a0 tbl a0))) = some r := h; clear h; replace H := Option.bind_eq_some_iff.mp H; obtain ⟨tbl, A20, H⟩ := H; replace H : (if tbl ≥ 0 then (if 0 ≤ tbl then (if tbl ≤ (a0.size : Int) then (if (wrap64 ((wrap64 ((a0.size : Int) - tbl)) - 1)) < 1 then (some false) else (if (wrap64 ((wrap64 ((a0.size : Int) - tbl)) - 1)) > 31 then (some false) else (arboretref01_Node.j0 k a0 tbl (a0.extract 0 (tbl : Int).toNat)))) else (none)) else (none)) else (arboretref01_Node.j0 k a0 tbl a0)) = some r := H; have A2 := Ak A20; clear A20; have HC3 := Ak H; clear H
 go_enter Try.func74, Try.ntmps74
 go_upto_if 10 with (first | ((with_reducible refine gate_callee (f := 14) rfl ?_); refine goesL_ (some 7) rfl rfl Try.func14 Zq2 rfl #[.string a0] rfl Zq8 ?_; (with_reducible refine (arboretref01_Cut.calls k a0 tbl _ A2.out).mono ?_); rintro e w' ⟨rfl, ⟨nd, rfl⟩⟩; refine ⟨_, rfl, ?_⟩))
 (try simp only [Act.put, List.setIfInBounds_toArray, List.set_cons_zero, List.set_cons_succ])
 go_cut [4] (fun v4 wc => ∃ (kq : Nat) (x4_2 : ByteArray), v4 = .string x4_2 ∧ Aside0 (arboretref01_Node.j0 kq a0 tbl x4_2 = some r) ∧ Aside0 (kq ≤ k) ∧ Drawn0 w wc)
 case first =>
  have H := HC3.out; clear HC3
  by_cases c4 : tbl ≥ 0
  ·rw [if_pos c4] at H; have c4b0 : decide (0 ≤ tbl) = true := decide_eq_true c4; clear c4
   (first | rw [c4b0] | (simp only [i64_w, i32_w]; rw [c4b0]) | skip)
   by_cases c5 : 0 ≤ tbl
   ·rw [if_pos c5] at H; have c5b0 := eq_true c5; have c5b1 : decide (0 ≤ tbl) = true := decide_eq_true c5; clear c5
    by_cases c6 : tbl ≤ (a0.size : Int)
    ·rw [if_pos c6] at H; have c6b0 := eq_true c6; have c6b1 : decide (tbl ≤ (a0.size : Int)) = true := decide_eq_true c6; clear c6
     by_cases c7 : (wrap64 ((wrap64 ((a0.size : Int) - tbl)) - 1)) < 1
     ·rw [if_pos c7] at H; have c7b0 : decide ((wrap64 ((wrap64 ((a0.size : Int) - tbl)) - 1)) < 1) = true := decide_eq_true c7; clear c7; obtain rfl := Option.some.inj H
      go_wp2
      go_ret
      exact ⟨Zq6, Zq10⟩
     ·rw [if_neg c7] at H; have c7b0 : decide ((wrap64 ((wrap64 ((a0.size : Int) - tbl)) - 1)) < 1) = false := decide_eq_false c7; clear c7
      by_cases c8 : (wrap64 ((wrap64 ((a0.size : Int) - tbl)) - 1)) > 31
      ·rw [if_pos c8] at H; have c8b0 : decide (31 < (wrap64 ((wrap64 ((a0.size : Int) - tbl)) - 1))) = true := decide_eq_true c8; clear c8; obtain rfl := Option.some.inj H
       go_wp2
       go_ret
       exact ⟨Zq6, Zq10⟩
      ·rw [if_neg c8] at H; have c8b0 : decide (31 < (wrap64 ((wrap64 ((a0.size : Int) - tbl)) - 1))) = false := decide_eq_false c8; clear c8; have H' := Ak H; clear H
       go_wp2
       go_meet
       case rel => exact ⟨_, (a0.extract 0 (tbl : Int).toNat), Zq6, H', ⟨Zq19⟩, Zq10⟩
    ·rw [if_neg c6] at H; exact absurd H Zq9
   ·rw [if_neg c5] at H; exact absurd H Zq9
  ·rw [if_neg c4] at H; have c4b0 : decide (0 ≤ tbl) = false := decide_eq_false c4; clear c4
   (first | rw [c4b0] | (simp only [i64_w, i32_w]; rw [c4b0]) | skip)
   have H' := Ak H; clear H
   go_wp2
   go_meet
   case rel => exact ⟨_, (a0), Zq6, H', ⟨Zq19⟩, Zq10⟩
 case rest =>
  clear HC3
  try clear c1
  try clear p2
  try clear c4
  try clear c4b0
  try clear c5
  try clear c5b0
  try clear c5b1
  try clear c6
  try clear c6b0
  try clear c6b1
  try clear p6
  try clear c7
  try clear c7b0
  try clear c8
  try clear c8b0
  obtain ⟨kq, x4_2, rfl, HA, HJ2, ⟨mc2, rfl⟩⟩ := hcut
  cases kq with
  | zero => exact absurd HA.out (by simp [arboretref01_Node.j0])
  | succ kj2 =>
   have H := HA.out; clear HA; simp only [arboretref01_Node.j0] at H; have H' := Ak H; clear H
   go_wp2
   go_loopg [30] kj2 (fun kq v30 w' => ∃ (x30_2 : Int), v30 = .int .i64 x30_2 ∧ Aside0 (arboretref01_Node.l0 kq a0 tbl x4_2 (a0.size : Int) x30_2 = some r) ∧ Aside0 (kq ≤ kj2) ∧ Drawn0 w w')
   case atStart => exact ⟨(0), Zq6, H', ⟨Nat.le_refl _⟩, Zq10⟩
   case round =>
    clear H'
    try clear c1
    try clear c2
    try clear p2
    try clear c4
    try clear c4b0
    try clear c5
    try clear c5b0
    try clear c5b1
    try clear c6
    try clear c6b0
    try clear c6b1
    try clear p6
    try clear c7
    try clear c7b0
    try clear c8
    try clear c8b0
    try clear p2
    try clear p6
    obtain ⟨x30_2, rfl, HA, HK2, ⟨m2, rfl⟩⟩ := hrel
    cases gk with
    | zero => exact absurd HA.out (by simp [arboretref01_Node.l0])
    | succ k2 =>
     have H := HA.out; clear HA; simp only [arboretref01_Node.l0] at H
     by_cases c9 : x30_2 < (a0.size : Int)
     ·rw [if_pos c9] at H; have c9b0 : decide (x30_2 < (a0.size : Int)) = true := decide_eq_true c9; clear c9
      by_cases c10 : x30_2 = tbl
      ·rw [if_pos c10] at H; have c10b0 : (x30_2 == tbl) = true := beq_iff_eq.mpr c10; have c10b1 : (x30_2 != tbl) = false := bne_eq_false_iff_eq.mpr c10; clear c10; have H' := Ak H; clear H
       go_wp2
       go_roundg k2
       case measure => have := HJ2.out; have := HK2.out; omega
       case rel => exact ⟨(wrap64 (x30_2 + 1)), Zq6, H', ⟨by have := HJ2.out; have := HK2.out; omega⟩, Zq10⟩
      ·rw [if_neg c10] at H; have c10b0 : (x30_2 == tbl) = false := beq_eq_false_iff_ne.mpr c10; have c10b1 : (x30_2 != tbl) = true := bne_iff_ne.mpr c10
       by_cases c11 : 0 ≤ x30_2
       ·rw [if_pos c11] at H; have c11b0 : decide (0 ≤ x30_2) = true := decide_eq_true c11; clear c11
        by_cases c12 : x30_2 < (a0.size : Int)
        ·rw [if_pos c12] at H; have c12b0 : decide (x30_2 < (a0.size : Int)) = true := decide_eq_true c12; clear c12; replace H := Option.bind_eq_some_iff.mp H; obtain ⟨teV, Aaz, H⟩ := H; replace H : (if teV = true then (arboretref01_Node.l0 k2 a0 tbl x4_2 (a0.size : Int) (wrap64 (x30_2 + 1))) else (some false)) = some r := H; have A14 := Ak Aaz; clear Aaz
         by_cases c15 : teV = true
         ·subst c15
          have H1 : (arboretref01_Node.l0 k2 a0 tbl x4_2 (a0.size : Int) (wrap64 (x30_2 + 1))) = some r := by rw [if_pos rfl] at H; exact H
          clear H; have H := H1; clear H1; have H' := Ak H; clear H; have p13 : 0 ≤ (x30_2 : Int) := of_decide_eq_true Zq4; have q13 : x30_2 < (a0.size : Int) := of_decide_eq_true Zq4; have hx13 := bt_at a0 x30_2; replace p13 := eq_true p13; replace q13 := eq_true q13
          go_wp2_with (first | (go_at_call 90; (with_reducible refine (arboretref01_stands.calls (bt a0 x30_2) true _ A14.out).mono ?_); rintro e w' ⟨rfl, ⟨nd, rfl⟩⟩))
          go_roundg k2
          case measure => have := HJ2.out; have := HK2.out; omega
          case rel => exact ⟨(wrap64 (x30_2 + 1)), Zq6, H', ⟨by have := HJ2.out; have := HK2.out; omega⟩, Zq10⟩
         ·replace c15 := Bool.eq_false_iff.mpr c15; subst c15
          have H1 : (some false) = some r := by rw [if_neg (show ¬ (false = true) by decide)] at H; exact H
          clear H; have H := H1; clear H1; obtain rfl := Option.some.inj H; have p13 : 0 ≤ (x30_2 : Int) := of_decide_eq_true Zq4; have q13 : x30_2 < (a0.size : Int) := of_decide_eq_true Zq4; have hx13 := bt_at a0 x30_2; replace p13 := eq_true p13; replace q13 := eq_true q13
          go_wp2_with (first | (go_at_call 90; (with_reducible refine (arboretref01_stands.calls (bt a0 x30_2) false _ A14.out).mono ?_); rintro e w' ⟨rfl, ⟨nd, rfl⟩⟩))
          go_ret
          exact ⟨Zq6, Zq10⟩
        ·rw [if_neg c12] at H; exact absurd H Zq9
       ·rw [if_neg c11] at H; exact absurd H Zq9
     ·rw [if_neg c9] at H; have c9b0 : decide (x30_2 < (a0.size : Int)) = false := decide_eq_false c9; clear c9
      by_cases c16 : (x4_2.size : Int) ≥ 1
      ·rw [if_pos c16] at H; have c16b0 : decide (1 ≤ (x4_2.size : Int)) = true := decide_eq_true c16; have c16b1 : decide (1 ≤ x4_2.size) = true := decide_eq_true Zq1; clear c16
       by_cases c17 : (x4_2.size : Int) ≤ 31
       ·rw [if_pos c17] at H; have c17b0 : decide ((x4_2.size : Int) ≤ 31) = true := decide_eq_true c17; have c17b1 : decide (x4_2.size ≤ 31) = true := decide_eq_true Zq1; clear c17
        by_cases c18 : 0 < (x4_2.size : Int)
        ·rw [if_pos c18] at H; have c18b0 : decide (0 < (x4_2.size : Int)) = true := decide_eq_true c18; have c18b1 : decide (0 < x4_2.size) = true := decide_eq_true Zq1; clear c18
         by_cases c20 : (bt x4_2 0) = 95
         ·rw [if_pos c20] at H; have c20b0 : ((bt x4_2 0) == 95) = true := beq_iff_eq.mpr c20; have c20b1 : ((bt x4_2 0) != 95) = false := bne_eq_false_iff_eq.mpr c20; clear c20; obtain rfl := Option.some.inj H; have p19 : 0 ≤ (0 : Int) := Zq1
          have q19 : 0 < x4_2.size := (by have : (0 : Int) < (x4_2.size : Int) := of_decide_eq_true Zq4; omega)
          have hx19 : ∀ h : 0 < x4_2.size, ((x4_2[0]'h).toNat : Int) = bt x4_2 0 := bt_at x4_2 0; clear p19; have qi19 : (0 < (x4_2.size : Int)) = True := eq_true (of_decide_eq_true Zq4); replace q19 := eq_true q19
          go_wp2
          go_ret
          exact ⟨Zq6, Zq10⟩
         ·rw [if_neg c20] at H; have c20b0 : ((bt x4_2 0) == 95) = false := beq_eq_false_iff_ne.mpr c20; have c20b1 : ((bt x4_2 0) != 95) = true := bne_iff_ne.mpr c20
          by_cases c22 : (bt x4_2 0) ≥ 97
          ·rw [if_pos c22] at H; have c22b0 : decide (97 ≤ (bt x4_2 0)) = true := decide_eq_true c22; clear c22
           by_cases c24 : (bt x4_2 0) ≤ 122
           ·rw [if_pos c24] at H; have c24b0 : decide ((bt x4_2 0) ≤ 122) = true := decide_eq_true c24; clear c24; obtain rfl := Option.some.inj H; have p19 : 0 ≤ (0 : Int) := Zq1
            have q19 : 0 < x4_2.size := (by have : (0 : Int) < (x4_2.size : Int) := of_decide_eq_true Zq4; omega)
            have hx19 : ∀ h : 0 < x4_2.size, ((x4_2[0]'h).toNat : Int) = bt x4_2 0 := bt_at x4_2 0; clear p19; have qi19 : (0 < (x4_2.size : Int)) = True := eq_true (of_decide_eq_true Zq4); replace q19 := eq_true q19; have p21 : 0 ≤ (0 : Int) := Zq1
            have q21 : 0 < x4_2.size := (by have : (0 : Int) < (x4_2.size : Int) := of_decide_eq_true Zq4; omega)
            have hx21 : ∀ h : 0 < x4_2.size, ((x4_2[0]'h).toNat : Int) = bt x4_2 0 := bt_at x4_2 0; clear p21; have qi21 : (0 < (x4_2.size : Int)) = True := eq_true (of_decide_eq_true Zq4); replace q21 := eq_true q21; have p23 : 0 ≤ (0 : Int) := Zq1
            have q23 : 0 < x4_2.size := (by have : (0 : Int) < (x4_2.size : Int) := of_decide_eq_true Zq4; omega)
            have hx23 : ∀ h : 0 < x4_2.size, ((x4_2[0]'h).toNat : Int) = bt x4_2 0 := bt_at x4_2 0; clear p23; have qi23 : (0 < (x4_2.size : Int)) = True := eq_true (of_decide_eq_true Zq4); replace q23 := eq_true q23
            go_wp2
            go_ret
            exact ⟨Zq6, Zq10⟩
           ·rw [if_neg c24] at H; have c24b0 : decide ((bt x4_2 0) ≤ 122) = false := decide_eq_false c24; clear c24
            by_cases c26 : (bt x4_2 0) ≥ 65
            ·rw [if_pos c26] at H; have c26b0 : decide (65 ≤ (bt x4_2 0)) = true := decide_eq_true c26; clear c26; obtain rfl := Option.some.inj H; have p19 : 0 ≤ (0 : Int) := Zq1
             have q19 : 0 < x4_2.size := (by have : (0 : Int) < (x4_2.size : Int) := of_decide_eq_true Zq4; omega)
             have hx19 : ∀ h : 0 < x4_2.size, ((x4_2[0]'h).toNat : Int) = bt x4_2 0 := bt_at x4_2 0; clear p19; have qi19 : (0 < (x4_2.size : Int)) = True := eq_true (of_decide_eq_true Zq4); replace q19 := eq_true q19; have p21 : 0 ≤ (0 : Int) := Zq1
             have q21 : 0 < x4_2.size := (by have : (0 : Int) < (x4_2.size : Int) := of_decide_eq_true Zq4; omega)
             have hx21 : ∀ h : 0 < x4_2.size, ((x4_2[0]'h).toNat : Int) = bt x4_2 0 := bt_at x4_2 0; clear p21; have qi21 : (0 < (x4_2.size : Int)) = True := eq_true (of_decide_eq_true Zq4); replace q21 := eq_true q21; have p23 : 0 ≤ (0 : Int) := Zq1
             have q23 : 0 < x4_2.size := (by have : (0 : Int) < (x4_2.size : Int) := of_decide_eq_true Zq4; omega)
             have hx23 : ∀ h : 0 < x4_2.size, ((x4_2[0]'h).toNat : Int) = bt x4_2 0 := bt_at x4_2 0; clear p23; have qi23 : (0 < (x4_2.size : Int)) = True := eq_true (of_decide_eq_true Zq4); replace q23 := eq_true q23; have p25 : 0 ≤ (0 : Int) := Zq1
             have q25 : 0 < x4_2.size := (by have : (0 : Int) < (x4_2.size : Int) := of_decide_eq_true Zq4; omega)
             have hx25 : ∀ h : 0 < x4_2.size, ((x4_2[0]'h).toNat : Int) = bt x4_2 0 := bt_at x4_2 0; clear p25; have qi25 : (0 < (x4_2.size : Int)) = True := eq_true (of_decide_eq_true Zq4); replace q25 := eq_true q25; have p27 : 0 ≤ (0 : Int) := Zq1
             have q27 : 0 < x4_2.size := (by have : (0 : Int) < (x4_2.size : Int) := of_decide_eq_true Zq4; omega)
             have hx27 : ∀ h : 0 < x4_2.size, ((x4_2[0]'h).toNat : Int) = bt x4_2 0 := bt_at x4_2 0; clear p27; have qi27 : (0 < (x4_2.size : Int)) = True := eq_true (of_decide_eq_true Zq4); replace q27 := eq_true q27
             go_wp2
             go_ret
             exact ⟨Zq6, Zq10⟩
            ·rw [if_neg c26] at H; have c26b0 : decide (65 ≤ (bt x4_2 0)) = false := decide_eq_false c26; clear c26; obtain rfl := Option.some.inj H; have p19 : 0 ≤ (0 : Int) := Zq1
             have q19 : 0 < x4_2.size := (by have : (0 : Int) < (x4_2.size : Int) := of_decide_eq_true Zq4; omega)
             have hx19 : ∀ h : 0 < x4_2.size, ((x4_2[0]'h).toNat : Int) = bt x4_2 0 := bt_at x4_2 0; clear p19; have qi19 : (0 < (x4_2.size : Int)) = True := eq_true (of_decide_eq_true Zq4); replace q19 := eq_true q19; have p21 : 0 ≤ (0 : Int) := Zq1
             have q21 : 0 < x4_2.size := (by have : (0 : Int) < (x4_2.size : Int) := of_decide_eq_true Zq4; omega)
             have hx21 : ∀ h : 0 < x4_2.size, ((x4_2[0]'h).toNat : Int) = bt x4_2 0 := bt_at x4_2 0; clear p21; have qi21 : (0 < (x4_2.size : Int)) = True := eq_true (of_decide_eq_true Zq4); replace q21 := eq_true q21; have p23 : 0 ≤ (0 : Int) := Zq1
             have q23 : 0 < x4_2.size := (by have : (0 : Int) < (x4_2.size : Int) := of_decide_eq_true Zq4; omega)
             have hx23 : ∀ h : 0 < x4_2.size, ((x4_2[0]'h).toNat : Int) = bt x4_2 0 := bt_at x4_2 0; clear p23; have qi23 : (0 < (x4_2.size : Int)) = True := eq_true (of_decide_eq_true Zq4); replace q23 := eq_true q23; have p25 : 0 ≤ (0 : Int) := Zq1
             have q25 : 0 < x4_2.size := (by have : (0 : Int) < (x4_2.size : Int) := of_decide_eq_true Zq4; omega)
             have hx25 : ∀ h : 0 < x4_2.size, ((x4_2[0]'h).toNat : Int) = bt x4_2 0 := bt_at x4_2 0; clear p25; have qi25 : (0 < (x4_2.size : Int)) = True := eq_true (of_decide_eq_true Zq4); replace q25 := eq_true q25
             go_wp2
             go_ret
             exact ⟨Zq6, Zq10⟩
          ·rw [if_neg c22] at H; have c22b0 : decide (97 ≤ (bt x4_2 0)) = false := decide_eq_false c22; clear c22
           by_cases c29 : (bt x4_2 0) ≥ 65
           ·rw [if_pos c29] at H; have c29b0 : decide (65 ≤ (bt x4_2 0)) = true := decide_eq_true c29; clear c29; obtain rfl := Option.some.inj H; have p19 : 0 ≤ (0 : Int) := Zq1
            have q19 : 0 < x4_2.size := (by have : (0 : Int) < (x4_2.size : Int) := of_decide_eq_true Zq4; omega)
            have hx19 : ∀ h : 0 < x4_2.size, ((x4_2[0]'h).toNat : Int) = bt x4_2 0 := bt_at x4_2 0; clear p19; have qi19 : (0 < (x4_2.size : Int)) = True := eq_true (of_decide_eq_true Zq4); replace q19 := eq_true q19; have p21 : 0 ≤ (0 : Int) := Zq1
            have q21 : 0 < x4_2.size := (by have : (0 : Int) < (x4_2.size : Int) := of_decide_eq_true Zq4; omega)
            have hx21 : ∀ h : 0 < x4_2.size, ((x4_2[0]'h).toNat : Int) = bt x4_2 0 := bt_at x4_2 0; clear p21; have qi21 : (0 < (x4_2.size : Int)) = True := eq_true (of_decide_eq_true Zq4); replace q21 := eq_true q21; have p28 : 0 ≤ (0 : Int) := Zq1
            have q28 : 0 < x4_2.size := (by have : (0 : Int) < (x4_2.size : Int) := of_decide_eq_true Zq4; omega)
            have hx28 : ∀ h : 0 < x4_2.size, ((x4_2[0]'h).toNat : Int) = bt x4_2 0 := bt_at x4_2 0; clear p28; have qi28 : (0 < (x4_2.size : Int)) = True := eq_true (of_decide_eq_true Zq4); replace q28 := eq_true q28; have p30 : 0 ≤ (0 : Int) := Zq1
            have q30 : 0 < x4_2.size := (by have : (0 : Int) < (x4_2.size : Int) := of_decide_eq_true Zq4; omega)
            have hx30 : ∀ h : 0 < x4_2.size, ((x4_2[0]'h).toNat : Int) = bt x4_2 0 := bt_at x4_2 0; clear p30; have qi30 : (0 < (x4_2.size : Int)) = True := eq_true (of_decide_eq_true Zq4); replace q30 := eq_true q30
            go_wp2
            go_ret
            exact ⟨Zq6, Zq10⟩
           ·rw [if_neg c29] at H; have c29b0 : decide (65 ≤ (bt x4_2 0)) = false := decide_eq_false c29; clear c29; obtain rfl := Option.some.inj H; have p19 : 0 ≤ (0 : Int) := Zq1
            have q19 : 0 < x4_2.size := (by have : (0 : Int) < (x4_2.size : Int) := of_decide_eq_true Zq4; omega)
            have hx19 : ∀ h : 0 < x4_2.size, ((x4_2[0]'h).toNat : Int) = bt x4_2 0 := bt_at x4_2 0; clear p19; have qi19 : (0 < (x4_2.size : Int)) = True := eq_true (of_decide_eq_true Zq4); replace q19 := eq_true q19; have p21 : 0 ≤ (0 : Int) := Zq1
            have q21 : 0 < x4_2.size := (by have : (0 : Int) < (x4_2.size : Int) := of_decide_eq_true Zq4; omega)
            have hx21 : ∀ h : 0 < x4_2.size, ((x4_2[0]'h).toNat : Int) = bt x4_2 0 := bt_at x4_2 0; clear p21; have qi21 : (0 < (x4_2.size : Int)) = True := eq_true (of_decide_eq_true Zq4); replace q21 := eq_true q21; have p28 : 0 ≤ (0 : Int) := Zq1
            have q28 : 0 < x4_2.size := (by have : (0 : Int) < (x4_2.size : Int) := of_decide_eq_true Zq4; omega)
            have hx28 : ∀ h : 0 < x4_2.size, ((x4_2[0]'h).toNat : Int) = bt x4_2 0 := bt_at x4_2 0; clear p28; have qi28 : (0 < (x4_2.size : Int)) = True := eq_true (of_decide_eq_true Zq4); replace q28 := eq_true q28
            go_wp2
            go_ret
            exact ⟨Zq6, Zq10⟩
        ·rw [if_neg c18] at H; exact absurd H Zq9
       ·rw [if_neg c17] at H; have c17b0 : decide ((x4_2.size : Int) ≤ 31) = false := decide_eq_false c17; have c17b1 : decide (x4_2.size ≤ 31) = false := decide_eq_false Zq1; clear c17; obtain rfl := Option.some.inj H
        go_wp2
        go_ret
        exact ⟨Zq6, Zq10⟩
      ·rw [if_neg c16] at H; have c16b0 : decide (1 ≤ (x4_2.size : Int)) = false := decide_eq_false c16; have c16b1 : decide (1 ≤ x4_2.size) = false := decide_eq_false Zq1; clear c16; obtain rfl := Option.some.inj H
       go_wp2
       go_ret
       exact ⟨Zq6, Zq10⟩
def arboretref01_Prop.l0 : Nat → ByteArray → Int → Int → Option (Bool)
 | 0, _, _, _ => none
 | k + 1, x0, x5, x6 => if x6 < x5 then (if 0 ≤ x6 then (if x6 < (x0.size : Int) then ((arboretref01_stands.f (bt x0 x6)).bind fun teW => (if teW = true then (arboretref01_Prop.l0 k x0 x5 (wrap64 (x6 + 1))) else (if (bt x0 x6) = 63 then (arboretref01_Prop.l0 k x0 x5 (wrap64 (x6 + 1))) else (if (bt x0 x6) = 35 then (arboretref01_Prop.l0 k x0 x5 (wrap64 (x6 + 1))) else (some false))))) else (none)) else (none)) else (if (x0.size : Int) ≥ 1 then (some (decide ((x0.size : Int) ≤ 31))) else (some false))
def arboretref01_Prop.f (k : Nat) (a0 : ByteArray) : Option (Bool) := arboretref01_Prop.l0 k a0 (a0.size : Int) 0
theorem arboretref01_Prop.mono_l : ∀ k, (∀ y0 y1 y2, LeO (arboretref01_Prop.l0 k y0 y1 y2) (arboretref01_Prop.l0 (k + 1) y0 y1 y2))
 | 0 => fun _ _ _ r h => by simp [arboretref01_Prop.l0] at h
 | k + 1 => by
  have ih0 := arboretref01_Prop.mono_l k
  ·intro y0 y1 y2; unfold arboretref01_Prop.l0
   repeat' first | (with_reducible first | exact ih0 _ _ _ | exact LeO.refl _ | exact LeO.none _ | refine LeO.ite ?_ ?_ | refine LeO.bind ?_ (fun _ => ?_))
theorem arboretref01_Prop.mono : ∀ a0 k, LeO (arboretref01_Prop.f k a0) (arboretref01_Prop.f (k + 1) a0) := by
 intro a0 k; have ih0 := arboretref01_Prop.mono_l k; unfold arboretref01_Prop.f
 repeat' first | (with_reducible first | exact ih0 _ _ _ | exact LeO.refl _ | exact LeO.none _ | refine LeO.ite ?_ ?_ | refine LeO.bind ?_ (fun _ => ?_))
set_option maxHeartbeats 8000000 in
set_option maxRecDepth 100000 in
theorem arboretref01_Prop.calls (k : Nat) (a0 : ByteArray) (r : Bool) (w : World) (h : arboretref01_Prop.f k a0 = some r) :
  Calls Try.prog 75 #[.string a0] w fun e w' => e = .returned (.bool r) ∧ Drawn0 w w' := by
 have H : (arboretref01_Prop.l0 k a0 (a0.size : Int) 0) = some r := h; clear h; have H' := Ak H; clear H
 go_enter Try.func75, Try.ntmps75
 go_wp2
 go_loopg [6] k (fun kq v6 w' => ∃ (x6_1 : Int), v6 = .int .i64 x6_1 ∧ Aside0 (arboretref01_Prop.l0 kq a0 (a0.size : Int) x6_1 = some r) ∧ Aside0 (kq ≤ k) ∧ Drawn0 w w')
 case atStart => exact ⟨(0), Zq6, H', ⟨Nat.le_refl _⟩, Zq10⟩
 case round =>
  clear H'; obtain ⟨x6_1, rfl, HA, HK1, ⟨m1, rfl⟩⟩ := hrel
  cases gk with
  | zero => exact absurd HA.out (by simp [arboretref01_Prop.l0])
  | succ k1 =>
   have H := HA.out; clear HA; simp only [arboretref01_Prop.l0] at H
   by_cases c2 : x6_1 < (a0.size : Int)
   ·rw [if_pos c2] at H; have c2b0 : decide (x6_1 < (a0.size : Int)) = true := decide_eq_true c2; clear c2
    by_cases c3 : 0 ≤ x6_1
    ·rw [if_pos c3] at H; have c3b0 : decide (0 ≤ x6_1) = true := decide_eq_true c3; clear c3
     by_cases c4 : x6_1 < (a0.size : Int)
     ·rw [if_pos c4] at H; have c4b0 : decide (x6_1 < (a0.size : Int)) = true := decide_eq_true c4; clear c4; replace H := Option.bind_eq_some_iff.mp H; obtain ⟨teW, A60, H⟩ := H; replace H : (if teW = true then (arboretref01_Prop.l0 k1 a0 (a0.size : Int) (wrap64 (x6_1 + 1))) else (if (bt a0 x6_1) = 63 then (arboretref01_Prop.l0 k1 a0 (a0.size : Int) (wrap64 (x6_1 + 1))) else (if (bt a0 x6_1) = 35 then (arboretref01_Prop.l0 k1 a0 (a0.size : Int) (wrap64 (x6_1 + 1))) else (some false)))) = some r := H; have A6 := Ak A60; clear A60
      by_cases c7 : teW = true
      ·subst c7
       have H1 : (arboretref01_Prop.l0 k1 a0 (a0.size : Int) (wrap64 (x6_1 + 1))) = some r := by rw [if_pos rfl] at H; exact H
       clear H; have H := H1; clear H1; have H' := Ak H; clear H; have p5 : 0 ≤ (x6_1 : Int) := of_decide_eq_true Zq4; have q5 : x6_1 < (a0.size : Int) := of_decide_eq_true Zq4; have hx5 := bt_at a0 x6_1; replace p5 := eq_true p5; replace q5 := eq_true q5
       go_wp2_with (first | ((with_reducible refine gate_callee (f := 90) rfl ?_); refine goesL_ (some 12) rfl rfl Try.func90 Zq2 rfl #[.int .u8 (bt a0 x6_1)] rfl Zq8 ?_; (with_reducible refine (arboretref01_stands.calls (bt a0 x6_1) true _ A6.out).mono ?_); rintro e w' ⟨rfl, ⟨nd, rfl⟩⟩; refine ⟨_, rfl, ?_⟩))
       go_roundg k1
       case measure => have := HK1.out; omega
       case rel => exact ⟨(wrap64 (x6_1 + 1)), Zq6, H', ⟨Zq31⟩, Zq10⟩
      ·replace c7 := Bool.eq_false_iff.mpr c7; subst c7
       have H1 : (if (bt a0 x6_1) = 63 then (arboretref01_Prop.l0 k1 a0 (a0.size : Int) (wrap64 (x6_1 + 1))) else (if (bt a0 x6_1) = 35 then (arboretref01_Prop.l0 k1 a0 (a0.size : Int) (wrap64 (x6_1 + 1))) else (some false))) = some r := by rw [if_neg (show ¬ (false = true) by decide)] at H; exact H
       clear H; have H := H1; clear H1
       by_cases c9 : (bt a0 x6_1) = 63
       ·rw [if_pos c9] at H; have c9b0 : ((bt a0 x6_1) == 63) = true := beq_iff_eq.mpr c9; have c9b1 : ((bt a0 x6_1) != 63) = false := bne_eq_false_iff_eq.mpr c9; clear c9; have H' := Ak H; clear H; have p5 : 0 ≤ (x6_1 : Int) := of_decide_eq_true Zq4; have q5 : x6_1 < (a0.size : Int) := of_decide_eq_true Zq4; have hx5 := bt_at a0 x6_1; replace p5 := eq_true p5; replace q5 := eq_true q5
        go_wp2_with (first | ((with_reducible refine gate_callee (f := 90) rfl ?_); refine goesL_ (some 12) rfl rfl Try.func90 Zq2 rfl #[.int .u8 (bt a0 x6_1)] rfl Zq8 ?_; (with_reducible refine (arboretref01_stands.calls (bt a0 x6_1) false _ A6.out).mono ?_); rintro e w' ⟨rfl, ⟨nd, rfl⟩⟩; refine ⟨_, rfl, ?_⟩; have p8 : 0 ≤ (x6_1 : Int) := of_decide_eq_true Zq4; have q8 : x6_1 < (a0.size : Int) := of_decide_eq_true Zq4; have hx8 := bt_at a0 x6_1; replace p8 := eq_true p8; replace q8 := eq_true q8))
        go_roundg k1
        case measure => have := HK1.out; omega
        case rel => exact ⟨(wrap64 (x6_1 + 1)), Zq6, H', ⟨Zq31⟩, Zq10⟩
       ·rw [if_neg c9] at H; have c9b0 : ((bt a0 x6_1) == 63) = false := beq_eq_false_iff_ne.mpr c9; have c9b1 : ((bt a0 x6_1) != 63) = true := bne_iff_ne.mpr c9
        by_cases c11 : (bt a0 x6_1) = 35
        ·rw [if_pos c11] at H; have c11b0 : ((bt a0 x6_1) == 35) = true := beq_iff_eq.mpr c11; have c11b1 : ((bt a0 x6_1) != 35) = false := bne_eq_false_iff_eq.mpr c11; clear c11; have H' := Ak H; clear H; have p5 : 0 ≤ (x6_1 : Int) := of_decide_eq_true Zq4; have q5 : x6_1 < (a0.size : Int) := of_decide_eq_true Zq4; have hx5 := bt_at a0 x6_1; replace p5 := eq_true p5; replace q5 := eq_true q5
         go_wp2_with (first | ((with_reducible refine gate_callee (f := 90) rfl ?_); refine goesL_ (some 12) rfl rfl Try.func90 Zq2 rfl #[.int .u8 (bt a0 x6_1)] rfl Zq8 ?_; (with_reducible refine (arboretref01_stands.calls (bt a0 x6_1) false _ A6.out).mono ?_); rintro e w' ⟨rfl, ⟨nd, rfl⟩⟩; refine ⟨_, rfl, ?_⟩; have p8 : 0 ≤ (x6_1 : Int) := of_decide_eq_true Zq4; have q8 : x6_1 < (a0.size : Int) := of_decide_eq_true Zq4; have hx8 := bt_at a0 x6_1; replace p8 := eq_true p8; replace q8 := eq_true q8; have p10 : 0 ≤ (x6_1 : Int) := of_decide_eq_true Zq4; have q10 : x6_1 < (a0.size : Int) := of_decide_eq_true Zq4; have hx10 := bt_at a0 x6_1; replace p10 := eq_true p10; replace q10 := eq_true q10))
         go_roundg k1
         case measure => have := HK1.out; omega
         case rel => exact ⟨(wrap64 (x6_1 + 1)), Zq6, H', ⟨Zq31⟩, Zq10⟩
        ·rw [if_neg c11] at H; have c11b0 : ((bt a0 x6_1) == 35) = false := beq_eq_false_iff_ne.mpr c11; have c11b1 : ((bt a0 x6_1) != 35) = true := bne_iff_ne.mpr c11; obtain rfl := Option.some.inj H; have p5 : 0 ≤ (x6_1 : Int) := of_decide_eq_true Zq4; have q5 : x6_1 < (a0.size : Int) := of_decide_eq_true Zq4; have hx5 := bt_at a0 x6_1; replace p5 := eq_true p5; replace q5 := eq_true q5
         go_wp2_with (first | ((with_reducible refine gate_callee (f := 90) rfl ?_); refine goesL_ (some 12) rfl rfl Try.func90 Zq2 rfl #[.int .u8 (bt a0 x6_1)] rfl Zq8 ?_; (with_reducible refine (arboretref01_stands.calls (bt a0 x6_1) false _ A6.out).mono ?_); rintro e w' ⟨rfl, ⟨nd, rfl⟩⟩; refine ⟨_, rfl, ?_⟩; have p8 : 0 ≤ (x6_1 : Int) := of_decide_eq_true Zq4; have q8 : x6_1 < (a0.size : Int) := of_decide_eq_true Zq4; have hx8 := bt_at a0 x6_1; replace p8 := eq_true p8; replace q8 := eq_true q8; have p10 : 0 ≤ (x6_1 : Int) := of_decide_eq_true Zq4; have q10 : x6_1 < (a0.size : Int) := of_decide_eq_true Zq4; have hx10 := bt_at a0 x6_1; replace p10 := eq_true p10; replace q10 := eq_true q10))
         go_ret
         exact ⟨Zq6, Zq10⟩
     ·rw [if_neg c4] at H; exact absurd H Zq9
    ·rw [if_neg c3] at H; exact absurd H Zq9
   ·rw [if_neg c2] at H; have c2b0 : decide (x6_1 < (a0.size : Int)) = false := decide_eq_false c2; clear c2
    by_cases c12 : (a0.size : Int) ≥ 1
    ·rw [if_pos c12] at H; have c12b0 : decide (1 ≤ (a0.size : Int)) = true := decide_eq_true c12; have c12b1 : decide (1 ≤ a0.size) = true := decide_eq_true Zq1; clear c12; obtain rfl := Option.some.inj H
     go_wp2
     go_ret
     exact ⟨Zq6, Zq10⟩
    ·rw [if_neg c12] at H; have c12b0 : decide (1 ≤ (a0.size : Int)) = false := decide_eq_false c12; have c12b1 : decide (1 ≤ a0.size) = false := decide_eq_false Zq1; clear c12; obtain rfl := Option.some.inj H
     go_wp2
     go_ret
     exact ⟨Zq6, Zq10⟩
mutual
def arboretref01_wrong.j0 : Nat → Int → Bool → ByteArray → List (S77) → List (S30) → Option (Int)
 | 0, _, _, _, _, _ => none
 | k + 1, x1, x30, xcl, xbN, xbJ => if x30 = true then (some 5) else (arboretref01_wrong.l0 k x1 (xbN.length : Int) 0 xcl xbN xbJ)
def arboretref01_wrong.l0 : Nat → Int → Int → Int → ByteArray → List (S77) → List (S30) → Option (Int)
 | 0, _, _, _, _, _, _ => none
 | k + 1, x1, x33, x34, xcl, xbN, xbJ => if x34 < x33 then (if 0 ≤ x34 then (if x34 < (xbN.length : Int) then ((arboretref01_Prop.f k ((rd_T77 xbN x34).f0)).bind fun teX => (if teX = true then (arboretref01_wrong.l0 k x1 x33 (wrap64 (x34 + 1)) xcl xbN xbJ) else (some 5))) else (none)) else (none)) else (arboretref01_wrong.l1 k x1 (xbN.length : Int) 0 xcl xbN xbJ)
def arboretref01_wrong.l1 : Nat → Int → Int → Int → ByteArray → List (S77) → List (S30) → Option (Int)
 | 0, _, _, _, _, _, _ => none
 | k + 1, x1, x48, x49, xcl, xbN, xbJ => if x49 < x48 then (arboretref01_wrong.l2 k x1 x49 x48 x49 x49 0 xcl xbN xbJ) else (arboretref01_wrong.l3 k x1 (xbJ.length : Int) 0 xcl xbN xbJ)
def arboretref01_wrong.l2 : Nat → Int → Int → Int → Int → Int → Int → ByteArray → List (S77) → List (S30) → Option (Int)
 | 0, _, _, _, _, _, _, _, _, _ => none
 | k + 1, x1, x6, x48, x49, x52, x53, xcl, xbN, xbJ => if x53 < x52 then (if 0 ≤ x53 then (if x53 < (xbN.length : Int) then (if 0 ≤ x6 then (if x6 < (xbN.length : Int) then (if ((rd_T77 xbN x53).f0).toList = ((rd_T77 xbN x6).f0).toList then (some 9) else (arboretref01_wrong.l2 k x1 x6 x48 x49 x52 (wrap64 (x53 + 1)) xcl xbN xbJ)) else (none)) else (none)) else (none)) else (none)) else (arboretref01_wrong.l1 k x1 x48 (wrap64 (x49 + 1)) xcl xbN xbJ)
def arboretref01_wrong.l3 : Nat → Int → Int → Int → ByteArray → List (S77) → List (S30) → Option (Int)
 | 0, _, _, _, _, _, _ => none
 | k + 1, x1, x73, x74, xcl, xbN, xbJ => if x74 < x73 then (arboretref01_wrong.l4 k x1 x74 x73 x74 x74 0 xcl xbN xbJ) else (arboretref01_wrong.l5 k x1 (xbJ.length : Int) 0 xcl xbN xbJ)
def arboretref01_wrong.l4 : Nat → Int → Int → Int → Int → Int → Int → ByteArray → List (S77) → List (S30) → Option (Int)
 | 0, _, _, _, _, _, _, _, _, _ => none
 | k + 1, x1, x8, x73, x74, x77, x78, xcl, xbN, xbJ => if x78 < x77 then (if 0 ≤ x78 then (if x78 < (xbJ.length : Int) then (if 0 ≤ x8 then (if x8 < (xbJ.length : Int) then (if ((rd_T30 xbJ x78).f0).toList = ((rd_T30 xbJ x8).f0).toList then (some 9) else (arboretref01_wrong.l4 k x1 x8 x73 x74 x77 (wrap64 (x78 + 1)) xcl xbN xbJ)) else (none)) else (none)) else (none)) else (none)) else (arboretref01_wrong.l3 k x1 x73 (wrap64 (x74 + 1)) xcl xbN xbJ)
def arboretref01_wrong.l5 : Nat → Int → Int → Int → ByteArray → List (S77) → List (S30) → Option (Int)
 | 0, _, _, _, _, _, _ => none
 | k + 1, x1, x98, x99, xcl, xbN, xbJ => if x99 < x98 then (if 0 ≤ x99 then (if x99 < (xbJ.length : Int) then ((arboretref01_wrong.f k ((rd_T30 xbJ x99).f0) ((rd_T30 xbJ x99).f1) ((rd_T30 xbJ x99).f2) (wrap64 (x1 + 1))).bind fun tcx => (if tcx = 0 then (arboretref01_wrong.l5 k x1 x98 (wrap64 (x99 + 1)) xcl xbN xbJ) else (some tcx))) else (none)) else (none)) else (some 0)
def arboretref01_wrong.f : Nat → ByteArray → List (S77) → List (S30) → Int → Option (Int)
 | 0, _, _, _, _ => none
 | k + 1, a0_0, l0_1, l0_2, a1 => if a1 > 16 then (some 6) else (if a1 = 1 then (if a0_0.toList = ([] : List UInt8) then (if a1 > 1 then ((arboretref01_Node.f k a0_0).bind fun tdM => (arboretref01_wrong.j0 k a1 (!tdM) a0_0 l0_1 l0_2)) else (arboretref01_wrong.j0 k a1 false a0_0 l0_1 l0_2)) else (arboretref01_wrong.j0 k a1 true a0_0 l0_1 l0_2)) else (if a1 > 1 then ((arboretref01_Node.f k a0_0).bind fun tdN => (arboretref01_wrong.j0 k a1 (!tdN) a0_0 l0_1 l0_2)) else (arboretref01_wrong.j0 k a1 false a0_0 l0_1 l0_2)))
end
end Go.Proofs.Yteejaaeglfpcmab.PX

namespace Go.Proofs.Yteejaaeglfpcmab.PX
open Go.RowKit Go.Proofs.YteejaaeglfpcmabW.PrintWords Go.Proofs.YteejaaeglfpcmabW.PrintLast Go.Proofs.YteejaaeglfpcmabW.PrintMore
attribute [local go_sem] max2_int min2_int max_two min_two max_three min_three max_four min_four
theorem arboretref01_wrong.mono_l : ∀ k, (∀ y0 y1 y2 y3, LeO (arboretref01_wrong.f k y0 y1 y2 y3) (arboretref01_wrong.f (k + 1) y0 y1 y2 y3)) ∧ (∀ y0 y1 y2 y3 y4, LeO (arboretref01_wrong.j0 k y0 y1 y2 y3 y4) (arboretref01_wrong.j0 (k + 1) y0 y1 y2 y3 y4)) ∧ (∀ y0 y1 y2 y3 y4 y5, LeO (arboretref01_wrong.l0 k y0 y1 y2 y3 y4 y5) (arboretref01_wrong.l0 (k + 1) y0 y1 y2 y3 y4 y5)) ∧ (∀ y0 y1 y2 y3 y4 y5, LeO (arboretref01_wrong.l1 k y0 y1 y2 y3 y4 y5) (arboretref01_wrong.l1 (k + 1) y0 y1 y2 y3 y4 y5)) ∧ (∀ y0 y1 y2 y3 y4 y5 y6 y7 y8, LeO (arboretref01_wrong.l2 k y0 y1 y2 y3 y4 y5 y6 y7 y8) (arboretref01_wrong.l2 (k + 1) y0 y1 y2 y3 y4 y5 y6 y7 y8)) ∧ (∀ y0 y1 y2 y3 y4 y5, LeO (arboretref01_wrong.l3 k y0 y1 y2 y3 y4 y5) (arboretref01_wrong.l3 (k + 1) y0 y1 y2 y3 y4 y5)) ∧ (∀ y0 y1 y2 y3 y4 y5 y6 y7 y8, LeO (arboretref01_wrong.l4 k y0 y1 y2 y3 y4 y5 y6 y7 y8) (arboretref01_wrong.l4 (k + 1) y0 y1 y2 y3 y4 y5 y6 y7 y8)) ∧ (∀ y0 y1 y2 y3 y4 y5, LeO (arboretref01_wrong.l5 k y0 y1 y2 y3 y4 y5) (arboretref01_wrong.l5 (k + 1) y0 y1 y2 y3 y4 y5))
 | 0 => ⟨fun _ _ _ _ r h => by simp [arboretref01_wrong.f] at h, fun _ _ _ _ _ r h => by simp [arboretref01_wrong.j0] at h, fun _ _ _ _ _ _ r h => by simp [arboretref01_wrong.l0] at h, fun _ _ _ _ _ _ r h => by simp [arboretref01_wrong.l1] at h, fun _ _ _ _ _ _ _ _ _ r h => by simp [arboretref01_wrong.l2] at h, fun _ _ _ _ _ _ r h => by simp [arboretref01_wrong.l3] at h, fun _ _ _ _ _ _ _ _ _ r h => by simp [arboretref01_wrong.l4] at h, fun _ _ _ _ _ _ r h => by simp [arboretref01_wrong.l5] at h⟩
 | k + 1 => by
  obtain ⟨ih0, ih1, ih2, ih3, ih4, ih5, ih6, ih7⟩ := arboretref01_wrong.mono_l k; refine ⟨?_, ?_, ?_, ?_, ?_, ?_, ?_, ?_⟩
  ·intro y0 y1 y2 y3; unfold arboretref01_wrong.f
   repeat' first | (with_reducible first | exact ih0 _ _ _ _ | exact ih1 _ _ _ _ _ | exact ih2 _ _ _ _ _ _ | exact ih3 _ _ _ _ _ _ | exact ih4 _ _ _ _ _ _ _ _ _ | exact ih5 _ _ _ _ _ _ | exact ih6 _ _ _ _ _ _ _ _ _ | exact ih7 _ _ _ _ _ _ | exact arboretref01_Node.mono _ _ | exact arboretref01_Prop.mono _ _ | exact LeO.refl _ | exact LeO.none _ | refine LeO.ite ?_ ?_ | refine LeO.bind ?_ (fun _ => ?_))
  ·intro y0 y1 y2 y3 y4; unfold arboretref01_wrong.j0
   repeat' first | (with_reducible first | exact ih0 _ _ _ _ | exact ih1 _ _ _ _ _ | exact ih2 _ _ _ _ _ _ | exact ih3 _ _ _ _ _ _ | exact ih4 _ _ _ _ _ _ _ _ _ | exact ih5 _ _ _ _ _ _ | exact ih6 _ _ _ _ _ _ _ _ _ | exact ih7 _ _ _ _ _ _ | exact arboretref01_Node.mono _ _ | exact arboretref01_Prop.mono _ _ | exact LeO.refl _ | exact LeO.none _ | refine LeO.ite ?_ ?_ | refine LeO.bind ?_ (fun _ => ?_))
  ·intro y0 y1 y2 y3 y4 y5; unfold arboretref01_wrong.l0
   repeat' first | (with_reducible first | exact ih0 _ _ _ _ | exact ih1 _ _ _ _ _ | exact ih2 _ _ _ _ _ _ | exact ih3 _ _ _ _ _ _ | exact ih4 _ _ _ _ _ _ _ _ _ | exact ih5 _ _ _ _ _ _ | exact ih6 _ _ _ _ _ _ _ _ _ | exact ih7 _ _ _ _ _ _ | exact arboretref01_Node.mono _ _ | exact arboretref01_Prop.mono _ _ | exact LeO.refl _ | exact LeO.none _ | refine LeO.ite ?_ ?_ | refine LeO.bind ?_ (fun _ => ?_))
  ·intro y0 y1 y2 y3 y4 y5; unfold arboretref01_wrong.l1
   repeat' first | (with_reducible first | exact ih0 _ _ _ _ | exact ih1 _ _ _ _ _ | exact ih2 _ _ _ _ _ _ | exact ih3 _ _ _ _ _ _ | exact ih4 _ _ _ _ _ _ _ _ _ | exact ih5 _ _ _ _ _ _ | exact ih6 _ _ _ _ _ _ _ _ _ | exact ih7 _ _ _ _ _ _ | exact arboretref01_Node.mono _ _ | exact arboretref01_Prop.mono _ _ | exact LeO.refl _ | exact LeO.none _ | refine LeO.ite ?_ ?_ | refine LeO.bind ?_ (fun _ => ?_))
  ·intro y0 y1 y2 y3 y4 y5 y6 y7 y8; unfold arboretref01_wrong.l2
   repeat' first | (with_reducible first | exact ih0 _ _ _ _ | exact ih1 _ _ _ _ _ | exact ih2 _ _ _ _ _ _ | exact ih3 _ _ _ _ _ _ | exact ih4 _ _ _ _ _ _ _ _ _ | exact ih5 _ _ _ _ _ _ | exact ih6 _ _ _ _ _ _ _ _ _ | exact ih7 _ _ _ _ _ _ | exact arboretref01_Node.mono _ _ | exact arboretref01_Prop.mono _ _ | exact LeO.refl _ | exact LeO.none _ | refine LeO.ite ?_ ?_ | refine LeO.bind ?_ (fun _ => ?_))
  ·intro y0 y1 y2 y3 y4 y5; unfold arboretref01_wrong.l3
   repeat' first | (with_reducible first | exact ih0 _ _ _ _ | exact ih1 _ _ _ _ _ | exact ih2 _ _ _ _ _ _ | exact ih3 _ _ _ _ _ _ | exact ih4 _ _ _ _ _ _ _ _ _ | exact ih5 _ _ _ _ _ _ | exact ih6 _ _ _ _ _ _ _ _ _ | exact ih7 _ _ _ _ _ _ | exact arboretref01_Node.mono _ _ | exact arboretref01_Prop.mono _ _ | exact LeO.refl _ | exact LeO.none _ | refine LeO.ite ?_ ?_ | refine LeO.bind ?_ (fun _ => ?_))
  ·intro y0 y1 y2 y3 y4 y5 y6 y7 y8; unfold arboretref01_wrong.l4
   repeat' first | (with_reducible first | exact ih0 _ _ _ _ | exact ih1 _ _ _ _ _ | exact ih2 _ _ _ _ _ _ | exact ih3 _ _ _ _ _ _ | exact ih4 _ _ _ _ _ _ _ _ _ | exact ih5 _ _ _ _ _ _ | exact ih6 _ _ _ _ _ _ _ _ _ | exact ih7 _ _ _ _ _ _ | exact arboretref01_Node.mono _ _ | exact arboretref01_Prop.mono _ _ | exact LeO.refl _ | exact LeO.none _ | refine LeO.ite ?_ ?_ | refine LeO.bind ?_ (fun _ => ?_))
  ·intro y0 y1 y2 y3 y4 y5; unfold arboretref01_wrong.l5
   repeat' first | (with_reducible first | exact ih0 _ _ _ _ | exact ih1 _ _ _ _ _ | exact ih2 _ _ _ _ _ _ | exact ih3 _ _ _ _ _ _ | exact ih4 _ _ _ _ _ _ _ _ _ | exact ih5 _ _ _ _ _ _ | exact ih6 _ _ _ _ _ _ _ _ _ | exact ih7 _ _ _ _ _ _ | exact arboretref01_Node.mono _ _ | exact arboretref01_Prop.mono _ _ | exact LeO.refl _ | exact LeO.none _ | refine LeO.ite ?_ ?_ | refine LeO.bind ?_ (fun _ => ?_))
theorem arboretref01_wrong.mono : ∀ a0 a1 a2 a3 k, LeO (arboretref01_wrong.f k a0 a1 a2 a3) (arboretref01_wrong.f (k + 1) a0 a1 a2 a3) := by
 intro a0 a1 a2 a3 k; obtain ⟨ih0, ih1, ih2, ih3, ih4, ih5, ih6, ih7⟩ := arboretref01_wrong.mono_l k
 exact ih0 a0 a1 a2 a3
end Go.Proofs.Yteejaaeglfpcmab.PX

namespace Go.Proofs.Yteejaaeglfpcmab.PX
open Go.RowKit Go.Proofs.YteejaaeglfpcmabW.PrintWords Go.Proofs.YteejaaeglfpcmabW.PrintLast Go.Proofs.YteejaaeglfpcmabW.PrintMore
attribute [local go_sem] max2_int min2_int max_two min_two max_three min_three max_four min_four
set_option maxHeartbeats 8000000 in
set_option maxRecDepth 100000 in
theorem arboretref01_wrong.calls (k : Nat) : ∀ (a0_0 : ByteArray) (A0_1 : Option Addr) (c0_1 : Nat) (l0_1 : List (S77)) (A0_2 : Option Addr) (c0_2 : Nat) (l0_2 : List (S30)) (a1 : Int) (r : Int) (w : World) (hr0_1 : Kd.C k77 w A0_1 l0_1.length l0_1) (hc0_1 : l0_1.length ≤ c0_1) (hr0_2 : Kd.C k30 w A0_2 l0_2.length l0_2) (hc0_2 : l0_2.length ≤ c0_2) (h : arboretref01_wrong.f k a0_0 l0_1 l0_2 a1 = some r),
  Calls Try.prog 47 #[.agg #[.string a0_0, .slice A0_1 l0_1.length c0_1, .slice A0_2 l0_2.length c0_2], .int .i64 a1] w fun e w' => e = .returned (.int .i64 r) ∧ Below w.heap.size w w' := by
 induction k using Nat.strongRecOn with
 | _ k ih =>
 intro a0_0 A0_1 c0_1 l0_1 A0_2 c0_2 l0_2 a1 r w hr0_1 hc0_1 hr0_2 hc0_2 h
 cases k with
 | zero => exact absurd h (by simp [arboretref01_wrong.f])
 | succ k =>
 simp only [arboretref01_wrong.f] at h; have hu30 := Try.underlying30; have HR0_1 := Ak hr0_1; have HC0_1 := Ak hc0_1; clear hr0_1 hc0_1; have HR0_2 := Ak hr0_2; have HC0_2 := Ak hc0_2; clear hr0_2 hc0_2; have HB := Zq145; have H : (if a1 > 16 then (some 6) else (if a1 = 1 then (if a0_0.toList = ([] : List UInt8) then (if a1 > 1 then ((arboretref01_Node.f k a0_0).bind fun tdM => (arboretref01_wrong.j0 k a1 (!tdM) a0_0 l0_1 l0_2)) else (arboretref01_wrong.j0 k a1 false a0_0 l0_1 l0_2)) else (arboretref01_wrong.j0 k a1 true a0_0 l0_1 l0_2)) else (if a1 > 1 then ((arboretref01_Node.f k a0_0).bind fun tdN => (arboretref01_wrong.j0 k a1 (!tdN) a0_0 l0_1 l0_2)) else (arboretref01_wrong.j0 k a1 false a0_0 l0_1 l0_2)))) = some r := h; clear h
 by_cases c3 : a1 > 16
 ·rw [if_pos c3] at H; have c3b0 : decide (16 < a1) = true := decide_eq_true c3; clear c3; obtain rfl := Option.some.inj H
  go_enter Try.func47, Try.ntmps47
  go_wp2_with (first | ((with_reducible refine gate_dst (N := 2) rfl ?_); refine box_event ?hg (N := 2) ?hd (cs := #[.string a0_0, .slice A0_1 l0_1.length c0_1, .slice A0_2 l0_2.length c0_2]) (t := 30) ?hr ?_; (case hd | hg => rfl); (case hr => first | (go_simp; done) | (go_simp; rfl)); intro gbaf hg w4 hbox hb; have n0_ := Zq140; have n1_ := Ak (hbox); have n2_ := Zq155; have n3_ := Zq155; clear HB; have HB := n0_; have BKaf := n1_; have GWaf := n2_; have GEaf := n3_; clear n0_ n1_ n2_ n3_ hb hbox hg))
  repeat (go_quiet (first | ((with_reducible refine gate_dst (N := 2) rfl ?_); refine box_event ?hg (N := 2) ?hd (cs := #[.string a0_0, .slice A0_1 l0_1.length c0_1, .slice A0_2 l0_2.length c0_2]) (t := 30) ?hr ?_; (case hd | hg => rfl); (case hr => first | (go_simp; done) | (go_simp; rfl)); intro gbaf hg w4 hbox hb; have n0_ := Zq140; have n1_ := Ak (hbox); have n2_ := Zq155; have n3_ := Zq155; clear HB; have HB := n0_; have BKaf := n1_; have GWaf := n2_; have GEaf := n3_; clear n0_ n1_ n2_ n3_ hb hbox hg)); try go_wp2_with (first | ((with_reducible refine gate_dst (N := 2) rfl ?_); refine box_event ?hg (N := 2) ?hd (cs := #[.string a0_0, .slice A0_1 l0_1.length c0_1, .slice A0_2 l0_2.length c0_2]) (t := 30) ?hr ?_; (case hd | hg => rfl); (case hr => first | (go_simp; done) | (go_simp; rfl)); intro gbaf hg w4 hbox hb; have n0_ := Zq140; have n1_ := Ak (hbox); have n2_ := Zq155; have n3_ := Zq155; clear HB; have HB := n0_; have BKaf := n1_; have GWaf := n2_; have GEaf := n3_; clear n0_ n1_ n2_ n3_ hb hbox hg)))
  go_ret
  exact ⟨Zq11, Zq21⟩
 ·rw [if_neg c3] at H; have c3b0 : decide (16 < a1) = false := decide_eq_false c3; clear c3; have HC5 := Ak H; clear H
  go_enter Try.func47, Try.ntmps47
  go_upto_region 3 with (first | ((with_reducible refine gate_dst (N := 2) rfl ?_); refine box_event ?hg (N := 2) ?hd (cs := #[.string a0_0, .slice A0_1 l0_1.length c0_1, .slice A0_2 l0_2.length c0_2]) (t := 30) ?hr ?_; (case hd | hg => rfl); (case hr => first | (go_simp; done) | (go_simp; rfl)); intro gbaf hg w6 hbox hb; have n0_ := Zq140; have n1_ := Ak (hbox); have n2_ := Zq155; have n3_ := Zq155; clear HB; have HB := n0_; have BKaf := n1_; have GWaf := n2_; have GEaf := n3_; clear n0_ n1_ n2_ n3_ hb hbox hg))
  repeat (go_quiet (first | ((with_reducible refine gate_dst (N := 2) rfl ?_); refine box_event ?hg (N := 2) ?hd (cs := #[.string a0_0, .slice A0_1 l0_1.length c0_1, .slice A0_2 l0_2.length c0_2]) (t := 30) ?hr ?_; (case hd | hg => rfl); (case hr => first | (go_simp; done) | (go_simp; rfl)); intro gbaf hg w6 hbox hb; have n0_ := Zq140; have n1_ := Ak (hbox); have n2_ := Zq155; have n3_ := Zq155; clear HB; have HB := n0_; have BKaf := n1_; have GWaf := n2_; have GEaf := n3_; clear n0_ n1_ n2_ n3_ hb hbox hg)); go_upto_region 3 with (first | ((with_reducible refine gate_dst (N := 2) rfl ?_); refine box_event ?hg (N := 2) ?hd (cs := #[.string a0_0, .slice A0_1 l0_1.length c0_1, .slice A0_2 l0_2.length c0_2]) (t := 30) ?hr ?_; (case hd | hg => rfl); (case hr => first | (go_simp; done) | (go_simp; rfl)); intro gbaf hg w6 hbox hb; have n0_ := Zq140; have n1_ := Ak (hbox); have n2_ := Zq155; have n3_ := Zq155; clear HB; have HB := n0_; have BKaf := n1_; have GWaf := n2_; have GEaf := n3_; clear n0_ n1_ n2_ n3_ hb hbox hg)))
  (try simp only [Act.put, List.setIfInBounds_toArray, List.set_cons_zero, List.set_cons_succ])
  go_cut [30] (fun v30 wc => ∃ (kq : Nat) (x30_4 : Bool), v30 = .bool x30_4 ∧ Aside0 (arboretref01_wrong.j0 kq a1 x30_4 a0_0 l0_1 l0_2 = some r) ∧ Aside0 (kq ≤ k) ∧ Aside0 (wc.heap[gbaf]? = some (.cells #[.string a0_0, (.slice A0_1 l0_1.length c0_1), (.slice A0_2 l0_2.length c0_2)] 30 (0, 0))) ∧ Aside0 (Below w.heap.size w wc))
  case first =>
   have H := HC5.out; clear HC5
   by_cases c7 : a1 = 1
   ·rw [if_pos c7] at H; have c7b0 : (a1 == 1) = true := beq_iff_eq.mpr c7; have c7b1 : (a1 != 1) = false := bne_eq_false_iff_eq.mpr c7; clear c7
    (first | rw [c7b0] | (simp only [i64_w, i32_w]; rw [c7b0]) | skip)
    by_cases c8 : a0_0.toList = ([] : List UInt8)
    ·rw [if_pos c8] at H; have c8b0 : (a0_0.toList == ([] : List UInt8)) = true := beq_iff_eq.mpr c8; have c8b1 : (a0_0.toList != ([] : List UInt8)) = false := bne_eq_false_iff_eq.mpr c8; clear c8
     by_cases c9 : a1 > 1
     ·rw [if_pos c9] at H; have c9b0 : decide (1 < a1) = true := decide_eq_true c9; clear c9; replace H := Option.bind_eq_some_iff.mp H; obtain ⟨tdM, Adq, H⟩ := H; replace H : (arboretref01_wrong.j0 k a1 (!tdM) a0_0 l0_1 l0_2) = some r := H; have A10 := Ak Adq; clear Adq; have H' := Ak H; clear H; have hcz11_0 : w6.cell? ⟨gbaf, 0, none⟩ = some (.string a0_0) := (blk_cell BKaf.out 0).trans rfl; have hcz11_1 : w6.cell? ⟨gbaf, 1, none⟩ = some (.slice A0_1 l0_1.length c0_1) := (blk_cell BKaf.out 1).trans rfl; have hcz11_2 : w6.cell? ⟨gbaf, 2, none⟩ = some (.slice A0_2 l0_2.length c0_2) := (blk_cell BKaf.out 2).trans rfl; have hfz11_0 := blk_frozen BKaf.out 0; have hfz11_1 := blk_frozen BKaf.out 1; have hfz11_2 := blk_frozen BKaf.out 2
      go_wp2_with (first | (go_at_call 74; (with_reducible refine (arboretref01_Node.calls k a0_0 tdM _ A10.out).mono ?_); rintro e w' ⟨rfl, ⟨nd, rfl⟩⟩; (try first | exact ⟨rfl, _, World.drewN_drewN _ _ _⟩ | exact ⟨rfl, _, Eq.trans (World.drewN_drewN _ _ _) (congrArg (World.drewN _) (Nat.add_assoc _ _ _))⟩)))
      repeat (go_quiet (first | (go_at_call 74; (with_reducible refine (arboretref01_Node.calls k a0_0 tdM _ A10.out).mono ?_); rintro e w' ⟨rfl, ⟨nd, rfl⟩⟩; (try first | exact ⟨rfl, _, World.drewN_drewN _ _ _⟩ | exact ⟨rfl, _, Eq.trans (World.drewN_drewN _ _ _) (congrArg (World.drewN _) (Nat.add_assoc _ _ _))⟩))); try go_wp2_with (first | (go_at_call 74; (with_reducible refine (arboretref01_Node.calls k a0_0 tdM _ A10.out).mono ?_); rintro e w' ⟨rfl, ⟨nd, rfl⟩⟩; (try first | exact ⟨rfl, _, World.drewN_drewN _ _ _⟩ | exact ⟨rfl, _, Eq.trans (World.drewN_drewN _ _ _) (congrArg (World.drewN _) (Nat.add_assoc _ _ _))⟩))))
      go_meet
      case rel => exact ⟨_, (!tdM), Zq6, H', ⟨Zq19⟩, ⟨Zq30⟩, ⟨Zq21⟩⟩
     ·rw [if_neg c9] at H; have c9b0 : decide (1 < a1) = false := decide_eq_false c9; clear c9; have H' := Ak H; clear H; have hcz12_0 : w6.cell? ⟨gbaf, 0, none⟩ = some (.string a0_0) := (blk_cell BKaf.out 0).trans rfl; have hcz12_1 : w6.cell? ⟨gbaf, 1, none⟩ = some (.slice A0_1 l0_1.length c0_1) := (blk_cell BKaf.out 1).trans rfl; have hcz12_2 : w6.cell? ⟨gbaf, 2, none⟩ = some (.slice A0_2 l0_2.length c0_2) := (blk_cell BKaf.out 2).trans rfl; have hfz12_0 := blk_frozen BKaf.out 0; have hfz12_1 := blk_frozen BKaf.out 1; have hfz12_2 := blk_frozen BKaf.out 2
      go_wp2
      repeat (go_quiet (fail); try go_wp2)
      go_meet
      case rel => exact ⟨_, (false), Zq6, H', ⟨Zq19⟩, ⟨Zq30⟩, ⟨Zq21⟩⟩
    ·rw [if_neg c8] at H; have c8b0 : (a0_0.toList == ([] : List UInt8)) = false := beq_eq_false_iff_ne.mpr c8; have c8b1 : (a0_0.toList != ([] : List UInt8)) = true := bne_iff_ne.mpr c8; have H' := Ak H; clear H; have hcz13_0 : w6.cell? ⟨gbaf, 0, none⟩ = some (.string a0_0) := (blk_cell BKaf.out 0).trans rfl; have hcz13_1 : w6.cell? ⟨gbaf, 1, none⟩ = some (.slice A0_1 l0_1.length c0_1) := (blk_cell BKaf.out 1).trans rfl; have hcz13_2 : w6.cell? ⟨gbaf, 2, none⟩ = some (.slice A0_2 l0_2.length c0_2) := (blk_cell BKaf.out 2).trans rfl; have hfz13_0 := blk_frozen BKaf.out 0; have hfz13_1 := blk_frozen BKaf.out 1; have hfz13_2 := blk_frozen BKaf.out 2
     go_wp2
     repeat (go_quiet (fail); try go_wp2)
     go_meet
     case rel => exact ⟨_, (true), Zq6, H', ⟨Zq19⟩, ⟨Zq30⟩, ⟨Zq21⟩⟩
   ·rw [if_neg c7] at H; have c7b0 : (a1 == 1) = false := beq_eq_false_iff_ne.mpr c7; have c7b1 : (a1 != 1) = true := bne_iff_ne.mpr c7
    (first | rw [c7b0] | (simp only [i64_w, i32_w]; rw [c7b0]) | skip)
    by_cases c14 : a1 > 1
    ·rw [if_pos c14] at H; have c14b0 : decide (1 < a1) = true := decide_eq_true c14; clear c14; replace H := Option.bind_eq_some_iff.mp H; obtain ⟨tdN, Add, H⟩ := H; replace H : (arboretref01_wrong.j0 k a1 (!tdN) a0_0 l0_1 l0_2) = some r := H; have A15 := Ak Add; clear Add; have H' := Ak H; clear H; have hcz16_0 : w6.cell? ⟨gbaf, 0, none⟩ = some (.string a0_0) := (blk_cell BKaf.out 0).trans rfl; have hcz16_1 : w6.cell? ⟨gbaf, 1, none⟩ = some (.slice A0_1 l0_1.length c0_1) := (blk_cell BKaf.out 1).trans rfl; have hcz16_2 : w6.cell? ⟨gbaf, 2, none⟩ = some (.slice A0_2 l0_2.length c0_2) := (blk_cell BKaf.out 2).trans rfl; have hfz16_0 := blk_frozen BKaf.out 0; have hfz16_1 := blk_frozen BKaf.out 1; have hfz16_2 := blk_frozen BKaf.out 2
     go_wp2_with (first | (go_at_call 74; (with_reducible refine (arboretref01_Node.calls k a0_0 tdN _ A15.out).mono ?_); rintro e w' ⟨rfl, ⟨nd, rfl⟩⟩; (try first | exact ⟨rfl, _, World.drewN_drewN _ _ _⟩ | exact ⟨rfl, _, Eq.trans (World.drewN_drewN _ _ _) (congrArg (World.drewN _) (Nat.add_assoc _ _ _))⟩)))
     repeat (go_quiet (first | (go_at_call 74; (with_reducible refine (arboretref01_Node.calls k a0_0 tdN _ A15.out).mono ?_); rintro e w' ⟨rfl, ⟨nd, rfl⟩⟩; (try first | exact ⟨rfl, _, World.drewN_drewN _ _ _⟩ | exact ⟨rfl, _, Eq.trans (World.drewN_drewN _ _ _) (congrArg (World.drewN _) (Nat.add_assoc _ _ _))⟩))); try go_wp2_with (first | (go_at_call 74; (with_reducible refine (arboretref01_Node.calls k a0_0 tdN _ A15.out).mono ?_); rintro e w' ⟨rfl, ⟨nd, rfl⟩⟩; (try first | exact ⟨rfl, _, World.drewN_drewN _ _ _⟩ | exact ⟨rfl, _, Eq.trans (World.drewN_drewN _ _ _) (congrArg (World.drewN _) (Nat.add_assoc _ _ _))⟩))))
     go_meet
     case rel => exact ⟨_, (!tdN), Zq6, H', ⟨Zq19⟩, ⟨Zq30⟩, ⟨Zq21⟩⟩
    ·rw [if_neg c14] at H; have c14b0 : decide (1 < a1) = false := decide_eq_false c14; clear c14; have H' := Ak H; clear H
     go_wp2
     repeat (go_quiet (fail); try go_wp2)
     go_meet
     case rel => exact ⟨_, (false), Zq6, H', ⟨Zq19⟩, ⟨Zq30⟩, ⟨Zq21⟩⟩
  case rest =>
   clear HC5
   try clear c1
   try clear p2
   try clear c3
   try clear c3b0
   try clear c4
   try clear c7
   try clear c7b0
   try clear c7b1
   try clear c8
   try clear c8b0
   try clear c8b1
   try clear c9
   try clear c9b0
   try clear c14
   try clear c14b0
   try clear hcz11_0
   try clear hcz11_1
   try clear hcz11_2
   try clear hcz12_0
   try clear hcz12_1
   try clear hcz12_2
   try clear hcz13_0
   try clear hcz13_1
   try clear hcz13_2
   try clear hcz16_0
   try clear hcz16_1
   try clear hcz16_2
   try clear hfz11_0
   try clear hfz11_1
   try clear hfz11_2
   try clear hfz12_0
   try clear hfz12_1
   try clear hfz12_2
   try clear hfz13_0
   try clear hfz13_1
   try clear hfz13_2
   try clear hfz16_0
   try clear hfz16_1
   try clear hfz16_2
   obtain ⟨kq, x30_4, rfl, HA, HJ4, BKaf, HB⟩ := hcut
   cases kq with
   | zero => exact absurd HA.out (by simp [arboretref01_wrong.j0])
   | succ kj4 =>
    have H := HA.out; clear HA; simp only [arboretref01_wrong.j0] at H
    by_cases c17 : x30_4 = true
    ·subst c17
     have H1 : (some 5) = some r := by rw [if_pos rfl] at H; exact H
     clear H; have H := H1; clear H1; obtain rfl := Option.some.inj H
     go_wp2
     repeat (go_quiet (fail); try go_wp2)
     go_ret
     exact ⟨Zq11, Zq21⟩
    ·replace c17 := Bool.eq_false_iff.mpr c17; subst c17
     have H1 : (arboretref01_wrong.l0 kj4 a1 (l0_1.length : Int) 0 a0_0 l0_1 l0_2) = some r := by rw [if_neg (show ¬ (false = true) by decide)] at H; exact H
     clear H; have H := H1; clear H1; have H' := Ak H; clear H; have hcz18_0 : wc.cell? ⟨gbaf, 0, none⟩ = some (.string a0_0) := (blk_cell BKaf.out 0).trans rfl; have hcz18_1 : wc.cell? ⟨gbaf, 1, none⟩ = some (.slice A0_1 l0_1.length c0_1) := (blk_cell BKaf.out 1).trans rfl; have hcz18_2 : wc.cell? ⟨gbaf, 2, none⟩ = some (.slice A0_2 l0_2.length c0_2) := (blk_cell BKaf.out 2).trans rfl; have hfz18_0 := blk_frozen BKaf.out 0; have hfz18_1 := blk_frozen BKaf.out 1; have hfz18_2 := blk_frozen BKaf.out 2
     go_wp2
     repeat (go_quiet (fail); try go_wp2)
     go_loopg [34] kj4 (fun kq v34 w' => ∃ (x34_2 : Int), v34 = .int .i64 x34_2 ∧ Aside0 (arboretref01_wrong.l0 kq a1 (l0_1.length : Int) x34_2 a0_0 l0_1 l0_2 = some r) ∧ Aside0 (kq ≤ kj4) ∧ Aside0 (w'.heap[gbaf]? = some (.cells #[.string a0_0, (.slice A0_1 l0_1.length c0_1), (.slice A0_2 l0_2.length c0_2)] 30 (0, 0))) ∧ Aside0 (Below w.heap.size w w'))
     case atStart => exact ⟨(0), Zq6, H', ⟨Nat.le_refl _⟩, ⟨Zq30⟩, ⟨Zq21⟩⟩
     case round =>
      clear H'
      try clear c1
      try clear p2
      try clear c3
      try clear c3b0
      try clear c4
      try clear c7
      try clear c7b0
      try clear c7b1
      try clear c8
      try clear c8b0
      try clear c8b1
      try clear c9
      try clear c9b0
      try clear c14
      try clear c14b0
      try clear c17
      try clear hcz11_0
      try clear hcz11_1
      try clear hcz11_2
      try clear hcz12_0
      try clear hcz12_1
      try clear hcz12_2
      try clear hcz13_0
      try clear hcz13_1
      try clear hcz13_2
      try clear hcz16_0
      try clear hcz16_1
      try clear hcz16_2
      try clear hcz18_0
      try clear hcz18_1
      try clear hcz18_2
      try clear hfz11_0
      try clear hfz11_1
      try clear hfz11_2
      try clear hfz12_0
      try clear hfz12_1
      try clear hfz12_2
      try clear hfz13_0
      try clear hfz13_1
      try clear hfz13_2
      try clear hfz16_0
      try clear hfz16_1
      try clear hfz16_2
      try clear hfz18_0
      try clear hfz18_1
      try clear hfz18_2
      try clear p2
      obtain ⟨x34_2, rfl, HA, HK2, BKaf, HB⟩ := hrel
      cases gk with
      | zero => exact absurd HA.out (by simp [arboretref01_wrong.l0])
      | succ k2 =>
       have H := HA.out; clear HA; simp only [arboretref01_wrong.l0] at H
       by_cases c19 : x34_2 < (l0_1.length : Int)
       ·rw [if_pos c19] at H; have c19b0 : decide (x34_2 < (l0_1.length : Int)) = true := decide_eq_true c19; clear c19
        by_cases c20 : 0 ≤ x34_2
        ·rw [if_pos c20] at H; have c20b0 : decide (0 ≤ x34_2) = true := decide_eq_true c20; clear c20
         by_cases c21 : x34_2 < (l0_1.length : Int)
         ·rw [if_pos c21] at H; have c21b0 : decide (x34_2 < (l0_1.length : Int)) = true := decide_eq_true c21; clear c21; replace H := Option.bind_eq_some_iff.mp H; obtain ⟨teX, AfR, H⟩ := H; replace H : (if teX = true then (arboretref01_wrong.l0 k2 a1 (l0_1.length : Int) (wrap64 (x34_2 + 1)) a0_0 l0_1 l0_2) else (some 5)) = some r := H; have A22 := Ak AfR; clear AfR
          by_cases c23 : teX = true
          ·subst c23
           have H1 : (arboretref01_wrong.l0 k2 a1 (l0_1.length : Int) (wrap64 (x34_2 + 1)) a0_0 l0_1 l0_2) = some r := by rw [if_pos rfl] at H; exact H
           clear H; have H := H1; clear H1; have H' := Ak H; clear H; have hcz24_0 : wr.cell? ⟨gbaf, 0, none⟩ = some (.string a0_0) := (blk_cell BKaf.out 0).trans rfl; have hcz24_1 : wr.cell? ⟨gbaf, 1, none⟩ = some (.slice A0_1 l0_1.length c0_1) := (blk_cell BKaf.out 1).trans rfl; have hcz24_2 : wr.cell? ⟨gbaf, 2, none⟩ = some (.slice A0_2 l0_2.length c0_2) := (blk_cell BKaf.out 2).trans rfl; have hfz24_0 := blk_frozen BKaf.out 0; have hfz24_1 := blk_frozen BKaf.out 1; have hfz24_2 := blk_frozen BKaf.out 2; have p357 : 0 ≤ (x34_2 : Int) := of_decide_eq_true Zq4; have q357 : x34_2 < (l0_1.length : Int) := of_decide_eq_true Zq4; obtain ⟨addO, AdO_1, cdO_1, e357, hx357_0, hx357_1, hl357_1, hi357_1⟩ := at_T77 HR0_1.out x34_2 p357 q357
           cases e357
           replace hx357_0 := (HB.out.cell (World.block_lt_of_cell? w _ hx357_0)).trans hx357_0; replace hx357_1 := (HB.out.cell (World.block_lt_of_cell? w _ hx357_1)).trans hx357_1; have HRdO_1 := Ak hi357_1; have HCdO_1 := Ak hl357_1; clear hi357_1 hl357_1; replace p357 := eq_true p357; replace q357 := eq_true q357
           go_wp2_with (first | (go_at_call 75; (with_reducible refine (arboretref01_Prop.calls k2 ((rd_T77 l0_1 x34_2).f0) true _ A22.out).mono ?_); rintro e w' ⟨rfl, ⟨nd, rfl⟩⟩; (try first | exact ⟨rfl, _, World.drewN_drewN _ _ _⟩ | exact ⟨rfl, _, Eq.trans (World.drewN_drewN _ _ _) (congrArg (World.drewN _) (Nat.add_assoc _ _ _))⟩)))
           repeat (go_quiet (first | (go_at_call 75; (with_reducible refine (arboretref01_Prop.calls k2 ((rd_T77 l0_1 x34_2).f0) true _ A22.out).mono ?_); rintro e w' ⟨rfl, ⟨nd, rfl⟩⟩; (try first | exact ⟨rfl, _, World.drewN_drewN _ _ _⟩ | exact ⟨rfl, _, Eq.trans (World.drewN_drewN _ _ _) (congrArg (World.drewN _) (Nat.add_assoc _ _ _))⟩))); try go_wp2_with (first | (go_at_call 75; (with_reducible refine (arboretref01_Prop.calls k2 ((rd_T77 l0_1 x34_2).f0) true _ A22.out).mono ?_); rintro e w' ⟨rfl, ⟨nd, rfl⟩⟩; (try first | exact ⟨rfl, _, World.drewN_drewN _ _ _⟩ | exact ⟨rfl, _, Eq.trans (World.drewN_drewN _ _ _) (congrArg (World.drewN _) (Nat.add_assoc _ _ _))⟩))))
           go_roundg k2
           case measure => have := HJ4.out; have := HK2.out; omega
           case rel => exact ⟨(wrap64 (x34_2 + 1)), Zq6, H', ⟨by have := HJ4.out; have := HK2.out; omega⟩, ⟨Zq30⟩, ⟨Zq21⟩⟩
          ·replace c23 := Bool.eq_false_iff.mpr c23; subst c23
           have H1 : (some 5) = some r := by rw [if_neg (show ¬ (false = true) by decide)] at H; exact H
           clear H; have H := H1; clear H1; obtain rfl := Option.some.inj H; have hcz25_0 : wr.cell? ⟨gbaf, 0, none⟩ = some (.string a0_0) := (blk_cell BKaf.out 0).trans rfl; have hcz25_1 : wr.cell? ⟨gbaf, 1, none⟩ = some (.slice A0_1 l0_1.length c0_1) := (blk_cell BKaf.out 1).trans rfl; have hcz25_2 : wr.cell? ⟨gbaf, 2, none⟩ = some (.slice A0_2 l0_2.length c0_2) := (blk_cell BKaf.out 2).trans rfl; have hfz25_0 := blk_frozen BKaf.out 0; have hfz25_1 := blk_frozen BKaf.out 1; have hfz25_2 := blk_frozen BKaf.out 2; have p357 : 0 ≤ (x34_2 : Int) := of_decide_eq_true Zq4; have q357 : x34_2 < (l0_1.length : Int) := of_decide_eq_true Zq4; obtain ⟨addO, AdO_1, cdO_1, e357, hx357_0, hx357_1, hl357_1, hi357_1⟩ := at_T77 HR0_1.out x34_2 p357 q357
           cases e357
           replace hx357_0 := (HB.out.cell (World.block_lt_of_cell? w _ hx357_0)).trans hx357_0; replace hx357_1 := (HB.out.cell (World.block_lt_of_cell? w _ hx357_1)).trans hx357_1; have HRdO_1 := Ak hi357_1; have HCdO_1 := Ak hl357_1; clear hi357_1 hl357_1; replace p357 := eq_true p357; replace q357 := eq_true q357
           go_wp2_with (first | (go_at_call 75; (with_reducible refine (arboretref01_Prop.calls k2 ((rd_T77 l0_1 x34_2).f0) false _ A22.out).mono ?_); rintro e w' ⟨rfl, ⟨nd, rfl⟩⟩; (try first | exact ⟨rfl, _, World.drewN_drewN _ _ _⟩ | exact ⟨rfl, _, Eq.trans (World.drewN_drewN _ _ _) (congrArg (World.drewN _) (Nat.add_assoc _ _ _))⟩)))
           repeat (go_quiet (first | (go_at_call 75; (with_reducible refine (arboretref01_Prop.calls k2 ((rd_T77 l0_1 x34_2).f0) false _ A22.out).mono ?_); rintro e w' ⟨rfl, ⟨nd, rfl⟩⟩; (try first | exact ⟨rfl, _, World.drewN_drewN _ _ _⟩ | exact ⟨rfl, _, Eq.trans (World.drewN_drewN _ _ _) (congrArg (World.drewN _) (Nat.add_assoc _ _ _))⟩))); try go_wp2_with (first | (go_at_call 75; (with_reducible refine (arboretref01_Prop.calls k2 ((rd_T77 l0_1 x34_2).f0) false _ A22.out).mono ?_); rintro e w' ⟨rfl, ⟨nd, rfl⟩⟩; (try first | exact ⟨rfl, _, World.drewN_drewN _ _ _⟩ | exact ⟨rfl, _, Eq.trans (World.drewN_drewN _ _ _) (congrArg (World.drewN _) (Nat.add_assoc _ _ _))⟩))))
           go_ret
           exact ⟨Zq11, Zq21⟩
         ·rw [if_neg c21] at H; exact absurd H Zq9
        ·rw [if_neg c20] at H; exact absurd H Zq9
       ·rw [if_neg c19] at H; have c19b0 : decide (x34_2 < (l0_1.length : Int)) = false := decide_eq_false c19; clear c19; have H' := Ak H; clear H; have hcz26_0 : wr.cell? ⟨gbaf, 0, none⟩ = some (.string a0_0) := (blk_cell BKaf.out 0).trans rfl; have hcz26_1 : wr.cell? ⟨gbaf, 1, none⟩ = some (.slice A0_1 l0_1.length c0_1) := (blk_cell BKaf.out 1).trans rfl; have hcz26_2 : wr.cell? ⟨gbaf, 2, none⟩ = some (.slice A0_2 l0_2.length c0_2) := (blk_cell BKaf.out 2).trans rfl; have hfz26_0 := blk_frozen BKaf.out 0; have hfz26_1 := blk_frozen BKaf.out 1; have hfz26_2 := blk_frozen BKaf.out 2
        go_wp2
        repeat (go_quiet (fail); try go_wp2)
        go_loopg [49] k2 (fun kq v49 w' => ∃ (x49_3 : Int), v49 = .int .i64 x49_3 ∧ Aside0 (arboretref01_wrong.l1 kq a1 (l0_1.length : Int) x49_3 a0_0 l0_1 l0_2 = some r) ∧ Aside0 (kq ≤ k2) ∧ Aside0 (w'.heap[gbaf]? = some (.cells #[.string a0_0, (.slice A0_1 l0_1.length c0_1), (.slice A0_2 l0_2.length c0_2)] 30 (0, 0))) ∧ Aside0 (Below w.heap.size w w'))
        case atStart => exact ⟨(0), Zq6, H', ⟨Nat.le_refl _⟩, ⟨Zq30⟩, ⟨Zq21⟩⟩
        case round =>
         clear H'
         try clear c1
         try clear c2
         try clear p2
         try clear c3
         try clear c3b0
         try clear p3
         try clear q3
         try clear hx3
         try clear c4
         try clear p6
         try clear c7
         try clear c7b0
         try clear c7b1
         try clear c8
         try clear c8b0
         try clear c8b1
         try clear c9
         try clear c9b0
         try clear c14
         try clear c14b0
         try clear c17
         try clear c19
         try clear c19b0
         try clear c20
         try clear c20b0
         try clear c21
         try clear c21b0
         try clear c23
         try clear hcz11_0
         try clear hcz11_1
         try clear hcz11_2
         try clear hcz12_0
         try clear hcz12_1
         try clear hcz12_2
         try clear hcz13_0
         try clear hcz13_1
         try clear hcz13_2
         try clear hcz16_0
         try clear hcz16_1
         try clear hcz16_2
         try clear hcz18_0
         try clear hcz18_1
         try clear hcz18_2
         try clear hcz24_0
         try clear hcz24_1
         try clear hcz24_2
         try clear hcz25_0
         try clear hcz25_1
         try clear hcz25_2
         try clear hcz26_0
         try clear hcz26_1
         try clear hcz26_2
         try clear hfz11_0
         try clear hfz11_1
         try clear hfz11_2
         try clear hfz12_0
         try clear hfz12_1
         try clear hfz12_2
         try clear hfz13_0
         try clear hfz13_1
         try clear hfz13_2
         try clear hfz16_0
         try clear hfz16_1
         try clear hfz16_2
         try clear hfz18_0
         try clear hfz18_1
         try clear hfz18_2
         try clear hfz24_0
         try clear hfz24_1
         try clear hfz24_2
         try clear hfz25_0
         try clear hfz25_1
         try clear hfz25_2
         try clear hfz26_0
         try clear hfz26_1
         try clear hfz26_2
         try clear hx357_0
         try clear hx357_1
         try clear p2
         try clear p357
         try clear q357
         obtain ⟨x49_3, rfl, HA, HK3, BKaf, HB⟩ := hrel
         cases gk with
         | zero => exact absurd HA.out (by simp [arboretref01_wrong.l1])
         | succ k3 =>
          have H := HA.out; clear HA; simp only [arboretref01_wrong.l1] at H
          by_cases c27 : x49_3 < (l0_1.length : Int)
          ·rw [if_pos c27] at H; have c27b0 : decide (x49_3 < (l0_1.length : Int)) = true := decide_eq_true c27; clear c27; have H' := Ak H; clear H
           go_wp2
           repeat (go_quiet (fail); try go_wp2)
           go_loopg [53] k3 (fun kq v53 w' => ∃ (x53_4 : Int), v53 = .int .i64 x53_4 ∧ Aside0 (arboretref01_wrong.l2 kq a1 x49_3 (l0_1.length : Int) x49_3 x49_3 x53_4 a0_0 l0_1 l0_2 = some r) ∧ Aside0 (kq ≤ k3) ∧ Aside0 (w'.heap[gbaf]? = some (.cells #[.string a0_0, (.slice A0_1 l0_1.length c0_1), (.slice A0_2 l0_2.length c0_2)] 30 (0, 0))) ∧ Aside0 (Below w.heap.size w w'))
           case atStart => exact ⟨(0), Zq6, H', ⟨Nat.le_refl _⟩, ⟨Zq30⟩, ⟨Zq21⟩⟩
           case round =>
            clear H'
            try clear c1
            try clear c2
            try clear p2
            try clear c3
            try clear c3b0
            try clear p3
            try clear q3
            try clear hx3
            try clear c4
            try clear p6
            try clear c7
            try clear c7b0
            try clear c7b1
            try clear c8
            try clear c8b0
            try clear c8b1
            try clear c9
            try clear c9b0
            try clear c14
            try clear c14b0
            try clear c17
            try clear c19
            try clear c19b0
            try clear c20
            try clear c20b0
            try clear c21
            try clear c21b0
            try clear c23
            try clear c27
            try clear c27b0
            try clear hcz11_0
            try clear hcz11_1
            try clear hcz11_2
            try clear hcz12_0
            try clear hcz12_1
            try clear hcz12_2
            try clear hcz13_0
            try clear hcz13_1
            try clear hcz13_2
            try clear hcz16_0
            try clear hcz16_1
            try clear hcz16_2
            try clear hcz18_0
            try clear hcz18_1
            try clear hcz18_2
            try clear hcz24_0
            try clear hcz24_1
            try clear hcz24_2
            try clear hcz25_0
            try clear hcz25_1
            try clear hcz25_2
            try clear hcz26_0
            try clear hcz26_1
            try clear hcz26_2
            try clear hfz11_0
            try clear hfz11_1
            try clear hfz11_2
            try clear hfz12_0
            try clear hfz12_1
            try clear hfz12_2
            try clear hfz13_0
            try clear hfz13_1
            try clear hfz13_2
            try clear hfz16_0
            try clear hfz16_1
            try clear hfz16_2
            try clear hfz18_0
            try clear hfz18_1
            try clear hfz18_2
            try clear hfz24_0
            try clear hfz24_1
            try clear hfz24_2
            try clear hfz25_0
            try clear hfz25_1
            try clear hfz25_2
            try clear hfz26_0
            try clear hfz26_1
            try clear hfz26_2
            try clear hx357_0
            try clear hx357_1
            try clear p2
            try clear p3
            try clear p357
            try clear p6
            try clear q3
            try clear q357
            obtain ⟨x53_4, rfl, HA, HK4, BKaf, HB⟩ := hrel
            cases gk with
            | zero => exact absurd HA.out (by simp [arboretref01_wrong.l2])
            | succ k4 =>
             have H := HA.out; clear HA; simp only [arboretref01_wrong.l2] at H
             by_cases c28 : x53_4 < x49_3
             ·rw [if_pos c28] at H; have c28b0 : decide (x53_4 < x49_3) = true := decide_eq_true c28; clear c28
              by_cases c29 : 0 ≤ x53_4
              ·rw [if_pos c29] at H; have c29b0 : decide (0 ≤ x53_4) = true := decide_eq_true c29; clear c29
               by_cases c30 : x53_4 < (l0_1.length : Int)
               ·rw [if_pos c30] at H; have c30b0 : decide (x53_4 < (l0_1.length : Int)) = true := decide_eq_true c30; clear c30
                by_cases c31 : 0 ≤ x49_3
                ·rw [if_pos c31] at H; have c31b0 : decide (0 ≤ x49_3) = true := decide_eq_true c31; clear c31
                 by_cases c32 : x49_3 < (l0_1.length : Int)
                 ·rw [if_pos c32] at H; have c32b0 : decide (x49_3 < (l0_1.length : Int)) = true := decide_eq_true c32; clear c32
                  by_cases c33 : ((rd_T77 l0_1 x53_4).f0).toList = ((rd_T77 l0_1 x49_3).f0).toList
                  ·rw [if_pos c33] at H; have c33b0 : (((rd_T77 l0_1 x53_4).f0).toList == ((rd_T77 l0_1 x49_3).f0).toList) = true := beq_iff_eq.mpr c33; have c33b1 : (((rd_T77 l0_1 x53_4).f0).toList != ((rd_T77 l0_1 x49_3).f0).toList) = false := bne_eq_false_iff_eq.mpr c33; clear c33; obtain rfl := Option.some.inj H; have hcz34_0 : wr.cell? ⟨gbaf, 0, none⟩ = some (.string a0_0) := (blk_cell BKaf.out 0).trans rfl; have hcz34_1 : wr.cell? ⟨gbaf, 1, none⟩ = some (.slice A0_1 l0_1.length c0_1) := (blk_cell BKaf.out 1).trans rfl; have hcz34_2 : wr.cell? ⟨gbaf, 2, none⟩ = some (.slice A0_2 l0_2.length c0_2) := (blk_cell BKaf.out 2).trans rfl; have hfz34_0 := blk_frozen BKaf.out 0; have hfz34_1 := blk_frozen BKaf.out 1; have hfz34_2 := blk_frozen BKaf.out 2; have p359 : 0 ≤ (x53_4 : Int) := of_decide_eq_true Zq4; have q359 : x53_4 < (l0_1.length : Int) := of_decide_eq_true Zq4; obtain ⟨adde, Ade_1, cde_1, e359, hx359_0, hx359_1, hl359_1, hi359_1⟩ := at_T77 HR0_1.out x53_4 p359 q359
                   cases e359
                   replace hx359_0 := (HB.out.cell (World.block_lt_of_cell? w _ hx359_0)).trans hx359_0; replace hx359_1 := (HB.out.cell (World.block_lt_of_cell? w _ hx359_1)).trans hx359_1; have HRde_1 := Ak hi359_1; have HCde_1 := Ak hl359_1; clear hi359_1 hl359_1; replace p359 := eq_true p359; replace q359 := eq_true q359; have p360 : 0 ≤ (x49_3 : Int) := of_decide_eq_true Zq4; have q360 : x49_3 < (l0_1.length : Int) := of_decide_eq_true Zq4; obtain ⟨adcG, AcG_1, ccG_1, e360, hx360_0, hx360_1, hl360_1, hi360_1⟩ := at_T77 HR0_1.out x49_3 p360 q360
                   obtain rfl : adde = adcG := (by injection e360)
                   replace hx360_0 := (HB.out.cell (World.block_lt_of_cell? w _ hx360_0)).trans hx360_0; replace hx360_1 := (HB.out.cell (World.block_lt_of_cell? w _ hx360_1)).trans hx360_1; have HRcG_1 := Ak hi360_1; have HCcG_1 := Ak hl360_1; clear hi360_1 hl360_1; replace p360 := eq_true p360; replace q360 := eq_true q360
                   go_wp2
                   repeat (go_quiet (fail); try go_wp2)
                   go_ret
                   exact ⟨Zq11, Zq21⟩
                  ·rw [if_neg c33] at H; have c33b0 : (((rd_T77 l0_1 x53_4).f0).toList == ((rd_T77 l0_1 x49_3).f0).toList) = false := beq_eq_false_iff_ne.mpr c33; have c33b1 : (((rd_T77 l0_1 x53_4).f0).toList != ((rd_T77 l0_1 x49_3).f0).toList) = true := bne_iff_ne.mpr c33; have H' := Ak H; clear H; have hcz35_0 : wr.cell? ⟨gbaf, 0, none⟩ = some (.string a0_0) := (blk_cell BKaf.out 0).trans rfl; have hcz35_1 : wr.cell? ⟨gbaf, 1, none⟩ = some (.slice A0_1 l0_1.length c0_1) := (blk_cell BKaf.out 1).trans rfl; have hcz35_2 : wr.cell? ⟨gbaf, 2, none⟩ = some (.slice A0_2 l0_2.length c0_2) := (blk_cell BKaf.out 2).trans rfl; have hfz35_0 := blk_frozen BKaf.out 0; have hfz35_1 := blk_frozen BKaf.out 1; have hfz35_2 := blk_frozen BKaf.out 2; have p359 : 0 ≤ (x53_4 : Int) := of_decide_eq_true Zq4; have q359 : x53_4 < (l0_1.length : Int) := of_decide_eq_true Zq4; obtain ⟨adde, Ade_1, cde_1, e359, hx359_0, hx359_1, hl359_1, hi359_1⟩ := at_T77 HR0_1.out x53_4 p359 q359
                   cases e359
                   replace hx359_0 := (HB.out.cell (World.block_lt_of_cell? w _ hx359_0)).trans hx359_0; replace hx359_1 := (HB.out.cell (World.block_lt_of_cell? w _ hx359_1)).trans hx359_1; have HRde_1 := Ak hi359_1; have HCde_1 := Ak hl359_1; clear hi359_1 hl359_1; replace p359 := eq_true p359; replace q359 := eq_true q359; have p360 : 0 ≤ (x49_3 : Int) := of_decide_eq_true Zq4; have q360 : x49_3 < (l0_1.length : Int) := of_decide_eq_true Zq4; obtain ⟨adcG, AcG_1, ccG_1, e360, hx360_0, hx360_1, hl360_1, hi360_1⟩ := at_T77 HR0_1.out x49_3 p360 q360
                   obtain rfl : adde = adcG := (by injection e360)
                   replace hx360_0 := (HB.out.cell (World.block_lt_of_cell? w _ hx360_0)).trans hx360_0; replace hx360_1 := (HB.out.cell (World.block_lt_of_cell? w _ hx360_1)).trans hx360_1; have HRcG_1 := Ak hi360_1; have HCcG_1 := Ak hl360_1; clear hi360_1 hl360_1; replace p360 := eq_true p360; replace q360 := eq_true q360
                   go_wp2
                   repeat (go_quiet (fail); try go_wp2)
                   go_roundg k4
                   case measure => have := HJ4.out; have := HK2.out; have := HK3.out; have := HK4.out; omega
                   case rel => exact ⟨(wrap64 (x53_4 + 1)), Zq6, H', ⟨by have := HJ4.out; have := HK2.out; have := HK3.out; have := HK4.out; omega⟩, ⟨Zq30⟩, ⟨Zq21⟩⟩
                 ·rw [if_neg c32] at H; exact absurd H Zq9
                ·rw [if_neg c31] at H; exact absurd H Zq9
               ·rw [if_neg c30] at H; exact absurd H Zq9
              ·rw [if_neg c29] at H; exact absurd H Zq9
             ·rw [if_neg c28] at H; have c28b0 : decide (x53_4 < x49_3) = false := decide_eq_false c28; clear c28; have H' := Ak H; clear H
              go_wp2
              repeat (go_quiet (fail); try go_wp2)
              go_roundg k4
              case measure => have := HJ4.out; have := HK2.out; have := HK3.out; have := HK4.out; omega
              case rel => exact ⟨(wrap64 (x49_3 + 1)), Zq6, H', ⟨by have := HJ4.out; have := HK2.out; have := HK3.out; have := HK4.out; omega⟩, ⟨Zq30⟩, ⟨Zq21⟩⟩
          ·rw [if_neg c27] at H; have c27b0 : decide (x49_3 < (l0_1.length : Int)) = false := decide_eq_false c27; clear c27; have H' := Ak H; clear H; have hcz36_0 : wr.cell? ⟨gbaf, 0, none⟩ = some (.string a0_0) := (blk_cell BKaf.out 0).trans rfl; have hcz36_1 : wr.cell? ⟨gbaf, 1, none⟩ = some (.slice A0_1 l0_1.length c0_1) := (blk_cell BKaf.out 1).trans rfl; have hcz36_2 : wr.cell? ⟨gbaf, 2, none⟩ = some (.slice A0_2 l0_2.length c0_2) := (blk_cell BKaf.out 2).trans rfl; have hfz36_0 := blk_frozen BKaf.out 0; have hfz36_1 := blk_frozen BKaf.out 1; have hfz36_2 := blk_frozen BKaf.out 2
           go_wp2
           repeat (go_quiet (fail); try go_wp2)
           go_loopg [74] k3 (fun kq v74 w' => ∃ (x74_4 : Int), v74 = .int .i64 x74_4 ∧ Aside0 (arboretref01_wrong.l3 kq a1 (l0_2.length : Int) x74_4 a0_0 l0_1 l0_2 = some r) ∧ Aside0 (kq ≤ k3) ∧ Aside0 (w'.heap[gbaf]? = some (.cells #[.string a0_0, (.slice A0_1 l0_1.length c0_1), (.slice A0_2 l0_2.length c0_2)] 30 (0, 0))) ∧ Aside0 (Below w.heap.size w w'))
           case atStart => exact ⟨(0), Zq6, H', ⟨Nat.le_refl _⟩, ⟨Zq30⟩, ⟨Zq21⟩⟩
           case round =>
            clear H'
            try clear c1
            try clear c2
            try clear p2
            try clear c3
            try clear c3b0
            try clear p3
            try clear q3
            try clear hx3
            try clear c4
            try clear p6
            try clear c7
            try clear c7b0
            try clear c7b1
            try clear c8
            try clear c8b0
            try clear c8b1
            try clear c9
            try clear c9b0
            try clear c14
            try clear c14b0
            try clear c17
            try clear c19
            try clear c19b0
            try clear c20
            try clear c20b0
            try clear c21
            try clear c21b0
            try clear c23
            try clear c27
            try clear c27b0
            try clear c28
            try clear c28b0
            try clear c29
            try clear c29b0
            try clear c30
            try clear c30b0
            try clear c31
            try clear c31b0
            try clear c32
            try clear c32b0
            try clear c33
            try clear c33b0
            try clear c33b1
            try clear c35
            try clear p35
            try clear q35
            try clear hx35
            try clear c36
            try clear p36
            try clear q36
            try clear hx36
            try clear hcz11_0
            try clear hcz11_1
            try clear hcz11_2
            try clear hcz12_0
            try clear hcz12_1
            try clear hcz12_2
            try clear hcz13_0
            try clear hcz13_1
            try clear hcz13_2
            try clear hcz16_0
            try clear hcz16_1
            try clear hcz16_2
            try clear hcz18_0
            try clear hcz18_1
            try clear hcz18_2
            try clear hcz24_0
            try clear hcz24_1
            try clear hcz24_2
            try clear hcz25_0
            try clear hcz25_1
            try clear hcz25_2
            try clear hcz26_0
            try clear hcz26_1
            try clear hcz26_2
            try clear hcz34_0
            try clear hcz34_1
            try clear hcz34_2
            try clear hcz35_0
            try clear hcz35_1
            try clear hcz35_2
            try clear hcz36_0
            try clear hcz36_1
            try clear hcz36_2
            try clear hfz11_0
            try clear hfz11_1
            try clear hfz11_2
            try clear hfz12_0
            try clear hfz12_1
            try clear hfz12_2
            try clear hfz13_0
            try clear hfz13_1
            try clear hfz13_2
            try clear hfz16_0
            try clear hfz16_1
            try clear hfz16_2
            try clear hfz18_0
            try clear hfz18_1
            try clear hfz18_2
            try clear hfz24_0
            try clear hfz24_1
            try clear hfz24_2
            try clear hfz25_0
            try clear hfz25_1
            try clear hfz25_2
            try clear hfz26_0
            try clear hfz26_1
            try clear hfz26_2
            try clear hfz34_0
            try clear hfz34_1
            try clear hfz34_2
            try clear hfz35_0
            try clear hfz35_1
            try clear hfz35_2
            try clear hfz36_0
            try clear hfz36_1
            try clear hfz36_2
            try clear hx357_0
            try clear hx357_1
            try clear hx359_0
            try clear hx359_1
            try clear hx360_0
            try clear hx360_1
            try clear p2
            try clear p3
            try clear p357
            try clear p359
            try clear p360
            try clear p6
            try clear q3
            try clear q357
            try clear q359
            try clear q360
            obtain ⟨x74_4, rfl, HA, HK4, BKaf, HB⟩ := hrel
            cases gk with
            | zero => exact absurd HA.out (by simp [arboretref01_wrong.l3])
            | succ k4 =>
             have H := HA.out; clear HA; simp only [arboretref01_wrong.l3] at H
             by_cases c37 : x74_4 < (l0_2.length : Int)
             ·rw [if_pos c37] at H; have c37b0 : decide (x74_4 < (l0_2.length : Int)) = true := decide_eq_true c37; clear c37; have H' := Ak H; clear H
              go_wp2
              repeat (go_quiet (fail); try go_wp2)
              go_loopg [78] k4 (fun kq v78 w' => ∃ (x78_5 : Int), v78 = .int .i64 x78_5 ∧ Aside0 (arboretref01_wrong.l4 kq a1 x74_4 (l0_2.length : Int) x74_4 x74_4 x78_5 a0_0 l0_1 l0_2 = some r) ∧ Aside0 (kq ≤ k4) ∧ Aside0 (w'.heap[gbaf]? = some (.cells #[.string a0_0, (.slice A0_1 l0_1.length c0_1), (.slice A0_2 l0_2.length c0_2)] 30 (0, 0))) ∧ Aside0 (Below w.heap.size w w'))
              case atStart => exact ⟨(0), Zq6, H', ⟨Nat.le_refl _⟩, ⟨Zq30⟩, ⟨Zq21⟩⟩
              case round =>
               clear H'
               try clear c1
               try clear c2
               try clear p2
               try clear c3
               try clear c3b0
               try clear p3
               try clear q3
               try clear hx3
               try clear c4
               try clear p6
               try clear c7
               try clear c7b0
               try clear c7b1
               try clear c8
               try clear c8b0
               try clear c8b1
               try clear c9
               try clear c9b0
               try clear c14
               try clear c14b0
               try clear c17
               try clear c19
               try clear c19b0
               try clear c20
               try clear c20b0
               try clear c21
               try clear c21b0
               try clear c23
               try clear c27
               try clear c27b0
               try clear c28
               try clear c28b0
               try clear c29
               try clear c29b0
               try clear c30
               try clear c30b0
               try clear c31
               try clear c31b0
               try clear c32
               try clear c32b0
               try clear c33
               try clear c33b0
               try clear c33b1
               try clear c35
               try clear p35
               try clear q35
               try clear hx35
               try clear c36
               try clear p36
               try clear q36
               try clear hx36
               try clear c37
               try clear c37b0
               try clear hcz11_0
               try clear hcz11_1
               try clear hcz11_2
               try clear hcz12_0
               try clear hcz12_1
               try clear hcz12_2
               try clear hcz13_0
               try clear hcz13_1
               try clear hcz13_2
               try clear hcz16_0
               try clear hcz16_1
               try clear hcz16_2
               try clear hcz18_0
               try clear hcz18_1
               try clear hcz18_2
               try clear hcz24_0
               try clear hcz24_1
               try clear hcz24_2
               try clear hcz25_0
               try clear hcz25_1
               try clear hcz25_2
               try clear hcz26_0
               try clear hcz26_1
               try clear hcz26_2
               try clear hcz34_0
               try clear hcz34_1
               try clear hcz34_2
               try clear hcz35_0
               try clear hcz35_1
               try clear hcz35_2
               try clear hcz36_0
               try clear hcz36_1
               try clear hcz36_2
               try clear hfz11_0
               try clear hfz11_1
               try clear hfz11_2
               try clear hfz12_0
               try clear hfz12_1
               try clear hfz12_2
               try clear hfz13_0
               try clear hfz13_1
               try clear hfz13_2
               try clear hfz16_0
               try clear hfz16_1
               try clear hfz16_2
               try clear hfz18_0
               try clear hfz18_1
               try clear hfz18_2
               try clear hfz24_0
               try clear hfz24_1
               try clear hfz24_2
               try clear hfz25_0
               try clear hfz25_1
               try clear hfz25_2
               try clear hfz26_0
               try clear hfz26_1
               try clear hfz26_2
               try clear hfz34_0
               try clear hfz34_1
               try clear hfz34_2
               try clear hfz35_0
               try clear hfz35_1
               try clear hfz35_2
               try clear hfz36_0
               try clear hfz36_1
               try clear hfz36_2
               try clear hx357_0
               try clear hx357_1
               try clear hx359_0
               try clear hx359_1
               try clear hx360_0
               try clear hx360_1
               try clear p2
               try clear p3
               try clear p35
               try clear p357
               try clear p359
               try clear p36
               try clear p360
               try clear p6
               try clear q3
               try clear q35
               try clear q357
               try clear q359
               try clear q36
               try clear q360
               obtain ⟨x78_5, rfl, HA, HK5, BKaf, HB⟩ := hrel
               cases gk with
               | zero => exact absurd HA.out (by simp [arboretref01_wrong.l4])
               | succ k5 =>
                have H := HA.out; clear HA; simp only [arboretref01_wrong.l4] at H
                by_cases c38 : x78_5 < x74_4
                ·rw [if_pos c38] at H; have c38b0 : decide (x78_5 < x74_4) = true := decide_eq_true c38; clear c38
                 by_cases c39 : 0 ≤ x78_5
                 ·rw [if_pos c39] at H; have c39b0 : decide (0 ≤ x78_5) = true := decide_eq_true c39; clear c39
                  by_cases c40 : x78_5 < (l0_2.length : Int)
                  ·rw [if_pos c40] at H; have c40b0 : decide (x78_5 < (l0_2.length : Int)) = true := decide_eq_true c40; clear c40
                   by_cases c41 : 0 ≤ x74_4
                   ·rw [if_pos c41] at H; have c41b0 : decide (0 ≤ x74_4) = true := decide_eq_true c41; clear c41
                    by_cases c42 : x74_4 < (l0_2.length : Int)
                    ·rw [if_pos c42] at H; have c42b0 : decide (x74_4 < (l0_2.length : Int)) = true := decide_eq_true c42; clear c42
                     by_cases c43 : ((rd_T30 l0_2 x78_5).f0).toList = ((rd_T30 l0_2 x74_4).f0).toList
                     ·rw [if_pos c43] at H; have c43b0 : (((rd_T30 l0_2 x78_5).f0).toList == ((rd_T30 l0_2 x74_4).f0).toList) = true := beq_iff_eq.mpr c43; have c43b1 : (((rd_T30 l0_2 x78_5).f0).toList != ((rd_T30 l0_2 x74_4).f0).toList) = false := bne_eq_false_iff_eq.mpr c43; clear c43; obtain rfl := Option.some.inj H; have hcz44_0 : wr.cell? ⟨gbaf, 0, none⟩ = some (.string a0_0) := (blk_cell BKaf.out 0).trans rfl; have hcz44_1 : wr.cell? ⟨gbaf, 1, none⟩ = some (.slice A0_1 l0_1.length c0_1) := (blk_cell BKaf.out 1).trans rfl; have hcz44_2 : wr.cell? ⟨gbaf, 2, none⟩ = some (.slice A0_2 l0_2.length c0_2) := (blk_cell BKaf.out 2).trans rfl; have hfz44_0 := blk_frozen BKaf.out 0; have hfz44_1 := blk_frozen BKaf.out 1; have hfz44_2 := blk_frozen BKaf.out 2; have p361 : 0 ≤ (x78_5 : Int) := of_decide_eq_true Zq4; have q361 : x78_5 < (l0_2.length : Int) := of_decide_eq_true Zq4; obtain ⟨adcf, Acf_1, ccf_1, Acf_2, ccf_2, e361, hx361_0, hx361_1, hx361_2, hl361_1, hi361_1, hl361_2, hi361_2⟩ := at_T30 HR0_2.out x78_5 p361 q361
                      cases e361
                      replace hx361_0 := (HB.out.cell (World.block_lt_of_cell? w _ hx361_0)).trans hx361_0; replace hx361_1 := (HB.out.cell (World.block_lt_of_cell? w _ hx361_1)).trans hx361_1; replace hx361_2 := (HB.out.cell (World.block_lt_of_cell? w _ hx361_2)).trans hx361_2; have HRcf_1 := Ak hi361_1; have HCcf_1 := Ak hl361_1; clear hi361_1 hl361_1; have HRcf_2 := Ak hi361_2; have HCcf_2 := Ak hl361_2; clear hi361_2 hl361_2; replace p361 := eq_true p361; replace q361 := eq_true q361; have p362 : 0 ≤ (x74_4 : Int) := of_decide_eq_true Zq4; have q362 : x74_4 < (l0_2.length : Int) := of_decide_eq_true Zq4; obtain ⟨adcg, Acg_1, ccg_1, Acg_2, ccg_2, e362, hx362_0, hx362_1, hx362_2, hl362_1, hi362_1, hl362_2, hi362_2⟩ := at_T30 HR0_2.out x74_4 p362 q362
                      obtain rfl : adcf = adcg := (by injection e362)
                      replace hx362_0 := (HB.out.cell (World.block_lt_of_cell? w _ hx362_0)).trans hx362_0; replace hx362_1 := (HB.out.cell (World.block_lt_of_cell? w _ hx362_1)).trans hx362_1; replace hx362_2 := (HB.out.cell (World.block_lt_of_cell? w _ hx362_2)).trans hx362_2; have HRcg_1 := Ak hi362_1; have HCcg_1 := Ak hl362_1; clear hi362_1 hl362_1; have HRcg_2 := Ak hi362_2; have HCcg_2 := Ak hl362_2; clear hi362_2 hl362_2; replace p362 := eq_true p362; replace q362 := eq_true q362
                      go_wp2
                      repeat (go_quiet (fail); try go_wp2)
                      go_ret
                      exact ⟨Zq11, Zq21⟩
                     ·rw [if_neg c43] at H; have c43b0 : (((rd_T30 l0_2 x78_5).f0).toList == ((rd_T30 l0_2 x74_4).f0).toList) = false := beq_eq_false_iff_ne.mpr c43; have c43b1 : (((rd_T30 l0_2 x78_5).f0).toList != ((rd_T30 l0_2 x74_4).f0).toList) = true := bne_iff_ne.mpr c43; have H' := Ak H; clear H; have hcz45_0 : wr.cell? ⟨gbaf, 0, none⟩ = some (.string a0_0) := (blk_cell BKaf.out 0).trans rfl; have hcz45_1 : wr.cell? ⟨gbaf, 1, none⟩ = some (.slice A0_1 l0_1.length c0_1) := (blk_cell BKaf.out 1).trans rfl; have hcz45_2 : wr.cell? ⟨gbaf, 2, none⟩ = some (.slice A0_2 l0_2.length c0_2) := (blk_cell BKaf.out 2).trans rfl; have hfz45_0 := blk_frozen BKaf.out 0; have hfz45_1 := blk_frozen BKaf.out 1; have hfz45_2 := blk_frozen BKaf.out 2; have p361 : 0 ≤ (x78_5 : Int) := of_decide_eq_true Zq4; have q361 : x78_5 < (l0_2.length : Int) := of_decide_eq_true Zq4; obtain ⟨adcf, Acf_1, ccf_1, Acf_2, ccf_2, e361, hx361_0, hx361_1, hx361_2, hl361_1, hi361_1, hl361_2, hi361_2⟩ := at_T30 HR0_2.out x78_5 p361 q361
                      cases e361
                      replace hx361_0 := (HB.out.cell (World.block_lt_of_cell? w _ hx361_0)).trans hx361_0; replace hx361_1 := (HB.out.cell (World.block_lt_of_cell? w _ hx361_1)).trans hx361_1; replace hx361_2 := (HB.out.cell (World.block_lt_of_cell? w _ hx361_2)).trans hx361_2; have HRcf_1 := Ak hi361_1; have HCcf_1 := Ak hl361_1; clear hi361_1 hl361_1; have HRcf_2 := Ak hi361_2; have HCcf_2 := Ak hl361_2; clear hi361_2 hl361_2; replace p361 := eq_true p361; replace q361 := eq_true q361; have p362 : 0 ≤ (x74_4 : Int) := of_decide_eq_true Zq4; have q362 : x74_4 < (l0_2.length : Int) := of_decide_eq_true Zq4; obtain ⟨adcg, Acg_1, ccg_1, Acg_2, ccg_2, e362, hx362_0, hx362_1, hx362_2, hl362_1, hi362_1, hl362_2, hi362_2⟩ := at_T30 HR0_2.out x74_4 p362 q362
                      obtain rfl : adcf = adcg := (by injection e362)
                      replace hx362_0 := (HB.out.cell (World.block_lt_of_cell? w _ hx362_0)).trans hx362_0; replace hx362_1 := (HB.out.cell (World.block_lt_of_cell? w _ hx362_1)).trans hx362_1; replace hx362_2 := (HB.out.cell (World.block_lt_of_cell? w _ hx362_2)).trans hx362_2; have HRcg_1 := Ak hi362_1; have HCcg_1 := Ak hl362_1; clear hi362_1 hl362_1; have HRcg_2 := Ak hi362_2; have HCcg_2 := Ak hl362_2; clear hi362_2 hl362_2; replace p362 := eq_true p362; replace q362 := eq_true q362
                      go_wp2
                      repeat (go_quiet (fail); try go_wp2)
                      go_roundg k5
                      case measure => have := HJ4.out; have := HK2.out; have := HK3.out; have := HK4.out; have := HK5.out; omega
                      case rel => exact ⟨(wrap64 (x78_5 + 1)), Zq6, H', ⟨Zq63⟩, ⟨Zq30⟩, ⟨Zq21⟩⟩
                    ·rw [if_neg c42] at H; exact absurd H Zq9
                   ·rw [if_neg c41] at H; exact absurd H Zq9
                  ·rw [if_neg c40] at H; exact absurd H Zq9
                 ·rw [if_neg c39] at H; exact absurd H Zq9
                ·rw [if_neg c38] at H; have c38b0 : decide (x78_5 < x74_4) = false := decide_eq_false c38; clear c38; have H' := Ak H; clear H
                 go_wp2
                 repeat (go_quiet (fail); try go_wp2)
                 go_roundg k5
                 case measure => have := HJ4.out; have := HK2.out; have := HK3.out; have := HK4.out; have := HK5.out; omega
                 case rel => exact ⟨(wrap64 (x74_4 + 1)), Zq6, H', ⟨Zq63⟩, ⟨Zq30⟩, ⟨Zq21⟩⟩
             ·rw [if_neg c37] at H; have c37b0 : decide (x74_4 < (l0_2.length : Int)) = false := decide_eq_false c37; clear c37; have H' := Ak H; clear H; have hcz46_0 : wr.cell? ⟨gbaf, 0, none⟩ = some (.string a0_0) := (blk_cell BKaf.out 0).trans rfl; have hcz46_1 : wr.cell? ⟨gbaf, 1, none⟩ = some (.slice A0_1 l0_1.length c0_1) := (blk_cell BKaf.out 1).trans rfl; have hcz46_2 : wr.cell? ⟨gbaf, 2, none⟩ = some (.slice A0_2 l0_2.length c0_2) := (blk_cell BKaf.out 2).trans rfl; have hfz46_0 := blk_frozen BKaf.out 0; have hfz46_1 := blk_frozen BKaf.out 1; have hfz46_2 := blk_frozen BKaf.out 2
              go_wp2
              repeat (go_quiet (fail); try go_wp2)
              go_loopg [99] k4 (fun kq v99 w' => ∃ (x99_5 : Int), v99 = .int .i64 x99_5 ∧ Aside0 (arboretref01_wrong.l5 kq a1 (l0_2.length : Int) x99_5 a0_0 l0_1 l0_2 = some r) ∧ Aside0 (kq ≤ k4) ∧ Aside0 (w'.heap[gbaf]? = some (.cells #[.string a0_0, (.slice A0_1 l0_1.length c0_1), (.slice A0_2 l0_2.length c0_2)] 30 (0, 0))) ∧ Aside0 (Below w.heap.size w w'))
              case atStart => exact ⟨(0), Zq6, H', ⟨Nat.le_refl _⟩, ⟨Zq30⟩, ⟨Zq21⟩⟩
              case round =>
               clear H'
               try clear c1
               try clear c2
               try clear p2
               try clear c3
               try clear c3b0
               try clear p3
               try clear q3
               try clear hx3
               try clear c4
               try clear p6
               try clear c7
               try clear c7b0
               try clear c7b1
               try clear c8
               try clear c8b0
               try clear c8b1
               try clear c9
               try clear c9b0
               try clear c14
               try clear c14b0
               try clear c17
               try clear c19
               try clear c19b0
               try clear c20
               try clear c20b0
               try clear c21
               try clear c21b0
               try clear c23
               try clear c27
               try clear c27b0
               try clear c28
               try clear c28b0
               try clear c29
               try clear c29b0
               try clear c30
               try clear c30b0
               try clear c31
               try clear c31b0
               try clear c32
               try clear c32b0
               try clear c33
               try clear c33b0
               try clear c33b1
               try clear c35
               try clear p35
               try clear q35
               try clear hx35
               try clear c36
               try clear p36
               try clear q36
               try clear hx36
               try clear c37
               try clear c37b0
               try clear c38
               try clear c38b0
               try clear c39
               try clear c39b0
               try clear c40
               try clear c40b0
               try clear c41
               try clear c41b0
               try clear c42
               try clear c42b0
               try clear c43
               try clear c43b0
               try clear c43b1
               try clear hcz11_0
               try clear hcz11_1
               try clear hcz11_2
               try clear hcz12_0
               try clear hcz12_1
               try clear hcz12_2
               try clear hcz13_0
               try clear hcz13_1
               try clear hcz13_2
               try clear hcz16_0
               try clear hcz16_1
               try clear hcz16_2
               try clear hcz18_0
               try clear hcz18_1
               try clear hcz18_2
               try clear hcz24_0
               try clear hcz24_1
               try clear hcz24_2
               try clear hcz25_0
               try clear hcz25_1
               try clear hcz25_2
               try clear hcz26_0
               try clear hcz26_1
               try clear hcz26_2
               try clear hcz34_0
               try clear hcz34_1
               try clear hcz34_2
               try clear hcz35_0
               try clear hcz35_1
               try clear hcz35_2
               try clear hcz36_0
               try clear hcz36_1
               try clear hcz36_2
               try clear hcz44_0
               try clear hcz44_1
               try clear hcz44_2
               try clear hcz45_0
               try clear hcz45_1
               try clear hcz45_2
               try clear hcz46_0
               try clear hcz46_1
               try clear hcz46_2
               try clear hfz11_0
               try clear hfz11_1
               try clear hfz11_2
               try clear hfz12_0
               try clear hfz12_1
               try clear hfz12_2
               try clear hfz13_0
               try clear hfz13_1
               try clear hfz13_2
               try clear hfz16_0
               try clear hfz16_1
               try clear hfz16_2
               try clear hfz18_0
               try clear hfz18_1
               try clear hfz18_2
               try clear hfz24_0
               try clear hfz24_1
               try clear hfz24_2
               try clear hfz25_0
               try clear hfz25_1
               try clear hfz25_2
               try clear hfz26_0
               try clear hfz26_1
               try clear hfz26_2
               try clear hfz34_0
               try clear hfz34_1
               try clear hfz34_2
               try clear hfz35_0
               try clear hfz35_1
               try clear hfz35_2
               try clear hfz36_0
               try clear hfz36_1
               try clear hfz36_2
               try clear hfz44_0
               try clear hfz44_1
               try clear hfz44_2
               try clear hfz45_0
               try clear hfz45_1
               try clear hfz45_2
               try clear hfz46_0
               try clear hfz46_1
               try clear hfz46_2
               try clear hx357_0
               try clear hx357_1
               try clear hx359_0
               try clear hx359_1
               try clear hx360_0
               try clear hx360_1
               try clear hx361_0
               try clear hx361_1
               try clear hx361_2
               try clear hx362_0
               try clear hx362_1
               try clear hx362_2
               try clear p2
               try clear p3
               try clear p35
               try clear p357
               try clear p359
               try clear p36
               try clear p360
               try clear p361
               try clear p362
               try clear p6
               try clear q3
               try clear q35
               try clear q357
               try clear q359
               try clear q36
               try clear q360
               try clear q361
               try clear q362
               obtain ⟨x99_5, rfl, HA, HK5, BKaf, HB⟩ := hrel
               cases gk with
               | zero => exact absurd HA.out (by simp [arboretref01_wrong.l5])
               | succ k5 =>
                have H := HA.out; clear HA; simp only [arboretref01_wrong.l5] at H
                by_cases c47 : x99_5 < (l0_2.length : Int)
                ·rw [if_pos c47] at H; have c47b0 : decide (x99_5 < (l0_2.length : Int)) = true := decide_eq_true c47; clear c47
                 by_cases c48 : 0 ≤ x99_5
                 ·rw [if_pos c48] at H; have c48b0 : decide (0 ≤ x99_5) = true := decide_eq_true c48; clear c48
                  by_cases c49 : x99_5 < (l0_2.length : Int)
                  ·rw [if_pos c49] at H; have c49b0 : decide (x99_5 < (l0_2.length : Int)) = true := decide_eq_true c49; clear c49; replace H := Option.bind_eq_some_iff.mp H; obtain ⟨tcx, AeK, H⟩ := H; replace H : (if tcx = 0 then (arboretref01_wrong.l5 k5 a1 (l0_2.length : Int) (wrap64 (x99_5 + 1)) a0_0 l0_1 l0_2) else (some tcx)) = some r := H; have A50 := Ak AeK; clear AeK
                   by_cases c51 : tcx = 0
                   ·rw [if_pos c51] at H; have c51b0 : (tcx == 0) = true := beq_iff_eq.mpr c51; have c51b1 : (tcx != 0) = false := bne_eq_false_iff_eq.mpr c51; clear c51; have H' := Ak H; clear H; have hcz52_0 : wr.cell? ⟨gbaf, 0, none⟩ = some (.string a0_0) := (blk_cell BKaf.out 0).trans rfl; have hcz52_1 : wr.cell? ⟨gbaf, 1, none⟩ = some (.slice A0_1 l0_1.length c0_1) := (blk_cell BKaf.out 1).trans rfl; have hcz52_2 : wr.cell? ⟨gbaf, 2, none⟩ = some (.slice A0_2 l0_2.length c0_2) := (blk_cell BKaf.out 2).trans rfl; have hfz52_0 := blk_frozen BKaf.out 0; have hfz52_1 := blk_frozen BKaf.out 1; have hfz52_2 := blk_frozen BKaf.out 2; have p363 : 0 ≤ (x99_5 : Int) := of_decide_eq_true Zq4; have q363 : x99_5 < (l0_2.length : Int) := of_decide_eq_true Zq4; obtain ⟨adbF, AbF_1, cbF_1, AbF_2, cbF_2, e363, hx363_0, hx363_1, hx363_2, hl363_1, hi363_1, hl363_2, hi363_2⟩ := at_T30 HR0_2.out x99_5 p363 q363
                    cases e363
                    replace hx363_0 := (HB.out.cell (World.block_lt_of_cell? w _ hx363_0)).trans hx363_0; replace hx363_1 := (HB.out.cell (World.block_lt_of_cell? w _ hx363_1)).trans hx363_1; replace hx363_2 := (HB.out.cell (World.block_lt_of_cell? w _ hx363_2)).trans hx363_2; have HRbF_1 := Ak hi363_1; have HCbF_1 := Ak hl363_1; clear hi363_1 hl363_1; have HRbF_2 := Ak hi363_2; have HCbF_2 := Ak hl363_2; clear hi363_2 hl363_2; replace p363 := eq_true p363; replace q363 := eq_true q363
                    go_wp2_with (first | (go_at_call 47; (with_reducible refine (ih k5 Zq63 ((rd_T30 l0_2 x99_5).f0) _ _ ((rd_T30 l0_2 x99_5).f1) _ _ ((rd_T30 l0_2 x99_5).f2) (wrap64 (a1 + 1)) tcx _ ?side1 ?side2 ?side3 ?side4 A50.out).mono ?_); (case side1 => repeat (first | exact Zq238 | (with_reducible refine Kd.C_alloc ?_ _) | (with_reducible refine Kd.C_drewN ?_ _) | (with_reducible refine Kd.C_drew ?_))); (case side2 => exact HCbF_1.out); (case side3 => repeat (first | exact Zq239 | (with_reducible refine Kd.C_alloc ?_ _) | (with_reducible refine Kd.C_drewN ?_ _) | (with_reducible refine Kd.C_drew ?_))); (case side4 => exact HCbF_2.out); rintro e w53 ⟨rfl, hb⟩; have n0_ := Zq158; have n1_ := Zq245; clear BKaf HB; have BKaf := n0_; have HB := n1_; clear n0_ n1_; (try clear hb); (try clear hb2); (try clear hk); (try clear hi)))
                    repeat (go_quiet (first | (go_at_call 47; (with_reducible refine (ih k5 Zq63 ((rd_T30 l0_2 x99_5).f0) _ _ ((rd_T30 l0_2 x99_5).f1) _ _ ((rd_T30 l0_2 x99_5).f2) (wrap64 (a1 + 1)) tcx _ ?side1 ?side2 ?side3 ?side4 A50.out).mono ?_); (case side1 => repeat (first | exact Zq238 | (with_reducible refine Kd.C_alloc ?_ _) | (with_reducible refine Kd.C_drewN ?_ _) | (with_reducible refine Kd.C_drew ?_))); (case side2 => exact HCbF_1.out); (case side3 => repeat (first | exact Zq239 | (with_reducible refine Kd.C_alloc ?_ _) | (with_reducible refine Kd.C_drewN ?_ _) | (with_reducible refine Kd.C_drew ?_))); (case side4 => exact HCbF_2.out); rintro e w53 ⟨rfl, hb⟩; have n0_ := Zq158; have n1_ := Zq245; clear BKaf HB; have BKaf := n0_; have HB := n1_; clear n0_ n1_; (try clear hb); (try clear hb2); (try clear hk); (try clear hi))); try go_wp2_with (first | (go_at_call 47; (with_reducible refine (ih k5 Zq63 ((rd_T30 l0_2 x99_5).f0) _ _ ((rd_T30 l0_2 x99_5).f1) _ _ ((rd_T30 l0_2 x99_5).f2) (wrap64 (a1 + 1)) tcx _ ?side1 ?side2 ?side3 ?side4 A50.out).mono ?_); (case side1 => repeat (first | exact Zq238 | (with_reducible refine Kd.C_alloc ?_ _) | (with_reducible refine Kd.C_drewN ?_ _) | (with_reducible refine Kd.C_drew ?_))); (case side2 => exact HCbF_1.out); (case side3 => repeat (first | exact Zq239 | (with_reducible refine Kd.C_alloc ?_ _) | (with_reducible refine Kd.C_drewN ?_ _) | (with_reducible refine Kd.C_drew ?_))); (case side4 => exact HCbF_2.out); rintro e w53 ⟨rfl, hb⟩; have n0_ := Zq158; have n1_ := Zq245; clear BKaf HB; have BKaf := n0_; have HB := n1_; clear n0_ n1_; (try clear hb); (try clear hb2); (try clear hk); (try clear hi))))
                    go_roundg k5
                    case measure => have := HJ4.out; have := HK2.out; have := HK3.out; have := HK4.out; have := HK5.out; omega
                    case rel => exact ⟨(wrap64 (x99_5 + 1)), Zq6, H', ⟨Zq63⟩, ⟨Zq30⟩, ⟨Zq21⟩⟩
                   ·rw [if_neg c51] at H; have c51b0 : (tcx == 0) = false := beq_eq_false_iff_ne.mpr c51; have c51b1 : (tcx != 0) = true := bne_iff_ne.mpr c51; obtain rfl := Option.some.inj H; have hcz54_0 : wr.cell? ⟨gbaf, 0, none⟩ = some (.string a0_0) := (blk_cell BKaf.out 0).trans rfl; have hcz54_1 : wr.cell? ⟨gbaf, 1, none⟩ = some (.slice A0_1 l0_1.length c0_1) := (blk_cell BKaf.out 1).trans rfl; have hcz54_2 : wr.cell? ⟨gbaf, 2, none⟩ = some (.slice A0_2 l0_2.length c0_2) := (blk_cell BKaf.out 2).trans rfl; have hfz54_0 := blk_frozen BKaf.out 0; have hfz54_1 := blk_frozen BKaf.out 1; have hfz54_2 := blk_frozen BKaf.out 2; have p363 : 0 ≤ (x99_5 : Int) := of_decide_eq_true Zq4; have q363 : x99_5 < (l0_2.length : Int) := of_decide_eq_true Zq4; obtain ⟨adbF, AbF_1, cbF_1, AbF_2, cbF_2, e363, hx363_0, hx363_1, hx363_2, hl363_1, hi363_1, hl363_2, hi363_2⟩ := at_T30 HR0_2.out x99_5 p363 q363
                    cases e363
                    replace hx363_0 := (HB.out.cell (World.block_lt_of_cell? w _ hx363_0)).trans hx363_0; replace hx363_1 := (HB.out.cell (World.block_lt_of_cell? w _ hx363_1)).trans hx363_1; replace hx363_2 := (HB.out.cell (World.block_lt_of_cell? w _ hx363_2)).trans hx363_2; have HRbF_1 := Ak hi363_1; have HCbF_1 := Ak hl363_1; clear hi363_1 hl363_1; have HRbF_2 := Ak hi363_2; have HCbF_2 := Ak hl363_2; clear hi363_2 hl363_2; replace p363 := eq_true p363; replace q363 := eq_true q363
                    go_wp2_with (first | (go_at_call 47; (with_reducible refine (ih k5 Zq63 ((rd_T30 l0_2 x99_5).f0) _ _ ((rd_T30 l0_2 x99_5).f1) _ _ ((rd_T30 l0_2 x99_5).f2) (wrap64 (a1 + 1)) tcx _ ?side1 ?side2 ?side3 ?side4 A50.out).mono ?_); (case side1 => repeat (first | exact Zq238 | (with_reducible refine Kd.C_alloc ?_ _) | (with_reducible refine Kd.C_drewN ?_ _) | (with_reducible refine Kd.C_drew ?_))); (case side2 => exact HCbF_1.out); (case side3 => repeat (first | exact Zq239 | (with_reducible refine Kd.C_alloc ?_ _) | (with_reducible refine Kd.C_drewN ?_ _) | (with_reducible refine Kd.C_drew ?_))); (case side4 => exact HCbF_2.out); rintro e w55 ⟨rfl, hb⟩; have n0_ := Zq158; have n1_ := Zq245; clear BKaf HB; have BKaf := n0_; have HB := n1_; clear n0_ n1_; (try clear hb); (try clear hb2); (try clear hk); (try clear hi)))
                    repeat (go_quiet (first | (go_at_call 47; (with_reducible refine (ih k5 Zq63 ((rd_T30 l0_2 x99_5).f0) _ _ ((rd_T30 l0_2 x99_5).f1) _ _ ((rd_T30 l0_2 x99_5).f2) (wrap64 (a1 + 1)) tcx _ ?side1 ?side2 ?side3 ?side4 A50.out).mono ?_); (case side1 => repeat (first | exact Zq238 | (with_reducible refine Kd.C_alloc ?_ _) | (with_reducible refine Kd.C_drewN ?_ _) | (with_reducible refine Kd.C_drew ?_))); (case side2 => exact HCbF_1.out); (case side3 => repeat (first | exact Zq239 | (with_reducible refine Kd.C_alloc ?_ _) | (with_reducible refine Kd.C_drewN ?_ _) | (with_reducible refine Kd.C_drew ?_))); (case side4 => exact HCbF_2.out); rintro e w55 ⟨rfl, hb⟩; have n0_ := Zq158; have n1_ := Zq245; clear BKaf HB; have BKaf := n0_; have HB := n1_; clear n0_ n1_; (try clear hb); (try clear hb2); (try clear hk); (try clear hi))); try go_wp2_with (first | (go_at_call 47; (with_reducible refine (ih k5 Zq63 ((rd_T30 l0_2 x99_5).f0) _ _ ((rd_T30 l0_2 x99_5).f1) _ _ ((rd_T30 l0_2 x99_5).f2) (wrap64 (a1 + 1)) tcx _ ?side1 ?side2 ?side3 ?side4 A50.out).mono ?_); (case side1 => repeat (first | exact Zq238 | (with_reducible refine Kd.C_alloc ?_ _) | (with_reducible refine Kd.C_drewN ?_ _) | (with_reducible refine Kd.C_drew ?_))); (case side2 => exact HCbF_1.out); (case side3 => repeat (first | exact Zq239 | (with_reducible refine Kd.C_alloc ?_ _) | (with_reducible refine Kd.C_drewN ?_ _) | (with_reducible refine Kd.C_drew ?_))); (case side4 => exact HCbF_2.out); rintro e w55 ⟨rfl, hb⟩; have n0_ := Zq158; have n1_ := Zq245; clear BKaf HB; have BKaf := n0_; have HB := n1_; clear n0_ n1_; (try clear hb); (try clear hb2); (try clear hk); (try clear hi))))
                    go_ret
                    exact ⟨Zq11, Zq21⟩
                  ·rw [if_neg c49] at H; exact absurd H Zq9
                 ·rw [if_neg c48] at H; exact absurd H Zq9
                ·rw [if_neg c47] at H; have c47b0 : decide (x99_5 < (l0_2.length : Int)) = false := decide_eq_false c47; clear c47; obtain rfl := Option.some.inj H
                 go_wp2
                 repeat (go_quiet (fail); try go_wp2)
                 go_ret
                 exact ⟨Zq11, Zq21⟩
end Go.Proofs.Yteejaaeglfpcmab.PX

namespace Go.Proofs.Yteejaaeglfpcmab.PX
open Go.RowKit Go.Proofs.YteejaaeglfpcmabW.PrintWords Go.Proofs.YteejaaeglfpcmabW.PrintLast Go.Proofs.YteejaaeglfpcmabW.PrintMore
attribute [local go_sem] max2_int min2_int max_two min_two max_three min_three max_four min_four
mutual
def arboretref01_Check.j0 : Nat → Bool → Int → List (S94) → ByteArray → List (S77) → List (S30) → Option (Int)
 | 0, _, _, _, _, _, _ => none
 | k + 1, x30, xeY, xdW, xeZ, xfa, xfb => if x30 = true then (some 7) else (arboretref01_Check.l0 k (xdW.length : Int) 0 xeY xdW xeZ xfa xfb)
def arboretref01_Check.l0 : Nat → Int → Int → Int → List (S94) → ByteArray → List (S77) → List (S30) → Option (Int)
 | 0, _, _, _, _, _, _, _ => none
 | k + 1, x33, x34, xeY, xdW, xeZ, xfa, xfb => if x34 < x33 then (if 0 ≤ x34 then (if x34 < (xdW.length : Int) then (if ((rd_T94 xdW x34).f0) = 0 then (if ((rd_T94 xdW x34).f1) = 0 then (some 7) else (arboretref01_Check.l0 k x33 (wrap64 (x34 + 1)) xeY xdW xeZ xfa xfb)) else (arboretref01_Check.l0 k x33 (wrap64 (x34 + 1)) xeY xdW xeZ xfa xfb)) else (none)) else (none)) else (some 0)
end
def arboretref01_Check.f (k : Nat) (a0_0 : Int) (l0_1 : List (S94)) (a0_2 : ByteArray) (l0_3 : List (S77)) (l0_4 : List (S30)) : Option (Int) := (arboretref01_wrong.f k a0_2 l0_3 l0_4 1).bind fun tcE => (if tcE = 0 then ((arboretref01_Count.f k a0_2 l0_3 l0_4).bind fun btcH => (if btcH.1 > 4096 then (arboretref01_Check.j0 k true a0_0 l0_1 a0_2 l0_3 l0_4) else (if btcH.2 > 8192 then (arboretref01_Check.j0 k true a0_0 l0_1 a0_2 l0_3 l0_4) else (arboretref01_Check.j0 k (decide ((l0_1.length : Int) > 64)) a0_0 l0_1 a0_2 l0_3 l0_4)))) else (some tcE))
theorem arboretref01_Check.mono_l : ∀ k, (∀ y0 y1 y2 y3 y4 y5, LeO (arboretref01_Check.j0 k y0 y1 y2 y3 y4 y5) (arboretref01_Check.j0 (k + 1) y0 y1 y2 y3 y4 y5)) ∧ (∀ y0 y1 y2 y3 y4 y5 y6, LeO (arboretref01_Check.l0 k y0 y1 y2 y3 y4 y5 y6) (arboretref01_Check.l0 (k + 1) y0 y1 y2 y3 y4 y5 y6))
 | 0 => ⟨fun _ _ _ _ _ _ r h => by simp [arboretref01_Check.j0] at h, fun _ _ _ _ _ _ _ r h => by simp [arboretref01_Check.l0] at h⟩
 | k + 1 => by
  obtain ⟨ih0, ih1⟩ := arboretref01_Check.mono_l k; refine ⟨?_, ?_⟩
  ·intro y0 y1 y2 y3 y4 y5; unfold arboretref01_Check.j0
   repeat' first | (with_reducible first | exact ih0 _ _ _ _ _ _ | exact ih1 _ _ _ _ _ _ _ | exact arboretref01_Count.mono _ _ _ _ | exact arboretref01_wrong.mono _ _ _ _ _ | exact LeO.refl _ | exact LeO.none _ | refine LeO.ite ?_ ?_ | refine LeO.bind ?_ (fun _ => ?_))
  ·intro y0 y1 y2 y3 y4 y5 y6; unfold arboretref01_Check.l0
   repeat' first | (with_reducible first | exact ih0 _ _ _ _ _ _ | exact ih1 _ _ _ _ _ _ _ | exact arboretref01_Count.mono _ _ _ _ | exact arboretref01_wrong.mono _ _ _ _ _ | exact LeO.refl _ | exact LeO.none _ | refine LeO.ite ?_ ?_ | refine LeO.bind ?_ (fun _ => ?_))
theorem arboretref01_Check.mono : ∀ a0 a1 a2 a3 a4 k, LeO (arboretref01_Check.f k a0 a1 a2 a3 a4) (arboretref01_Check.f (k + 1) a0 a1 a2 a3 a4) := by
 intro a0 a1 a2 a3 a4 k; obtain ⟨ih0, ih1⟩ := arboretref01_Check.mono_l k; unfold arboretref01_Check.f
 repeat' first | (with_reducible first | exact ih0 _ _ _ _ _ _ | exact ih1 _ _ _ _ _ _ _ | exact arboretref01_Count.mono _ _ _ _ | exact arboretref01_wrong.mono _ _ _ _ _ | exact LeO.refl _ | exact LeO.none _ | refine LeO.ite ?_ ?_ | refine LeO.bind ?_ (fun _ => ?_))
set_option maxHeartbeats 8000000 in
set_option maxRecDepth 100000 in
theorem arboretref01_Check.calls (k : Nat) (a0_0 : Int) (A0_1 : Option Addr) (c0_1 : Nat) (l0_1 : List (S94)) (a0_2 : ByteArray) (A0_3 : Option Addr) (c0_3 : Nat) (l0_3 : List (S77)) (A0_4 : Option Addr) (c0_4 : Nat) (l0_4 : List (S30)) (r : Int) (w : World) (hr0_1 : Kd.C k94 w A0_1 l0_1.length l0_1) (hc0_1 : l0_1.length ≤ c0_1) (hr0_3 : Kd.C k77 w A0_3 l0_3.length l0_3) (hc0_3 : l0_3.length ≤ c0_3) (hr0_4 : Kd.C k30 w A0_4 l0_4.length l0_4) (hc0_4 : l0_4.length ≤ c0_4) (h : arboretref01_Check.f k a0_0 l0_1 a0_2 l0_3 l0_4 = some r) :
  Calls Try.prog 19 #[.agg #[.int .u32 a0_0, .slice A0_1 l0_1.length c0_1, .string a0_2, .slice A0_3 l0_3.length c0_3, .slice A0_4 l0_4.length c0_4]] w fun e w' => e = .returned (.int .i64 r) ∧ Below w.heap.size w w' := by
 have hu35 := Try.underlying35; have hu30 := Try.underlying30; have HR0_1 := Ak hr0_1; have HC0_1 := Ak hc0_1; clear hr0_1 hc0_1; have HR0_3 := Ak hr0_3; have HC0_3 := Ak hc0_3; clear hr0_3 hc0_3; have HR0_4 := Ak hr0_4; have HC0_4 := Ak hc0_4; clear hr0_4 hc0_4; have HB := Zq145; have H : ((arboretref01_wrong.f k a0_2 l0_3 l0_4 1).bind fun tcE => (if tcE = 0 then ((arboretref01_Count.f k a0_2 l0_3 l0_4).bind fun btcH => (if btcH.1 > 4096 then (arboretref01_Check.j0 k true a0_0 l0_1 a0_2 l0_3 l0_4) else (if btcH.2 > 8192 then (arboretref01_Check.j0 k true a0_0 l0_1 a0_2 l0_3 l0_4) else (arboretref01_Check.j0 k (decide ((l0_1.length : Int) > 64)) a0_0 l0_1 a0_2 l0_3 l0_4)))) else (some tcE))) = some r := h; clear h; replace H := Option.bind_eq_some_iff.mp H; obtain ⟨tcE, A20, H⟩ := H; replace H : (if tcE = 0 then ((arboretref01_Count.f k a0_2 l0_3 l0_4).bind fun btcH => (if btcH.1 > 4096 then (arboretref01_Check.j0 k true a0_0 l0_1 a0_2 l0_3 l0_4) else (if btcH.2 > 8192 then (arboretref01_Check.j0 k true a0_0 l0_1 a0_2 l0_3 l0_4) else (arboretref01_Check.j0 k (decide ((l0_1.length : Int) > 64)) a0_0 l0_1 a0_2 l0_3 l0_4)))) else (some tcE)) = some r := H; have A2 := Ak A20; clear A20
 by_cases c3 : tcE = 0
 ·rw [if_pos c3] at H; have c3b0 : (tcE == 0) = true := beq_iff_eq.mpr c3; have c3b1 : (tcE != 0) = false := bne_eq_false_iff_eq.mpr c3; clear c3; replace H := Option.bind_eq_some_iff.mp H; obtain ⟨⟨tcH, teL⟩, A40, H⟩ := H; replace H : (if tcH > 4096 then (arboretref01_Check.j0 k true a0_0 l0_1 a0_2 l0_3 l0_4) else (if teL > 8192 then (arboretref01_Check.j0 k true a0_0 l0_1 a0_2 l0_3 l0_4) else (arboretref01_Check.j0 k (decide ((l0_1.length : Int) > 64)) a0_0 l0_1 a0_2 l0_3 l0_4))) = some r := H; have A4 := Ak A40; clear A40; have HC5 := Ak H; clear H
  go_enter Try.func19, Try.ntmps19
  go_upto_region 5 with (first | ((with_reducible refine gate_dst (N := 1) rfl ?_); (try (refine gate_guard Zq3 ?_; dsimp only)); refine box_event ?hg (N := 1) ?hd (cs := #[.int .u32 a0_0, .slice A0_1 l0_1.length c0_1, .string a0_2, .slice A0_3 l0_3.length c0_3, .slice A0_4 l0_4.length c0_4]) (t := 35) ?hr ?_; (case hd | hg => rfl); (case hr => first | (go_simp; done) | (go_simp; rfl)); intro gbam hg w6 hbox hb; have n0_ := Zq140; have n1_ := Ak (hbox); have n2_ := Zq227; have n3_ := Zq227; clear HB; have HB := n0_; have BKam := n1_; have GWam := n2_; have GEam := n3_; clear n0_ n1_ n2_ n3_ hb hbox hg; have hcz7_0 : w6.cell? ⟨gbam, 0, none⟩ = some (.int .u32 a0_0) := (blk_cell BKam.out 0).trans rfl; have hcz7_1 : w6.cell? ⟨gbam, 1, none⟩ = some (.slice A0_1 l0_1.length c0_1) := (blk_cell BKam.out 1).trans rfl; have hcz7_2 : w6.cell? ⟨gbam, 2, none⟩ = some (.string a0_2) := (blk_cell BKam.out 2).trans rfl; have hcz7_3 : w6.cell? ⟨gbam, 3, none⟩ = some (.slice A0_3 l0_3.length c0_3) := (blk_cell BKam.out 3).trans rfl; have hcz7_4 : w6.cell? ⟨gbam, 4, none⟩ = some (.slice A0_4 l0_4.length c0_4) := (blk_cell BKam.out 4).trans rfl; have hfz7_0 := blk_frozen BKam.out 0; have hfz7_1 := blk_frozen BKam.out 1; have hfz7_2 := blk_frozen BKam.out 2; have hfz7_3 := blk_frozen BKam.out 3; have hfz7_4 := blk_frozen BKam.out 4) | ((with_reducible refine gate_callee (f := 47) rfl ?_); refine goesL_ (some 9) rfl rfl Try.func47 Zq2 rfl #[.agg #[.string a0_2, .slice A0_3 l0_3.length c0_3, .slice A0_4 l0_4.length c0_4], .int .i64 1] rfl Zq8 ?_; (with_reducible refine (arboretref01_wrong.calls k a0_2 _ _ l0_3 _ _ l0_4 1 tcE _ ?side1 ?side2 ?side3 ?side4 A2.out).mono ?_); (case side1 => repeat (first | exact Zq181 | (with_reducible refine Kd.C_alloc ?_ _) | (with_reducible refine Kd.C_drewN ?_ _) | (with_reducible refine Kd.C_drew ?_))); (case side2 => exact HC0_3.out); (case side3 => repeat (first | exact Zq182 | (with_reducible refine Kd.C_alloc ?_ _) | (with_reducible refine Kd.C_drewN ?_ _) | (with_reducible refine Kd.C_drew ?_))); (case side4 => exact HC0_4.out); rintro e w8 ⟨rfl, hb⟩; refine ⟨_, rfl, ?_⟩; have n0_ := Zq197; have n1_ := Ak (below_step Zq50 hb); clear BKam HB; have BKam := n0_; have HB := n1_; clear n0_ n1_; (try clear hb); (try clear hb2); (try clear hk); (try clear hi); have hcz9_0 : w8.cell? ⟨gbam, 0, none⟩ = some (.int .u32 a0_0) := (blk_cell BKam.out 0).trans rfl; have hcz9_1 : w8.cell? ⟨gbam, 1, none⟩ = some (.slice A0_1 l0_1.length c0_1) := (blk_cell BKam.out 1).trans rfl; have hcz9_2 : w8.cell? ⟨gbam, 2, none⟩ = some (.string a0_2) := (blk_cell BKam.out 2).trans rfl; have hcz9_3 : w8.cell? ⟨gbam, 3, none⟩ = some (.slice A0_3 l0_3.length c0_3) := (blk_cell BKam.out 3).trans rfl; have hcz9_4 : w8.cell? ⟨gbam, 4, none⟩ = some (.slice A0_4 l0_4.length c0_4) := (blk_cell BKam.out 4).trans rfl; have hfz9_0 := blk_frozen BKam.out 0; have hfz9_1 := blk_frozen BKam.out 1; have hfz9_2 := blk_frozen BKam.out 2; have hfz9_3 := blk_frozen BKam.out 3; have hfz9_4 := blk_frozen BKam.out 4) | ((with_reducible refine gate_callee (f := 30) rfl ?_); refine goesL_ (some 16) rfl rfl Try.func30 Zq2 rfl #[.agg #[.string a0_2, .slice A0_3 l0_3.length c0_3, .slice A0_4 l0_4.length c0_4]] rfl Zq8 ?_; (with_reducible refine (arboretref01_Count.calls k a0_2 _ _ l0_3 _ _ l0_4 tcH teL _ ?side1 ?side2 ?side3 ?side4 A4.out).mono ?_); (case side1 => repeat (first | exact Zq181 | (with_reducible refine Kd.C_alloc ?_ _) | (with_reducible refine Kd.C_drewN ?_ _) | (with_reducible refine Kd.C_drew ?_))); (case side2 => exact HC0_3.out); (case side3 => repeat (first | exact Zq182 | (with_reducible refine Kd.C_alloc ?_ _) | (with_reducible refine Kd.C_drewN ?_ _) | (with_reducible refine Kd.C_drew ?_))); (case side4 => exact HC0_4.out); rintro e w10 ⟨rfl, hb⟩; refine ⟨_, rfl, ?_⟩; have n0_ := Zq197; have n1_ := Ak (below_step Zq50 hb); clear BKam HB; have BKam := n0_; have HB := n1_; clear n0_ n1_; (try clear hb); (try clear hb2); (try clear hk); (try clear hi)))
  (try simp only [Act.put, List.setIfInBounds_toArray, List.set_cons_zero, List.set_cons_succ])
  go_cut [30] (fun v30 wc => ∃ (kq : Nat) (x30_4 : Bool), v30 = .bool x30_4 ∧ Aside0 (arboretref01_Check.j0 kq x30_4 a0_0 l0_1 a0_2 l0_3 l0_4 = some r) ∧ Aside0 (kq ≤ k) ∧ Aside0 (wc.heap[gbam]? = some (.cells #[.int .u32 a0_0, (.slice A0_1 l0_1.length c0_1), .string a0_2, (.slice A0_3 l0_3.length c0_3), (.slice A0_4 l0_4.length c0_4)] 35 (0, 0))) ∧ Aside0 (Below w.heap.size w wc))
  case first =>
   have H := HC5.out; clear HC5
   by_cases c11 : tcH > 4096
   ·rw [if_pos c11] at H; have c11b0 : decide (4096 < tcH) = true := decide_eq_true c11; clear c11
    (first | rw [c11b0] | (simp only [i64_w, i32_w]; rw [c11b0]) | skip)
    have H' := Ak H; clear H
    go_wp2
    go_meet
    case rel => exact ⟨_, (true), Zq6, H', ⟨Zq19⟩, ⟨Zq64⟩, ⟨Zq50⟩⟩
   ·rw [if_neg c11] at H; have c11b0 : decide (4096 < tcH) = false := decide_eq_false c11; clear c11
    (first | rw [c11b0] | (simp only [i64_w, i32_w]; rw [c11b0]) | skip)
    by_cases c12 : teL > 8192
    ·rw [if_pos c12] at H; have c12b0 : decide (8192 < teL) = true := decide_eq_true c12; clear c12; have H' := Ak H; clear H
     go_wp2
     go_meet
     case rel => exact ⟨_, (true), Zq6, H', ⟨Zq19⟩, ⟨Zq64⟩, ⟨Zq50⟩⟩
    ·rw [if_neg c12] at H; have c12b0 : decide (8192 < teL) = false := decide_eq_false c12; clear c12; have H' := Ak H; clear H; have hcz13_0 : w10.cell? ⟨gbam, 0, none⟩ = some (.int .u32 a0_0) := (blk_cell BKam.out 0).trans rfl; have hcz13_1 : w10.cell? ⟨gbam, 1, none⟩ = some (.slice A0_1 l0_1.length c0_1) := (blk_cell BKam.out 1).trans rfl; have hcz13_2 : w10.cell? ⟨gbam, 2, none⟩ = some (.string a0_2) := (blk_cell BKam.out 2).trans rfl; have hcz13_3 : w10.cell? ⟨gbam, 3, none⟩ = some (.slice A0_3 l0_3.length c0_3) := (blk_cell BKam.out 3).trans rfl; have hcz13_4 : w10.cell? ⟨gbam, 4, none⟩ = some (.slice A0_4 l0_4.length c0_4) := (blk_cell BKam.out 4).trans rfl; have hfz13_0 := blk_frozen BKam.out 0; have hfz13_1 := blk_frozen BKam.out 1; have hfz13_2 := blk_frozen BKam.out 2; have hfz13_3 := blk_frozen BKam.out 3; have hfz13_4 := blk_frozen BKam.out 4
     go_wp2
     go_meet
     case rel => exact ⟨_, (decide ((l0_1.length : Int) > 64)), Zq6, H', ⟨Zq19⟩, ⟨Zq64⟩, ⟨Zq50⟩⟩
  case rest =>
   clear HC5
   try clear c1
   try clear p2
   try clear c3
   try clear c3b0
   try clear c3b1
   try clear c4
   try clear c11
   try clear c11b0
   try clear c12
   try clear c12b0
   try clear hcz13_0
   try clear hcz13_1
   try clear hcz13_2
   try clear hcz13_3
   try clear hcz13_4
   try clear hcz7_0
   try clear hcz7_1
   try clear hcz7_2
   try clear hcz7_3
   try clear hcz7_4
   try clear hcz9_0
   try clear hcz9_1
   try clear hcz9_2
   try clear hcz9_3
   try clear hcz9_4
   try clear hfz13_0
   try clear hfz13_1
   try clear hfz13_2
   try clear hfz13_3
   try clear hfz13_4
   try clear hfz7_0
   try clear hfz7_1
   try clear hfz7_2
   try clear hfz7_3
   try clear hfz7_4
   try clear hfz9_0
   try clear hfz9_1
   try clear hfz9_2
   try clear hfz9_3
   try clear hfz9_4
   obtain ⟨kq, x30_4, rfl, HA, HJ4, BKam, HB⟩ := hcut
   cases kq with
   | zero => exact absurd HA.out (by simp [arboretref01_Check.j0])
   | succ kj4 =>
    have H := HA.out; clear HA; simp only [arboretref01_Check.j0] at H
    by_cases c14 : x30_4 = true
    ·subst c14
     have H1 : (some 7) = some r := by rw [if_pos rfl] at H; exact H
     clear H; have H := H1; clear H1; obtain rfl := Option.some.inj H
     go_wp2
     go_ret
     exact ⟨Zq11, Zq50⟩
    ·replace c14 := Bool.eq_false_iff.mpr c14; subst c14
     have H1 : (arboretref01_Check.l0 kj4 (l0_1.length : Int) 0 a0_0 l0_1 a0_2 l0_3 l0_4) = some r := by rw [if_neg (show ¬ (false = true) by decide)] at H; exact H
     clear H; have H := H1; clear H1; have H' := Ak H; clear H; have hcz15_0 : wc.cell? ⟨gbam, 0, none⟩ = some (.int .u32 a0_0) := (blk_cell BKam.out 0).trans rfl; have hcz15_1 : wc.cell? ⟨gbam, 1, none⟩ = some (.slice A0_1 l0_1.length c0_1) := (blk_cell BKam.out 1).trans rfl; have hcz15_2 : wc.cell? ⟨gbam, 2, none⟩ = some (.string a0_2) := (blk_cell BKam.out 2).trans rfl; have hcz15_3 : wc.cell? ⟨gbam, 3, none⟩ = some (.slice A0_3 l0_3.length c0_3) := (blk_cell BKam.out 3).trans rfl; have hcz15_4 : wc.cell? ⟨gbam, 4, none⟩ = some (.slice A0_4 l0_4.length c0_4) := (blk_cell BKam.out 4).trans rfl; have hfz15_0 := blk_frozen BKam.out 0; have hfz15_1 := blk_frozen BKam.out 1; have hfz15_2 := blk_frozen BKam.out 2; have hfz15_3 := blk_frozen BKam.out 3; have hfz15_4 := blk_frozen BKam.out 4
     go_wp2
     go_loopg [34] kj4 (fun kq v34 w' => ∃ (x34_2 : Int), v34 = .int .i64 x34_2 ∧ Aside0 (arboretref01_Check.l0 kq (l0_1.length : Int) x34_2 a0_0 l0_1 a0_2 l0_3 l0_4 = some r) ∧ Aside0 (kq ≤ kj4) ∧ Aside0 (w'.heap[gbam]? = some (.cells #[.int .u32 a0_0, (.slice A0_1 l0_1.length c0_1), .string a0_2, (.slice A0_3 l0_3.length c0_3), (.slice A0_4 l0_4.length c0_4)] 35 (0, 0))) ∧ Aside0 (Below w.heap.size w w'))
     case atStart => exact ⟨(0), Zq6, H', ⟨Nat.le_refl _⟩, ⟨Zq64⟩, ⟨Zq50⟩⟩
     case round =>
      clear H'
      try clear c1
      try clear p2
      try clear c3
      try clear c3b0
      try clear c3b1
      try clear c4
      try clear c11
      try clear c11b0
      try clear c12
      try clear c12b0
      try clear c14
      try clear hcz13_0
      try clear hcz13_1
      try clear hcz13_2
      try clear hcz13_3
      try clear hcz13_4
      try clear hcz15_0
      try clear hcz15_1
      try clear hcz15_2
      try clear hcz15_3
      try clear hcz15_4
      try clear hcz7_0
      try clear hcz7_1
      try clear hcz7_2
      try clear hcz7_3
      try clear hcz7_4
      try clear hcz9_0
      try clear hcz9_1
      try clear hcz9_2
      try clear hcz9_3
      try clear hcz9_4
      try clear hfz13_0
      try clear hfz13_1
      try clear hfz13_2
      try clear hfz13_3
      try clear hfz13_4
      try clear hfz15_0
      try clear hfz15_1
      try clear hfz15_2
      try clear hfz15_3
      try clear hfz15_4
      try clear hfz7_0
      try clear hfz7_1
      try clear hfz7_2
      try clear hfz7_3
      try clear hfz7_4
      try clear hfz9_0
      try clear hfz9_1
      try clear hfz9_2
      try clear hfz9_3
      try clear hfz9_4
      try clear p2
      obtain ⟨x34_2, rfl, HA, HK2, BKam, HB⟩ := hrel
      cases gk with
      | zero => exact absurd HA.out (by simp [arboretref01_Check.l0])
      | succ k2 =>
       have H := HA.out; clear HA; simp only [arboretref01_Check.l0] at H
       by_cases c16 : x34_2 < (l0_1.length : Int)
       ·rw [if_pos c16] at H; have c16b0 : decide (x34_2 < (l0_1.length : Int)) = true := decide_eq_true c16; clear c16
        by_cases c17 : 0 ≤ x34_2
        ·rw [if_pos c17] at H; have c17b0 : decide (0 ≤ x34_2) = true := decide_eq_true c17; clear c17
         by_cases c18 : x34_2 < (l0_1.length : Int)
         ·rw [if_pos c18] at H; have c18b0 : decide (x34_2 < (l0_1.length : Int)) = true := decide_eq_true c18; clear c18
          by_cases c19 : ((rd_T94 l0_1 x34_2).f0) = 0
          ·rw [if_pos c19] at H; have c19b0 : (((rd_T94 l0_1 x34_2).f0) == 0) = true := beq_iff_eq.mpr c19; have c19b1 : (((rd_T94 l0_1 x34_2).f0) != 0) = false := bne_eq_false_iff_eq.mpr c19; clear c19
           by_cases c20 : ((rd_T94 l0_1 x34_2).f1) = 0
           ·rw [if_pos c20] at H; have c20b0 : (((rd_T94 l0_1 x34_2).f1) == 0) = true := beq_iff_eq.mpr c20; have c20b1 : (((rd_T94 l0_1 x34_2).f1) != 0) = false := bne_eq_false_iff_eq.mpr c20; clear c20; obtain rfl := Option.some.inj H; have hcz21_0 : wr.cell? ⟨gbam, 0, none⟩ = some (.int .u32 a0_0) := (blk_cell BKam.out 0).trans rfl; have hcz21_1 : wr.cell? ⟨gbam, 1, none⟩ = some (.slice A0_1 l0_1.length c0_1) := (blk_cell BKam.out 1).trans rfl; have hcz21_2 : wr.cell? ⟨gbam, 2, none⟩ = some (.string a0_2) := (blk_cell BKam.out 2).trans rfl; have hcz21_3 : wr.cell? ⟨gbam, 3, none⟩ = some (.slice A0_3 l0_3.length c0_3) := (blk_cell BKam.out 3).trans rfl; have hcz21_4 : wr.cell? ⟨gbam, 4, none⟩ = some (.slice A0_4 l0_4.length c0_4) := (blk_cell BKam.out 4).trans rfl; have hfz21_0 := blk_frozen BKam.out 0; have hfz21_1 := blk_frozen BKam.out 1; have hfz21_2 := blk_frozen BKam.out 2; have hfz21_3 := blk_frozen BKam.out 3; have hfz21_4 := blk_frozen BKam.out 4; have p369 : 0 ≤ (x34_2 : Int) := of_decide_eq_true Zq4; have q369 : x34_2 < (l0_1.length : Int) := of_decide_eq_true Zq4; obtain ⟨adfc, e369, hx369_0, hx369_1⟩ := at_T94 HR0_1.out x34_2 p369 q369
            cases e369
            replace hx369_0 := (HB.out.cell (World.block_lt_of_cell? w _ hx369_0)).trans hx369_0; replace hx369_1 := (HB.out.cell (World.block_lt_of_cell? w _ hx369_1)).trans hx369_1; replace p369 := eq_true p369; replace q369 := eq_true q369; have p370 : 0 ≤ (x34_2 : Int) := of_decide_eq_true Zq4; have q370 : x34_2 < (l0_1.length : Int) := of_decide_eq_true Zq4; obtain ⟨adfp, e370, hx370_0, hx370_1⟩ := at_T94 HR0_1.out x34_2 p370 q370
            obtain rfl : adfc = adfp := (by injection e370)
            replace hx370_0 := (HB.out.cell (World.block_lt_of_cell? w _ hx370_0)).trans hx370_0; replace hx370_1 := (HB.out.cell (World.block_lt_of_cell? w _ hx370_1)).trans hx370_1; replace p370 := eq_true p370; replace q370 := eq_true q370
            go_wp2
            go_ret
            exact ⟨Zq11, Zq50⟩
           ·rw [if_neg c20] at H; have c20b0 : (((rd_T94 l0_1 x34_2).f1) == 0) = false := beq_eq_false_iff_ne.mpr c20; have c20b1 : (((rd_T94 l0_1 x34_2).f1) != 0) = true := bne_iff_ne.mpr c20; have H' := Ak H; clear H; have hcz22_0 : wr.cell? ⟨gbam, 0, none⟩ = some (.int .u32 a0_0) := (blk_cell BKam.out 0).trans rfl; have hcz22_1 : wr.cell? ⟨gbam, 1, none⟩ = some (.slice A0_1 l0_1.length c0_1) := (blk_cell BKam.out 1).trans rfl; have hcz22_2 : wr.cell? ⟨gbam, 2, none⟩ = some (.string a0_2) := (blk_cell BKam.out 2).trans rfl; have hcz22_3 : wr.cell? ⟨gbam, 3, none⟩ = some (.slice A0_3 l0_3.length c0_3) := (blk_cell BKam.out 3).trans rfl; have hcz22_4 : wr.cell? ⟨gbam, 4, none⟩ = some (.slice A0_4 l0_4.length c0_4) := (blk_cell BKam.out 4).trans rfl; have hfz22_0 := blk_frozen BKam.out 0; have hfz22_1 := blk_frozen BKam.out 1; have hfz22_2 := blk_frozen BKam.out 2; have hfz22_3 := blk_frozen BKam.out 3; have hfz22_4 := blk_frozen BKam.out 4; have p369 : 0 ≤ (x34_2 : Int) := of_decide_eq_true Zq4; have q369 : x34_2 < (l0_1.length : Int) := of_decide_eq_true Zq4; obtain ⟨adfc, e369, hx369_0, hx369_1⟩ := at_T94 HR0_1.out x34_2 p369 q369
            cases e369
            replace hx369_0 := (HB.out.cell (World.block_lt_of_cell? w _ hx369_0)).trans hx369_0; replace hx369_1 := (HB.out.cell (World.block_lt_of_cell? w _ hx369_1)).trans hx369_1; replace p369 := eq_true p369; replace q369 := eq_true q369; have p370 : 0 ≤ (x34_2 : Int) := of_decide_eq_true Zq4; have q370 : x34_2 < (l0_1.length : Int) := of_decide_eq_true Zq4; obtain ⟨adfp, e370, hx370_0, hx370_1⟩ := at_T94 HR0_1.out x34_2 p370 q370
            obtain rfl : adfc = adfp := (by injection e370)
            replace hx370_0 := (HB.out.cell (World.block_lt_of_cell? w _ hx370_0)).trans hx370_0; replace hx370_1 := (HB.out.cell (World.block_lt_of_cell? w _ hx370_1)).trans hx370_1; replace p370 := eq_true p370; replace q370 := eq_true q370
            go_wp2
            go_roundg k2
            case measure => have := HJ4.out; have := HK2.out; omega
            case rel => exact ⟨(wrap64 (x34_2 + 1)), Zq6, H', ⟨by have := HJ4.out; have := HK2.out; omega⟩, ⟨Zq64⟩, ⟨Zq50⟩⟩
          ·rw [if_neg c19] at H; have c19b0 : (((rd_T94 l0_1 x34_2).f0) == 0) = false := beq_eq_false_iff_ne.mpr c19; have c19b1 : (((rd_T94 l0_1 x34_2).f0) != 0) = true := bne_iff_ne.mpr c19; have H' := Ak H; clear H; have hcz23_0 : wr.cell? ⟨gbam, 0, none⟩ = some (.int .u32 a0_0) := (blk_cell BKam.out 0).trans rfl; have hcz23_1 : wr.cell? ⟨gbam, 1, none⟩ = some (.slice A0_1 l0_1.length c0_1) := (blk_cell BKam.out 1).trans rfl; have hcz23_2 : wr.cell? ⟨gbam, 2, none⟩ = some (.string a0_2) := (blk_cell BKam.out 2).trans rfl; have hcz23_3 : wr.cell? ⟨gbam, 3, none⟩ = some (.slice A0_3 l0_3.length c0_3) := (blk_cell BKam.out 3).trans rfl; have hcz23_4 : wr.cell? ⟨gbam, 4, none⟩ = some (.slice A0_4 l0_4.length c0_4) := (blk_cell BKam.out 4).trans rfl; have hfz23_0 := blk_frozen BKam.out 0; have hfz23_1 := blk_frozen BKam.out 1; have hfz23_2 := blk_frozen BKam.out 2; have hfz23_3 := blk_frozen BKam.out 3; have hfz23_4 := blk_frozen BKam.out 4; have p369 : 0 ≤ (x34_2 : Int) := of_decide_eq_true Zq4; have q369 : x34_2 < (l0_1.length : Int) := of_decide_eq_true Zq4; obtain ⟨adfc, e369, hx369_0, hx369_1⟩ := at_T94 HR0_1.out x34_2 p369 q369
           cases e369
           replace hx369_0 := (HB.out.cell (World.block_lt_of_cell? w _ hx369_0)).trans hx369_0; replace hx369_1 := (HB.out.cell (World.block_lt_of_cell? w _ hx369_1)).trans hx369_1; replace p369 := eq_true p369; replace q369 := eq_true q369
           go_wp2
           go_roundg k2
           case measure => have := HJ4.out; have := HK2.out; omega
           case rel => exact ⟨(wrap64 (x34_2 + 1)), Zq6, H', ⟨by have := HJ4.out; have := HK2.out; omega⟩, ⟨Zq64⟩, ⟨Zq50⟩⟩
         ·rw [if_neg c18] at H; exact absurd H Zq9
        ·rw [if_neg c17] at H; exact absurd H Zq9
       ·rw [if_neg c16] at H; have c16b0 : decide (x34_2 < (l0_1.length : Int)) = false := decide_eq_false c16; clear c16; obtain rfl := Option.some.inj H
        go_wp2
        go_ret
        exact ⟨Zq11, Zq50⟩
 ·rw [if_neg c3] at H; have c3b0 : (tcE == 0) = false := beq_eq_false_iff_ne.mpr c3; have c3b1 : (tcE != 0) = true := bne_iff_ne.mpr c3; obtain rfl := Option.some.inj H
  go_enter Try.func19, Try.ntmps19
  go_wp2_with (first | ((with_reducible refine gate_dst (N := 1) rfl ?_); (try (refine gate_guard Zq3 ?_; dsimp only)); refine box_event ?hg (N := 1) ?hd (cs := #[.int .u32 a0_0, .slice A0_1 l0_1.length c0_1, .string a0_2, .slice A0_3 l0_3.length c0_3, .slice A0_4 l0_4.length c0_4]) (t := 35) ?hr ?_; (case hd | hg => rfl); (case hr => first | (go_simp; done) | (go_simp; rfl)); intro gbam hg w24 hbox hb; have n0_ := Zq140; have n1_ := Ak (hbox); have n2_ := Zq227; have n3_ := Zq227; clear HB; have HB := n0_; have BKam := n1_; have GWam := n2_; have GEam := n3_; clear n0_ n1_ n2_ n3_ hb hbox hg; have hcz25_0 : w24.cell? ⟨gbam, 0, none⟩ = some (.int .u32 a0_0) := (blk_cell BKam.out 0).trans rfl; have hcz25_1 : w24.cell? ⟨gbam, 1, none⟩ = some (.slice A0_1 l0_1.length c0_1) := (blk_cell BKam.out 1).trans rfl; have hcz25_2 : w24.cell? ⟨gbam, 2, none⟩ = some (.string a0_2) := (blk_cell BKam.out 2).trans rfl; have hcz25_3 : w24.cell? ⟨gbam, 3, none⟩ = some (.slice A0_3 l0_3.length c0_3) := (blk_cell BKam.out 3).trans rfl; have hcz25_4 : w24.cell? ⟨gbam, 4, none⟩ = some (.slice A0_4 l0_4.length c0_4) := (blk_cell BKam.out 4).trans rfl; have hfz25_0 := blk_frozen BKam.out 0; have hfz25_1 := blk_frozen BKam.out 1; have hfz25_2 := blk_frozen BKam.out 2; have hfz25_3 := blk_frozen BKam.out 3; have hfz25_4 := blk_frozen BKam.out 4) | ((with_reducible refine gate_callee (f := 47) rfl ?_); refine goesL_ (some 9) rfl rfl Try.func47 Zq2 rfl #[.agg #[.string a0_2, .slice A0_3 l0_3.length c0_3, .slice A0_4 l0_4.length c0_4], .int .i64 1] rfl Zq8 ?_; (with_reducible refine (arboretref01_wrong.calls k a0_2 _ _ l0_3 _ _ l0_4 1 tcE _ ?side1 ?side2 ?side3 ?side4 A2.out).mono ?_); (case side1 => repeat (first | exact Zq181 | (with_reducible refine Kd.C_alloc ?_ _) | (with_reducible refine Kd.C_drewN ?_ _) | (with_reducible refine Kd.C_drew ?_))); (case side2 => exact HC0_3.out); (case side3 => repeat (first | exact Zq182 | (with_reducible refine Kd.C_alloc ?_ _) | (with_reducible refine Kd.C_drewN ?_ _) | (with_reducible refine Kd.C_drew ?_))); (case side4 => exact HC0_4.out); rintro e w26 ⟨rfl, hb⟩; refine ⟨_, rfl, ?_⟩; have n0_ := Zq197; have n1_ := Ak (below_step Zq50 hb); clear BKam HB; have BKam := n0_; have HB := n1_; clear n0_ n1_; (try clear hb); (try clear hb2); (try clear hk); (try clear hi)))
  go_ret
  exact ⟨Zq11, Zq50⟩
def arboretref06_Get.l0 : Nat → List Int → Int → Int → ByteArray → List (S77) → List (S30) → Option (ByteArray × (List (S77)) × (List (S30)) × Bool)
 | 0, _, _, _, _, _, _ => none
 | k + 1, x1, x11, x12, xcy, xbK, xaK => if x12 < x11 then (if 0 ≤ x12 then (if x12 < (x1.length : Int) then (if (rd x1 x12) < 0 then (some ((⟨#[]⟩ : ByteArray), ([] : List (S77)), ([] : List (S30)), false)) else (if (rd x1 x12) ≥ (xaK.length : Int) then (some ((⟨#[]⟩ : ByteArray), ([] : List (S77)), ([] : List (S30)), false)) else (if 0 ≤ (rd x1 x12) then (if (rd x1 x12) < (xaK.length : Int) then (arboretref06_Get.l0 k x1 x11 (wrap64 (x12 + 1)) ((rd_T30 xaK (rd x1 x12)).f0) ((rd_T30 xaK (rd x1 x12)).f1) ((rd_T30 xaK (rd x1 x12)).f2)) else (none)) else (none)))) else (none)) else (none)) else (some (xcy, xbK, xaK, true))
def arboretref06_Get.f (k : Nat) (a0_0 : Int) (l0_1 : List (S94)) (a0_2 : ByteArray) (l0_3 : List (S77)) (l0_4 : List (S30)) (l1 : List Int) : Option (ByteArray × (List (S77)) × (List (S30)) × Bool) := arboretref06_Get.l0 k l1 (l1.length : Int) 0 a0_2 l0_3 l0_4
theorem arboretref06_Get.mono_l : ∀ k, (∀ y0 y1 y2 y3 y4 y5, LeO (arboretref06_Get.l0 k y0 y1 y2 y3 y4 y5) (arboretref06_Get.l0 (k + 1) y0 y1 y2 y3 y4 y5))
 | 0 => fun _ _ _ _ _ _ r h => by simp [arboretref06_Get.l0] at h
 | k + 1 => by
  have ih0 := arboretref06_Get.mono_l k
  ·intro y0 y1 y2 y3 y4 y5; unfold arboretref06_Get.l0
   repeat' first | (with_reducible first | exact ih0 _ _ _ _ _ _ | exact LeO.refl _ | exact LeO.none _ | refine LeO.ite ?_ ?_ | refine LeO.bind ?_ (fun _ => ?_))
theorem arboretref06_Get.mono : ∀ a0 a1 a2 a3 a4 a5 k, LeO (arboretref06_Get.f k a0 a1 a2 a3 a4 a5) (arboretref06_Get.f (k + 1) a0 a1 a2 a3 a4 a5) := by
 intro a0 a1 a2 a3 a4 a5 k; have ih0 := arboretref06_Get.mono_l k; unfold arboretref06_Get.f
 repeat' first | (with_reducible first | exact ih0 _ _ _ _ _ _ | exact LeO.refl _ | exact LeO.none _ | refine LeO.ite ?_ ?_ | refine LeO.bind ?_ (fun _ => ?_))
def arboretref06_Get.T5 : Bool × List (List Nat × List Nat) := (true, [([], []), ([], []), ([0, 1], [0, 1]), ([2], [2]), ([3], [3]), ([4], [4]), ([5], [5]), ([5], [5]), ([6, 7, 5], [5, 6, 7]), ([8, 5], [5, 8]), ([5], [5]), ([10, 5], [5, 10]), ([11, 5], [5, 11]), ([9, 12, 5], [5, 9, 12]), ([5, 13], [5, 13])])
def arboretref06_Get.B5 : List Nat := [0, 0, 3, 7, 15, 31, 63, 63, 255, 511, 63, 1087, 3135, 8191, 16383]
theorem arboretref06_Get.tab5 : rtab .any (opsOf Try.f21 5) = arboretref06_Get.T5 := by kernel_rfl
theorem arboretref06_Get.bits5 : waitsOk arboretref06_Get.T5.2 arboretref06_Get.B5 = true := by kernel_rfl
def arboretref06_Get.T7 : Bool × List (List Nat × List Nat) := (true, [([], []), ([0], [0]), ([], []), ([], []), ([2, 3], [2, 3]), ([4], [4]), ([1, 5], [1, 5]), ([6], [6]), ([7, 0, 1, 2, 3, 4, 5, 6, 7], [7])])
def arboretref06_Get.B7 : List Nat := [0, 1, 0, 0, 12, 28, 63, 127, 255]
theorem arboretref06_Get.tab7 : rtab .any (opsOf Try.f21 7) = arboretref06_Get.T7 := by kernel_rfl
theorem arboretref06_Get.bits7 : waitsOk arboretref06_Get.T7.2 arboretref06_Get.B7 = true := by kernel_rfl
end Go.Proofs.Yteejaaeglfpcmab.PX

namespace Go.Proofs.Yteejaaeglfpcmab.PX
open Go.RowKit Go.Proofs.YteejaaeglfpcmabW.PrintWords Go.Proofs.YteejaaeglfpcmabW.PrintLast Go.Proofs.YteejaaeglfpcmabW.PrintMore
attribute [local go_sem] max2_int min2_int max_two min_two max_three min_three max_four min_four
set_option maxHeartbeats 8000000 in
set_option maxRecDepth 100000 in
theorem arboretref06_Get.calls (k : Nat) (a0_0 : Int) (A0_1 : Option Addr) (c0_1 : Nat) (l0_1 : List (S94)) (a0_2 : ByteArray) (P0_3_ : Nat → Prop) (A0_3 : Option Addr) (c0_3 : Nat) (l0_3 : List (S77)) (P0_4_ : Nat → Prop) (A0_4 : Option Addr) (c0_4 : Nat) (l0_4 : List (S30)) (A1 : Option Addr) (c1 : Nat) (l1 : List Int) (r1 : ByteArray) (r2 : List (S77)) (r3 : List (S30)) (r4 : Bool) (w : World) (hr0_1 : Kd.C k94 w A0_1 l0_1.length l0_1) (hc0_1 : l0_1.length ≤ c0_1) (hs0_3 : Kd.V k77 77 w w.heap.size (fun k_ => P0_3_ k_) (.slice A0_3 l0_3.length c0_3) l0_3) (hs0_4 : Kd.V k30 30 w w.heap.size (fun k_ => P0_4_ k_) (.slice A0_4 l0_4.length c0_4) l0_4) (hr1 : Kd.C (Kd.int .i64) w A1 l1.length l1) (hc1 : l1.length ≤ c1) (h : arboretref06_Get.f k a0_0 l0_1 a0_2 l0_3 l0_4 l1 = some (r1, r2, r3, r4)) :
  Calls Try.prog 21 #[.agg #[.int .u32 a0_0, .slice A0_1 l0_1.length c0_1, .string a0_2, .slice A0_3 l0_3.length c0_3, .slice A0_4 l0_4.length c0_4], .slice A1 l1.length c1] w fun e w' => ∃ v1_ v2_ : Value, e = .returned (.tuple #[.agg #[.string r1, v1_, v2_], .bool r4]) ∧ Kd.V k77 77 w' w.heap.size (fun k_ => ((P0_3_ k_ ∨ P0_4_ k_) ∨ w.heap.size ≤ k_)) v1_ r2 ∧ Kd.V k30 30 w' w.heap.size (fun k_ => ((P0_3_ k_ ∨ P0_4_ k_) ∨ w.heap.size ≤ k_)) v2_ r3 ∧ Below w.heap.size w w' := by
 have hu35 := Try.underlying35; have hu30 := Try.underlying30; have HR0_1 := Ak hr0_1; have HC0_1 := Ak hc0_1; clear hr0_1 hc0_1; have HO0_3 := Zq232; have HO0_4 := Zq233; have HR1 := Ak hr1; have HC1 := Ak hc1; clear hr1 hc1; have HB := Zq145; have H : (arboretref06_Get.l0 k l1 (l1.length : Int) 0 a0_2 l0_3 l0_4) = some (r1, r2, r3, r4) := h; clear h; have H' := Ak H; clear H
 go_enter Try.func21, Try.ntmps21
 go_wp2_with (first | ((with_reducible refine gate_dst (N := 2) rfl ?_); (try (refine gate_guard Zq3 ?_; dsimp only)); refine box_event ?hg (N := 2) ?hd (cs := #[.int .u32 a0_0, .slice A0_1 l0_1.length c0_1, .string a0_2, .slice A0_3 l0_3.length c0_3, .slice A0_4 l0_4.length c0_4]) (t := 35) ?hr ?_; (case hd | hg => rfl); (case hr => first | (go_simp; done) | (go_simp; rfl)); intro gbaY hg w3 hbox hb; have n0_ := Ak (Kd.V_below (Kd.V_elderB Zq65 gbaY (Nat.le_of_eq hg.symm)) hb); have n1_ := Ak (Kd.V_below (Kd.V_elderB Zq66 gbaY (Nat.le_of_eq hg.symm)) hb); have n2_ := Zq140; have n3_ := Ak (hbox); have n4_ := Ak ((by rw [hg]; exact (below_size Zq5) : w.heap.size ≤ gbaY)); have n5_ := Ak ((by rw [hg]; exact (below_size Zq5) : w.heap.size ≤ gbaY)); clear HO0_3 HO0_4 HB; have HO0_3 := n0_; have HO0_4 := n1_; have HB := n2_; have BKaY := n3_; have GWaY := n4_; have GEaY := n5_; clear n0_ n1_ n2_ n3_ n4_ n5_ hb hbox hg) | ((with_reducible refine gate_dst (N := 4) rfl ?_); (try (refine gate_guard Zq3 ?_; dsimp only)); refine box_event ?hg (N := 4) ?hd (cs := #[.string (⟨#[]⟩ : ByteArray), .slice none 0 0, .slice none 0 0]) (t := 30) ?hr ?_; (case hd | hg => rfl); (case hr => first | (go_simp; done) | (go_simp; rfl)); intro gbaG hg w4 hbox hb; have n0_ := Ak (Kd.V_below (Kd.V_elderB Zq65 gbaG (Nat.le_of_eq hg.symm)) hb); have n1_ := Ak (Kd.V_below (Kd.V_elderB Zq66 gbaG (Nat.le_of_eq hg.symm)) hb); have n2_ := Zq231; have n3_ := Ak (below_step (by repeat (first | (with_reducible first | exact HB.out | apply below_alloc | apply pw_below_drewN | apply below_drew1 | refine below_set ?_ GEaY.out) | exact HB.out)) hb); have n4_ := Ak (hbox); have n5_ := Ak ((by rw [hg]; exact (below_size (by repeat (first | (with_reducible first | exact HB.out | apply below_alloc | apply pw_below_drewN | apply below_drew1 | refine below_set ?_ GEaY.out) | exact HB.out))) : w.heap.size ≤ gbaG)); have n6_ := Ak ((by rw [hg]; exact (below_size (by repeat (first | (with_reducible first | exact HB.out | apply below_alloc | apply pw_below_drewN | apply below_drew1 | refine below_set ?_ GEaY.out) | exact HB.out))) : w.heap.size ≤ gbaG)); have n7_ := Ak ((by rw [hg]; exact Nat.ne_of_lt Zq169 : gbaY ≠ gbaG)); have n8_ := Ak ((by rw [hg]; exact Nat.ne_of_gt Zq169 : gbaG ≠ gbaY)); clear HO0_3 HO0_4 BKaY HB; have HO0_3 := n0_; have HO0_4 := n1_; have BKaY := n2_; have HB := n3_; have BKaG := n4_; have GWaG := n5_; have GEaG := n6_; have NB371_372 := n7_; have NB372_371 := n8_; clear n0_ n1_ n2_ n3_ n4_ n5_ n6_ n7_ n8_ hb hbox hg; have hnb5 := NB371_372.out; have hnc5 := NB372_371.out; have hcz6_0 : w4.cell? ⟨gbaY, 0, none⟩ = some (.int .u32 a0_0) := (blk_cell BKaY.out 0).trans rfl; have hcz6_1 : w4.cell? ⟨gbaY, 1, none⟩ = some (.slice A0_1 l0_1.length c0_1) := (blk_cell BKaY.out 1).trans rfl; have hcz6_2 : w4.cell? ⟨gbaY, 2, none⟩ = some (.string a0_2) := (blk_cell BKaY.out 2).trans rfl; have hcz6_3 : w4.cell? ⟨gbaY, 3, none⟩ = some (.slice A0_3 l0_3.length c0_3) := (blk_cell BKaY.out 3).trans rfl; have hcz6_4 : w4.cell? ⟨gbaY, 4, none⟩ = some (.slice A0_4 l0_4.length c0_4) := (blk_cell BKaY.out 4).trans rfl; have hfz6_0 := blk_frozen BKaY.out 0; have hfz6_1 := blk_frozen BKaY.out 1; have hfz6_2 := blk_frozen BKaY.out 2; have hfz6_3 := blk_frozen BKaY.out 3; have hfz6_4 := blk_frozen BKaY.out 4) | ((with_reducible refine gate_dst (N := 6) rfl ?_); (try (refine gate_guard Zq3 ?_; dsimp only)); refine box_event ?hg (N := 6) ?hd (cs := #[.string (⟨#[]⟩ : ByteArray), .slice none 0 0, .slice none 0 0]) (t := 30) ?hr ?_; (case hd | hg => rfl); (case hr => first | (go_simp; done) | (go_simp; rfl)); intro gbar hg w7 hbox hb; have n0_ := Ak (Kd.V_below (Kd.V_elderB Zq65 gbar (Nat.le_of_eq hg.symm)) hb); have n1_ := Ak (Kd.V_below (Kd.V_elderB Zq66 gbar (Nat.le_of_eq hg.symm)) hb); have n2_ := Zq231; have n3_ := Ak (blk_below (g := gbaG) (o := .cells #[.string (⟨#[]⟩ : ByteArray), .slice none 0 0, .slice none 0 0] 30 (0, 0)) (by (with_reducible repeat (first | refine blk_drewN ?_ _ | refine blk_drew ?_ | refine blk_alloc ?_ _)); exact BKaG.out) hb); have n4_ := Ak (below_step Zq127 hb); have n5_ := Ak (hbox); have n6_ := Ak ((by rw [hg]; exact (below_size Zq127) : w.heap.size ≤ gbar)); have n7_ := Ak ((by rw [hg]; exact (below_size Zq127) : w.heap.size ≤ gbar)); have n8_ := Ak ((by rw [hg]; exact Nat.ne_of_lt Zq169 : gbaY ≠ gbar)); have n9_ := Ak ((by rw [hg]; exact Nat.ne_of_gt Zq169 : gbar ≠ gbaY)); have n10_ := Ak ((by rw [hg]; exact Nat.ne_of_lt (blk_lt (g := gbaG) (o := .cells #[.string (⟨#[]⟩ : ByteArray), .slice none 0 0, .slice none 0 0] 30 (0, 0)) (by (with_reducible repeat (first | refine blk_drewN ?_ _ | refine blk_drew ?_ | refine blk_alloc ?_ _)); exact BKaG.out)) : gbaG ≠ gbar)); have n11_ := Ak ((by rw [hg]; exact Nat.ne_of_gt (blk_lt (g := gbaG) (o := .cells #[.string (⟨#[]⟩ : ByteArray), .slice none 0 0, .slice none 0 0] 30 (0, 0)) (by (with_reducible repeat (first | refine blk_drewN ?_ _ | refine blk_drew ?_ | refine blk_alloc ?_ _)); exact BKaG.out)) : gbar ≠ gbaG)); clear HO0_3 HO0_4 BKaY BKaG HB; have HO0_3 := n0_; have HO0_4 := n1_; have BKaY := n2_; have BKaG := n3_; have HB := n4_; have BKar := n5_; have GWar := n6_; have GEar := n7_; have NB371_373 := n8_; have NB373_371 := n9_; have NB372_373 := n10_; have NB373_372 := n11_; clear n0_ n1_ n2_ n3_ n4_ n5_ n6_ n7_ n8_ n9_ n10_ n11_ hb hbox hg; have hnb8 := NB373_371.out; have hnc8 := NB371_373.out; have hnb9 := NB373_372.out; have hnc9 := NB372_373.out; have hcz10_0 : w7.cell? ⟨gbar, 0, none⟩ = some (.string (⟨#[]⟩ : ByteArray)) := (blk_cell BKar.out 0).trans rfl; have hcz10_1 : w7.cell? ⟨gbar, 1, none⟩ = some (.slice none 0 0) := (blk_cell BKar.out 1).trans rfl; have hcz10_2 : w7.cell? ⟨gbar, 2, none⟩ = some (.slice none 0 0) := (blk_cell BKar.out 2).trans rfl; have hfz10_0 := blk_frozen BKar.out 0; have hfz10_1 := blk_frozen BKar.out 1; have hfz10_2 := blk_frozen BKar.out 2))
 go_loopg [12] k (fun kq v12 w' => ∃ (x12_1 : Int) (xdP_1 : ByteArray) (xcy_1 : ByteArray) (xbK_1 : List (S77)) (xaK_1 : List (S30)) (u374001 : Value) (u374002 : Value), v12 = .int .i64 x12_1 ∧ Aside0 (arboretref06_Get.l0 kq l1 (l1.length : Int) x12_1 xcy_1 xbK_1 xaK_1 = some (r1, r2, r3, r4)) ∧ Aside0 (kq ≤ k) ∧ Aside0 (Kd.V k77 77 w' w.heap.size (fun k_ => ((P0_3_ k_ ∨ P0_4_ k_) ∨ w.heap.size ≤ k_) ∧ k_ ≠ gbaY ∧ k_ ≠ gbaG ∧ k_ ≠ gbar) (.slice A0_3 l0_3.length c0_3) l0_3) ∧ Aside0 (Kd.V k30 30 w' w.heap.size (fun k_ => ((P0_3_ k_ ∨ P0_4_ k_) ∨ w.heap.size ≤ k_) ∧ k_ ≠ gbaY ∧ k_ ≠ gbaG ∧ k_ ≠ gbar) (.slice A0_4 l0_4.length c0_4) l0_4) ∧ Aside0 (Kd.V k77 77 w' w.heap.size (fun k_ => ((P0_3_ k_ ∨ P0_4_ k_) ∨ w.heap.size ≤ k_) ∧ k_ ≠ gbaY ∧ k_ ≠ gbaG ∧ k_ ≠ gbar) u374001 xbK_1) ∧ Aside0 (Kd.V k30 30 w' w.heap.size (fun k_ => ((P0_3_ k_ ∨ P0_4_ k_) ∨ w.heap.size ≤ k_) ∧ k_ ≠ gbaY ∧ k_ ≠ gbaG ∧ k_ ≠ gbar) u374002 xaK_1) ∧ Aside0 (w'.heap[gbaY]? = some (.cells #[.int .u32 a0_0, (.slice A0_1 l0_1.length c0_1), .string a0_2, (.slice A0_3 l0_3.length c0_3), (.slice A0_4 l0_4.length c0_4)] 35 (0, 0))) ∧ Aside0 (w'.heap[gbaG]? = some (.cells #[.string xdP_1, (.slice none 0 0), (.slice none 0 0)] 30 (0, 0))) ∧ Aside0 (w'.heap[gbar]? = some (.cells #[.string xcy_1, u374001, u374002] 30 (0, 0))) ∧ Aside0 (Below w.heap.size w w'))
 case atStart => exact ⟨(0), ((⟨#[]⟩ : ByteArray)), (a0_2), (l0_3), (l0_4), (.slice A0_3 l0_3.length c0_3), (.slice A0_4 l0_4.length c0_4), Zq6, H', ⟨Nat.le_refl _⟩, ⟨by (with_reducible repeat (first | apply Kd.V_alloc | apply Kd.V_drewN | apply Kd.V_drew)); exact Kd.V_mono (Kd.V_far (p := ⟨gbar, 2, none⟩) (Kd.V_far (p := ⟨gbar, 1, none⟩) (Kd.V_far (p := ⟨gbar, 0, none⟩) (Kd.V_mono HO0_3.out (fun k_ hk => (⟨hk, hk.2⟩ : _ ∧ k_ ≠ gbar))) (fun _ hk => hk.2) (.string a0_2)) (fun _ hk => hk.2) (.slice A0_3 l0_3.length c0_3)) (fun _ hk => hk.2) (.slice A0_4 l0_4.length c0_4)) (fun _ hk => ⟨hk.1.1.1.1, ⟨hk.1.1.1.2, ⟨hk.1.1.2, hk.1.2⟩⟩⟩)⟩, ⟨by (with_reducible repeat (first | apply Kd.V_alloc | apply Kd.V_drewN | apply Kd.V_drew)); exact Kd.V_mono (Kd.V_far (p := ⟨gbar, 2, none⟩) (Kd.V_far (p := ⟨gbar, 1, none⟩) (Kd.V_far (p := ⟨gbar, 0, none⟩) (Kd.V_mono HO0_4.out (fun k_ hk => (⟨hk, hk.2⟩ : _ ∧ k_ ≠ gbar))) (fun _ hk => hk.2) (.string a0_2)) (fun _ hk => hk.2) (.slice A0_3 l0_3.length c0_3)) (fun _ hk => hk.2) (.slice A0_4 l0_4.length c0_4)) (fun _ hk => ⟨hk.1.1.1.1, ⟨hk.1.1.1.2, ⟨hk.1.1.2, hk.1.2⟩⟩⟩)⟩, ⟨by (with_reducible repeat (first | apply Kd.V_alloc | apply Kd.V_drewN | apply Kd.V_drew)); exact Kd.V_mono (Kd.V_far (p := ⟨gbar, 2, none⟩) (Kd.V_far (p := ⟨gbar, 1, none⟩) (Kd.V_far (p := ⟨gbar, 0, none⟩) (Kd.V_mono HO0_3.out (fun k_ hk => (⟨hk, hk.2⟩ : _ ∧ k_ ≠ gbar))) (fun _ hk => hk.2) (.string a0_2)) (fun _ hk => hk.2) (.slice A0_3 l0_3.length c0_3)) (fun _ hk => hk.2) (.slice A0_4 l0_4.length c0_4)) (fun _ hk => ⟨hk.1.1.1.1, ⟨hk.1.1.1.2, ⟨hk.1.1.2, hk.1.2⟩⟩⟩)⟩, ⟨by (with_reducible repeat (first | apply Kd.V_alloc | apply Kd.V_drewN | apply Kd.V_drew)); exact Kd.V_mono (Kd.V_far (p := ⟨gbar, 2, none⟩) (Kd.V_far (p := ⟨gbar, 1, none⟩) (Kd.V_far (p := ⟨gbar, 0, none⟩) (Kd.V_mono HO0_4.out (fun k_ hk => (⟨hk, hk.2⟩ : _ ∧ k_ ≠ gbar))) (fun _ hk => hk.2) (.string a0_2)) (fun _ hk => hk.2) (.slice A0_3 l0_3.length c0_3)) (fun _ hk => hk.2) (.slice A0_4 l0_4.length c0_4)) (fun _ hk => ⟨hk.1.1.1.1, ⟨hk.1.1.1.2, ⟨hk.1.1.2, hk.1.2⟩⟩⟩)⟩, ⟨by (with_reducible repeat (first | refine blk_drewN ?_ _ | refine blk_drew ?_ | refine blk_alloc ?_ _)); refine blk_far ?_ NB371_373.out _; (with_reducible repeat (first | refine blk_drewN ?_ _ | refine blk_drew ?_ | refine blk_alloc ?_ _)); refine blk_far ?_ NB371_373.out _; (with_reducible repeat (first | refine blk_drewN ?_ _ | refine blk_drew ?_ | refine blk_alloc ?_ _)); refine blk_far ?_ NB371_373.out _; (with_reducible repeat (first | refine blk_drewN ?_ _ | refine blk_drew ?_ | refine blk_alloc ?_ _)); exact BKaY.out⟩, ⟨by (with_reducible repeat (first | refine blk_drewN ?_ _ | refine blk_drew ?_ | refine blk_alloc ?_ _)); refine blk_far ?_ NB372_373.out _; (with_reducible repeat (first | refine blk_drewN ?_ _ | refine blk_drew ?_ | refine blk_alloc ?_ _)); refine blk_far ?_ NB372_373.out _; (with_reducible repeat (first | refine blk_drewN ?_ _ | refine blk_drew ?_ | refine blk_alloc ?_ _)); refine blk_far ?_ NB372_373.out _; (with_reducible repeat (first | refine blk_drewN ?_ _ | refine blk_drew ?_ | refine blk_alloc ?_ _)); exact BKaG.out⟩, ⟨by (with_reducible repeat (first | refine blk_drewN ?_ _ | refine blk_drew ?_ | refine blk_alloc ?_ _)); refine blk_put (cs := #[.string a0_2, .slice A0_3 l0_3.length c0_3, .slice none 0 0]) ?_ 2 _ rfl; (with_reducible repeat (first | refine blk_drewN ?_ _ | refine blk_drew ?_ | refine blk_alloc ?_ _)); refine blk_put (cs := #[.string a0_2, .slice none 0 0, .slice none 0 0]) ?_ 1 _ rfl; (with_reducible repeat (first | refine blk_drewN ?_ _ | refine blk_drew ?_ | refine blk_alloc ?_ _)); refine blk_put (cs := #[.string (⟨#[]⟩ : ByteArray), .slice none 0 0, .slice none 0 0]) ?_ 0 _ rfl; (with_reducible repeat (first | refine blk_drewN ?_ _ | refine blk_drew ?_ | refine blk_alloc ?_ _)); exact BKar.out⟩, ⟨Zq96⟩⟩
 case round =>
  clear H'
  try clear c1
  try clear c2
  try clear p2
  try clear c5
  try clear c8
  try clear c9
  try clear hcz10_0
  try clear hcz10_1
  try clear hcz10_2
  try clear hcz6_0
  try clear hcz6_1
  try clear hcz6_2
  try clear hcz6_3
  try clear hcz6_4
  try clear hfz10_0
  try clear hfz10_1
  try clear hfz10_2
  try clear hfz6_0
  try clear hfz6_1
  try clear hfz6_2
  try clear hfz6_3
  try clear hfz6_4
  obtain ⟨x12_1, xdP_1, xcy_1, xbK_1, xaK_1, u374001, u374002, rfl, HA, HK1, HO_cp, HO_cq, HO_bK, HO_aK, BKaY, BKaG, BKar, HB⟩ := hrel
  cases gk with
  | zero => exact absurd HA.out (by simp [arboretref06_Get.l0])
  | succ k1 =>
   have H := HA.out; clear HA; simp only [arboretref06_Get.l0] at H
   by_cases c11 : x12_1 < (l1.length : Int)
   ·rw [if_pos c11] at H; have c11b0 : decide (x12_1 < (l1.length : Int)) = true := decide_eq_true c11; clear c11
    by_cases c12 : 0 ≤ x12_1
    ·rw [if_pos c12] at H; have c12b0 : decide (0 ≤ x12_1) = true := decide_eq_true c12; clear c12
     by_cases c13 : x12_1 < (l1.length : Int)
     ·rw [if_pos c13] at H; have c13b0 : decide (x12_1 < (l1.length : Int)) = true := decide_eq_true c13; clear c13
      by_cases c14 : (rd l1 x12_1) < 0
      ·rw [if_pos c14] at H; have c14b0 : decide ((rd l1 x12_1) < 0) = true := decide_eq_true c14; clear c14; simp only [Option.some.injEq, Prod.mk.injEq] at H; obtain ⟨rfl, rfl, rfl, rfl⟩ := H
       try go_wp2
       have n0_ := Ak (Kd.V_drew HO_cp.out); have n1_ := Ak (Kd.V_drew HO_cq.out); have n2_ := Ak (Kd.V_drew HO_bK.out); have n3_ := Ak (Kd.V_drew HO_aK.out); have n4_ := Ak (blk_drew BKaY.out); have n5_ := Ak (blk_drew BKaG.out); have n6_ := Ak (blk_drew BKar.out); have n7_ := Zq178; clear HO_cp HO_cq HO_bK HO_aK BKaY BKaG BKar HB; have HO_cp := n0_; have HO_cq := n1_; have HO_bK := n2_; have HO_aK := n3_; have BKaY := n4_; have BKaG := n5_; have BKar := n6_; have HB := n7_; clear n0_ n1_ n2_ n3_ n4_ n5_ n6_ n7_; have p374 : 0 ≤ (x12_1 : Int) := of_decide_eq_true Zq4; have q374 : x12_1 < (l1.length : Int) := of_decide_eq_true Zq4; obtain ⟨addf, e374, hx374_0⟩ := Kd.at_int HR1.out x12_1 p374 q374; have hw374_0 := hx374_0
       cases e374
       replace hx374_0 := (HB.out.cell (World.block_lt_of_cell? w _ hx374_0)).trans hx374_0; replace p374 := eq_true p374; replace q374 := eq_true q374; refine start_ (n := 15) (S := fun w' => w'.cell? (addf.add (x12_1).toNat) = some (.int .i64 (rd l1 x12_1))) (ds := []) #[false, false, false, false, false, false, false, false, false, false, false, false, false, false, false] Zq2 rfl rfl (((HB.out.cell (World.block_lt_of_cell? w _ hw374_0)).trans hw374_0)) (fun hHeld => ?_); refine with_tabW arboretref06_Get.tab5 arboretref06_Get.bits5 (fun HT_ HW_ => ?_); generalize wr.drew = w15 at HO_cp HO_cq HO_bK HO_aK BKaY BKaG BKar HB hx374_0 hHeld ⊢; refine pure_ (i := 0) (N := some 15) (v := ?_) (a' := ?_) #[true, false, false, false, false, false, false, false, false, false, false, false, false, false, false] rfl rfl (any_of HT_.out Zq2) (fun _ _ _ h => h) (Or.inl ⟨Zq3, ?_⟩) ?_ ?_
       rotate_left
       ·intro w'
        go_simp
        with_reducible rfl
       rotate_left
       ·simp only [Sx]
        rfl
       refine pure_ (i := 1) (N := some 16) (v := ?_) (a' := ?_) #[true, true, false, false, false, false, false, false, false, false, false, false, false, false, false] rfl rfl (any_of HT_.out Zq2) (fun _ _ _ h => h) (Or.inl ⟨Zq3, ?_⟩) ?_ ?_
       rotate_left
       ·intro w'
        go_simp
        with_reducible rfl
       rotate_left
       ·simp only [Sx]
        rfl
       refine pure_ (i := 2) (N := some 17) (v := ?_) (a' := ?_) #[true, true, true, false, false, false, false, false, false, false, false, false, false, false, false] rfl rfl (any_of HT_.out Zq2) (fun _ _ _ h => h) (Or.inl ⟨Zq3, ?_⟩) ?_ ?_
       rotate_left
       ·intro w'
        go_simp
        with_reducible rfl
       rotate_left
       ·simp only [Sx]
        rfl
       refine take_ (i := 3) (N := some 18) (v := ?_) (a' := ?_) #[true, true, true, true, false, false, false, false, false, false, false, false, false, false, false] rfl rfl (take_ofW HT_.out HW_.out Zq2) (fun _ _ _ h => h) (Or.inl ⟨Zq3, ?_⟩) hHeld ?_ ?_
       rotate_left
       ·intro w' s0
        go_simp
        with_reducible rfl
       rotate_left
       ·simp only [Sx]
        rfl
       refine pure_ (i := 4) (N := some 19) (v := ?_) (a' := ?_) #[true, true, true, true, true, false, false, false, false, false, false, false, false, false, false] rfl rfl (any_of HT_.out Zq2) (fun _ _ _ h => h) (Or.inl ⟨Zq3, ?_⟩) ?_ ?_
       rotate_left
       ·intro w'
        go_simp
        with_reducible rfl
       rotate_left
       ·simp only [Sx]
        rfl
       refine pure_ (i := 5) (N := some 20) (v := ?_) (a' := ?_) #[true, true, true, true, true, true, false, false, false, false, false, false, false, false, false] rfl rfl (any_of HT_.out Zq2) (fun _ _ _ h => h) (Or.inl ⟨Zq3, ?_⟩) ?_ ?_
       rotate_left
       ·intro w'
        go_simp
        with_reducible rfl
       rotate_left
       ·simp only [Sx]
        rfl
       refine pure_ (i := 6) (N := some 21) (v := undef) (a' := ?_) #[true, true, true, true, true, true, true, false, false, false, false, false, false, false, false] rfl rfl (any_of HT_.out Zq2) (fun _ _ _ h => h) (Or.inr ⟨Zq3, rfl⟩) ?_ ?_
       rotate_left
       ·simp only [Sx]
        rfl
       refine pure_ (i := 7) (N := some 22) (v := undef) (a' := ?_) #[true, true, true, true, true, true, true, true, false, false, false, false, false, false, false] rfl rfl (any_of HT_.out Zq2) (fun _ _ _ h => h) (Or.inr ⟨Zq3, rfl⟩) ?_ ?_
       rotate_left
       ·simp only [Sx]
        rfl
       refine pure_ (i := 8) (N := some 23) (v := undef) (a' := ?_) #[true, true, true, true, true, true, true, true, true, false, false, false, false, false, false] rfl rfl (any_of HT_.out Zq2) (fun _ _ _ h => h) (Or.inr ⟨Zq3, rfl⟩) ?_ ?_
       rotate_left
       ·simp only [Sx]
        rfl
       refine pure_ (i := 9) (N := some 24) (v := undef) (a' := ?_) #[true, true, true, true, true, true, true, true, true, true, false, false, false, false, false] rfl rfl (any_of HT_.out Zq2) (fun _ _ _ h => h) (Or.inr ⟨Zq3, rfl⟩) ?_ ?_
       rotate_left
       ·simp only [Sx]
        rfl
       refine pure_ (i := 10) (N := some 25) (v := undef) (a' := ?_) #[true, true, true, true, true, true, true, true, true, true, true, false, false, false, false] rfl rfl (any_of HT_.out Zq2) (fun _ _ _ h => h) (Or.inr ⟨Zq3, rfl⟩) ?_ ?_
       rotate_left
       ·simp only [Sx]
        rfl
       refine pure_ (i := 11) (N := some 26) (v := undef) (a' := ?_) #[true, true, true, true, true, true, true, true, true, true, true, true, false, false, false] rfl rfl (any_of HT_.out Zq2) (fun _ _ _ h => h) (Or.inr ⟨Zq3, rfl⟩) ?_ ?_
       rotate_left
       ·simp only [Sx]
        rfl
       refine pure_ (i := 12) (N := some 27) (v := undef) (a' := ?_) #[true, true, true, true, true, true, true, true, true, true, true, true, true, false, false] rfl rfl (any_of HT_.out Zq2) (fun _ _ _ h => h) (Or.inr ⟨Zq3, rfl⟩) ?_ ?_
       rotate_left
       ·simp only [Sx]
        rfl
       refine pure_ (i := 13) (N := some 28) (v := undef) (a' := ?_) #[true, true, true, true, true, true, true, true, true, true, true, true, true, true, false] rfl rfl (any_of HT_.out Zq2) (fun _ _ _ h => h) (Or.inr ⟨Zq3, rfl⟩) ?_ ?_
       rotate_left
       ·simp only [Sx]
        rfl
       refine pure_ (i := 14) (N := some 29) (v := ?_) (a' := ?_) #[true, true, true, true, true, true, true, true, true, true, true, true, true, true, true] rfl rfl (any_of HT_.out Zq2) (fun _ _ _ h => h) (Or.inl ⟨Zq3, ?_⟩) ?_ ?_
       rotate_left
       ·intro w'
        go_simp
        with_reducible rfl
       rotate_left
       ·simp only [Sx]
        rfl
       refine done_ (done_of HT_.out Zq2) ?_; have hnb16 := NB372_371.out; have hnc16 := NB371_372.out; have hnb17 := NB372_373.out; have hnc17 := NB373_372.out; have hcz18_0 : w15.cell? ⟨gbaG, 0, none⟩ = some (.string xdP_1) := (blk_cell BKaG.out 0).trans rfl; have hcz18_1 : w15.cell? ⟨gbaG, 1, none⟩ = some (.slice none 0 0) := (blk_cell BKaG.out 1).trans rfl; have hcz18_2 : w15.cell? ⟨gbaG, 2, none⟩ = some (.slice none 0 0) := (blk_cell BKaG.out 2).trans rfl; have hfz18_0 := blk_frozen BKaG.out 0; have hfz18_1 := blk_frozen BKaG.out 1; have hfz18_2 := blk_frozen BKaG.out 2
       try go_wp2
       refine bodyPost_ret (results_ct rfl _ _ gbaG 30 #[.string (⟨#[]⟩ : ByteArray), .slice none 0 0, .slice none 0 0] (0, 0) _ rfl (by (with_reducible repeat (first | refine blk_drewN ?_ _ | refine blk_drew ?_ | refine blk_alloc ?_ _)); refine blk_put (cs := #[.string (⟨#[]⟩ : ByteArray), .slice none 0 0, .slice none 0 0]) ?_ 2 _ rfl; (with_reducible repeat (first | refine blk_drewN ?_ _ | refine blk_drew ?_ | refine blk_alloc ?_ _)); refine blk_put (cs := #[.string (⟨#[]⟩ : ByteArray), .slice none 0 0, .slice none 0 0]) ?_ 1 _ rfl; (with_reducible repeat (first | refine blk_drewN ?_ _ | refine blk_drew ?_ | refine blk_alloc ?_ _)); refine blk_put (cs := #[.string xdP_1, .slice none 0 0, .slice none 0 0]) ?_ 0 _ rfl; (with_reducible repeat (first | refine blk_drewN ?_ _ | refine blk_drew ?_ | refine blk_alloc ?_ _)); exact BKaG.out) Try.underlying30 rfl Zq2) rfl ?_
       exact ⟨_, _, Zq11, Kd.V_nil _ _ _ _ _, Kd.V_nil _ _ _ _ _, Zq96⟩
      ·rw [if_neg c14] at H; have c14b0 : decide ((rd l1 x12_1) < 0) = false := decide_eq_false c14; clear c14
       by_cases c19 : (rd l1 x12_1) ≥ (xaK_1.length : Int)
       ·rw [if_pos c19] at H; have c19b0 : decide ((xaK_1.length : Int) ≤ (rd l1 x12_1)) = true := decide_eq_true c19; clear c19; simp only [Option.some.injEq, Prod.mk.injEq] at H; obtain ⟨rfl, rfl, rfl, rfl⟩ := H
        try go_wp2
        have n0_ := Ak (Kd.V_drew HO_cp.out); have n1_ := Ak (Kd.V_drew HO_cq.out); have n2_ := Ak (Kd.V_drew HO_bK.out); have n3_ := Ak (Kd.V_drew HO_aK.out); have n4_ := Ak (blk_drew BKaY.out); have n5_ := Ak (blk_drew BKaG.out); have n6_ := Ak (blk_drew BKar.out); have n7_ := Zq178; clear HO_cp HO_cq HO_bK HO_aK BKaY BKaG BKar HB; have HO_cp := n0_; have HO_cq := n1_; have HO_bK := n2_; have HO_aK := n3_; have BKaY := n4_; have BKaG := n5_; have BKar := n6_; have HB := n7_; clear n0_ n1_ n2_ n3_ n4_ n5_ n6_ n7_; have p374 : 0 ≤ (x12_1 : Int) := of_decide_eq_true Zq4; have q374 : x12_1 < (l1.length : Int) := of_decide_eq_true Zq4; obtain ⟨addf, e374, hx374_0⟩ := Kd.at_int HR1.out x12_1 p374 q374; have hw374_0 := hx374_0
        cases e374
        replace hx374_0 := (HB.out.cell (World.block_lt_of_cell? w _ hx374_0)).trans hx374_0; replace p374 := eq_true p374; replace q374 := eq_true q374; have p375 : 0 ≤ (x12_1 : Int) := of_decide_eq_true Zq4; have q375 : x12_1 < (l1.length : Int) := of_decide_eq_true Zq4; obtain ⟨adfq, e375, hx375_0⟩ := Kd.at_int HR1.out x12_1 p375 q375; have hw375_0 := hx375_0
        obtain rfl : addf = adfq := (by injection e375)
        replace hx375_0 := (HB.out.cell (World.block_lt_of_cell? w _ hx375_0)).trans hx375_0; replace p375 := eq_true p375; replace q375 := eq_true q375; obtain ⟨Ao21, co21, eo21⟩ := Kd.V_slice HO_aK.out
        (first | subst eo21 | (injection eo21 with f1_ f2_ f3_; have f4_ := f1_.symm; have f5_ := f3_.symm; clear f1_ f2_ f3_; subst f4_; subst f5_))
        refine start_ (n := 15) (S := fun w' => w'.cell? ⟨gbar, 0, none⟩ = some (.string xcy_1) ∧ w'.cell? ⟨gbar, 1, none⟩ = some (u374001) ∧ w'.cell? ⟨gbar, 2, none⟩ = some (.slice Ao21 xaK_1.length co21) ∧ w'.cell? (addf.add (x12_1).toNat) = some (.int .i64 (rd l1 x12_1)) ∧ w'.cell? (addf.add (x12_1).toNat) = some (.int .i64 (rd l1 x12_1))) (ds := []) #[false, false, false, false, false, false, false, false, false, false, false, false, false, false, false] Zq2 rfl rfl ⟨(blk_cell BKar.out 0).trans rfl, (blk_cell BKar.out 1).trans rfl, (blk_cell BKar.out 2).trans rfl, ((HB.out.cell (World.block_lt_of_cell? w _ hw374_0)).trans hw374_0), ((HB.out.cell (World.block_lt_of_cell? w _ hw375_0)).trans hw375_0)⟩ (fun hHeld => ?_); refine with_tabW arboretref06_Get.tab5 arboretref06_Get.bits5 (fun HT_ HW_ => ?_); generalize wr.drew = w20 at HO_cp HO_cq HO_bK HO_aK BKaY BKaG BKar HB hx374_0 hx375_0 hHeld ⊢; refine pure_ (i := 0) (N := some 15) (v := ?_) (a' := ?_) #[true, false, false, false, false, false, false, false, false, false, false, false, false, false, false] rfl rfl (any_of HT_.out Zq2) (fun _ _ _ h => h) (Or.inl ⟨Zq3, ?_⟩) ?_ ?_
        rotate_left
        ·intro w'
         go_simp
         with_reducible rfl
        rotate_left
        ·simp only [Sx]
         rfl
        refine pure_ (i := 1) (N := some 16) (v := ?_) (a' := ?_) #[true, true, false, false, false, false, false, false, false, false, false, false, false, false, false] rfl rfl (any_of HT_.out Zq2) (fun _ _ _ h => h) (Or.inl ⟨Zq3, ?_⟩) ?_ ?_
        rotate_left
        ·intro w'
         go_simp
         with_reducible rfl
        rotate_left
        ·simp only [Sx]
         rfl
        refine pure_ (i := 2) (N := some 17) (v := ?_) (a' := ?_) #[true, true, true, false, false, false, false, false, false, false, false, false, false, false, false] rfl rfl (any_of HT_.out Zq2) (fun _ _ _ h => h) (Or.inl ⟨Zq3, ?_⟩) ?_ ?_
        rotate_left
        ·intro w'
         go_simp
         with_reducible rfl
        rotate_left
        ·simp only [Sx]
         rfl
        refine take_ (i := 3) (N := some 18) (v := ?_) (a' := ?_) #[true, true, true, true, false, false, false, false, false, false, false, false, false, false, false] rfl rfl (take_ofW HT_.out HW_.out Zq2) (fun _ _ _ h => h) (Or.inl ⟨Zq3, ?_⟩) hHeld ?_ ?_
        rotate_left
        ·rintro w' ⟨s0, s1, s2, s3, s4⟩
         go_simp
         with_reducible rfl
        rotate_left
        ·simp only [Sx]
         rfl
        refine pure_ (i := 4) (N := some 19) (v := ?_) (a' := ?_) #[true, true, true, true, true, false, false, false, false, false, false, false, false, false, false] rfl rfl (any_of HT_.out Zq2) (fun _ _ _ h => h) (Or.inl ⟨Zq3, ?_⟩) ?_ ?_
        rotate_left
        ·intro w'
         go_simp
         with_reducible rfl
        rotate_left
        ·simp only [Sx]
         rfl
        refine pure_ (i := 5) (N := some 20) (v := ?_) (a' := ?_) #[true, true, true, true, true, true, false, false, false, false, false, false, false, false, false] rfl rfl (any_of HT_.out Zq2) (fun _ _ _ h => h) (Or.inl ⟨Zq3, ?_⟩) ?_ ?_
        rotate_left
        ·intro w'
         go_simp
         with_reducible rfl
        rotate_left
        ·simp only [Sx]
         rfl
        refine pure_ (i := 6) (N := some 21) (v := ?_) (a' := ?_) #[true, true, true, true, true, true, true, false, false, false, false, false, false, false, false] rfl rfl (any_of HT_.out Zq2) (fun _ _ _ h => h) (Or.inl ⟨Zq3, ?_⟩) ?_ ?_
        rotate_left
        ·intro w'
         go_simp
         with_reducible rfl
        rotate_left
        ·simp only [Sx]
         rfl
        refine pure_ (i := 7) (N := some 22) (v := ?_) (a' := ?_) #[true, true, true, true, true, true, true, true, false, false, false, false, false, false, false] rfl rfl (any_of HT_.out Zq2) (fun _ _ _ h => h) (Or.inl ⟨Zq3, ?_⟩) ?_ ?_
        rotate_left
        ·intro w'
         go_simp
         with_reducible rfl
        rotate_left
        ·simp only [Sx]
         rfl
        refine pure_ (i := 8) (N := some 23) (v := ?_) (a' := ?_) #[true, true, true, true, true, true, true, true, true, false, false, false, false, false, false] rfl rfl (any_of HT_.out Zq2) (fun _ _ _ h => h) (Or.inl ⟨Zq3, ?_⟩) ?_ ?_
        rotate_left
        ·intro w'
         go_simp
         with_reducible rfl
        rotate_left
        ·simp only [Sx]
         rfl
        refine pure_ (i := 10) (N := some 25) (v := ?_) (a' := ?_) #[true, true, true, true, true, true, true, true, true, false, true, false, false, false, false] rfl rfl (any_of HT_.out Zq2) (fun _ _ _ h => h) (Or.inl ⟨Zq3, ?_⟩) ?_ ?_
        rotate_left
        ·intro w'
         go_simp
         with_reducible rfl
        rotate_left
        ·simp only [Sx]
         rfl
        refine take_ (i := 9) (N := some 24) (v := ?_) (a' := ?_) #[true, true, true, true, true, true, true, true, true, true, true, false, false, false, false] rfl rfl (take_ofW HT_.out HW_.out Zq2) (fun _ _ _ h => h) (Or.inl ⟨Zq3, ?_⟩) hHeld ?_ ?_
        rotate_left
        ·rintro w' ⟨s0, s1, s2, s3, s4⟩
         go_simp
         with_reducible rfl
        rotate_left
        ·simp only [Sx]
         rfl
        refine take_ (i := 11) (N := some 26) (v := ?_) (a' := ?_) #[true, true, true, true, true, true, true, true, true, true, true, true, false, false, false] rfl rfl (take_ofW HT_.out HW_.out Zq2) (fun _ _ _ h => h) (Or.inl ⟨Zq3, ?_⟩) hHeld ?_ ?_
        rotate_left
        ·rintro w' ⟨s0, s1, s2, s3, s4⟩
         go_simp
         with_reducible rfl
        rotate_left
        ·simp only [Sx]
         rfl
        refine pure_ (i := 12) (N := some 27) (v := ?_) (a' := ?_) #[true, true, true, true, true, true, true, true, true, true, true, true, true, false, false] rfl rfl (any_of HT_.out Zq2) (fun _ _ _ h => h) (Or.inl ⟨Zq3, ?_⟩) ?_ ?_
        rotate_left
        ·intro w'
         go_simp
         with_reducible rfl
        rotate_left
        ·simp only [Sx]
         rfl
        refine pure_ (i := 13) (N := some 28) (v := ?_) (a' := ?_) #[true, true, true, true, true, true, true, true, true, true, true, true, true, true, false] rfl rfl (any_of HT_.out Zq2) (fun _ _ _ h => h) (Or.inl ⟨Zq3, ?_⟩) ?_ ?_
        rotate_left
        ·intro w'
         go_simp
         with_reducible rfl
        rotate_left
        ·simp only [Sx]
         rfl
        refine pure_ (i := 14) (N := some 29) (v := ?_) (a' := ?_) #[true, true, true, true, true, true, true, true, true, true, true, true, true, true, true] rfl rfl (any_of HT_.out Zq2) (fun _ _ _ h => h) (Or.inl ⟨Zq3, ?_⟩) ?_ ?_
        rotate_left
        ·intro w'
         go_simp
         with_reducible rfl
        rotate_left
        ·simp only [Sx]
         rfl
        refine done_ (done_of HT_.out Zq2) ?_; have hnb22 := NB372_371.out; have hnc22 := NB371_372.out; have hnb23 := NB372_373.out; have hnc23 := NB373_372.out; have hcz24_0 : w20.cell? ⟨gbaG, 0, none⟩ = some (.string xdP_1) := (blk_cell BKaG.out 0).trans rfl; have hcz24_1 : w20.cell? ⟨gbaG, 1, none⟩ = some (.slice none 0 0) := (blk_cell BKaG.out 1).trans rfl; have hcz24_2 : w20.cell? ⟨gbaG, 2, none⟩ = some (.slice none 0 0) := (blk_cell BKaG.out 2).trans rfl; have hfz24_0 := blk_frozen BKaG.out 0; have hfz24_1 := blk_frozen BKaG.out 1; have hfz24_2 := blk_frozen BKaG.out 2
        try go_wp2
        refine bodyPost_ret (results_ct rfl _ _ gbaG 30 #[.string (⟨#[]⟩ : ByteArray), .slice none 0 0, .slice none 0 0] (0, 0) _ rfl (by (with_reducible repeat (first | refine blk_drewN ?_ _ | refine blk_drew ?_ | refine blk_alloc ?_ _)); refine blk_put (cs := #[.string (⟨#[]⟩ : ByteArray), .slice none 0 0, .slice none 0 0]) ?_ 2 _ rfl; (with_reducible repeat (first | refine blk_drewN ?_ _ | refine blk_drew ?_ | refine blk_alloc ?_ _)); refine blk_put (cs := #[.string (⟨#[]⟩ : ByteArray), .slice none 0 0, .slice none 0 0]) ?_ 1 _ rfl; (with_reducible repeat (first | refine blk_drewN ?_ _ | refine blk_drew ?_ | refine blk_alloc ?_ _)); refine blk_put (cs := #[.string xdP_1, .slice none 0 0, .slice none 0 0]) ?_ 0 _ rfl; (with_reducible repeat (first | refine blk_drewN ?_ _ | refine blk_drew ?_ | refine blk_alloc ?_ _)); exact BKaG.out) Try.underlying30 rfl Zq2) rfl ?_
        exact ⟨_, _, Zq11, Kd.V_nil _ _ _ _ _, Kd.V_nil _ _ _ _ _, Zq96⟩
       ·rw [if_neg c19] at H; have c19b0 : decide ((xaK_1.length : Int) ≤ (rd l1 x12_1)) = false := decide_eq_false c19; clear c19
        by_cases c25 : 0 ≤ (rd l1 x12_1)
        ·rw [if_pos c25] at H; have c25b0 : decide (0 ≤ (rd l1 x12_1)) = true := decide_eq_true c25; clear c25
         by_cases c26 : (rd l1 x12_1) < (xaK_1.length : Int)
         ·rw [if_pos c26] at H; have c26b0 : decide ((rd l1 x12_1) < (xaK_1.length : Int)) = true := decide_eq_true c26; clear c26; have H' := Ak H; clear H
          try go_wp2
          have n0_ := Ak (Kd.V_drew HO_cp.out); have n1_ := Ak (Kd.V_drew HO_cq.out); have n2_ := Ak (Kd.V_drew HO_bK.out); have n3_ := Ak (Kd.V_drew HO_aK.out); have n4_ := Ak (blk_drew BKaY.out); have n5_ := Ak (blk_drew BKaG.out); have n6_ := Ak (blk_drew BKar.out); have n7_ := Zq178; clear HO_cp HO_cq HO_bK HO_aK BKaY BKaG BKar HB; have HO_cp := n0_; have HO_cq := n1_; have HO_bK := n2_; have HO_aK := n3_; have BKaY := n4_; have BKaG := n5_; have BKar := n6_; have HB := n7_; clear n0_ n1_ n2_ n3_ n4_ n5_ n6_ n7_; have p374 : 0 ≤ (x12_1 : Int) := of_decide_eq_true Zq4; have q374 : x12_1 < (l1.length : Int) := of_decide_eq_true Zq4; obtain ⟨addf, e374, hx374_0⟩ := Kd.at_int HR1.out x12_1 p374 q374; have hw374_0 := hx374_0
          cases e374
          replace hx374_0 := (HB.out.cell (World.block_lt_of_cell? w _ hx374_0)).trans hx374_0; replace p374 := eq_true p374; replace q374 := eq_true q374; have p375 : 0 ≤ (x12_1 : Int) := of_decide_eq_true Zq4; have q375 : x12_1 < (l1.length : Int) := of_decide_eq_true Zq4; obtain ⟨adfq, e375, hx375_0⟩ := Kd.at_int HR1.out x12_1 p375 q375; have hw375_0 := hx375_0
          obtain rfl : addf = adfq := (by injection e375)
          replace hx375_0 := (HB.out.cell (World.block_lt_of_cell? w _ hx375_0)).trans hx375_0; replace p375 := eq_true p375; replace q375 := eq_true q375; obtain ⟨Ao28, co28, eo28⟩ := Kd.V_slice HO_aK.out
          (first | subst eo28 | (injection eo28 with f1_ f2_ f3_; have f4_ := f1_.symm; have f5_ := f3_.symm; clear f1_ f2_ f3_; subst f4_; subst f5_))
          refine start_ (n := 15) (S := fun w' => w'.cell? ⟨gbar, 0, none⟩ = some (.string xcy_1) ∧ w'.cell? ⟨gbar, 1, none⟩ = some (u374001) ∧ w'.cell? ⟨gbar, 2, none⟩ = some (.slice Ao28 xaK_1.length co28) ∧ w'.cell? (addf.add (x12_1).toNat) = some (.int .i64 (rd l1 x12_1)) ∧ w'.cell? (addf.add (x12_1).toNat) = some (.int .i64 (rd l1 x12_1))) (ds := []) #[false, false, false, false, false, false, false, false, false, false, false, false, false, false, false] Zq2 rfl rfl ⟨(blk_cell BKar.out 0).trans rfl, (blk_cell BKar.out 1).trans rfl, (blk_cell BKar.out 2).trans rfl, ((HB.out.cell (World.block_lt_of_cell? w _ hw374_0)).trans hw374_0), ((HB.out.cell (World.block_lt_of_cell? w _ hw375_0)).trans hw375_0)⟩ (fun hHeld => ?_); refine with_tabW arboretref06_Get.tab5 arboretref06_Get.bits5 (fun HT_ HW_ => ?_); generalize wr.drew = w27 at HO_cp HO_cq HO_bK HO_aK BKaY BKaG BKar HB hx374_0 hx375_0 hHeld ⊢; refine pure_ (i := 0) (N := some 15) (v := ?_) (a' := ?_) #[true, false, false, false, false, false, false, false, false, false, false, false, false, false, false] rfl rfl (any_of HT_.out Zq2) (fun _ _ _ h => h) (Or.inl ⟨Zq3, ?_⟩) ?_ ?_
          rotate_left
          ·intro w'
           go_simp
           with_reducible rfl
          rotate_left
          ·simp only [Sx]
           rfl
          refine pure_ (i := 1) (N := some 16) (v := ?_) (a' := ?_) #[true, true, false, false, false, false, false, false, false, false, false, false, false, false, false] rfl rfl (any_of HT_.out Zq2) (fun _ _ _ h => h) (Or.inl ⟨Zq3, ?_⟩) ?_ ?_
          rotate_left
          ·intro w'
           go_simp
           with_reducible rfl
          rotate_left
          ·simp only [Sx]
           rfl
          refine pure_ (i := 2) (N := some 17) (v := ?_) (a' := ?_) #[true, true, true, false, false, false, false, false, false, false, false, false, false, false, false] rfl rfl (any_of HT_.out Zq2) (fun _ _ _ h => h) (Or.inl ⟨Zq3, ?_⟩) ?_ ?_
          rotate_left
          ·intro w'
           go_simp
           with_reducible rfl
          rotate_left
          ·simp only [Sx]
           rfl
          refine take_ (i := 3) (N := some 18) (v := ?_) (a' := ?_) #[true, true, true, true, false, false, false, false, false, false, false, false, false, false, false] rfl rfl (take_ofW HT_.out HW_.out Zq2) (fun _ _ _ h => h) (Or.inl ⟨Zq3, ?_⟩) hHeld ?_ ?_
          rotate_left
          ·rintro w' ⟨s0, s1, s2, s3, s4⟩
           go_simp
           with_reducible rfl
          rotate_left
          ·simp only [Sx]
           rfl
          refine pure_ (i := 4) (N := some 19) (v := ?_) (a' := ?_) #[true, true, true, true, true, false, false, false, false, false, false, false, false, false, false] rfl rfl (any_of HT_.out Zq2) (fun _ _ _ h => h) (Or.inl ⟨Zq3, ?_⟩) ?_ ?_
          rotate_left
          ·intro w'
           go_simp
           with_reducible rfl
          rotate_left
          ·simp only [Sx]
           rfl
          refine pure_ (i := 5) (N := some 20) (v := ?_) (a' := ?_) #[true, true, true, true, true, true, false, false, false, false, false, false, false, false, false] rfl rfl (any_of HT_.out Zq2) (fun _ _ _ h => h) (Or.inl ⟨Zq3, ?_⟩) ?_ ?_
          rotate_left
          ·intro w'
           go_simp
           with_reducible rfl
          rotate_left
          ·simp only [Sx]
           rfl
          refine pure_ (i := 6) (N := some 21) (v := ?_) (a' := ?_) #[true, true, true, true, true, true, true, false, false, false, false, false, false, false, false] rfl rfl (any_of HT_.out Zq2) (fun _ _ _ h => h) (Or.inl ⟨Zq3, ?_⟩) ?_ ?_
          rotate_left
          ·intro w'
           go_simp
           with_reducible rfl
          rotate_left
          ·simp only [Sx]
           rfl
          refine pure_ (i := 7) (N := some 22) (v := ?_) (a' := ?_) #[true, true, true, true, true, true, true, true, false, false, false, false, false, false, false] rfl rfl (any_of HT_.out Zq2) (fun _ _ _ h => h) (Or.inl ⟨Zq3, ?_⟩) ?_ ?_
          rotate_left
          ·intro w'
           go_simp
           with_reducible rfl
          rotate_left
          ·simp only [Sx]
           rfl
          refine pure_ (i := 8) (N := some 23) (v := ?_) (a' := ?_) #[true, true, true, true, true, true, true, true, true, false, false, false, false, false, false] rfl rfl (any_of HT_.out Zq2) (fun _ _ _ h => h) (Or.inl ⟨Zq3, ?_⟩) ?_ ?_
          rotate_left
          ·intro w'
           go_simp
           with_reducible rfl
          rotate_left
          ·simp only [Sx]
           rfl
          refine pure_ (i := 10) (N := some 25) (v := ?_) (a' := ?_) #[true, true, true, true, true, true, true, true, true, false, true, false, false, false, false] rfl rfl (any_of HT_.out Zq2) (fun _ _ _ h => h) (Or.inl ⟨Zq3, ?_⟩) ?_ ?_
          rotate_left
          ·intro w'
           go_simp
           with_reducible rfl
          rotate_left
          ·simp only [Sx]
           rfl
          refine take_ (i := 9) (N := some 24) (v := ?_) (a' := ?_) #[true, true, true, true, true, true, true, true, true, true, true, false, false, false, false] rfl rfl (take_ofW HT_.out HW_.out Zq2) (fun _ _ _ h => h) (Or.inl ⟨Zq3, ?_⟩) hHeld ?_ ?_
          rotate_left
          ·rintro w' ⟨s0, s1, s2, s3, s4⟩
           go_simp
           with_reducible rfl
          rotate_left
          ·simp only [Sx]
           rfl
          refine take_ (i := 11) (N := some 26) (v := ?_) (a' := ?_) #[true, true, true, true, true, true, true, true, true, true, true, true, false, false, false] rfl rfl (take_ofW HT_.out HW_.out Zq2) (fun _ _ _ h => h) (Or.inl ⟨Zq3, ?_⟩) hHeld ?_ ?_
          rotate_left
          ·rintro w' ⟨s0, s1, s2, s3, s4⟩
           go_simp
           with_reducible rfl
          rotate_left
          ·simp only [Sx]
           rfl
          refine pure_ (i := 12) (N := some 27) (v := ?_) (a' := ?_) #[true, true, true, true, true, true, true, true, true, true, true, true, true, false, false] rfl rfl (any_of HT_.out Zq2) (fun _ _ _ h => h) (Or.inl ⟨Zq3, ?_⟩) ?_ ?_
          rotate_left
          ·intro w'
           go_simp
           with_reducible rfl
          rotate_left
          ·simp only [Sx]
           rfl
          refine pure_ (i := 13) (N := some 28) (v := ?_) (a' := ?_) #[true, true, true, true, true, true, true, true, true, true, true, true, true, true, false] rfl rfl (any_of HT_.out Zq2) (fun _ _ _ h => h) (Or.inl ⟨Zq3, ?_⟩) ?_ ?_
          rotate_left
          ·intro w'
           go_simp
           with_reducible rfl
          rotate_left
          ·simp only [Sx]
           rfl
          refine pure_ (i := 14) (N := some 29) (v := ?_) (a' := ?_) #[true, true, true, true, true, true, true, true, true, true, true, true, true, true, true] rfl rfl (any_of HT_.out Zq2) (fun _ _ _ h => h) (Or.inl ⟨Zq3, ?_⟩) ?_ ?_
          rotate_left
          ·intro w'
           go_simp
           with_reducible rfl
          rotate_left
          ·simp only [Sx]
           rfl
          refine done_ (done_of HT_.out Zq2) ?_
          try go_wp2
          have n0_ := Ak (Kd.V_drew HO_cp.out); have n1_ := Ak (Kd.V_drew HO_cq.out); have n2_ := Ak (Kd.V_drew HO_bK.out); have n3_ := Ak (Kd.V_drew HO_aK.out); have n4_ := Ak (blk_drew BKaY.out); have n5_ := Ak (blk_drew BKaG.out); have n6_ := Ak (blk_drew BKar.out); have n7_ := Zq178; clear HO_cp HO_cq HO_bK HO_aK BKaY BKaG BKar HB; have HO_cp := n0_; have HO_cq := n1_; have HO_bK := n2_; have HO_aK := n3_; have BKaY := n4_; have BKaG := n5_; have BKar := n6_; have HB := n7_; clear n0_ n1_ n2_ n3_ n4_ n5_ n6_ n7_; have p376 : 0 ≤ (x12_1 : Int) := of_decide_eq_true Zq4; have q376 : x12_1 < (l1.length : Int) := of_decide_eq_true Zq4; obtain ⟨adgq, e376, hx376_0⟩ := Kd.at_int HR1.out x12_1 p376 q376; have hw376_0 := hx376_0
          obtain rfl : addf = adgq := (by injection e376)
          replace hx376_0 := (HB.out.cell (World.block_lt_of_cell? w _ hx376_0)).trans hx376_0; replace p376 := eq_true p376; replace q376 := eq_true q376; have p377 : 0 ≤ ((rd l1 x12_1) : Int) := of_decide_eq_true Zq4; have q377 : (rd l1 x12_1) < (xaK_1.length : Int) := of_decide_eq_true Zq4; obtain ⟨adbn, Abn_1, cbn_1, Abn_2, cbn_2, e377, hx377_0, hx377_1, hx377_2, hl377_1, hi377_1, hl377_2, hi377_2⟩ := at_T30 (Kd.V_reads' HO_aK.out).2.2 (rd l1 x12_1) p377 q377
          cases e377
          obtain ⟨ce377, hce377, hMe377, hcc377⟩ := Kd.V_get HO_aK.out z30 (rd l1 x12_1) p377 (by first | exact q377 | exact of_decide_eq_true Zq4 | (have e_ := (Kd.V_reads' HO_aK.out).1; omega)); obtain ⟨ua377_1, uc377_1, ua377_2, uc377_2, rfl, ul377_1, ge377_1, ul377_2, ge377_2⟩ := k30_openF hMe377; have hv377_1 := hcc377 1 _ rfl; rw [add_field _ _ 1 Zq1] at hv377_1; replace hv377_1 := Option.some.inj (hv377_1.symm.trans hx377_1); injection hv377_1 with hva_ hvn_ hvc_; rw [hva_] at ge377_1; rw [hvc_] at ul377_1; have HL377_1 := Ak (show Kd.V k77 77 _ w.heap.size _ _ ((rd_T30 xaK_1 (rd l1 x12_1)).f1) from Kd.V_mk ul377_1 ge377_1); clear hva_ hvn_ hvc_ ge377_1 ul377_1; have hv377_2 := hcc377 2 _ rfl; rw [add_field _ _ 2 Zq1] at hv377_2; replace hv377_2 := Option.some.inj (hv377_2.symm.trans hx377_2); injection hv377_2 with hva_ hvn_ hvc_; rw [hva_] at ge377_2; rw [hvc_] at ul377_2; have HL377_2 := Ak (show Kd.V k30 30 _ w.heap.size _ _ ((rd_T30 xaK_1 (rd l1 x12_1)).f2) from Kd.V_mk ul377_2 ge377_2); clear hva_ hvn_ hvc_ ge377_2 ul377_2 hcc377 hce377; have HRbn_1 := Ak hi377_1; have HCbn_1 := Ak hl377_1; clear hi377_1 hl377_1; have HRbn_2 := Ak hi377_2; have HCbn_2 := Ak hl377_2; clear hi377_2 hl377_2; replace p377 := eq_true p377; replace q377 := eq_true q377; refine start_ (n := 9) (S := fun w' => w'.cell? ⟨gbar, 0, none⟩ = some (.string xcy_1) ∧ w'.cell? ⟨gbar, 1, none⟩ = some (u374001) ∧ w'.cell? ⟨gbar, 2, none⟩ = some (.slice (some adbn) xaK_1.length co28) ∧ w'.cell? (addf.add (x12_1).toNat) = some (.int .i64 (rd l1 x12_1)) ∧ w'.cell? (adbn.add (((rd l1 x12_1)).toNat * 3)) = some (.string ((rd_T30 xaK_1 (rd l1 x12_1)).f0)) ∧ w'.cell? ⟨(adbn.add (((rd l1 x12_1)).toNat * 3)).block, (adbn.add (((rd l1 x12_1)).toNat * 3)).off + 1, none⟩ = some (.slice Abn_1 ((rd_T30 xaK_1 (rd l1 x12_1)).f1).length cbn_1) ∧ w'.cell? ⟨(adbn.add (((rd l1 x12_1)).toNat * 3)).block, (adbn.add (((rd l1 x12_1)).toNat * 3)).off + 2, none⟩ = some (.slice Abn_2 ((rd_T30 xaK_1 (rd l1 x12_1)).f2).length cbn_2)) (ds := [8]) #[false, false, false, false, false, false, false, false, false] Zq2 rfl rfl ⟨(blk_cell BKar.out 0).trans rfl, (blk_cell BKar.out 1).trans rfl, (blk_cell BKar.out 2).trans rfl, ((HB.out.cell (World.block_lt_of_cell? w _ hw376_0)).trans hw376_0), hx377_0, hx377_1, hx377_2⟩ (fun hHeld => ?_); refine with_tabW arboretref06_Get.tab7 arboretref06_Get.bits7 (fun HT_ HW_ => ?_); generalize w27.drew = w29 at HO_cp HO_cq HO_bK HO_aK BKaY BKaG BKar HB HL377_1 HL377_2 HRbn_1 HRbn_2 hx376_0 hx377_0 hx377_1 hx377_2 hHeld ⊢; refine pure_ (i := 0) (N := some 31) (v := ?_) (a' := ?_) #[true, false, false, false, false, false, false, false, false] rfl rfl (any_of HT_.out Zq2) (fun _ _ _ h => h) (Or.inl ⟨Zq3, ?_⟩) ?_ ?_
          rotate_left
          ·intro w'
           go_simp
           with_reducible rfl
          rotate_left
          ·simp only [Sx]
           rfl
          refine pure_ (i := 2) (N := some 33) (v := ?_) (a' := ?_) #[true, false, true, false, false, false, false, false, false] rfl rfl (any_of HT_.out Zq2) (fun _ _ _ h => h) (Or.inl ⟨Zq3, ?_⟩) ?_ ?_
          rotate_left
          ·intro w'
           go_simp
           with_reducible rfl
          rotate_left
          ·simp only [Sx]
           rfl
          refine pure_ (i := 3) (N := some 34) (v := ?_) (a' := ?_) #[true, false, true, true, false, false, false, false, false] rfl rfl (any_of HT_.out Zq2) (fun _ _ _ h => h) (Or.inl ⟨Zq3, ?_⟩) ?_ ?_
          rotate_left
          ·intro w'
           go_simp
           with_reducible rfl
          rotate_left
          ·simp only [Sx]
           rfl
          refine pure_ (i := 4) (N := some 35) (v := ?_) (a' := ?_) #[true, false, true, true, true, false, false, false, false] rfl rfl (any_of HT_.out Zq2) (fun _ _ _ h => h) (Or.inl ⟨Zq3, ?_⟩) ?_ ?_
          rotate_left
          ·intro w'
           go_simp
           with_reducible rfl
          rotate_left
          ·simp only [Sx]
           rfl
          refine take_ (i := 1) (N := some 32) (v := ?_) (a' := ?_) #[true, true, true, true, true, false, false, false, false] rfl rfl (take_ofW HT_.out HW_.out Zq2) (fun _ _ _ h => h) (Or.inl ⟨Zq3, ?_⟩) hHeld ?_ ?_
          rotate_left
          ·rintro w' ⟨s0, s1, s2, s3, s4, s5, s6⟩
           go_simp
           with_reducible rfl
          rotate_left
          ·simp only [Sx]
           rfl
          refine take_ (i := 5) (N := some 36) (v := ?_) (a' := ?_) #[true, true, true, true, true, true, false, false, false] rfl rfl (take_ofW HT_.out HW_.out Zq2) (fun _ _ _ h => h) (Or.inl ⟨Zq3, ?_⟩) hHeld ?_ ?_
          rotate_left
          ·rintro w' ⟨s0, s1, s2, s3, s4, s5, s6⟩
           go_simp
           with_reducible rfl
          rotate_left
          ·simp only [Sx]
           rfl
          refine pure_ (i := 6) (N := some 37) (v := ?_) (a' := ?_) #[true, true, true, true, true, true, true, false, false] rfl rfl (any_of HT_.out Zq2) (fun _ _ _ h => h) (Or.inl ⟨Zq3, ?_⟩) ?_ ?_
          rotate_left
          ·intro w'
           go_simp
           with_reducible rfl
          rotate_left
          ·simp only [Sx]
           rfl
          refine take_ (i := 7) (N := some 38) (v := ?_) (a' := ?_) #[true, true, true, true, true, true, true, true, false] rfl rfl (take_ofW HT_.out HW_.out Zq2) (fun _ _ _ h => h) (Or.inl ⟨Zq3, ?_⟩) hHeld ?_ ?_
          rotate_left
          ·rintro w' ⟨s0, s1, s2, s3, s4, s5, s6⟩
           go_simp
           with_reducible rfl
          rotate_left
          ·simp only [Sx]
           rfl
          refine last_ (i := 8) (N := none) #[true, true, true, true, true, true, true, true, true] rfl rfl (one_of HT_.out Zq2) Zq7 (fun K hK => ?_); have hs30 : w29.cell? ⟨gbar, 0, none⟩ = some (.string xcy_1) := (blk_cell BKar.out 0).trans rfl; have hfs30 := blk_frozen BKar.out 0; have hns30_0 := NB371_373.out; have hns30_1 := NB372_373.out; have hms30_0 := NB373_371.out; have hms30_1 := NB373_372.out; have hs31 : w29.cell? ⟨gbar, 1, none⟩ = some (u374001) := (blk_cell BKar.out 1).trans rfl; have hfs31 := blk_frozen BKar.out 1; have hns31_0 := NB371_373.out; have hns31_1 := NB372_373.out; have hms31_0 := NB373_371.out; have hms31_1 := NB373_372.out; have hs32 : w29.cell? ⟨gbar, 2, none⟩ = some (.slice (some adbn) xaK_1.length co28) := (blk_cell BKar.out 2).trans rfl; have hfs32 := blk_frozen BKar.out 2; have hns32_0 := NB371_373.out; have hns32_1 := NB372_373.out; have hms32_0 := NB373_371.out; have hms32_1 := NB373_372.out; refine skip_ (w1 := ?_) Zq3 rfl ?_ ?_
          rotate_left
          ·go_simp
           rfl
          refine hK.out _ _ ?_; clear hK K; refine done_ (done_of HT_.out Zq2) ?_
          try go_wp2
          go_roundg k1
          case measure => have := HK1.out; omega
          case rel => exact ⟨(wrap64 (x12_1 + 1)), (xdP_1), ((rd_T30 xaK_1 (rd l1 x12_1)).f0), ((rd_T30 xaK_1 (rd l1 x12_1)).f1), ((rd_T30 xaK_1 (rd l1 x12_1)).f2), (.slice Abn_1 ((rd_T30 xaK_1 (rd l1 x12_1)).f1).length cbn_1), (.slice Abn_2 ((rd_T30 xaK_1 (rd l1 x12_1)).f2).length cbn_2), Zq6, H', ⟨Zq31⟩, ⟨by (with_reducible repeat (first | apply Kd.V_alloc | apply Kd.V_drewN | apply Kd.V_drew)); exact Kd.V_mono (Kd.V_far (p := ⟨gbar, 2, none⟩) (Kd.V_far (p := ⟨gbar, 1, none⟩) (Kd.V_far (p := ⟨gbar, 0, none⟩) (Kd.V_mono HO_cp.out (fun k_ hk => (⟨hk, hk.2.2.2⟩ : _ ∧ k_ ≠ gbar))) (fun _ hk => hk.2) (.string ((rd_T30 xaK_1 (rd l1 x12_1)).f0))) (fun _ hk => hk.2) (.slice Abn_1 ((rd_T30 xaK_1 (rd l1 x12_1)).f1).length cbn_1)) (fun _ hk => hk.2) (.slice Abn_2 ((rd_T30 xaK_1 (rd l1 x12_1)).f2).length cbn_2)) (fun _ hk => ⟨hk.1.1, ⟨hk.1.2.1, ⟨hk.1.2.2.1, hk.1.2.2.2⟩⟩⟩)⟩, ⟨by (with_reducible repeat (first | apply Kd.V_alloc | apply Kd.V_drewN | apply Kd.V_drew)); exact Kd.V_mono (Kd.V_far (p := ⟨gbar, 2, none⟩) (Kd.V_far (p := ⟨gbar, 1, none⟩) (Kd.V_far (p := ⟨gbar, 0, none⟩) (Kd.V_mono HO_cq.out (fun k_ hk => (⟨hk, hk.2.2.2⟩ : _ ∧ k_ ≠ gbar))) (fun _ hk => hk.2) (.string ((rd_T30 xaK_1 (rd l1 x12_1)).f0))) (fun _ hk => hk.2) (.slice Abn_1 ((rd_T30 xaK_1 (rd l1 x12_1)).f1).length cbn_1)) (fun _ hk => hk.2) (.slice Abn_2 ((rd_T30 xaK_1 (rd l1 x12_1)).f2).length cbn_2)) (fun _ hk => ⟨hk.1.1, ⟨hk.1.2.1, ⟨hk.1.2.2.1, hk.1.2.2.2⟩⟩⟩)⟩, ⟨by (with_reducible repeat (first | apply Kd.V_alloc | apply Kd.V_drewN | apply Kd.V_drew)); exact Kd.V_mono (Kd.V_far (p := ⟨gbar, 2, none⟩) (Kd.V_far (p := ⟨gbar, 1, none⟩) (Kd.V_far (p := ⟨gbar, 0, none⟩) (Kd.V_mono HL377_1.out (fun k_ hk => (⟨hk, hk.2.2.2⟩ : _ ∧ k_ ≠ gbar))) (fun _ hk => hk.2) (.string ((rd_T30 xaK_1 (rd l1 x12_1)).f0))) (fun _ hk => hk.2) (.slice Abn_1 ((rd_T30 xaK_1 (rd l1 x12_1)).f1).length cbn_1)) (fun _ hk => hk.2) (.slice Abn_2 ((rd_T30 xaK_1 (rd l1 x12_1)).f2).length cbn_2)) (fun _ hk => ⟨hk.1.1, ⟨hk.1.2.1, ⟨hk.1.2.2.1, hk.1.2.2.2⟩⟩⟩)⟩, ⟨by (with_reducible repeat (first | apply Kd.V_alloc | apply Kd.V_drewN | apply Kd.V_drew)); exact Kd.V_mono (Kd.V_far (p := ⟨gbar, 2, none⟩) (Kd.V_far (p := ⟨gbar, 1, none⟩) (Kd.V_far (p := ⟨gbar, 0, none⟩) (Kd.V_mono HL377_2.out (fun k_ hk => (⟨hk, hk.2.2.2⟩ : _ ∧ k_ ≠ gbar))) (fun _ hk => hk.2) (.string ((rd_T30 xaK_1 (rd l1 x12_1)).f0))) (fun _ hk => hk.2) (.slice Abn_1 ((rd_T30 xaK_1 (rd l1 x12_1)).f1).length cbn_1)) (fun _ hk => hk.2) (.slice Abn_2 ((rd_T30 xaK_1 (rd l1 x12_1)).f2).length cbn_2)) (fun _ hk => ⟨hk.1.1, ⟨hk.1.2.1, ⟨hk.1.2.2.1, hk.1.2.2.2⟩⟩⟩)⟩, ⟨by (with_reducible repeat (first | refine blk_drewN ?_ _ | refine blk_drew ?_ | refine blk_alloc ?_ _)); refine blk_far ?_ NB371_373.out _; (with_reducible repeat (first | refine blk_drewN ?_ _ | refine blk_drew ?_ | refine blk_alloc ?_ _)); refine blk_far ?_ NB371_373.out _; (with_reducible repeat (first | refine blk_drewN ?_ _ | refine blk_drew ?_ | refine blk_alloc ?_ _)); refine blk_far ?_ NB371_373.out _; (with_reducible repeat (first | refine blk_drewN ?_ _ | refine blk_drew ?_ | refine blk_alloc ?_ _)); exact BKaY.out⟩, ⟨by (with_reducible repeat (first | refine blk_drewN ?_ _ | refine blk_drew ?_ | refine blk_alloc ?_ _)); refine blk_far ?_ NB372_373.out _; (with_reducible repeat (first | refine blk_drewN ?_ _ | refine blk_drew ?_ | refine blk_alloc ?_ _)); refine blk_far ?_ NB372_373.out _; (with_reducible repeat (first | refine blk_drewN ?_ _ | refine blk_drew ?_ | refine blk_alloc ?_ _)); refine blk_far ?_ NB372_373.out _; (with_reducible repeat (first | refine blk_drewN ?_ _ | refine blk_drew ?_ | refine blk_alloc ?_ _)); exact BKaG.out⟩, ⟨by (with_reducible repeat (first | refine blk_drewN ?_ _ | refine blk_drew ?_ | refine blk_alloc ?_ _)); refine blk_put (cs := #[.string ((rd_T30 xaK_1 (rd l1 x12_1)).f0), .slice Abn_1 ((rd_T30 xaK_1 (rd l1 x12_1)).f1).length cbn_1, .slice (some adbn) xaK_1.length co28]) ?_ 2 _ rfl; (with_reducible repeat (first | refine blk_drewN ?_ _ | refine blk_drew ?_ | refine blk_alloc ?_ _)); refine blk_put (cs := #[.string ((rd_T30 xaK_1 (rd l1 x12_1)).f0), u374001, .slice (some adbn) xaK_1.length co28]) ?_ 1 _ rfl; (with_reducible repeat (first | refine blk_drewN ?_ _ | refine blk_drew ?_ | refine blk_alloc ?_ _)); refine blk_put (cs := #[.string xcy_1, u374001, .slice (some adbn) xaK_1.length co28]) ?_ 0 _ rfl; (with_reducible repeat (first | refine blk_drewN ?_ _ | refine blk_drew ?_ | refine blk_alloc ?_ _)); exact BKar.out⟩, ⟨Zq96⟩⟩
         ·rw [if_neg c26] at H; exact absurd H Zq9
        ·rw [if_neg c25] at H; exact absurd H Zq9
     ·rw [if_neg c13] at H; exact absurd H Zq9
    ·rw [if_neg c12] at H; exact absurd H Zq9
   ·rw [if_neg c11] at H; have c11b0 : decide (x12_1 < (l1.length : Int)) = false := decide_eq_false c11; clear c11; simp only [Option.some.injEq, Prod.mk.injEq] at H; obtain ⟨rfl, rfl, rfl, rfl⟩ := H; have hnb33 := NB373_371.out; have hnc33 := NB371_373.out; have hnb34 := NB373_372.out; have hnc34 := NB372_373.out; have hcz35_0 : wr.cell? ⟨gbar, 0, none⟩ = some (.string xcy_1) := (blk_cell BKar.out 0).trans rfl; have hcz35_1 : wr.cell? ⟨gbar, 1, none⟩ = some (u374001) := (blk_cell BKar.out 1).trans rfl; have hcz35_2 : wr.cell? ⟨gbar, 2, none⟩ = some (u374002) := (blk_cell BKar.out 2).trans rfl; have hfz35_0 := blk_frozen BKar.out 0; have hfz35_1 := blk_frozen BKar.out 1; have hfz35_2 := blk_frozen BKar.out 2; have hnb36 := NB372_371.out; have hnc36 := NB371_372.out; have hcz37_0 : wr.cell? ⟨gbaG, 0, none⟩ = some (.string xdP_1) := (blk_cell BKaG.out 0).trans rfl; have hcz37_1 : wr.cell? ⟨gbaG, 1, none⟩ = some (.slice none 0 0) := (blk_cell BKaG.out 1).trans rfl; have hcz37_2 : wr.cell? ⟨gbaG, 2, none⟩ = some (.slice none 0 0) := (blk_cell BKaG.out 2).trans rfl; have hfz37_0 := blk_frozen BKaG.out 0; have hfz37_1 := blk_frozen BKaG.out 1; have hfz37_2 := blk_frozen BKaG.out 2; obtain ⟨Ao38, co38, eo38⟩ := Kd.V_slice HO_bK.out; subst eo38; obtain ⟨Ao39, co39, eo39⟩ := Kd.V_slice HO_aK.out; subst eo39
    go_wp2
    refine bodyPost_ret (results_ct rfl _ _ gbaG 30 #[.string xcy_1, .slice Ao38 xbK_1.length co38, .slice Ao39 xaK_1.length co39] (0, 0) _ rfl (by (with_reducible repeat (first | refine blk_drewN ?_ _ | refine blk_drew ?_ | refine blk_alloc ?_ _)); refine blk_put (cs := #[.string xcy_1, .slice Ao38 xbK_1.length co38, .slice none 0 0]) ?_ 2 _ rfl; (with_reducible repeat (first | refine blk_drewN ?_ _ | refine blk_drew ?_ | refine blk_alloc ?_ _)); refine blk_put (cs := #[.string xcy_1, .slice none 0 0, .slice none 0 0]) ?_ 1 _ rfl; (with_reducible repeat (first | refine blk_drewN ?_ _ | refine blk_drew ?_ | refine blk_alloc ?_ _)); refine blk_put (cs := #[.string xdP_1, .slice none 0 0, .slice none 0 0]) ?_ 0 _ rfl; (with_reducible repeat (first | refine blk_drewN ?_ _ | refine blk_drew ?_ | refine blk_alloc ?_ _)); exact BKaG.out) Try.underlying30 rfl Zq2) rfl ?_
    exact ⟨_, _, Zq11, by (with_reducible repeat (first | apply Kd.V_alloc | apply Kd.V_drewN | apply Kd.V_drew)); exact Kd.V_mono (Kd.V_far (p := ⟨gbaG, 2, none⟩) (Kd.V_far (p := ⟨gbaG, 1, none⟩) (Kd.V_far (p := ⟨gbaG, 0, none⟩) (Kd.V_mono HO_bK.out (fun k_ hk => (⟨hk, hk.2.2.1⟩ : _ ∧ k_ ≠ gbaG))) (fun _ hk => hk.2) (.string xcy_1)) (fun _ hk => hk.2) (.slice Ao38 xbK_1.length co38)) (fun _ hk => hk.2) (.slice Ao39 xaK_1.length co39)) (fun _ hk => hk.1.1), by (with_reducible repeat (first | apply Kd.V_alloc | apply Kd.V_drewN | apply Kd.V_drew)); exact Kd.V_mono (Kd.V_far (p := ⟨gbaG, 2, none⟩) (Kd.V_far (p := ⟨gbaG, 1, none⟩) (Kd.V_far (p := ⟨gbaG, 0, none⟩) (Kd.V_mono HO_aK.out (fun k_ hk => (⟨hk, hk.2.2.1⟩ : _ ∧ k_ ≠ gbaG))) (fun _ hk => hk.2) (.string xcy_1)) (fun _ hk => hk.2) (.slice Ao38 xbK_1.length co38)) (fun _ hk => hk.2) (.slice Ao39 xaK_1.length co39)) (fun _ hk => hk.1.1), Zq96⟩
def arboretref01_Find.l0 : Nat → ByteArray → Int → Int → ByteArray → List (S77) → List (S30) → Option (Int)
 | 0, _, _, _, _, _, _ => none
 | k + 1, x1, x8, x9, xgr, xfr, xgs => if x9 < x8 then (if 0 ≤ x9 then (if x9 < (xfr.length : Int) then (if ((rd_T77 xfr x9).f0).toList = x1.toList then (some x9) else (arboretref01_Find.l0 k x1 x8 (wrap64 (x9 + 1)) xgr xfr xgs)) else (none)) else (none)) else (some (-1))
def arboretref01_Find.f (k : Nat) (a0_0 : ByteArray) (l0_1 : List (S77)) (l0_2 : List (S30)) (a1 : ByteArray) : Option (Int) := arboretref01_Find.l0 k a1 (l0_1.length : Int) 0 a0_0 l0_1 l0_2
theorem arboretref01_Find.mono_l : ∀ k, (∀ y0 y1 y2 y3 y4 y5, LeO (arboretref01_Find.l0 k y0 y1 y2 y3 y4 y5) (arboretref01_Find.l0 (k + 1) y0 y1 y2 y3 y4 y5))
 | 0 => fun _ _ _ _ _ _ r h => by simp [arboretref01_Find.l0] at h
 | k + 1 => by
  have ih0 := arboretref01_Find.mono_l k
  ·intro y0 y1 y2 y3 y4 y5; unfold arboretref01_Find.l0
   repeat' first | (with_reducible first | exact ih0 _ _ _ _ _ _ | exact LeO.refl _ | exact LeO.none _ | refine LeO.ite ?_ ?_ | refine LeO.bind ?_ (fun _ => ?_))
end Go.Proofs.Yteejaaeglfpcmab.PX

namespace Go.Proofs.Yteejaaeglfpcmab.PX
open Go.RowKit Go.Proofs.YteejaaeglfpcmabW.PrintWords Go.Proofs.YteejaaeglfpcmabW.PrintLast Go.Proofs.YteejaaeglfpcmabW.PrintMore
attribute [local go_sem] max2_int min2_int max_two min_two max_three min_three max_four min_four
theorem arboretref01_Find.mono : ∀ a0 a1 a2 a3 k, LeO (arboretref01_Find.f k a0 a1 a2 a3) (arboretref01_Find.f (k + 1) a0 a1 a2 a3) := by
 intro a0 a1 a2 a3 k; have ih0 := arboretref01_Find.mono_l k; unfold arboretref01_Find.f
 repeat' first | (with_reducible first | exact ih0 _ _ _ _ _ _ | exact LeO.refl _ | exact LeO.none _ | refine LeO.ite ?_ ?_ | refine LeO.bind ?_ (fun _ => ?_))
set_option maxHeartbeats 8000000 in
set_option maxRecDepth 100000 in
theorem arboretref01_Find.calls (k : Nat) (a0_0 : ByteArray) (A0_1 : Option Addr) (c0_1 : Nat) (l0_1 : List (S77)) (A0_2 : Option Addr) (c0_2 : Nat) (l0_2 : List (S30)) (a1 : ByteArray) (r : Int) (w : World) (hr0_1 : Kd.C k77 w A0_1 l0_1.length l0_1) (hc0_1 : l0_1.length ≤ c0_1) (hr0_2 : Kd.C k30 w A0_2 l0_2.length l0_2) (hc0_2 : l0_2.length ≤ c0_2) (h : arboretref01_Find.f k a0_0 l0_1 l0_2 a1 = some r) :
  Calls Try.prog 32 #[.agg #[.string a0_0, .slice A0_1 l0_1.length c0_1, .slice A0_2 l0_2.length c0_2], .string a1] w fun e w' => e = .returned (.int .i64 r) ∧ Below w.heap.size w w' := by
 have hu30 := Try.underlying30; have HR0_1 := Ak hr0_1; have HC0_1 := Ak hc0_1; clear hr0_1 hc0_1; have HR0_2 := Ak hr0_2; have HC0_2 := Ak hc0_2; clear hr0_2 hc0_2; have HB := Zq145; have H : (arboretref01_Find.l0 k a1 (l0_1.length : Int) 0 a0_0 l0_1 l0_2) = some r := h; clear h; have H' := Ak H; clear H
 go_enter Try.func32, Try.ntmps32
 go_wp2_with (first | ((with_reducible refine gate_dst (N := 2) rfl ?_); refine box_event ?hg (N := 2) ?hd (cs := #[.string a0_0, .slice A0_1 l0_1.length c0_1, .slice A0_2 l0_2.length c0_2]) (t := 30) ?hr ?_; (case hd | hg => rfl); (case hr => first | (go_simp; done) | (go_simp; rfl)); intro gbbC hg w3 hbox hb; have n0_ := Zq140; have n1_ := Ak (hbox); have n2_ := Ak ((by rw [hg]; exact (below_size Zq5) : w.heap.size ≤ gbbC)); have n3_ := Ak ((by rw [hg]; exact (below_size Zq5) : w.heap.size ≤ gbbC)); clear HB; have HB := n0_; have BKbC := n1_; have GWbC := n2_; have GEbC := n3_; clear n0_ n1_ n2_ n3_ hb hbox hg; have hcz4_0 : w3.cell? ⟨gbbC, 0, none⟩ = some (.string a0_0) := (blk_cell BKbC.out 0).trans rfl; have hcz4_1 : w3.cell? ⟨gbbC, 1, none⟩ = some (.slice A0_1 l0_1.length c0_1) := (blk_cell BKbC.out 1).trans rfl; have hcz4_2 : w3.cell? ⟨gbbC, 2, none⟩ = some (.slice A0_2 l0_2.length c0_2) := (blk_cell BKbC.out 2).trans rfl; have hfz4_0 := blk_frozen BKbC.out 0; have hfz4_1 := blk_frozen BKbC.out 1; have hfz4_2 := blk_frozen BKbC.out 2))
 go_loopg [9] k (fun kq v9 w' => ∃ (x9_1 : Int), v9 = .int .i64 x9_1 ∧ Aside0 (arboretref01_Find.l0 kq a1 (l0_1.length : Int) x9_1 a0_0 l0_1 l0_2 = some r) ∧ Aside0 (kq ≤ k) ∧ Aside0 (w'.heap[gbbC]? = some (.cells #[.string a0_0, (.slice A0_1 l0_1.length c0_1), (.slice A0_2 l0_2.length c0_2)] 30 (0, 0))) ∧ Aside0 (Below w.heap.size w w'))
 case atStart => exact ⟨(0), Zq6, H', ⟨Nat.le_refl _⟩, ⟨by (with_reducible repeat (first | refine blk_drewN ?_ _ | refine blk_drew ?_ | refine blk_alloc ?_ _)); exact BKbC.out⟩, ⟨Zq118⟩⟩
 case round =>
  clear H'
  try clear p2
  try clear c3
  try clear hcz4_0
  try clear hcz4_1
  try clear hcz4_2
  try clear hfz4_0
  try clear hfz4_1
  try clear hfz4_2
  obtain ⟨x9_1, rfl, HA, HK1, BKbC, HB⟩ := hrel
  cases gk with
  | zero => exact absurd HA.out (by simp [arboretref01_Find.l0])
  | succ k1 =>
   have H := HA.out; clear HA; simp only [arboretref01_Find.l0] at H
   by_cases c5 : x9_1 < (l0_1.length : Int)
   ·rw [if_pos c5] at H; have c5b0 : decide (x9_1 < (l0_1.length : Int)) = true := decide_eq_true c5; clear c5
    by_cases c6 : 0 ≤ x9_1
    ·rw [if_pos c6] at H; have c6b0 : decide (0 ≤ x9_1) = true := decide_eq_true c6; clear c6
     by_cases c7 : x9_1 < (l0_1.length : Int)
     ·rw [if_pos c7] at H; have c7b0 : decide (x9_1 < (l0_1.length : Int)) = true := decide_eq_true c7; clear c7
      by_cases c8 : ((rd_T77 l0_1 x9_1).f0).toList = a1.toList
      ·rw [if_pos c8] at H; have c8b0 : (((rd_T77 l0_1 x9_1).f0).toList == a1.toList) = true := beq_iff_eq.mpr c8; have c8b1 : (((rd_T77 l0_1 x9_1).f0).toList != a1.toList) = false := bne_eq_false_iff_eq.mpr c8; clear c8; obtain rfl := Option.some.inj H; have hcz9_0 : wr.cell? ⟨gbbC, 0, none⟩ = some (.string a0_0) := (blk_cell BKbC.out 0).trans rfl; have hcz9_1 : wr.cell? ⟨gbbC, 1, none⟩ = some (.slice A0_1 l0_1.length c0_1) := (blk_cell BKbC.out 1).trans rfl; have hcz9_2 : wr.cell? ⟨gbbC, 2, none⟩ = some (.slice A0_2 l0_2.length c0_2) := (blk_cell BKbC.out 2).trans rfl; have hfz9_0 := blk_frozen BKbC.out 0; have hfz9_1 := blk_frozen BKbC.out 1; have hfz9_2 := blk_frozen BKbC.out 2; have p282 : 0 ≤ (x9_1 : Int) := of_decide_eq_true Zq4; have q282 : x9_1 < (l0_1.length : Int) := of_decide_eq_true Zq4; obtain ⟨addQ, AdQ_1, cdQ_1, e282, hx282_0, hx282_1, hl282_1, hi282_1⟩ := at_T77 HR0_1.out x9_1 p282 q282
       cases e282
       replace hx282_0 := (HB.out.cell (World.block_lt_of_cell? w _ hx282_0)).trans hx282_0; replace hx282_1 := (HB.out.cell (World.block_lt_of_cell? w _ hx282_1)).trans hx282_1; have HRdQ_1 := Ak hi282_1; have HCdQ_1 := Ak hl282_1; clear hi282_1 hl282_1; replace p282 := eq_true p282; replace q282 := eq_true q282
       go_wp2
       go_ret
       exact ⟨Zq11, Zq118⟩
      ·rw [if_neg c8] at H; have c8b0 : (((rd_T77 l0_1 x9_1).f0).toList == a1.toList) = false := beq_eq_false_iff_ne.mpr c8; have c8b1 : (((rd_T77 l0_1 x9_1).f0).toList != a1.toList) = true := bne_iff_ne.mpr c8; have H' := Ak H; clear H; have hcz10_0 : wr.cell? ⟨gbbC, 0, none⟩ = some (.string a0_0) := (blk_cell BKbC.out 0).trans rfl; have hcz10_1 : wr.cell? ⟨gbbC, 1, none⟩ = some (.slice A0_1 l0_1.length c0_1) := (blk_cell BKbC.out 1).trans rfl; have hcz10_2 : wr.cell? ⟨gbbC, 2, none⟩ = some (.slice A0_2 l0_2.length c0_2) := (blk_cell BKbC.out 2).trans rfl; have hfz10_0 := blk_frozen BKbC.out 0; have hfz10_1 := blk_frozen BKbC.out 1; have hfz10_2 := blk_frozen BKbC.out 2; have p282 : 0 ≤ (x9_1 : Int) := of_decide_eq_true Zq4; have q282 : x9_1 < (l0_1.length : Int) := of_decide_eq_true Zq4; obtain ⟨addQ, AdQ_1, cdQ_1, e282, hx282_0, hx282_1, hl282_1, hi282_1⟩ := at_T77 HR0_1.out x9_1 p282 q282
       cases e282
       replace hx282_0 := (HB.out.cell (World.block_lt_of_cell? w _ hx282_0)).trans hx282_0; replace hx282_1 := (HB.out.cell (World.block_lt_of_cell? w _ hx282_1)).trans hx282_1; have HRdQ_1 := Ak hi282_1; have HCdQ_1 := Ak hl282_1; clear hi282_1 hl282_1; replace p282 := eq_true p282; replace q282 := eq_true q282
       go_wp2
       go_roundg k1
       case measure => have := HK1.out; omega
       case rel => exact ⟨(wrap64 (x9_1 + 1)), Zq6, H', ⟨Zq31⟩, ⟨by (with_reducible repeat (first | refine blk_drewN ?_ _ | refine blk_drew ?_ | refine blk_alloc ?_ _)); exact BKbC.out⟩, ⟨Zq118⟩⟩
     ·rw [if_neg c7] at H; exact absurd H Zq9
    ·rw [if_neg c6] at H; exact absurd H Zq9
   ·rw [if_neg c5] at H; have c5b0 : decide (x9_1 < (l0_1.length : Int)) = false := decide_eq_false c5; clear c5; obtain rfl := Option.some.inj H
    go_wp2
    go_ret
    exact ⟨Zq11, Zq118⟩
mutual
def arboretref01_Number.j0 : Nat → List Int → Int → Int → Bool → Option (Int × Bool)
 | 0, _, _, _, _ => none
 | k + 1, x0, x1, x2, x25 => if x25 = true then (some (0, false)) else (arboretref01_Number.l0 k x0 x1 0 x2 0)
def arboretref01_Number.l0 : Nat → List Int → Int → Int → Int → Int → Option (Int × Bool)
 | 0, _, _, _, _, _ => none
 | k + 1, x0, x1, x8, x26, x27 => if x27 < x26 then (if 0 ≤ (wrap64 (x1 + x27)) then (if (wrap64 (x1 + x27)) < (x0.length : Int) then (arboretref01_Number.l0 k x0 x1 (IntKind.u64.wrap ((IntKind.u64.wrap (x8 * 256)) + (IntKind.u64.wrap (rd x0 (wrap64 (x1 + x27)))))) x26 (wrap64 (x27 + 1))) else (none)) else (none)) else (some (x8, true))
end
def arboretref01_Number.f (k : Nat) (l0 : List Int) (a1 : Int) (a2 : Int) : Option (Int × Bool) := if a1 < 0 then (arboretref01_Number.j0 k l0 a1 a2 true) else (if a1 > (l0.length : Int) then (arboretref01_Number.j0 k l0 a1 a2 true) else (arboretref01_Number.j0 k l0 a1 a2 (decide ((wrap64 ((l0.length : Int) - a1)) < a2))))
theorem arboretref01_Number.mono_l : ∀ k, (∀ y0 y1 y2 y3, LeO (arboretref01_Number.j0 k y0 y1 y2 y3) (arboretref01_Number.j0 (k + 1) y0 y1 y2 y3)) ∧ (∀ y0 y1 y2 y3 y4, LeO (arboretref01_Number.l0 k y0 y1 y2 y3 y4) (arboretref01_Number.l0 (k + 1) y0 y1 y2 y3 y4))
 | 0 => ⟨fun _ _ _ _ r h => by simp [arboretref01_Number.j0] at h, fun _ _ _ _ _ r h => by simp [arboretref01_Number.l0] at h⟩
 | k + 1 => by
  obtain ⟨ih0, ih1⟩ := arboretref01_Number.mono_l k; refine ⟨?_, ?_⟩
  ·intro y0 y1 y2 y3; unfold arboretref01_Number.j0
   repeat' first | (with_reducible first | exact ih0 _ _ _ _ | exact ih1 _ _ _ _ _ | exact LeO.refl _ | exact LeO.none _ | refine LeO.ite ?_ ?_ | refine LeO.bind ?_ (fun _ => ?_))
  ·intro y0 y1 y2 y3 y4; unfold arboretref01_Number.l0
   repeat' first | (with_reducible first | exact ih0 _ _ _ _ | exact ih1 _ _ _ _ _ | exact LeO.refl _ | exact LeO.none _ | refine LeO.ite ?_ ?_ | refine LeO.bind ?_ (fun _ => ?_))
theorem arboretref01_Number.mono : ∀ a0 a1 a2 k, LeO (arboretref01_Number.f k a0 a1 a2) (arboretref01_Number.f (k + 1) a0 a1 a2) := by
 intro a0 a1 a2 k; obtain ⟨ih0, ih1⟩ := arboretref01_Number.mono_l k; unfold arboretref01_Number.f
 repeat' first | (with_reducible first | exact ih0 _ _ _ _ | exact ih1 _ _ _ _ _ | exact LeO.refl _ | exact LeO.none _ | refine LeO.ite ?_ ?_ | refine LeO.bind ?_ (fun _ => ?_))
set_option maxHeartbeats 8000000 in
set_option maxRecDepth 100000 in
theorem arboretref01_Number.calls (k : Nat) (A0 : Option Addr) (c0 : Nat) (l0 : List Int) (a1 : Int) (a2 : Int) (r1 : Int) (r2 : Bool) (w : World) (hr0 : Kd.C (Kd.int .u8) w A0 l0.length l0) (hc0 : l0.length ≤ c0) (h : arboretref01_Number.f k l0 a1 a2 = some (r1, r2)) :
  Calls Try.prog 73 #[.slice A0 l0.length c0, .int .i64 a1, .int .i64 a2] w fun e w' => e = .returned (.tuple #[.int .u64 r1, .bool r2]) ∧ Drawn0 w w' := by
 have HR0 := Ak hr0; have HC0 := Ak hc0; clear hr0 hc0; have H : (if a1 < 0 then (arboretref01_Number.j0 k l0 a1 a2 true) else (if a1 > (l0.length : Int) then (arboretref01_Number.j0 k l0 a1 a2 true) else (arboretref01_Number.j0 k l0 a1 a2 (decide ((wrap64 ((l0.length : Int) - a1)) < a2))))) = some (r1, r2) := h; clear h; have HC4 := Ak H; clear H
 go_enter Try.func73, Try.ntmps73
 go_upto_region 1 with (fail)
 go_cut [25] (fun v25 wc => ∃ (kq : Nat) (x25_3 : Bool), v25 = .bool x25_3 ∧ Aside0 (arboretref01_Number.j0 kq l0 a1 a2 x25_3 = some (r1, r2)) ∧ Aside0 (kq ≤ k) ∧ Drawn0 w wc)
 case first =>
  have H := HC4.out; clear HC4
  by_cases c5 : a1 < 0
  ·rw [if_pos c5] at H; have c5b0 : decide (a1 < 0) = true := decide_eq_true c5; clear c5
   (first | rw [c5b0] | (simp only [i64_w, i32_w]; rw [c5b0]) | skip)
   have H' := Ak H; clear H
   go_wp2
   go_meet
   case rel => exact ⟨_, (true), Zq6, H', ⟨Zq19⟩, Zq10⟩
  ·rw [if_neg c5] at H; have c5b0 : decide (a1 < 0) = false := decide_eq_false c5; clear c5
   (first | rw [c5b0] | (simp only [i64_w, i32_w]; rw [c5b0]) | skip)
   by_cases c6 : a1 > (l0.length : Int)
   ·rw [if_pos c6] at H; have c6b0 : decide ((l0.length : Int) < a1) = true := decide_eq_true c6; clear c6; have H' := Ak H; clear H
    go_wp2
    go_meet
    case rel => exact ⟨_, (true), Zq6, H', ⟨Zq19⟩, Zq10⟩
   ·rw [if_neg c6] at H; have c6b0 : decide ((l0.length : Int) < a1) = false := decide_eq_false c6; clear c6; have H' := Ak H; clear H
    go_wp2
    go_meet
    case rel => exact ⟨_, (decide ((wrap64 ((l0.length : Int) - a1)) < a2)), Zq6, H', ⟨Zq19⟩, Zq10⟩
 case rest =>
  clear HC4
  try clear p2
  try clear c5
  try clear c5b0
  try clear c6
  try clear c6b0
  try clear p6
  obtain ⟨kq, x25_3, rfl, HA, HJ3, ⟨mc3, rfl⟩⟩ := hcut
  cases kq with
  | zero => exact absurd HA.out (by simp [arboretref01_Number.j0])
  | succ kj3 =>
   have H := HA.out; clear HA; simp only [arboretref01_Number.j0] at H
   by_cases c7 : x25_3 = true
   ·subst c7
    have H1 : (some (0, false)) = some (r1, r2) := by rw [if_pos rfl] at H; exact H
    clear H; have H := H1; clear H1; simp only [Option.some.injEq, Prod.mk.injEq] at H; obtain ⟨rfl, rfl⟩ := H
    go_wp2
    go_ret2
    exact ⟨Zq6, Zq10⟩
   ·replace c7 := Bool.eq_false_iff.mpr c7; subst c7
    have H1 : (arboretref01_Number.l0 kj3 l0 a1 0 a2 0) = some (r1, r2) := by rw [if_neg (show ¬ (false = true) by decide)] at H; exact H
    clear H; have H := H1; clear H1; have H' := Ak H; clear H
    go_wp2
    go_loopg [8, 27] kj3 (fun kq v8 v27 w' => ∃ (x8_2 : Int) (x27_2 : Int), v8 = .int .u64 x8_2 ∧ v27 = .int .i64 x27_2 ∧ Aside0 (arboretref01_Number.l0 kq l0 a1 x8_2 a2 x27_2 = some (r1, r2)) ∧ Aside0 (kq ≤ kj3) ∧ Drawn0 w w')
    case atStart => exact ⟨(0), (0), Zq6, Zq6, H', ⟨Nat.le_refl _⟩, Zq10⟩
    case round =>
     clear H'
     try clear p2
     try clear c3
     try clear c5
     try clear c5b0
     try clear c6
     try clear c6b0
     try clear p6
     try clear c7
     try clear p2
     try clear p6
     obtain ⟨x8_2, x27_2, rfl, rfl, HA, HK2, ⟨m2, rfl⟩⟩ := hrel
     cases gk with
     | zero => exact absurd HA.out (by simp [arboretref01_Number.l0])
     | succ k2 =>
      have H := HA.out; clear HA; simp only [arboretref01_Number.l0] at H
      by_cases c8 : x27_2 < a2
      ·rw [if_pos c8] at H; have c8b0 : decide (x27_2 < a2) = true := decide_eq_true c8; clear c8
       obtain ⟨ji9, hji9⟩ : ∃ j_ : Int, (wrap64 (a1 + x27_2)) = j_ := ⟨_, rfl⟩
       replace H : (if 0 ≤ (ji9) then (if (ji9) < (l0.length : Int) then (arboretref01_Number.l0 k2 l0 a1 (IntKind.u64.wrap ((IntKind.u64.wrap (x8_2 * 256)) + (IntKind.u64.wrap (rd l0 (ji9))))) a2 (wrap64 (x27_2 + 1))) else (none)) else (none)) = some (r1, r2) := by first | (rw [hji9] at H; exact H) | (simp only [hji9] at H ⊢; exact H)
       have hji9w : (IntKind.i64.wrap (a1 + x27_2)) = ji9 := (i64_w _).trans hji9
       by_cases c10 : 0 ≤ (ji9)
       ·rw [if_pos c10] at H; have c10b0 : decide (0 ≤ (ji9)) = true := decide_eq_true c10; clear c10
        by_cases c11 : (ji9) < (l0.length : Int)
        ·rw [if_pos c11] at H; have c11b0 : decide ((ji9) < (l0.length : Int)) = true := decide_eq_true c11; clear c11; have H' := Ak H; clear H; have p283 : 0 ≤ ((ji9) : Int) := of_decide_eq_true Zq4; have q283 : (ji9) < (l0.length : Int) := of_decide_eq_true Zq4; obtain ⟨adgC, e283, hx283_0⟩ := Kd.at_int HR0.out (ji9) p283 q283
         cases e283
         replace p283 := eq_true p283; replace q283 := eq_true q283
         go_wp2
         first | (go_roundg k2) | ((try subst hji9); go_roundg k2)
         case measure => have := HJ3.out; have := HK2.out; omega
         case rel => exact ⟨(IntKind.u64.wrap ((IntKind.u64.wrap (x8_2 * 256)) + (IntKind.u64.wrap (rd l0 (ji9))))), (wrap64 (x27_2 + 1)), (by first | rfl | (simp; done) | (simp only [← hji9] <;> (first | rfl | simp)) | (simp [*]; done)), Zq6, H', ⟨by have := HJ3.out; have := HK2.out; omega⟩, Zq10⟩
        ·rw [if_neg c11] at H; exact absurd H Zq9
       ·rw [if_neg c10] at H; exact absurd H Zq9
      ·rw [if_neg c8] at H; have c8b0 : decide (x27_2 < a2) = false := decide_eq_false c8; clear c8; simp only [Option.some.injEq, Prod.mk.injEq] at H; obtain ⟨rfl, rfl⟩ := H
       go_wp2
       go_ret2
       exact ⟨Zq6, Zq10⟩
def arboretref06_Cells.l0 : Nat → List Int → List Int → Int → Option (List Int × Int)
 | 0, _, _, _ => none
 | k + 1, x0, x4, x5 => if x5 < (x0.length : Int) then ((arboretref01_Number.f k x0 x5 4).bind fun btef => (if x4.length < 35184372088832 then (arboretref06_Cells.l0 k x0 (x4 ++ [(btef.1) % 4294967296]) (wrap64 (x5 + 4))) else (none))) else (some (x4, 0))
def arboretref06_Cells.f (k : Nat) (l0 : List Int) : Option (List Int × Int) := if ((l0.length : Int) % 4) = 0 then (arboretref06_Cells.l0 k l0 ([] : List Int) 0) else (some (([] : List Int), 4))
theorem arboretref06_Cells.mono_l : ∀ k, (∀ y0 y1 y2, LeO (arboretref06_Cells.l0 k y0 y1 y2) (arboretref06_Cells.l0 (k + 1) y0 y1 y2))
 | 0 => fun _ _ _ r h => by simp [arboretref06_Cells.l0] at h
 | k + 1 => by
  have ih0 := arboretref06_Cells.mono_l k
  ·intro y0 y1 y2; unfold arboretref06_Cells.l0
   repeat' first | (with_reducible first | exact ih0 _ _ _ | exact arboretref01_Number.mono _ _ _ _ | exact LeO.refl _ | exact LeO.none _ | refine LeO.ite ?_ ?_ | refine LeO.bind ?_ (fun _ => ?_))
theorem arboretref06_Cells.mono : ∀ a0 k, LeO (arboretref06_Cells.f k a0) (arboretref06_Cells.f (k + 1) a0) := by
 intro a0 k; have ih0 := arboretref06_Cells.mono_l k; unfold arboretref06_Cells.f
 repeat' first | (with_reducible first | exact ih0 _ _ _ | exact arboretref01_Number.mono _ _ _ _ | exact LeO.refl _ | exact LeO.none _ | refine LeO.ite ?_ ?_ | refine LeO.bind ?_ (fun _ => ?_))
set_option maxHeartbeats 8000000 in
set_option maxRecDepth 100000 in
theorem arboretref06_Cells.calls (k : Nat) (A0 : Option Addr) (c0 : Nat) (l0 : List Int) (r1 : List Int) (r2 : Int) (w : World) (hr0 : Kd.C (Kd.int .u8) w A0 l0.length l0) (hc0 : l0.length ≤ c0) (h : arboretref06_Cells.f k l0 = some (r1, r2)) :
  Calls Try.prog 99 #[.slice A0 l0.length c0] w fun e w' => ∃ v0_ : Value, e = .returned (.tuple #[v0_, .int .i64 r2]) ∧ Kd.R (Kd.int .u32) 32 w' w.heap.size (fun _ => True) v0_ r1 ∧ Below w.heap.size w w' := by
 have HR0 := Ak hr0; have HC0 := Ak hc0; clear hr0 hc0; have HB := Zq145; have H : (if ((l0.length : Int) % 4) = 0 then (arboretref06_Cells.l0 k l0 ([] : List Int) 0) else (some (([] : List Int), 4))) = some (r1, r2) := h; clear h
 by_cases c2 : ((l0.length : Int) % 4) = 0
 ·rw [if_pos c2] at H; have c2b0 : (((l0.length : Int) % 4) == 0) = true := beq_iff_eq.mpr c2; have c2b1 : (((l0.length : Int) % 4) != 0) = false := bne_eq_false_iff_eq.mpr c2; clear c2; have H' := Ak H; clear H
  go_enter Try.func99, Try.ntmps99
  go_wp2
  go_loopg [4, 5] k (fun kq v4 v5 w' => ∃ (x4_1 : List Int) (x5_1 : Int), v5 = .int .i64 x5_1 ∧ Aside0 (arboretref06_Cells.l0 kq l0 x4_1 x5_1 = some (r1, r2)) ∧ Aside0 (kq ≤ k) ∧ Aside0 (Kd.R (Kd.int .u32) 32 w' w.heap.size (fun _ => True) v4 x4_1) ∧ Aside0 (Below w.heap.size w w'))
  case atStart => exact ⟨(([] : List Int)), (0), Zq6, H', ⟨Nat.le_refl _⟩, ⟨Zq38⟩, ⟨Zq5⟩⟩
  case round =>
   clear H'
   try clear c2
   try clear c2b0
   try clear c2b1
   try clear p2
   obtain ⟨x4_1, x5_1, rfl, HA, HK1, HO_4, HB⟩ := hrel
   cases gk with
   | zero => exact absurd HA.out (by simp [arboretref06_Cells.l0])
   | succ k1 =>
    have H := HA.out; clear HA; simp only [arboretref06_Cells.l0] at H
    by_cases c3 : x5_1 < (l0.length : Int)
    ·rw [if_pos c3] at H; have c3b0 : decide (x5_1 < (l0.length : Int)) = true := decide_eq_true c3; clear c3; replace H := Option.bind_eq_some_iff.mp H; obtain ⟨⟨tef, tgt⟩, A40, H⟩ := H; replace H : (if x4_1.length < 35184372088832 then (arboretref06_Cells.l0 k1 l0 (x4_1 ++ [(tef) % 4294967296]) (wrap64 (x5_1 + 4))) else (none)) = some (r1, r2) := H; have A4 := Ak A40; clear A40
     by_cases c5 : x4_1.length < 35184372088832
     ·rw [if_pos c5] at H; have LMc5 := Ak c5; clear c5
      obtain ⟨ydr, hydr⟩ : ∃ y_ : List Int, y_ = (x4_1 ++ [(tef) % 4294967296]) := ⟨_, rfl⟩
      replace H : (arboretref06_Cells.l0 k1 l0 ydr (wrap64 (x5_1 + 4))) = some (r1, r2) := by first | (rw [hydr]; with_reducible exact H) | (have H2_ := (Option.bind_some _ _).symm.trans H; rw [hydr]; with_reducible exact H2_) | (have H2_ := (Option.bind_some _ _).symm.trans H; with_reducible exact H2_) | with_reducible exact H | (rw [hydr]; exact H) | exact H
      have Nydr := Ak hydr; clear hydr; have H' := Ak H; clear H
      go_wp2_with (first | ((with_reducible refine gate_callee (f := 73) rfl ?_); refine goesL_ (some 21) rfl rfl Try.func73 Zq2 rfl #[.slice A0 l0.length c0, .int .i64 x5_1, .int .i64 4] rfl Zq8 ?_; (with_reducible refine (arboretref01_Number.calls k1 _ _ l0 x5_1 4 tef tgt _ ?side1 ?side2 A4.out).mono ?_); (case side1 => repeat (first | exact (Kd.C_below HR0.out HB.out) | (with_reducible refine Kd.C_alloc ?_ _) | (with_reducible refine Kd.C_drewN ?_ _) | (with_reducible refine Kd.C_drew ?_))); (case side2 => exact HC0.out); rintro e w' ⟨rfl, ⟨nd, rfl⟩⟩; refine ⟨_, rfl, ?_⟩) | ((with_reducible refine gate_builtin (b := .append) (xs := #[.tmp 24, .tmp 27]) rfl ?_); at_builtin; refine Kd.R_append (Kd.int .u32) (w0 := w) w.heap.size rfl (.tmp 24) (.tmp 27) 86 32 (.int .u32 0) 4 rfl Try.underlying86 info32 rfl Zq7 Zq1 u4 x4_1 ((tef) % 4294967296) [.int .u32 ((tef) % 4294967296)] (fun _ => True) (fun _ => False) rfl rfl ?aP (fun _ hk => hk.elim) ?aF ?aO ?aB ?aS ?aL ?_; (case aP => exact rfl); (case aB => exact Zq5); (case aF => exact (fun _ _ => trivial)); (case aO => exact Zq108); (case aS => exact (below_size Zq5)); (case aL => have := LMc5.out; omega); intro v287 w6 ho hb hg hat; rw [← Nydr.out] at ho; have n0_ := Ak (hb); have n1_ := Ak (ho); clear HB HO_4; have HB := n0_; have HOgu := n1_; clear n0_ n1_ ho hb hg hat))
      go_roundg k1
      case measure => have := HK1.out; omega
      case rel => exact ⟨(ydr), (wrap64 (x5_1 + 4)), Zq6, H', ⟨Zq31⟩, ⟨by (with_reducible repeat (first | apply Kd.R_alloc | apply Kd.R_drewN | apply Kd.R_drew)); exact HOgu.out⟩, ⟨Zq5⟩⟩
     ·rw [if_neg c5] at H; exact absurd H Zq9
    ·rw [if_neg c3] at H; have c3b0 : decide (x5_1 < (l0.length : Int)) = false := decide_eq_false c3; clear c3; simp only [Option.some.injEq, Prod.mk.injEq] at H; obtain ⟨rfl, rfl⟩ := H
     go_wp2
     go_ret2
     exact ⟨_, Zq11, Zq108, Zq5⟩
 ·rw [if_neg c2] at H; have c2b0 : (((l0.length : Int) % 4) == 0) = false := beq_eq_false_iff_ne.mpr c2; have c2b1 : (((l0.length : Int) % 4) != 0) = true := bne_iff_ne.mpr c2; simp only [Option.some.injEq, Prod.mk.injEq] at H; obtain ⟨rfl, rfl⟩ := H
  go_enter Try.func99, Try.ntmps99
  go_wp2
  go_ret2
  exact ⟨_, Zq11, Zq38, Zq5⟩
def arboretref06_One.f (k : Nat) (a0_0 : ByteArray) (l0_1 : List (S77)) (l0_2 : List (S30)) (a1 : ByteArray) : Option (Int × Bool × Int) := (arboretref01_Find.f k a0_0 l0_1 l0_2 a1).bind fun tbp => (if tbp < 0 then (some (0, false, 0)) else (if 0 ≤ tbp then (if tbp < (l0_1.length : Int) then ((arboretref06_Cells.f k ((rd_T77 l0_1 tbp).f1)).bind fun btbG => (if btbG.2 = 0 then (if (btbG.1.length : Int) = 1 then (if 0 < (btbG.1.length : Int) then (some (rd btbG.1 0, true, 0)) else (none)) else (some (0, false, 4))) else (some (0, false, 4)))) else (none)) else (none)))
theorem arboretref06_One.mono : ∀ a0 a1 a2 a3 k, LeO (arboretref06_One.f k a0 a1 a2 a3) (arboretref06_One.f (k + 1) a0 a1 a2 a3) := by
 intro a0 a1 a2 a3 k; unfold arboretref06_One.f
 repeat' first | (with_reducible first | exact arboretref01_Find.mono _ _ _ _ _ | exact arboretref06_Cells.mono _ _ | exact LeO.refl _ | exact LeO.none _ | refine LeO.ite ?_ ?_ | refine LeO.bind ?_ (fun _ => ?_))
set_option maxHeartbeats 8000000 in
set_option maxRecDepth 100000 in
theorem arboretref06_One.calls (k : Nat) (a0_0 : ByteArray) (A0_1 : Option Addr) (c0_1 : Nat) (l0_1 : List (S77)) (A0_2 : Option Addr) (c0_2 : Nat) (l0_2 : List (S30)) (a1 : ByteArray) (r1 : Int) (r2 : Bool) (r3 : Int) (w : World) (hr0_1 : Kd.C k77 w A0_1 l0_1.length l0_1) (hc0_1 : l0_1.length ≤ c0_1) (hr0_2 : Kd.C k30 w A0_2 l0_2.length l0_2) (hc0_2 : l0_2.length ≤ c0_2) (h : arboretref06_One.f k a0_0 l0_1 l0_2 a1 = some (r1, r2, r3)) :
  Calls Try.prog 89 #[.agg #[.string a0_0, .slice A0_1 l0_1.length c0_1, .slice A0_2 l0_2.length c0_2], .string a1] w fun e w' => e = .returned (.tuple #[.int .u32 r1, .bool r2, .int .i64 r3]) ∧ Below w.heap.size w w' := by
 have hu30 := Try.underlying30; have HR0_1 := Ak hr0_1; have HC0_1 := Ak hc0_1; clear hr0_1 hc0_1; have HR0_2 := Ak hr0_2; have HC0_2 := Ak hc0_2; clear hr0_2 hc0_2; have HB := Zq145; have H : ((arboretref01_Find.f k a0_0 l0_1 l0_2 a1).bind fun tbp => (if tbp < 0 then (some (0, false, 0)) else (if 0 ≤ tbp then (if tbp < (l0_1.length : Int) then ((arboretref06_Cells.f k ((rd_T77 l0_1 tbp).f1)).bind fun btbG => (if btbG.2 = 0 then (if (btbG.1.length : Int) = 1 then (if 0 < (btbG.1.length : Int) then (some (rd btbG.1 0, true, 0)) else (none)) else (some (0, false, 4))) else (some (0, false, 4)))) else (none)) else (none)))) = some (r1, r2, r3) := h; clear h; replace H := Option.bind_eq_some_iff.mp H; obtain ⟨tbp, A30, H⟩ := H; replace H : (if tbp < 0 then (some (0, false, 0)) else (if 0 ≤ tbp then (if tbp < (l0_1.length : Int) then ((arboretref06_Cells.f k ((rd_T77 l0_1 tbp).f1)).bind fun btbG => (if btbG.2 = 0 then (if (btbG.1.length : Int) = 1 then (if 0 < (btbG.1.length : Int) then (some (rd btbG.1 0, true, 0)) else (none)) else (some (0, false, 4))) else (some (0, false, 4)))) else (none)) else (none))) = some (r1, r2, r3) := H; have A3 := Ak A30; clear A30
 by_cases c4 : tbp < 0
 ·rw [if_pos c4] at H; have c4b0 : decide (tbp < 0) = true := decide_eq_true c4; clear c4; simp only [Option.some.injEq, Prod.mk.injEq] at H; obtain ⟨rfl, rfl, rfl⟩ := H
  go_enter Try.func89, Try.ntmps89
  go_wp2_with (first | ((with_reducible refine gate_dst (N := 2) rfl ?_); (try (refine gate_guard Zq3 ?_; dsimp only)); refine box_event ?hg (N := 2) ?hd (cs := #[.string a0_0, .slice A0_1 l0_1.length c0_1, .slice A0_2 l0_2.length c0_2]) (t := 30) ?hr ?_; (case hd | hg => rfl); (case hr => first | (go_simp; done) | (go_simp; rfl)); intro gbaA hg w5 hbox hb; have n0_ := Zq140; have n1_ := Ak (hbox); have n2_ := Zq177; have n3_ := Zq177; clear HB; have HB := n0_; have BKaA := n1_; have GWaA := n2_; have GEaA := n3_; clear n0_ n1_ n2_ n3_ hb hbox hg; have hcz6_0 : w5.cell? ⟨gbaA, 0, none⟩ = some (.string a0_0) := (blk_cell BKaA.out 0).trans rfl; have hcz6_1 : w5.cell? ⟨gbaA, 1, none⟩ = some (.slice A0_1 l0_1.length c0_1) := (blk_cell BKaA.out 1).trans rfl; have hcz6_2 : w5.cell? ⟨gbaA, 2, none⟩ = some (.slice A0_2 l0_2.length c0_2) := (blk_cell BKaA.out 2).trans rfl; have hfz6_0 := blk_frozen BKaA.out 0; have hfz6_1 := blk_frozen BKaA.out 1; have hfz6_2 := blk_frozen BKaA.out 2) | ((with_reducible refine gate_callee (f := 32) rfl ?_); refine goesL_ (some 12) rfl rfl Try.func32 Zq2 rfl #[.agg #[.string a0_0, .slice A0_1 l0_1.length c0_1, .slice A0_2 l0_2.length c0_2], .string a1] rfl Zq8 ?_; (with_reducible refine (arboretref01_Find.calls k a0_0 _ _ l0_1 _ _ l0_2 a1 tbp _ ?side1 ?side2 ?side3 ?side4 A3.out).mono ?_); (case side1 => repeat (first | exact Zq142 | (with_reducible refine Kd.C_alloc ?_ _) | (with_reducible refine Kd.C_drewN ?_ _) | (with_reducible refine Kd.C_drew ?_))); (case side2 => exact HC0_1.out); (case side3 => repeat (first | exact Zq161 | (with_reducible refine Kd.C_alloc ?_ _) | (with_reducible refine Kd.C_drewN ?_ _) | (with_reducible refine Kd.C_drew ?_))); (case side4 => exact HC0_2.out); rintro e w7 ⟨rfl, hb⟩; refine ⟨_, rfl, ?_⟩; have n0_ := Zq187; have n1_ := Zq234; clear BKaA HB; have BKaA := n0_; have HB := n1_; clear n0_ n1_; (try clear hb); (try clear hb2); (try clear hk); (try clear hi)))
  go_ret3
  exact ⟨Zq11, Zq46⟩
 ·rw [if_neg c4] at H; have c4b0 : decide (tbp < 0) = false := decide_eq_false c4; clear c4
  by_cases c8 : 0 ≤ tbp
  ·rw [if_pos c8] at H; have c8b0 : decide (0 ≤ tbp) = true := decide_eq_true c8; clear c8
   by_cases c9 : tbp < (l0_1.length : Int)
   ·rw [if_pos c9] at H; have c9b0 : decide (tbp < (l0_1.length : Int)) = true := decide_eq_true c9; clear c9; replace H := Option.bind_eq_some_iff.mp H; obtain ⟨⟨tbG, tdR⟩, Adq, H⟩ := H; replace H : (if tdR = 0 then (if (tbG.length : Int) = 1 then (if 0 < (tbG.length : Int) then (some (rd tbG 0, true, 0)) else (none)) else (some (0, false, 4))) else (some (0, false, 4))) = some (r1, r2, r3) := H; have A10 := Ak Adq; clear Adq
    by_cases c11 : tdR = 0
    ·rw [if_pos c11] at H; have c11b0 : (tdR == 0) = true := beq_iff_eq.mpr c11; have c11b1 : (tdR != 0) = false := bne_eq_false_iff_eq.mpr c11; clear c11
     by_cases c12 : (tbG.length : Int) = 1
     ·rw [if_pos c12] at H; have c12b0 : ((tbG.length : Int) == 1) = true := beq_iff_eq.mpr c12; have c12b1 : ((tbG.length : Int) != 1) = false := bne_eq_false_iff_eq.mpr c12; clear c12
      by_cases c13 : 0 < (tbG.length : Int)
      ·rw [if_pos c13] at H; have c13b0 : decide (0 < (tbG.length : Int)) = true := decide_eq_true c13; have c13b1 : decide (0 < tbG.length) = true := decide_eq_true Zq1; clear c13; simp only [Option.some.injEq, Prod.mk.injEq] at H; obtain ⟨rfl, rfl, rfl⟩ := H
       go_enter Try.func89, Try.ntmps89
       go_wp2_with (first | ((with_reducible refine gate_dst (N := 2) rfl ?_); (try (refine gate_guard Zq3 ?_; dsimp only)); refine box_event ?hg (N := 2) ?hd (cs := #[.string a0_0, .slice A0_1 l0_1.length c0_1, .slice A0_2 l0_2.length c0_2]) (t := 30) ?hr ?_; (case hd | hg => rfl); (case hr => first | (go_simp; done) | (go_simp; rfl)); intro gbaA hg w14 hbox hb; have n0_ := Zq140; have n1_ := Ak (hbox); have n2_ := Zq177; have n3_ := Zq177; clear HB; have HB := n0_; have BKaA := n1_; have GWaA := n2_; have GEaA := n3_; clear n0_ n1_ n2_ n3_ hb hbox hg; have hcz15_0 : w14.cell? ⟨gbaA, 0, none⟩ = some (.string a0_0) := (blk_cell BKaA.out 0).trans rfl; have hcz15_1 : w14.cell? ⟨gbaA, 1, none⟩ = some (.slice A0_1 l0_1.length c0_1) := (blk_cell BKaA.out 1).trans rfl; have hcz15_2 : w14.cell? ⟨gbaA, 2, none⟩ = some (.slice A0_2 l0_2.length c0_2) := (blk_cell BKaA.out 2).trans rfl; have hfz15_0 := blk_frozen BKaA.out 0; have hfz15_1 := blk_frozen BKaA.out 1; have hfz15_2 := blk_frozen BKaA.out 2) | ((with_reducible refine gate_callee (f := 32) rfl ?_); refine goesL_ (some 12) rfl rfl Try.func32 Zq2 rfl #[.agg #[.string a0_0, .slice A0_1 l0_1.length c0_1, .slice A0_2 l0_2.length c0_2], .string a1] rfl Zq8 ?_; (with_reducible refine (arboretref01_Find.calls k a0_0 _ _ l0_1 _ _ l0_2 a1 tbp _ ?side1 ?side2 ?side3 ?side4 A3.out).mono ?_); (case side1 => repeat (first | exact Zq142 | (with_reducible refine Kd.C_alloc ?_ _) | (with_reducible refine Kd.C_drewN ?_ _) | (with_reducible refine Kd.C_drew ?_))); (case side2 => exact HC0_1.out); (case side3 => repeat (first | exact Zq161 | (with_reducible refine Kd.C_alloc ?_ _) | (with_reducible refine Kd.C_drewN ?_ _) | (with_reducible refine Kd.C_drew ?_))); (case side4 => exact HC0_2.out); rintro e w16 ⟨rfl, hb⟩; refine ⟨_, rfl, ?_⟩; have n0_ := Zq187; have n1_ := Zq234; clear BKaA HB; have BKaA := n0_; have HB := n1_; clear n0_ n1_; (try clear hb); (try clear hb2); (try clear hk); (try clear hi); have hcz17_0 : w16.cell? ⟨gbaA, 0, none⟩ = some (.string a0_0) := (blk_cell BKaA.out 0).trans rfl; have hcz17_1 : w16.cell? ⟨gbaA, 1, none⟩ = some (.slice A0_1 l0_1.length c0_1) := (blk_cell BKaA.out 1).trans rfl; have hcz17_2 : w16.cell? ⟨gbaA, 2, none⟩ = some (.slice A0_2 l0_2.length c0_2) := (blk_cell BKaA.out 2).trans rfl; have hfz17_0 := blk_frozen BKaA.out 0; have hfz17_1 := blk_frozen BKaA.out 1; have hfz17_2 := blk_frozen BKaA.out 2; have p291 : 0 ≤ (tbp : Int) := of_decide_eq_true Zq4; have q291 : tbp < (l0_1.length : Int) := of_decide_eq_true Zq4; obtain ⟨adbL, AbL_1, cbL_1, e291, hx291_0, hx291_1, hl291_1, hi291_1⟩ := at_T77 HR0_1.out tbp p291 q291; cases e291; replace hx291_0 := (HB.out.cell (World.block_lt_of_cell? w _ hx291_0)).trans hx291_0; replace hx291_1 := (HB.out.cell (World.block_lt_of_cell? w _ hx291_1)).trans hx291_1; have HRbL_1 := Ak hi291_1; have HCbL_1 := Ak hl291_1; clear hi291_1 hl291_1; replace p291 := eq_true p291; replace q291 := eq_true q291) | ((with_reducible refine gate_callee (f := 99) rfl ?_); refine goesL_ (some 22) rfl rfl Try.func99 Zq2 rfl #[.slice AbL_1 ((rd_T77 l0_1 tbp).f1).length cbL_1] rfl Zq8 ?_; (with_reducible refine (arboretref06_Cells.calls k _ _ ((rd_T77 l0_1 tbp).f1) tbG tdR _ ?side1 ?side2 A10.out).mono ?_); (case side1 => repeat (first | exact (Kd.C_below HRbL_1.out HB.out) | (with_reducible refine Kd.C_alloc ?_ _) | (with_reducible refine Kd.C_drewN ?_ _) | (with_reducible refine Kd.C_drew ?_))); (case side2 => exact HCbL_1.out); rintro e w18 ⟨v294, rfl, ho0, hb⟩; refine ⟨_, rfl, ?_⟩; have n0_ := Ak (Kd.R_lower ho0 (below_size Zq46)); have n1_ := Zq210; have n2_ := Zq234; clear BKaA HB; have HOeM := n0_; have BKaA := n1_; have HB := n2_; clear n0_ n1_ n2_; (try clear hb); (try clear hb2); (try clear hk); (try clear hi); (try clear ho0); obtain ⟨Ao19, co19, eo19⟩ := Kd.R_slice HOeM.out; subst eo19; have p296 : 0 ≤ (0 : Int) := Zq1; have q296 : 0 < (tbG.length : Int) := of_decide_eq_true Zq4; obtain ⟨adgD, e296, hx296_0⟩ := Kd.at_int (Kd.R_reads' HOeM.out).2.2 0 p296 q296; cases e296; have qi296 : (0 < tbG.length) = True := eq_true Zq1; (try rw [show ((0 : Int)).toNat = 0 from rfl] at hx296_0); (try rw [Addr.add_zero'] at hx296_0); replace p296 := eq_true p296; replace q296 := eq_true q296))
       go_ret3
       exact ⟨Zq11, Zq46⟩
      ·rw [if_neg c13] at H; exact absurd H Zq9
     ·rw [if_neg c12] at H; have c12b0 : ((tbG.length : Int) == 1) = false := beq_eq_false_iff_ne.mpr c12; have c12b1 : ((tbG.length : Int) != 1) = true := bne_iff_ne.mpr c12; simp only [Option.some.injEq, Prod.mk.injEq] at H; obtain ⟨rfl, rfl, rfl⟩ := H
      go_enter Try.func89, Try.ntmps89
      go_wp2_with (first | ((with_reducible refine gate_dst (N := 2) rfl ?_); (try (refine gate_guard Zq3 ?_; dsimp only)); refine box_event ?hg (N := 2) ?hd (cs := #[.string a0_0, .slice A0_1 l0_1.length c0_1, .slice A0_2 l0_2.length c0_2]) (t := 30) ?hr ?_; (case hd | hg => rfl); (case hr => first | (go_simp; done) | (go_simp; rfl)); intro gbaA hg w20 hbox hb; have n0_ := Zq140; have n1_ := Ak (hbox); have n2_ := Zq177; have n3_ := Zq177; clear HB; have HB := n0_; have BKaA := n1_; have GWaA := n2_; have GEaA := n3_; clear n0_ n1_ n2_ n3_ hb hbox hg; have hcz21_0 : w20.cell? ⟨gbaA, 0, none⟩ = some (.string a0_0) := (blk_cell BKaA.out 0).trans rfl; have hcz21_1 : w20.cell? ⟨gbaA, 1, none⟩ = some (.slice A0_1 l0_1.length c0_1) := (blk_cell BKaA.out 1).trans rfl; have hcz21_2 : w20.cell? ⟨gbaA, 2, none⟩ = some (.slice A0_2 l0_2.length c0_2) := (blk_cell BKaA.out 2).trans rfl; have hfz21_0 := blk_frozen BKaA.out 0; have hfz21_1 := blk_frozen BKaA.out 1; have hfz21_2 := blk_frozen BKaA.out 2) | ((with_reducible refine gate_callee (f := 32) rfl ?_); refine goesL_ (some 12) rfl rfl Try.func32 Zq2 rfl #[.agg #[.string a0_0, .slice A0_1 l0_1.length c0_1, .slice A0_2 l0_2.length c0_2], .string a1] rfl Zq8 ?_; (with_reducible refine (arboretref01_Find.calls k a0_0 _ _ l0_1 _ _ l0_2 a1 tbp _ ?side1 ?side2 ?side3 ?side4 A3.out).mono ?_); (case side1 => repeat (first | exact Zq142 | (with_reducible refine Kd.C_alloc ?_ _) | (with_reducible refine Kd.C_drewN ?_ _) | (with_reducible refine Kd.C_drew ?_))); (case side2 => exact HC0_1.out); (case side3 => repeat (first | exact Zq161 | (with_reducible refine Kd.C_alloc ?_ _) | (with_reducible refine Kd.C_drewN ?_ _) | (with_reducible refine Kd.C_drew ?_))); (case side4 => exact HC0_2.out); rintro e w22 ⟨rfl, hb⟩; refine ⟨_, rfl, ?_⟩; have n0_ := Zq187; have n1_ := Zq234; clear BKaA HB; have BKaA := n0_; have HB := n1_; clear n0_ n1_; (try clear hb); (try clear hb2); (try clear hk); (try clear hi); have hcz23_0 : w22.cell? ⟨gbaA, 0, none⟩ = some (.string a0_0) := (blk_cell BKaA.out 0).trans rfl; have hcz23_1 : w22.cell? ⟨gbaA, 1, none⟩ = some (.slice A0_1 l0_1.length c0_1) := (blk_cell BKaA.out 1).trans rfl; have hcz23_2 : w22.cell? ⟨gbaA, 2, none⟩ = some (.slice A0_2 l0_2.length c0_2) := (blk_cell BKaA.out 2).trans rfl; have hfz23_0 := blk_frozen BKaA.out 0; have hfz23_1 := blk_frozen BKaA.out 1; have hfz23_2 := blk_frozen BKaA.out 2; have p291 : 0 ≤ (tbp : Int) := of_decide_eq_true Zq4; have q291 : tbp < (l0_1.length : Int) := of_decide_eq_true Zq4; obtain ⟨adbL, AbL_1, cbL_1, e291, hx291_0, hx291_1, hl291_1, hi291_1⟩ := at_T77 HR0_1.out tbp p291 q291; cases e291; replace hx291_0 := (HB.out.cell (World.block_lt_of_cell? w _ hx291_0)).trans hx291_0; replace hx291_1 := (HB.out.cell (World.block_lt_of_cell? w _ hx291_1)).trans hx291_1; have HRbL_1 := Ak hi291_1; have HCbL_1 := Ak hl291_1; clear hi291_1 hl291_1; replace p291 := eq_true p291; replace q291 := eq_true q291) | ((with_reducible refine gate_callee (f := 99) rfl ?_); refine goesL_ (some 22) rfl rfl Try.func99 Zq2 rfl #[.slice AbL_1 ((rd_T77 l0_1 tbp).f1).length cbL_1] rfl Zq8 ?_; (with_reducible refine (arboretref06_Cells.calls k _ _ ((rd_T77 l0_1 tbp).f1) tbG tdR _ ?side1 ?side2 A10.out).mono ?_); (case side1 => repeat (first | exact (Kd.C_below HRbL_1.out HB.out) | (with_reducible refine Kd.C_alloc ?_ _) | (with_reducible refine Kd.C_drewN ?_ _) | (with_reducible refine Kd.C_drew ?_))); (case side2 => exact HCbL_1.out); rintro e w24 ⟨v294, rfl, ho0, hb⟩; refine ⟨_, rfl, ?_⟩; have n0_ := Ak (Kd.R_lower ho0 (below_size Zq46)); have n1_ := Zq210; have n2_ := Zq234; clear BKaA HB; have HOeM := n0_; have BKaA := n1_; have HB := n2_; clear n0_ n1_ n2_; (try clear hb); (try clear hb2); (try clear hk); (try clear hi); (try clear ho0); obtain ⟨Ao25, co25, eo25⟩ := Kd.R_slice HOeM.out; subst eo25))
      go_ret3
      exact ⟨Zq11, Zq46⟩
    ·rw [if_neg c11] at H; have c11b0 : (tdR == 0) = false := beq_eq_false_iff_ne.mpr c11; have c11b1 : (tdR != 0) = true := bne_iff_ne.mpr c11; simp only [Option.some.injEq, Prod.mk.injEq] at H; obtain ⟨rfl, rfl, rfl⟩ := H
     go_enter Try.func89, Try.ntmps89
     go_wp2_with (first | ((with_reducible refine gate_dst (N := 2) rfl ?_); (try (refine gate_guard Zq3 ?_; dsimp only)); refine box_event ?hg (N := 2) ?hd (cs := #[.string a0_0, .slice A0_1 l0_1.length c0_1, .slice A0_2 l0_2.length c0_2]) (t := 30) ?hr ?_; (case hd | hg => rfl); (case hr => first | (go_simp; done) | (go_simp; rfl)); intro gbaA hg w26 hbox hb; have n0_ := Zq140; have n1_ := Ak (hbox); have n2_ := Zq177; have n3_ := Zq177; clear HB; have HB := n0_; have BKaA := n1_; have GWaA := n2_; have GEaA := n3_; clear n0_ n1_ n2_ n3_ hb hbox hg; have hcz27_0 : w26.cell? ⟨gbaA, 0, none⟩ = some (.string a0_0) := (blk_cell BKaA.out 0).trans rfl; have hcz27_1 : w26.cell? ⟨gbaA, 1, none⟩ = some (.slice A0_1 l0_1.length c0_1) := (blk_cell BKaA.out 1).trans rfl; have hcz27_2 : w26.cell? ⟨gbaA, 2, none⟩ = some (.slice A0_2 l0_2.length c0_2) := (blk_cell BKaA.out 2).trans rfl; have hfz27_0 := blk_frozen BKaA.out 0; have hfz27_1 := blk_frozen BKaA.out 1; have hfz27_2 := blk_frozen BKaA.out 2) | ((with_reducible refine gate_callee (f := 32) rfl ?_); refine goesL_ (some 12) rfl rfl Try.func32 Zq2 rfl #[.agg #[.string a0_0, .slice A0_1 l0_1.length c0_1, .slice A0_2 l0_2.length c0_2], .string a1] rfl Zq8 ?_; (with_reducible refine (arboretref01_Find.calls k a0_0 _ _ l0_1 _ _ l0_2 a1 tbp _ ?side1 ?side2 ?side3 ?side4 A3.out).mono ?_); (case side1 => repeat (first | exact Zq142 | (with_reducible refine Kd.C_alloc ?_ _) | (with_reducible refine Kd.C_drewN ?_ _) | (with_reducible refine Kd.C_drew ?_))); (case side2 => exact HC0_1.out); (case side3 => repeat (first | exact Zq161 | (with_reducible refine Kd.C_alloc ?_ _) | (with_reducible refine Kd.C_drewN ?_ _) | (with_reducible refine Kd.C_drew ?_))); (case side4 => exact HC0_2.out); rintro e w28 ⟨rfl, hb⟩; refine ⟨_, rfl, ?_⟩; have n0_ := Zq187; have n1_ := Zq234; clear BKaA HB; have BKaA := n0_; have HB := n1_; clear n0_ n1_; (try clear hb); (try clear hb2); (try clear hk); (try clear hi); have hcz29_0 : w28.cell? ⟨gbaA, 0, none⟩ = some (.string a0_0) := (blk_cell BKaA.out 0).trans rfl; have hcz29_1 : w28.cell? ⟨gbaA, 1, none⟩ = some (.slice A0_1 l0_1.length c0_1) := (blk_cell BKaA.out 1).trans rfl; have hcz29_2 : w28.cell? ⟨gbaA, 2, none⟩ = some (.slice A0_2 l0_2.length c0_2) := (blk_cell BKaA.out 2).trans rfl; have hfz29_0 := blk_frozen BKaA.out 0; have hfz29_1 := blk_frozen BKaA.out 1; have hfz29_2 := blk_frozen BKaA.out 2; have p291 : 0 ≤ (tbp : Int) := of_decide_eq_true Zq4; have q291 : tbp < (l0_1.length : Int) := of_decide_eq_true Zq4; obtain ⟨adbL, AbL_1, cbL_1, e291, hx291_0, hx291_1, hl291_1, hi291_1⟩ := at_T77 HR0_1.out tbp p291 q291; cases e291; replace hx291_0 := (HB.out.cell (World.block_lt_of_cell? w _ hx291_0)).trans hx291_0; replace hx291_1 := (HB.out.cell (World.block_lt_of_cell? w _ hx291_1)).trans hx291_1; have HRbL_1 := Ak hi291_1; have HCbL_1 := Ak hl291_1; clear hi291_1 hl291_1; replace p291 := eq_true p291; replace q291 := eq_true q291) | ((with_reducible refine gate_callee (f := 99) rfl ?_); refine goesL_ (some 22) rfl rfl Try.func99 Zq2 rfl #[.slice AbL_1 ((rd_T77 l0_1 tbp).f1).length cbL_1] rfl Zq8 ?_; (with_reducible refine (arboretref06_Cells.calls k _ _ ((rd_T77 l0_1 tbp).f1) tbG tdR _ ?side1 ?side2 A10.out).mono ?_); (case side1 => repeat (first | exact (Kd.C_below HRbL_1.out HB.out) | (with_reducible refine Kd.C_alloc ?_ _) | (with_reducible refine Kd.C_drewN ?_ _) | (with_reducible refine Kd.C_drew ?_))); (case side2 => exact HCbL_1.out); rintro e w30 ⟨v294, rfl, ho0, hb⟩; refine ⟨_, rfl, ?_⟩; have n0_ := Ak (Kd.R_lower ho0 (below_size Zq46)); have n1_ := Zq210; have n2_ := Zq234; clear BKaA HB; have HOeM := n0_; have BKaA := n1_; have HB := n2_; clear n0_ n1_ n2_; (try clear hb); (try clear hb2); (try clear hk); (try clear hi); (try clear ho0)))
     go_ret3
     exact ⟨Zq11, Zq46⟩
   ·rw [if_neg c9] at H; exact absurd H Zq9
  ·rw [if_neg c8] at H; exact absurd H Zq9
def arboretref12_count.j0 : Nat → Int → Int → Bool → Bool → Option (Int)
 | 0, _, _, _, _ => none
 | k + 1, x2, x7, x8, x22 => if x22 = true then (some (-1)) else (if x8 = true then (some (wrap64 (x7))) else (some x2))
def arboretref12_count.f (k : Nat) (a0_0 : ByteArray) (l0_1 : List (S77)) (l0_2 : List (S30)) (a1 : ByteArray) (a2 : Int) : Option (Int) := (arboretref06_One.f k a0_0 l0_1 l0_2 a1).bind fun btbX => (if btbX.2.2 = 0 then (arboretref12_count.j0 k a2 btbX.1 btbX.2.1 (decide (btbX.1 > 2))) else (arboretref12_count.j0 k a2 btbX.1 btbX.2.1 true))
theorem arboretref12_count.mono_l : ∀ k, (∀ y0 y1 y2 y3, LeO (arboretref12_count.j0 k y0 y1 y2 y3) (arboretref12_count.j0 (k + 1) y0 y1 y2 y3))
 | 0 => fun _ _ _ _ r h => by simp [arboretref12_count.j0] at h
 | k + 1 => by
  have ih0 := arboretref12_count.mono_l k
  ·intro y0 y1 y2 y3; unfold arboretref12_count.j0
   repeat' first | (with_reducible first | exact ih0 _ _ _ _ | exact arboretref06_One.mono _ _ _ _ _ | exact LeO.refl _ | exact LeO.none _ | refine LeO.ite ?_ ?_ | refine LeO.bind ?_ (fun _ => ?_))
theorem arboretref12_count.mono : ∀ a0 a1 a2 a3 a4 k, LeO (arboretref12_count.f k a0 a1 a2 a3 a4) (arboretref12_count.f (k + 1) a0 a1 a2 a3 a4) := by
 intro a0 a1 a2 a3 a4 k; have ih0 := arboretref12_count.mono_l k; unfold arboretref12_count.f
 repeat' first | (with_reducible first | exact ih0 _ _ _ _ | exact arboretref06_One.mono _ _ _ _ _ | exact LeO.refl _ | exact LeO.none _ | refine LeO.ite ?_ ?_ | refine LeO.bind ?_ (fun _ => ?_))
set_option maxHeartbeats 8000000 in
set_option maxRecDepth 100000 in
theorem arboretref12_count.calls (k : Nat) (a0_0 : ByteArray) (A0_1 : Option Addr) (c0_1 : Nat) (l0_1 : List (S77)) (A0_2 : Option Addr) (c0_2 : Nat) (l0_2 : List (S30)) (a1 : ByteArray) (a2 : Int) (r : Int) (w : World) (hr0_1 : Kd.C k77 w A0_1 l0_1.length l0_1) (hc0_1 : l0_1.length ≤ c0_1) (hr0_2 : Kd.C k30 w A0_2 l0_2.length l0_2) (hc0_2 : l0_2.length ≤ c0_2) (h : arboretref12_count.f k a0_0 l0_1 l0_2 a1 a2 = some r) :
  Calls Try.prog 72 #[.agg #[.string a0_0, .slice A0_1 l0_1.length c0_1, .slice A0_2 l0_2.length c0_2], .string a1, .int .i64 a2] w fun e w' => e = .returned (.int .i64 r) ∧ Below w.heap.size w w' := by
 have hu30 := Try.underlying30; have HR0_1 := Ak hr0_1; have HC0_1 := Ak hc0_1; clear hr0_1 hc0_1; have HR0_2 := Ak hr0_2; have HC0_2 := Ak hc0_2; clear hr0_2 hc0_2; have HB := Zq145; have H : ((arboretref06_One.f k a0_0 l0_1 l0_2 a1).bind fun btbX => (if btbX.2.2 = 0 then (arboretref12_count.j0 k a2 btbX.1 btbX.2.1 (decide (btbX.1 > 2))) else (arboretref12_count.j0 k a2 btbX.1 btbX.2.1 true))) = some r := h; clear h; replace H := Option.bind_eq_some_iff.mp H; obtain ⟨⟨tbX, teu, teg⟩, A40, H⟩ := H; replace H : (if teg = 0 then (arboretref12_count.j0 k a2 tbX teu (decide (tbX > 2))) else (arboretref12_count.j0 k a2 tbX teu true)) = some r := H; have A4 := Ak A40; clear A40; have HC5 := Ak H; clear H
 go_enter Try.func72, Try.ntmps72
 go_upto_region 2 with (first | ((with_reducible refine gate_dst (N := 3) rfl ?_); refine box_event ?hg (N := 3) ?hd (cs := #[.string a0_0, .slice A0_1 l0_1.length c0_1, .slice A0_2 l0_2.length c0_2]) (t := 30) ?hr ?_; (case hd | hg => rfl); (case hr => first | (go_simp; done) | (go_simp; rfl)); intro gbbU hg w6 hbox hb; have n0_ := Zq140; have n1_ := Ak (hbox); have n2_ := Ak ((by rw [hg]; exact (below_size Zq5) : w.heap.size ≤ gbbU)); have n3_ := Ak ((by rw [hg]; exact (below_size Zq5) : w.heap.size ≤ gbbU)); clear HB; have HB := n0_; have BKbU := n1_; have GWbU := n2_; have GEbU := n3_; clear n0_ n1_ n2_ n3_ hb hbox hg; have hcz7_0 : w6.cell? ⟨gbbU, 0, none⟩ = some (.string a0_0) := (blk_cell BKbU.out 0).trans rfl; have hcz7_1 : w6.cell? ⟨gbbU, 1, none⟩ = some (.slice A0_1 l0_1.length c0_1) := (blk_cell BKbU.out 1).trans rfl; have hcz7_2 : w6.cell? ⟨gbbU, 2, none⟩ = some (.slice A0_2 l0_2.length c0_2) := (blk_cell BKbU.out 2).trans rfl; have hfz7_0 := blk_frozen BKbU.out 0; have hfz7_1 := blk_frozen BKbU.out 1; have hfz7_2 := blk_frozen BKbU.out 2) | ((with_reducible refine gate_callee (f := 89) rfl ?_); refine goesL_ (some 13) rfl rfl Try.func89 Zq2 rfl #[.agg #[.string a0_0, .slice A0_1 l0_1.length c0_1, .slice A0_2 l0_2.length c0_2], .string a1] rfl Zq8 ?_; (with_reducible refine (arboretref06_One.calls k a0_0 _ _ l0_1 _ _ l0_2 a1 tbX teu teg _ ?side1 ?side2 ?side3 ?side4 A4.out).mono ?_); (case side1 => repeat (first | exact Zq142 | (with_reducible refine Kd.C_alloc ?_ _) | (with_reducible refine Kd.C_drewN ?_ _) | (with_reducible refine Kd.C_drew ?_))); (case side2 => exact HC0_1.out); (case side3 => repeat (first | exact Zq161 | (with_reducible refine Kd.C_alloc ?_ _) | (with_reducible refine Kd.C_drewN ?_ _) | (with_reducible refine Kd.C_drew ?_))); (case side4 => exact HC0_2.out); rintro e w8 ⟨rfl, hb⟩; refine ⟨_, rfl, ?_⟩; have n0_ := Ak (blk_below (g := gbbU) (o := .cells #[.string a0_0, .slice A0_1 l0_1.length c0_1, .slice A0_2 l0_2.length c0_2] 30 (0, 0)) (by (with_reducible repeat (first | refine blk_drewN ?_ _ | refine blk_drew ?_ | refine blk_alloc ?_ _)); exact BKbU.out) hb); have n1_ := Ak (below_step Zq88 hb); clear BKbU HB; have BKbU := n0_; have HB := n1_; clear n0_ n1_; (try clear hb); (try clear hb2); (try clear hk); (try clear hi)))
 (try simp only [Act.put, List.setIfInBounds_toArray, List.set_cons_zero, List.set_cons_succ])
 go_cut [22] (fun v22 wc => ∃ (kq : Nat) (x22_4 : Bool), v22 = .bool x22_4 ∧ Aside0 (arboretref12_count.j0 kq a2 tbX teu x22_4 = some r) ∧ Aside0 (kq ≤ k) ∧ Aside0 (wc.heap[gbbU]? = some (.cells #[.string a0_0, (.slice A0_1 l0_1.length c0_1), (.slice A0_2 l0_2.length c0_2)] 30 (0, 0))) ∧ Aside0 (Below w.heap.size w wc))
 case first =>
  have H := HC5.out; clear HC5
  by_cases c9 : teg = 0
  ·rw [if_pos c9] at H; have c9b0 : (teg == 0) = true := beq_iff_eq.mpr c9; have c9b1 : (teg != 0) = false := bne_eq_false_iff_eq.mpr c9; clear c9
   (first | rw [c9b0] | (simp only [i64_w, i32_w]; rw [c9b0]) | skip)
   have H' := Ak H; clear H
   go_wp2
   go_meet
   case rel => exact ⟨_, (decide (tbX > 2)), Zq6, H', ⟨Zq19⟩, ⟨by (with_reducible repeat (first | refine blk_drewN ?_ _ | refine blk_drew ?_ | refine blk_alloc ?_ _)); exact BKbU.out⟩, ⟨Zq88⟩⟩
  ·rw [if_neg c9] at H; have c9b0 : (teg == 0) = false := beq_eq_false_iff_ne.mpr c9; have c9b1 : (teg != 0) = true := bne_iff_ne.mpr c9
   (first | rw [c9b0] | (simp only [i64_w, i32_w]; rw [c9b0]) | skip)
   have H' := Ak H; clear H
   go_wp2
   go_meet
   case rel => exact ⟨_, (true), Zq6, H', ⟨Zq19⟩, ⟨by (with_reducible repeat (first | refine blk_drewN ?_ _ | refine blk_drew ?_ | refine blk_alloc ?_ _)); exact BKbU.out⟩, ⟨Zq88⟩⟩
 case rest =>
  clear HC5
  try clear p2
  try clear c7
  try clear c8
  try clear c9
  try clear c9b0
  try clear c9b1
  try clear hcz7_0
  try clear hcz7_1
  try clear hcz7_2
  try clear hfz7_0
  try clear hfz7_1
  try clear hfz7_2
  obtain ⟨kq, x22_4, rfl, HA, HJ4, BKbU, HB⟩ := hcut
  cases kq with
  | zero => exact absurd HA.out (by simp [arboretref12_count.j0])
  | succ kj4 =>
   have H := HA.out; clear HA; simp only [arboretref12_count.j0] at H
   by_cases c10 : x22_4 = true
   ·subst c10
    have H1 : (some (-1)) = some r := by rw [if_pos rfl] at H; exact H
    clear H; have H := H1; clear H1; obtain rfl := Option.some.inj H
    go_wp2
    go_ret
    exact ⟨Zq11, Zq88⟩
   ·replace c10 := Bool.eq_false_iff.mpr c10; subst c10
    have H1 : (if teu = true then (some (wrap64 (tbX))) else (some a2)) = some r := by rw [if_neg (show ¬ (false = true) by decide)] at H; exact H
    clear H; have H := H1; clear H1
    by_cases c11 : teu = true
    ·subst c11
     have H1 : (some (wrap64 (tbX))) = some r := by rw [if_pos rfl] at H; exact H
     clear H; have H := H1; clear H1; obtain rfl := Option.some.inj H
     go_wp2
     go_ret
     exact ⟨Zq11, Zq88⟩
    ·replace c11 := Bool.eq_false_iff.mpr c11; subst c11
     have H1 : (some a2) = some r := by rw [if_neg (show ¬ (false = true) by decide)] at H; exact H
     clear H; have H := H1; clear H1; obtain rfl := Option.some.inj H
     go_wp2
     go_ret
     exact ⟨Zq11, Zq88⟩
def arboretref12_Counts.f (k : Nat) (a0_0 : ByteArray) (l0_1 : List (S77)) (l0_2 : List (S30)) : Option (Int × Int × Bool) := (arboretref12_count.f k a0_0 l0_1 l0_2 (⟨#[35, 97, 100, 100, 114, 101, 115, 115, 45, 99, 101, 108, 108, 115]⟩ : ByteArray) 2).bind fun tch => ((arboretref12_count.f k a0_0 l0_1 l0_2 (⟨#[35, 115, 105, 122, 101, 45, 99, 101, 108, 108, 115]⟩ : ByteArray) 1).bind fun tcr => (if tch ≥ 0 then (some (tch, tcr, decide (tcr ≥ 0))) else (some (tch, tcr, false))))
theorem arboretref12_Counts.mono : ∀ a0 a1 a2 k, LeO (arboretref12_Counts.f k a0 a1 a2) (arboretref12_Counts.f (k + 1) a0 a1 a2) := by
 intro a0 a1 a2 k; unfold arboretref12_Counts.f
 repeat' first | (with_reducible first | exact arboretref12_count.mono _ _ _ _ _ _ | exact LeO.refl _ | exact LeO.none _ | refine LeO.ite ?_ ?_ | refine LeO.bind ?_ (fun _ => ?_))
end Go.Proofs.Yteejaaeglfpcmab.PX
