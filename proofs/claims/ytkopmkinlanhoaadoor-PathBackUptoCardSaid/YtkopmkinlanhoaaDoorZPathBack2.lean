/- PathBack: texts of this session's, and what the kit's print laid for this seat, as far as the law's row uses them (PPx_arboretlaw03_Few, PPx_arboretref01_Cut, PPx_arboretref01_stands, PPx_arboretref01_Node, PPx_arboretref01_Prop, PPx_arboretref01_wrong, PPx_arboretref01_Count, PPx_arboretref01_Check, PPx_slices_Clone_int_int). -/
import Derived.Test.YtkopmkinlanhoaaDoorZPathBack1
set_option linter.unusedVariables false
set_option linter.unusedSimpArgs false
namespace Go.Proofs.YtkopmkinlanhoaaDoor.PP
open Go.RowKit Go.Proofs.YtkopmkinlanhoaaDoorW.PrintWords Go.Proofs.YtkopmkinlanhoaaDoorW.PrintLast Go.Proofs.YtkopmkinlanhoaaDoorW.PrintMore
attribute [local go_sem] max2_int min2_int max_two min_two max_three min_three max_four min_four   -- for this text's walks alone
set_option linter.unusedVariables false
set_option linter.unusedSimpArgs false
def arboretlaw03_Few.f (k : Nat) (a0_0 : Int) (l0_1 : List (S48)) (a0_2 : ByteArray) (l0_3 : List (S62)) (l0_4 : List (S27)) : Option (Bool) := (arboretlaw03_size.f k a0_2 l0_3 l0_4 0).bind fun t157 => (if t157 ≤ 100000 then (some (decide ((l0_1.length : Int) ≤ 200))) else (some false))
set_option maxHeartbeats 8000000 in
set_option maxRecDepth 100000 in
theorem arboretlaw03_Few.calls (k : Nat) (a0_0 : Int) (A0_1 : Option Addr) (c0_1 : Nat) (l0_1 : List (S48)) (a0_2 : ByteArray) (A0_3 : Option Addr) (c0_3 : Nat) (l0_3 : List (S62)) (A0_4 : Option Addr) (c0_4 : Nat) (l0_4 : List (S27)) (r : Bool) (w : World) (hr0_1 : Kd.C k48 w A0_1 l0_1.length l0_1) (hc0_1 : l0_1.length ≤ c0_1) (hr0_3 : Kd.C k62 w A0_3 l0_3.length l0_3) (hc0_3 : l0_3.length ≤ c0_3) (hr0_4 : Kd.C k27 w A0_4 l0_4.length l0_4) (hc0_4 : l0_4.length ≤ c0_4) (h : arboretlaw03_Few.f k a0_0 l0_1 a0_2 l0_3 l0_4 = some r) :
    Calls Tryd.prog 5 #[.agg #[.int .u32 a0_0, .slice A0_1 l0_1.length c0_1, .string a0_2, .slice A0_3 l0_3.length c0_3, .slice A0_4 l0_4.length c0_4]] w fun e w' => e = .returned (.bool r) ∧ Below w.heap.size w w' := by
  have hu29 := Tryd.underlying29
  have hu27 := Tryd.underlying27
  have HR0_1 := Aside0.mk hr0_1
  have HC0_1 := Aside0.mk hc0_1
  clear hr0_1 hc0_1
  have HR0_3 := Aside0.mk hr0_3
  have HC0_3 := Aside0.mk hc0_3
  clear hr0_3 hc0_3
  have HR0_4 := Aside0.mk hr0_4
  have HC0_4 := Aside0.mk hc0_4
  clear hr0_4 hc0_4
  have HB := Aside0.mk (Below.refl w.heap.size w)
  have H : ((arboretlaw03_size.f k a0_2 l0_3 l0_4 0).bind fun t157 => (if t157 ≤ 100000 then (some (decide ((l0_1.length : Int) ≤ 200))) else (some false))) = some r := h
  clear h
  replace H := Option.bind_eq_some_iff.mp H
  obtain ⟨t157, A20, H⟩ := H
  replace H : (if t157 ≤ 100000 then (some (decide ((l0_1.length : Int) ≤ 200))) else (some false)) = some r := H
  have A2 := Aside0.mk A20
  clear A20
  by_cases c3 : t157 ≤ 100000
  · rw [if_pos c3] at H
    have c3b0 : decide (t157 ≤ 100000) = true := decide_eq_true c3
    clear c3
    obtain rfl := Option.some.inj H
    go_enter Tryd.func5, Tryd.ntmps5
    go_wp2_with (first | ((with_reducible refine gate_dst (N := 1) rfl ?_); (try (refine gate_guard (by rfl) ?_; dsimp only)); refine box_event ?hg (N := 1) ?hd (cs := #[.int .u32 a0_0, .slice A0_1 l0_1.length c0_1, .string a0_2, .slice A0_3 l0_3.length c0_3, .slice A0_4 l0_4.length c0_4]) (t := 29) ?hr ?_; (case hd => rfl); (case hg => rfl); (case hr => first | (go_simp; done) | (go_simp; rfl)); intro gb156 hg w4 hbox hb; have n0_ := Aside0.mk (below_step (by repeat (first | (with_reducible first | exact HB.out | apply below_alloc | apply pw_below_drewN | apply below_drew1) | exact HB.out)) hb); have n1_ := Aside0.mk (hbox); have n2_ := Aside0.mk ((by rw [hg]; exact (below_size (by repeat (first | (with_reducible first | exact HB.out | apply below_alloc | apply pw_below_drewN | apply below_drew1) | exact HB.out))) : w.heap.size ≤ gb156)); have n3_ := Aside0.mk ((by rw [hg]; exact (below_size (by repeat (first | (with_reducible first | exact HB.out | apply below_alloc | apply pw_below_drewN | apply below_drew1) | exact HB.out))) : w.heap.size ≤ gb156)); clear HB; have HB := n0_; have BK156 := n1_; have GW156 := n2_; have GE156 := n3_; clear n0_ n1_ n2_ n3_; clear hb hbox hg; have hcz5_0 : w4.cell? ⟨gb156, 0, none⟩ = some (.int .u32 a0_0) := (blk_cell BK156.out 0).trans rfl; have hcz5_1 : w4.cell? ⟨gb156, 1, none⟩ = some (.slice A0_1 l0_1.length c0_1) := (blk_cell BK156.out 1).trans rfl; have hcz5_2 : w4.cell? ⟨gb156, 2, none⟩ = some (.string a0_2) := (blk_cell BK156.out 2).trans rfl; have hcz5_3 : w4.cell? ⟨gb156, 3, none⟩ = some (.slice A0_3 l0_3.length c0_3) := (blk_cell BK156.out 3).trans rfl; have hcz5_4 : w4.cell? ⟨gb156, 4, none⟩ = some (.slice A0_4 l0_4.length c0_4) := (blk_cell BK156.out 4).trans rfl; have hfz5_0 := blk_frozen BK156.out 0; have hfz5_1 := blk_frozen BK156.out 1; have hfz5_2 := blk_frozen BK156.out 2; have hfz5_3 := blk_frozen BK156.out 3; have hfz5_4 := blk_frozen BK156.out 4) | ((with_reducible refine gate_callee (f := 11) rfl ?_); refine goesL_ (some 5) rfl rfl Tryd.func11 (by kernel_rfl) rfl #[.agg #[.string a0_2, .slice A0_3 l0_3.length c0_3, .slice A0_4 l0_4.length c0_4], .int .i64 0] rfl (by (try simp only [List.map_toArray, List.map_cons, List.map_nil]); first | done | rfl | (simp only [List.length_drop, List.length_take]; rfl)) ?_; (with_reducible refine (arboretlaw03_size.calls k a0_2 _ _ l0_3 _ _ l0_4 0 t157 _ ?side1 ?side2 ?side3 ?side4 A2.out).mono ?_); (case side1 => repeat (first | exact (Kd.C_below HR0_3.out HB.out) | (with_reducible refine Kd.C_alloc ?_ _) | (with_reducible refine Kd.C_drewN ?_ _) | (with_reducible refine Kd.C_drew ?_))); (case side2 => exact HC0_3.out); (case side3 => repeat (first | exact (Kd.C_below HR0_4.out HB.out) | (with_reducible refine Kd.C_alloc ?_ _) | (with_reducible refine Kd.C_drewN ?_ _) | (with_reducible refine Kd.C_drew ?_))); (case side4 => exact HC0_4.out); rintro e w6 ⟨rfl, hb⟩; refine ⟨_, rfl, ?_⟩; have n0_ := Aside0.mk (blk_below (g := gb156) (o := .cells #[.int .u32 a0_0, .slice A0_1 l0_1.length c0_1, .string a0_2, .slice A0_3 l0_3.length c0_3, .slice A0_4 l0_4.length c0_4] 29 (0, 0)) (by (with_reducible repeat (first | refine blk_drewN ?_ _ | refine blk_drew ?_ | refine blk_alloc ?_ _)); exact BK156.out) hb); have n1_ := Aside0.mk (below_step (by repeat (first | (with_reducible first | exact HB.out | apply below_alloc | apply pw_below_drewN | apply below_drew1 | refine below_set ?_ GE156.out) | exact HB.out)) hb); clear BK156; clear HB; have BK156 := n0_; have HB := n1_; clear n0_ n1_; (try clear hb); (try clear hb2); (try clear hk); (try clear hi); have hcz7_0 : w6.cell? ⟨gb156, 0, none⟩ = some (.int .u32 a0_0) := (blk_cell BK156.out 0).trans rfl; have hcz7_1 : w6.cell? ⟨gb156, 1, none⟩ = some (.slice A0_1 l0_1.length c0_1) := (blk_cell BK156.out 1).trans rfl; have hcz7_2 : w6.cell? ⟨gb156, 2, none⟩ = some (.string a0_2) := (blk_cell BK156.out 2).trans rfl; have hcz7_3 : w6.cell? ⟨gb156, 3, none⟩ = some (.slice A0_3 l0_3.length c0_3) := (blk_cell BK156.out 3).trans rfl; have hcz7_4 : w6.cell? ⟨gb156, 4, none⟩ = some (.slice A0_4 l0_4.length c0_4) := (blk_cell BK156.out 4).trans rfl; have hfz7_0 := blk_frozen BK156.out 0; have hfz7_1 := blk_frozen BK156.out 1; have hfz7_2 := blk_frozen BK156.out 2; have hfz7_3 := blk_frozen BK156.out 3; have hfz7_4 := blk_frozen BK156.out 4))
    go_ret
    exact ⟨by first | rfl | (simp [errW_none, errW_some] <;> rfl) | (simp [*, errW_none, errW_some] <;> rfl), by repeat (first | (with_reducible first | exact HB.out | apply below_alloc | apply pw_below_drewN | apply below_drew1 | refine below_set ?_ GE156.out) | exact HB.out)⟩
  · rw [if_neg c3] at H
    have c3b0 : decide (t157 ≤ 100000) = false := decide_eq_false c3
    clear c3
    obtain rfl := Option.some.inj H
    go_enter Tryd.func5, Tryd.ntmps5
    go_wp2_with (first | ((with_reducible refine gate_dst (N := 1) rfl ?_); (try (refine gate_guard (by rfl) ?_; dsimp only)); refine box_event ?hg (N := 1) ?hd (cs := #[.int .u32 a0_0, .slice A0_1 l0_1.length c0_1, .string a0_2, .slice A0_3 l0_3.length c0_3, .slice A0_4 l0_4.length c0_4]) (t := 29) ?hr ?_; (case hd => rfl); (case hg => rfl); (case hr => first | (go_simp; done) | (go_simp; rfl)); intro gb156 hg w8 hbox hb; have n0_ := Aside0.mk (below_step (by repeat (first | (with_reducible first | exact HB.out | apply below_alloc | apply pw_below_drewN | apply below_drew1) | exact HB.out)) hb); have n1_ := Aside0.mk (hbox); have n2_ := Aside0.mk ((by rw [hg]; exact (below_size (by repeat (first | (with_reducible first | exact HB.out | apply below_alloc | apply pw_below_drewN | apply below_drew1) | exact HB.out))) : w.heap.size ≤ gb156)); have n3_ := Aside0.mk ((by rw [hg]; exact (below_size (by repeat (first | (with_reducible first | exact HB.out | apply below_alloc | apply pw_below_drewN | apply below_drew1) | exact HB.out))) : w.heap.size ≤ gb156)); clear HB; have HB := n0_; have BK156 := n1_; have GW156 := n2_; have GE156 := n3_; clear n0_ n1_ n2_ n3_; clear hb hbox hg; have hcz9_0 : w8.cell? ⟨gb156, 0, none⟩ = some (.int .u32 a0_0) := (blk_cell BK156.out 0).trans rfl; have hcz9_1 : w8.cell? ⟨gb156, 1, none⟩ = some (.slice A0_1 l0_1.length c0_1) := (blk_cell BK156.out 1).trans rfl; have hcz9_2 : w8.cell? ⟨gb156, 2, none⟩ = some (.string a0_2) := (blk_cell BK156.out 2).trans rfl; have hcz9_3 : w8.cell? ⟨gb156, 3, none⟩ = some (.slice A0_3 l0_3.length c0_3) := (blk_cell BK156.out 3).trans rfl; have hcz9_4 : w8.cell? ⟨gb156, 4, none⟩ = some (.slice A0_4 l0_4.length c0_4) := (blk_cell BK156.out 4).trans rfl; have hfz9_0 := blk_frozen BK156.out 0; have hfz9_1 := blk_frozen BK156.out 1; have hfz9_2 := blk_frozen BK156.out 2; have hfz9_3 := blk_frozen BK156.out 3; have hfz9_4 := blk_frozen BK156.out 4) | ((with_reducible refine gate_callee (f := 11) rfl ?_); refine goesL_ (some 5) rfl rfl Tryd.func11 (by kernel_rfl) rfl #[.agg #[.string a0_2, .slice A0_3 l0_3.length c0_3, .slice A0_4 l0_4.length c0_4], .int .i64 0] rfl (by (try simp only [List.map_toArray, List.map_cons, List.map_nil]); first | done | rfl | (simp only [List.length_drop, List.length_take]; rfl)) ?_; (with_reducible refine (arboretlaw03_size.calls k a0_2 _ _ l0_3 _ _ l0_4 0 t157 _ ?side1 ?side2 ?side3 ?side4 A2.out).mono ?_); (case side1 => repeat (first | exact (Kd.C_below HR0_3.out HB.out) | (with_reducible refine Kd.C_alloc ?_ _) | (with_reducible refine Kd.C_drewN ?_ _) | (with_reducible refine Kd.C_drew ?_))); (case side2 => exact HC0_3.out); (case side3 => repeat (first | exact (Kd.C_below HR0_4.out HB.out) | (with_reducible refine Kd.C_alloc ?_ _) | (with_reducible refine Kd.C_drewN ?_ _) | (with_reducible refine Kd.C_drew ?_))); (case side4 => exact HC0_4.out); rintro e w10 ⟨rfl, hb⟩; refine ⟨_, rfl, ?_⟩; have n0_ := Aside0.mk (blk_below (g := gb156) (o := .cells #[.int .u32 a0_0, .slice A0_1 l0_1.length c0_1, .string a0_2, .slice A0_3 l0_3.length c0_3, .slice A0_4 l0_4.length c0_4] 29 (0, 0)) (by (with_reducible repeat (first | refine blk_drewN ?_ _ | refine blk_drew ?_ | refine blk_alloc ?_ _)); exact BK156.out) hb); have n1_ := Aside0.mk (below_step (by repeat (first | (with_reducible first | exact HB.out | apply below_alloc | apply pw_below_drewN | apply below_drew1 | refine below_set ?_ GE156.out) | exact HB.out)) hb); clear BK156; clear HB; have BK156 := n0_; have HB := n1_; clear n0_ n1_; (try clear hb); (try clear hb2); (try clear hk); (try clear hi)))
    go_ret
    exact ⟨by first | rfl | (simp [errW_none, errW_some] <;> rfl) | (simp [*, errW_none, errW_some] <;> rfl), by repeat (first | (with_reducible first | exact HB.out | apply below_alloc | apply pw_below_drewN | apply below_drew1 | refine below_set ?_ GE156.out) | exact HB.out)⟩
end Go.Proofs.YtkopmkinlanhoaaDoor.PP

namespace Go.Proofs.YtkopmkinlanhoaaDoor.PP
open Go.RowKit Go.Proofs.YtkopmkinlanhoaaDoorW.PrintWords Go.Proofs.YtkopmkinlanhoaaDoorW.PrintLast Go.Proofs.YtkopmkinlanhoaaDoorW.PrintMore
attribute [local go_sem] max2_int min2_int max_two min_two max_three min_three max_four min_four   -- for this text's walks alone
set_option linter.unusedVariables false
set_option linter.unusedSimpArgs false
def arboretref01_Cut.l0 : Nat → ByteArray → Int → Int → Option (Int)
  | 0, _, _, _ => none
  | k + 1, x0, x5, x6 => if x6 < x5 then (if 0 ≤ x6 then (if x6 < (x0.size : Int) then (if (bt x0 x6) = 64 then (some x6) else (arboretref01_Cut.l0 k x0 x5 (wrap64 (x6 + 1)))) else (none)) else (none)) else (some (-1))
def arboretref01_Cut.f (k : Nat) (a0 : ByteArray) : Option (Int) := arboretref01_Cut.l0 k a0 (a0.size : Int) 0
set_option maxHeartbeats 8000000 in
set_option maxRecDepth 100000 in
theorem arboretref01_Cut.calls (k : Nat) (a0 : ByteArray) (r : Int) (w : World) (h : arboretref01_Cut.f k a0 = some r) :
    Calls Tryd.prog 34 #[.string a0] w fun e w' => e = .returned (.int .i64 r) ∧ Drawn0 w w' := by
  have H : (arboretref01_Cut.l0 k a0 (a0.size : Int) 0) = some r := h
  clear h
  have H' := Aside0.mk H
  clear H
  go_enter Tryd.func34, Tryd.ntmps34
  go_wp2
  go_loopg [6] k (fun kq v6 w' => ∃ (x6_1 : Int), v6 = .int .i64 x6_1 ∧ Aside0 (arboretref01_Cut.l0 kq a0 (a0.size : Int) x6_1 = some r) ∧ Aside0 (kq ≤ k) ∧ Drawn0 w w')
  case atStart => exact ⟨(0), (by first | rfl | (simp; done) | (simp [*]; done)), H', ⟨Nat.le_refl _⟩, by repeat (first | exact Drawn0.refl _ | apply Drawn0.step)⟩
  case round =>
    clear H'
    obtain ⟨x6_1, rfl, HA, HK1, ⟨m1, rfl⟩⟩ := hrel
    cases gk with
    | zero => exact absurd HA.out (by simp [arboretref01_Cut.l0])
    | succ k1 =>
      have H := HA.out
      clear HA
      simp only [arboretref01_Cut.l0] at H
      by_cases c2 : x6_1 < (a0.size : Int)
      · rw [if_pos c2] at H
        have c2b0 : decide (x6_1 < (a0.size : Int)) = true := decide_eq_true c2
        clear c2
        by_cases c3 : 0 ≤ x6_1
        · rw [if_pos c3] at H
          have c3b0 : decide (0 ≤ x6_1) = true := decide_eq_true c3
          clear c3
          by_cases c4 : x6_1 < (a0.size : Int)
          · rw [if_pos c4] at H
            have c4b0 : decide (x6_1 < (a0.size : Int)) = true := decide_eq_true c4
            clear c4
            by_cases c6 : (bt a0 x6_1) = 64
            · rw [if_pos c6] at H
              have c6b0 : ((bt a0 x6_1) == 64) = true := beq_iff_eq.mpr c6
              have c6b1 : ((bt a0 x6_1) != 64) = false := bne_eq_false_iff_eq.mpr c6
              clear c6
              obtain rfl := Option.some.inj H
              have p5 : 0 ≤ (x6_1 : Int) := of_decide_eq_true (by first | (with_reducible assumption) | assumption)
              have q5 : x6_1 < (a0.size : Int) := of_decide_eq_true (by first | (with_reducible assumption) | assumption)
              have hx5 := bt_at a0 x6_1
              replace p5 := eq_true p5
              replace q5 := eq_true q5
              go_wp2
              go_ret
              exact ⟨by first | rfl | (simp; done) | (simp [*]; done), by repeat (first | exact Drawn0.refl _ | apply Drawn0.step)⟩
            · rw [if_neg c6] at H
              have c6b0 : ((bt a0 x6_1) == 64) = false := beq_eq_false_iff_ne.mpr c6
              have c6b1 : ((bt a0 x6_1) != 64) = true := bne_iff_ne.mpr c6
              have H' := Aside0.mk H
              clear H
              have p5 : 0 ≤ (x6_1 : Int) := of_decide_eq_true (by first | (with_reducible assumption) | assumption)
              have q5 : x6_1 < (a0.size : Int) := of_decide_eq_true (by first | (with_reducible assumption) | assumption)
              have hx5 := bt_at a0 x6_1
              replace p5 := eq_true p5
              replace q5 := eq_true q5
              go_wp2
              go_roundg k1
              case measure => have := HK1.out; omega
              case rel => exact ⟨(wrap64 (x6_1 + 1)), (by first | rfl | (simp; done) | (simp [*]; done)), H', ⟨by have := HK1.out; omega⟩, by repeat (first | exact Drawn0.refl _ | apply Drawn0.step)⟩
          · rw [if_neg c4] at H
            exact absurd H (by simp)
        · rw [if_neg c3] at H
          exact absurd H (by simp)
      · rw [if_neg c2] at H
        have c2b0 : decide (x6_1 < (a0.size : Int)) = false := decide_eq_false c2
        clear c2
        obtain rfl := Option.some.inj H
        go_wp2
        go_ret
        exact ⟨by first | rfl | (simp; done) | (simp [*]; done), by repeat (first | exact Drawn0.refl _ | apply Drawn0.step)⟩
end Go.Proofs.YtkopmkinlanhoaaDoor.PP

namespace Go.Proofs.YtkopmkinlanhoaaDoor.PP
open Go.RowKit Go.Proofs.YtkopmkinlanhoaaDoorW.PrintWords Go.Proofs.YtkopmkinlanhoaaDoorW.PrintLast Go.Proofs.YtkopmkinlanhoaaDoorW.PrintMore
attribute [local go_sem] max2_int min2_int max_two min_two max_three min_three max_four min_four   -- for this text's walks alone
set_option linter.unusedVariables false
set_option linter.unusedSimpArgs false
def arboretref01_stands.f (a0 : Int) : Option (Bool) := if a0 ≥ 48 then (if a0 ≤ 57 then (some true) else (if a0 ≥ 97 then (if a0 ≤ 122 then (some true) else (if a0 ≥ 65 then (if a0 ≤ 90 then (some true) else (if a0 = 44 then (some true) else (if a0 = 46 then (some true) else (if a0 = 95 then (some true) else (if a0 = 43 then (some true) else (some (a0 == 45))))))) else (if a0 = 44 then (some true) else (if a0 = 46 then (some true) else (if a0 = 95 then (some true) else (if a0 = 43 then (some true) else (some (a0 == 45)))))))) else (if a0 ≥ 65 then (if a0 ≤ 90 then (some true) else (if a0 = 44 then (some true) else (if a0 = 46 then (some true) else (if a0 = 95 then (some true) else (if a0 = 43 then (some true) else (some (a0 == 45))))))) else (if a0 = 44 then (some true) else (if a0 = 46 then (some true) else (if a0 = 95 then (some true) else (if a0 = 43 then (some true) else (some (a0 == 45))))))))) else (if a0 ≥ 97 then (if a0 ≤ 122 then (some true) else (if a0 ≥ 65 then (if a0 ≤ 90 then (some true) else (if a0 = 44 then (some true) else (if a0 = 46 then (some true) else (if a0 = 95 then (some true) else (if a0 = 43 then (some true) else (some (a0 == 45))))))) else (if a0 = 44 then (some true) else (if a0 = 46 then (some true) else (if a0 = 95 then (some true) else (if a0 = 43 then (some true) else (some (a0 == 45)))))))) else (if a0 ≥ 65 then (if a0 ≤ 90 then (some true) else (if a0 = 44 then (some true) else (if a0 = 46 then (some true) else (if a0 = 95 then (some true) else (if a0 = 43 then (some true) else (some (a0 == 45))))))) else (if a0 = 44 then (some true) else (if a0 = 46 then (some true) else (if a0 = 95 then (some true) else (if a0 = 43 then (some true) else (some (a0 == 45))))))))
set_option maxHeartbeats 8000000 in
set_option maxRecDepth 100000 in
theorem arboretref01_stands.calls (a0 : Int) (r : Bool) (w : World) (h : arboretref01_stands.f a0 = some r) :
    Calls Tryd.prog 35 #[.int .u8 a0] w fun e w' => e = .returned (.bool r) ∧ Drawn0 w w' := by
  have H : (if a0 ≥ 48 then (if a0 ≤ 57 then (some true) else (if a0 ≥ 97 then (if a0 ≤ 122 then (some true) else (if a0 ≥ 65 then (if a0 ≤ 90 then (some true) else (if a0 = 44 then (some true) else (if a0 = 46 then (some true) else (if a0 = 95 then (some true) else (if a0 = 43 then (some true) else (some (a0 == 45))))))) else (if a0 = 44 then (some true) else (if a0 = 46 then (some true) else (if a0 = 95 then (some true) else (if a0 = 43 then (some true) else (some (a0 == 45)))))))) else (if a0 ≥ 65 then (if a0 ≤ 90 then (some true) else (if a0 = 44 then (some true) else (if a0 = 46 then (some true) else (if a0 = 95 then (some true) else (if a0 = 43 then (some true) else (some (a0 == 45))))))) else (if a0 = 44 then (some true) else (if a0 = 46 then (some true) else (if a0 = 95 then (some true) else (if a0 = 43 then (some true) else (some (a0 == 45))))))))) else (if a0 ≥ 97 then (if a0 ≤ 122 then (some true) else (if a0 ≥ 65 then (if a0 ≤ 90 then (some true) else (if a0 = 44 then (some true) else (if a0 = 46 then (some true) else (if a0 = 95 then (some true) else (if a0 = 43 then (some true) else (some (a0 == 45))))))) else (if a0 = 44 then (some true) else (if a0 = 46 then (some true) else (if a0 = 95 then (some true) else (if a0 = 43 then (some true) else (some (a0 == 45)))))))) else (if a0 ≥ 65 then (if a0 ≤ 90 then (some true) else (if a0 = 44 then (some true) else (if a0 = 46 then (some true) else (if a0 = 95 then (some true) else (if a0 = 43 then (some true) else (some (a0 == 45))))))) else (if a0 = 44 then (some true) else (if a0 = 46 then (some true) else (if a0 = 95 then (some true) else (if a0 = 43 then (some true) else (some (a0 == 45))))))))) = some r := h
  clear h
  by_cases c2 : a0 ≥ 48
  · rw [if_pos c2] at H
    have c2b0 : decide (48 ≤ a0) = true := decide_eq_true c2
    clear c2
    by_cases c3 : a0 ≤ 57
    · rw [if_pos c3] at H
      have c3b0 : decide (a0 ≤ 57) = true := decide_eq_true c3
      clear c3
      obtain rfl := Option.some.inj H
      go_enter Tryd.func35, Tryd.ntmps35
      go_wp2
      go_ret
      exact ⟨by first | rfl | (simp; done) | (simp [*]; done), by repeat (first | exact Drawn0.refl _ | apply Drawn0.step)⟩
    · rw [if_neg c3] at H
      have c3b0 : decide (a0 ≤ 57) = false := decide_eq_false c3
      clear c3
      by_cases c4 : a0 ≥ 97
      · rw [if_pos c4] at H
        have c4b0 : decide (97 ≤ a0) = true := decide_eq_true c4
        clear c4
        by_cases c5 : a0 ≤ 122
        · rw [if_pos c5] at H
          have c5b0 : decide (a0 ≤ 122) = true := decide_eq_true c5
          clear c5
          obtain rfl := Option.some.inj H
          go_enter Tryd.func35, Tryd.ntmps35
          go_wp2
          go_ret
          exact ⟨by first | rfl | (simp; done) | (simp [*]; done), by repeat (first | exact Drawn0.refl _ | apply Drawn0.step)⟩
        · rw [if_neg c5] at H
          have c5b0 : decide (a0 ≤ 122) = false := decide_eq_false c5
          clear c5
          by_cases c6 : a0 ≥ 65
          · rw [if_pos c6] at H
            have c6b0 : decide (65 ≤ a0) = true := decide_eq_true c6
            clear c6
            by_cases c7 : a0 ≤ 90
            · rw [if_pos c7] at H
              have c7b0 : decide (a0 ≤ 90) = true := decide_eq_true c7
              clear c7
              obtain rfl := Option.some.inj H
              go_enter Tryd.func35, Tryd.ntmps35
              go_wp2
              go_ret
              exact ⟨by first | rfl | (simp; done) | (simp [*]; done), by repeat (first | exact Drawn0.refl _ | apply Drawn0.step)⟩
            · rw [if_neg c7] at H
              have c7b0 : decide (a0 ≤ 90) = false := decide_eq_false c7
              clear c7
              by_cases c8 : a0 = 44
              · rw [if_pos c8] at H
                have c8b0 : (a0 == 44) = true := beq_iff_eq.mpr c8
                have c8b1 : (a0 != 44) = false := bne_eq_false_iff_eq.mpr c8
                clear c8
                obtain rfl := Option.some.inj H
                go_enter Tryd.func35, Tryd.ntmps35
                go_wp2
                go_ret
                exact ⟨by first | rfl | (simp; done) | (simp [*]; done), by repeat (first | exact Drawn0.refl _ | apply Drawn0.step)⟩
              · rw [if_neg c8] at H
                have c8b0 : (a0 == 44) = false := beq_eq_false_iff_ne.mpr c8
                have c8b1 : (a0 != 44) = true := bne_iff_ne.mpr c8
                by_cases c9 : a0 = 46
                · rw [if_pos c9] at H
                  have c9b0 : (a0 == 46) = true := beq_iff_eq.mpr c9
                  have c9b1 : (a0 != 46) = false := bne_eq_false_iff_eq.mpr c9
                  clear c9
                  obtain rfl := Option.some.inj H
                  go_enter Tryd.func35, Tryd.ntmps35
                  go_wp2
                  go_ret
                  exact ⟨by first | rfl | (simp; done) | (simp [*]; done), by repeat (first | exact Drawn0.refl _ | apply Drawn0.step)⟩
                · rw [if_neg c9] at H
                  have c9b0 : (a0 == 46) = false := beq_eq_false_iff_ne.mpr c9
                  have c9b1 : (a0 != 46) = true := bne_iff_ne.mpr c9
                  by_cases c10 : a0 = 95
                  · rw [if_pos c10] at H
                    have c10b0 : (a0 == 95) = true := beq_iff_eq.mpr c10
                    have c10b1 : (a0 != 95) = false := bne_eq_false_iff_eq.mpr c10
                    clear c10
                    obtain rfl := Option.some.inj H
                    go_enter Tryd.func35, Tryd.ntmps35
                    go_wp2
                    go_ret
                    exact ⟨by first | rfl | (simp; done) | (simp [*]; done), by repeat (first | exact Drawn0.refl _ | apply Drawn0.step)⟩
                  · rw [if_neg c10] at H
                    have c10b0 : (a0 == 95) = false := beq_eq_false_iff_ne.mpr c10
                    have c10b1 : (a0 != 95) = true := bne_iff_ne.mpr c10
                    by_cases c11 : a0 = 43
                    · rw [if_pos c11] at H
                      have c11b0 : (a0 == 43) = true := beq_iff_eq.mpr c11
                      have c11b1 : (a0 != 43) = false := bne_eq_false_iff_eq.mpr c11
                      clear c11
                      obtain rfl := Option.some.inj H
                      go_enter Tryd.func35, Tryd.ntmps35
                      go_wp2
                      go_ret
                      exact ⟨by first | rfl | (simp; done) | (simp [*]; done), by repeat (first | exact Drawn0.refl _ | apply Drawn0.step)⟩
                    · rw [if_neg c11] at H
                      have c11b0 : (a0 == 43) = false := beq_eq_false_iff_ne.mpr c11
                      have c11b1 : (a0 != 43) = true := bne_iff_ne.mpr c11
                      obtain rfl := Option.some.inj H
                      go_enter Tryd.func35, Tryd.ntmps35
                      go_wp2
                      go_ret
                      exact ⟨by first | rfl | (simp; done) | (simp [*]; done), by repeat (first | exact Drawn0.refl _ | apply Drawn0.step)⟩
          · rw [if_neg c6] at H
            have c6b0 : decide (65 ≤ a0) = false := decide_eq_false c6
            clear c6
            by_cases c12 : a0 = 44
            · rw [if_pos c12] at H
              have c12b0 : (a0 == 44) = true := beq_iff_eq.mpr c12
              have c12b1 : (a0 != 44) = false := bne_eq_false_iff_eq.mpr c12
              clear c12
              obtain rfl := Option.some.inj H
              go_enter Tryd.func35, Tryd.ntmps35
              go_wp2
              go_ret
              exact ⟨by first | rfl | (simp; done) | (simp [*]; done), by repeat (first | exact Drawn0.refl _ | apply Drawn0.step)⟩
            · rw [if_neg c12] at H
              have c12b0 : (a0 == 44) = false := beq_eq_false_iff_ne.mpr c12
              have c12b1 : (a0 != 44) = true := bne_iff_ne.mpr c12
              by_cases c13 : a0 = 46
              · rw [if_pos c13] at H
                have c13b0 : (a0 == 46) = true := beq_iff_eq.mpr c13
                have c13b1 : (a0 != 46) = false := bne_eq_false_iff_eq.mpr c13
                clear c13
                obtain rfl := Option.some.inj H
                go_enter Tryd.func35, Tryd.ntmps35
                go_wp2
                go_ret
                exact ⟨by first | rfl | (simp; done) | (simp [*]; done), by repeat (first | exact Drawn0.refl _ | apply Drawn0.step)⟩
              · rw [if_neg c13] at H
                have c13b0 : (a0 == 46) = false := beq_eq_false_iff_ne.mpr c13
                have c13b1 : (a0 != 46) = true := bne_iff_ne.mpr c13
                by_cases c14 : a0 = 95
                · rw [if_pos c14] at H
                  have c14b0 : (a0 == 95) = true := beq_iff_eq.mpr c14
                  have c14b1 : (a0 != 95) = false := bne_eq_false_iff_eq.mpr c14
                  clear c14
                  obtain rfl := Option.some.inj H
                  go_enter Tryd.func35, Tryd.ntmps35
                  go_wp2
                  go_ret
                  exact ⟨by first | rfl | (simp; done) | (simp [*]; done), by repeat (first | exact Drawn0.refl _ | apply Drawn0.step)⟩
                · rw [if_neg c14] at H
                  have c14b0 : (a0 == 95) = false := beq_eq_false_iff_ne.mpr c14
                  have c14b1 : (a0 != 95) = true := bne_iff_ne.mpr c14
                  by_cases c15 : a0 = 43
                  · rw [if_pos c15] at H
                    have c15b0 : (a0 == 43) = true := beq_iff_eq.mpr c15
                    have c15b1 : (a0 != 43) = false := bne_eq_false_iff_eq.mpr c15
                    clear c15
                    obtain rfl := Option.some.inj H
                    go_enter Tryd.func35, Tryd.ntmps35
                    go_wp2
                    go_ret
                    exact ⟨by first | rfl | (simp; done) | (simp [*]; done), by repeat (first | exact Drawn0.refl _ | apply Drawn0.step)⟩
                  · rw [if_neg c15] at H
                    have c15b0 : (a0 == 43) = false := beq_eq_false_iff_ne.mpr c15
                    have c15b1 : (a0 != 43) = true := bne_iff_ne.mpr c15
                    obtain rfl := Option.some.inj H
                    go_enter Tryd.func35, Tryd.ntmps35
                    go_wp2
                    go_ret
                    exact ⟨by first | rfl | (simp; done) | (simp [*]; done), by repeat (first | exact Drawn0.refl _ | apply Drawn0.step)⟩
      · rw [if_neg c4] at H
        have c4b0 : decide (97 ≤ a0) = false := decide_eq_false c4
        clear c4
        by_cases c16 : a0 ≥ 65
        · rw [if_pos c16] at H
          have c16b0 : decide (65 ≤ a0) = true := decide_eq_true c16
          clear c16
          by_cases c17 : a0 ≤ 90
          · rw [if_pos c17] at H
            have c17b0 : decide (a0 ≤ 90) = true := decide_eq_true c17
            clear c17
            obtain rfl := Option.some.inj H
            go_enter Tryd.func35, Tryd.ntmps35
            go_wp2
            go_ret
            exact ⟨by first | rfl | (simp; done) | (simp [*]; done), by repeat (first | exact Drawn0.refl _ | apply Drawn0.step)⟩
          · rw [if_neg c17] at H
            have c17b0 : decide (a0 ≤ 90) = false := decide_eq_false c17
            clear c17
            by_cases c18 : a0 = 44
            · rw [if_pos c18] at H
              have c18b0 : (a0 == 44) = true := beq_iff_eq.mpr c18
              have c18b1 : (a0 != 44) = false := bne_eq_false_iff_eq.mpr c18
              clear c18
              obtain rfl := Option.some.inj H
              go_enter Tryd.func35, Tryd.ntmps35
              go_wp2
              go_ret
              exact ⟨by first | rfl | (simp; done) | (simp [*]; done), by repeat (first | exact Drawn0.refl _ | apply Drawn0.step)⟩
            · rw [if_neg c18] at H
              have c18b0 : (a0 == 44) = false := beq_eq_false_iff_ne.mpr c18
              have c18b1 : (a0 != 44) = true := bne_iff_ne.mpr c18
              by_cases c19 : a0 = 46
              · rw [if_pos c19] at H
                have c19b0 : (a0 == 46) = true := beq_iff_eq.mpr c19
                have c19b1 : (a0 != 46) = false := bne_eq_false_iff_eq.mpr c19
                clear c19
                obtain rfl := Option.some.inj H
                go_enter Tryd.func35, Tryd.ntmps35
                go_wp2
                go_ret
                exact ⟨by first | rfl | (simp; done) | (simp [*]; done), by repeat (first | exact Drawn0.refl _ | apply Drawn0.step)⟩
              · rw [if_neg c19] at H
                have c19b0 : (a0 == 46) = false := beq_eq_false_iff_ne.mpr c19
                have c19b1 : (a0 != 46) = true := bne_iff_ne.mpr c19
                by_cases c20 : a0 = 95
                · rw [if_pos c20] at H
                  have c20b0 : (a0 == 95) = true := beq_iff_eq.mpr c20
                  have c20b1 : (a0 != 95) = false := bne_eq_false_iff_eq.mpr c20
                  clear c20
                  obtain rfl := Option.some.inj H
                  go_enter Tryd.func35, Tryd.ntmps35
                  go_wp2
                  go_ret
                  exact ⟨by first | rfl | (simp; done) | (simp [*]; done), by repeat (first | exact Drawn0.refl _ | apply Drawn0.step)⟩
                · rw [if_neg c20] at H
                  have c20b0 : (a0 == 95) = false := beq_eq_false_iff_ne.mpr c20
                  have c20b1 : (a0 != 95) = true := bne_iff_ne.mpr c20
                  by_cases c21 : a0 = 43
                  · rw [if_pos c21] at H
                    have c21b0 : (a0 == 43) = true := beq_iff_eq.mpr c21
                    have c21b1 : (a0 != 43) = false := bne_eq_false_iff_eq.mpr c21
                    clear c21
                    obtain rfl := Option.some.inj H
                    go_enter Tryd.func35, Tryd.ntmps35
                    go_wp2
                    go_ret
                    exact ⟨by first | rfl | (simp; done) | (simp [*]; done), by repeat (first | exact Drawn0.refl _ | apply Drawn0.step)⟩
                  · rw [if_neg c21] at H
                    have c21b0 : (a0 == 43) = false := beq_eq_false_iff_ne.mpr c21
                    have c21b1 : (a0 != 43) = true := bne_iff_ne.mpr c21
                    obtain rfl := Option.some.inj H
                    go_enter Tryd.func35, Tryd.ntmps35
                    go_wp2
                    go_ret
                    exact ⟨by first | rfl | (simp; done) | (simp [*]; done), by repeat (first | exact Drawn0.refl _ | apply Drawn0.step)⟩
        · rw [if_neg c16] at H
          have c16b0 : decide (65 ≤ a0) = false := decide_eq_false c16
          clear c16
          by_cases c22 : a0 = 44
          · rw [if_pos c22] at H
            have c22b0 : (a0 == 44) = true := beq_iff_eq.mpr c22
            have c22b1 : (a0 != 44) = false := bne_eq_false_iff_eq.mpr c22
            clear c22
            obtain rfl := Option.some.inj H
            go_enter Tryd.func35, Tryd.ntmps35
            go_wp2
            go_ret
            exact ⟨by first | rfl | (simp; done) | (simp [*]; done), by repeat (first | exact Drawn0.refl _ | apply Drawn0.step)⟩
          · rw [if_neg c22] at H
            have c22b0 : (a0 == 44) = false := beq_eq_false_iff_ne.mpr c22
            have c22b1 : (a0 != 44) = true := bne_iff_ne.mpr c22
            by_cases c23 : a0 = 46
            · rw [if_pos c23] at H
              have c23b0 : (a0 == 46) = true := beq_iff_eq.mpr c23
              have c23b1 : (a0 != 46) = false := bne_eq_false_iff_eq.mpr c23
              clear c23
              obtain rfl := Option.some.inj H
              go_enter Tryd.func35, Tryd.ntmps35
              go_wp2
              go_ret
              exact ⟨by first | rfl | (simp; done) | (simp [*]; done), by repeat (first | exact Drawn0.refl _ | apply Drawn0.step)⟩
            · rw [if_neg c23] at H
              have c23b0 : (a0 == 46) = false := beq_eq_false_iff_ne.mpr c23
              have c23b1 : (a0 != 46) = true := bne_iff_ne.mpr c23
              by_cases c24 : a0 = 95
              · rw [if_pos c24] at H
                have c24b0 : (a0 == 95) = true := beq_iff_eq.mpr c24
                have c24b1 : (a0 != 95) = false := bne_eq_false_iff_eq.mpr c24
                clear c24
                obtain rfl := Option.some.inj H
                go_enter Tryd.func35, Tryd.ntmps35
                go_wp2
                go_ret
                exact ⟨by first | rfl | (simp; done) | (simp [*]; done), by repeat (first | exact Drawn0.refl _ | apply Drawn0.step)⟩
              · rw [if_neg c24] at H
                have c24b0 : (a0 == 95) = false := beq_eq_false_iff_ne.mpr c24
                have c24b1 : (a0 != 95) = true := bne_iff_ne.mpr c24
                by_cases c25 : a0 = 43
                · rw [if_pos c25] at H
                  have c25b0 : (a0 == 43) = true := beq_iff_eq.mpr c25
                  have c25b1 : (a0 != 43) = false := bne_eq_false_iff_eq.mpr c25
                  clear c25
                  obtain rfl := Option.some.inj H
                  go_enter Tryd.func35, Tryd.ntmps35
                  go_wp2
                  go_ret
                  exact ⟨by first | rfl | (simp; done) | (simp [*]; done), by repeat (first | exact Drawn0.refl _ | apply Drawn0.step)⟩
                · rw [if_neg c25] at H
                  have c25b0 : (a0 == 43) = false := beq_eq_false_iff_ne.mpr c25
                  have c25b1 : (a0 != 43) = true := bne_iff_ne.mpr c25
                  obtain rfl := Option.some.inj H
                  go_enter Tryd.func35, Tryd.ntmps35
                  go_wp2
                  go_ret
                  exact ⟨by first | rfl | (simp; done) | (simp [*]; done), by repeat (first | exact Drawn0.refl _ | apply Drawn0.step)⟩
  · rw [if_neg c2] at H
    have c2b0 : decide (48 ≤ a0) = false := decide_eq_false c2
    clear c2
    by_cases c26 : a0 ≥ 97
    · rw [if_pos c26] at H
      have c26b0 : decide (97 ≤ a0) = true := decide_eq_true c26
      clear c26
      by_cases c27 : a0 ≤ 122
      · rw [if_pos c27] at H
        have c27b0 : decide (a0 ≤ 122) = true := decide_eq_true c27
        clear c27
        obtain rfl := Option.some.inj H
        go_enter Tryd.func35, Tryd.ntmps35
        go_wp2
        go_ret
        exact ⟨by first | rfl | (simp; done) | (simp [*]; done), by repeat (first | exact Drawn0.refl _ | apply Drawn0.step)⟩
      · rw [if_neg c27] at H
        have c27b0 : decide (a0 ≤ 122) = false := decide_eq_false c27
        clear c27
        by_cases c28 : a0 ≥ 65
        · rw [if_pos c28] at H
          have c28b0 : decide (65 ≤ a0) = true := decide_eq_true c28
          clear c28
          by_cases c29 : a0 ≤ 90
          · rw [if_pos c29] at H
            have c29b0 : decide (a0 ≤ 90) = true := decide_eq_true c29
            clear c29
            obtain rfl := Option.some.inj H
            go_enter Tryd.func35, Tryd.ntmps35
            go_wp2
            go_ret
            exact ⟨by first | rfl | (simp; done) | (simp [*]; done), by repeat (first | exact Drawn0.refl _ | apply Drawn0.step)⟩
          · rw [if_neg c29] at H
            have c29b0 : decide (a0 ≤ 90) = false := decide_eq_false c29
            clear c29
            by_cases c30 : a0 = 44
            · rw [if_pos c30] at H
              have c30b0 : (a0 == 44) = true := beq_iff_eq.mpr c30
              have c30b1 : (a0 != 44) = false := bne_eq_false_iff_eq.mpr c30
              clear c30
              obtain rfl := Option.some.inj H
              go_enter Tryd.func35, Tryd.ntmps35
              go_wp2
              go_ret
              exact ⟨by first | rfl | (simp; done) | (simp [*]; done), by repeat (first | exact Drawn0.refl _ | apply Drawn0.step)⟩
            · rw [if_neg c30] at H
              have c30b0 : (a0 == 44) = false := beq_eq_false_iff_ne.mpr c30
              have c30b1 : (a0 != 44) = true := bne_iff_ne.mpr c30
              by_cases c31 : a0 = 46
              · rw [if_pos c31] at H
                have c31b0 : (a0 == 46) = true := beq_iff_eq.mpr c31
                have c31b1 : (a0 != 46) = false := bne_eq_false_iff_eq.mpr c31
                clear c31
                obtain rfl := Option.some.inj H
                go_enter Tryd.func35, Tryd.ntmps35
                go_wp2
                go_ret
                exact ⟨by first | rfl | (simp; done) | (simp [*]; done), by repeat (first | exact Drawn0.refl _ | apply Drawn0.step)⟩
              · rw [if_neg c31] at H
                have c31b0 : (a0 == 46) = false := beq_eq_false_iff_ne.mpr c31
                have c31b1 : (a0 != 46) = true := bne_iff_ne.mpr c31
                by_cases c32 : a0 = 95
                · rw [if_pos c32] at H
                  have c32b0 : (a0 == 95) = true := beq_iff_eq.mpr c32
                  have c32b1 : (a0 != 95) = false := bne_eq_false_iff_eq.mpr c32
                  clear c32
                  obtain rfl := Option.some.inj H
                  go_enter Tryd.func35, Tryd.ntmps35
                  go_wp2
                  go_ret
                  exact ⟨by first | rfl | (simp; done) | (simp [*]; done), by repeat (first | exact Drawn0.refl _ | apply Drawn0.step)⟩
                · rw [if_neg c32] at H
                  have c32b0 : (a0 == 95) = false := beq_eq_false_iff_ne.mpr c32
                  have c32b1 : (a0 != 95) = true := bne_iff_ne.mpr c32
                  by_cases c33 : a0 = 43
                  · rw [if_pos c33] at H
                    have c33b0 : (a0 == 43) = true := beq_iff_eq.mpr c33
                    have c33b1 : (a0 != 43) = false := bne_eq_false_iff_eq.mpr c33
                    clear c33
                    obtain rfl := Option.some.inj H
                    go_enter Tryd.func35, Tryd.ntmps35
                    go_wp2
                    go_ret
                    exact ⟨by first | rfl | (simp; done) | (simp [*]; done), by repeat (first | exact Drawn0.refl _ | apply Drawn0.step)⟩
                  · rw [if_neg c33] at H
                    have c33b0 : (a0 == 43) = false := beq_eq_false_iff_ne.mpr c33
                    have c33b1 : (a0 != 43) = true := bne_iff_ne.mpr c33
                    obtain rfl := Option.some.inj H
                    go_enter Tryd.func35, Tryd.ntmps35
                    go_wp2
                    go_ret
                    exact ⟨by first | rfl | (simp; done) | (simp [*]; done), by repeat (first | exact Drawn0.refl _ | apply Drawn0.step)⟩
        · rw [if_neg c28] at H
          have c28b0 : decide (65 ≤ a0) = false := decide_eq_false c28
          clear c28
          by_cases c34 : a0 = 44
          · rw [if_pos c34] at H
            have c34b0 : (a0 == 44) = true := beq_iff_eq.mpr c34
            have c34b1 : (a0 != 44) = false := bne_eq_false_iff_eq.mpr c34
            clear c34
            obtain rfl := Option.some.inj H
            go_enter Tryd.func35, Tryd.ntmps35
            go_wp2
            go_ret
            exact ⟨by first | rfl | (simp; done) | (simp [*]; done), by repeat (first | exact Drawn0.refl _ | apply Drawn0.step)⟩
          · rw [if_neg c34] at H
            have c34b0 : (a0 == 44) = false := beq_eq_false_iff_ne.mpr c34
            have c34b1 : (a0 != 44) = true := bne_iff_ne.mpr c34
            by_cases c35 : a0 = 46
            · rw [if_pos c35] at H
              have c35b0 : (a0 == 46) = true := beq_iff_eq.mpr c35
              have c35b1 : (a0 != 46) = false := bne_eq_false_iff_eq.mpr c35
              clear c35
              obtain rfl := Option.some.inj H
              go_enter Tryd.func35, Tryd.ntmps35
              go_wp2
              go_ret
              exact ⟨by first | rfl | (simp; done) | (simp [*]; done), by repeat (first | exact Drawn0.refl _ | apply Drawn0.step)⟩
            · rw [if_neg c35] at H
              have c35b0 : (a0 == 46) = false := beq_eq_false_iff_ne.mpr c35
              have c35b1 : (a0 != 46) = true := bne_iff_ne.mpr c35
              by_cases c36 : a0 = 95
              · rw [if_pos c36] at H
                have c36b0 : (a0 == 95) = true := beq_iff_eq.mpr c36
                have c36b1 : (a0 != 95) = false := bne_eq_false_iff_eq.mpr c36
                clear c36
                obtain rfl := Option.some.inj H
                go_enter Tryd.func35, Tryd.ntmps35
                go_wp2
                go_ret
                exact ⟨by first | rfl | (simp; done) | (simp [*]; done), by repeat (first | exact Drawn0.refl _ | apply Drawn0.step)⟩
              · rw [if_neg c36] at H
                have c36b0 : (a0 == 95) = false := beq_eq_false_iff_ne.mpr c36
                have c36b1 : (a0 != 95) = true := bne_iff_ne.mpr c36
                by_cases c37 : a0 = 43
                · rw [if_pos c37] at H
                  have c37b0 : (a0 == 43) = true := beq_iff_eq.mpr c37
                  have c37b1 : (a0 != 43) = false := bne_eq_false_iff_eq.mpr c37
                  clear c37
                  obtain rfl := Option.some.inj H
                  go_enter Tryd.func35, Tryd.ntmps35
                  go_wp2
                  go_ret
                  exact ⟨by first | rfl | (simp; done) | (simp [*]; done), by repeat (first | exact Drawn0.refl _ | apply Drawn0.step)⟩
                · rw [if_neg c37] at H
                  have c37b0 : (a0 == 43) = false := beq_eq_false_iff_ne.mpr c37
                  have c37b1 : (a0 != 43) = true := bne_iff_ne.mpr c37
                  obtain rfl := Option.some.inj H
                  go_enter Tryd.func35, Tryd.ntmps35
                  go_wp2
                  go_ret
                  exact ⟨by first | rfl | (simp; done) | (simp [*]; done), by repeat (first | exact Drawn0.refl _ | apply Drawn0.step)⟩
    · rw [if_neg c26] at H
      have c26b0 : decide (97 ≤ a0) = false := decide_eq_false c26
      clear c26
      by_cases c38 : a0 ≥ 65
      · rw [if_pos c38] at H
        have c38b0 : decide (65 ≤ a0) = true := decide_eq_true c38
        clear c38
        by_cases c39 : a0 ≤ 90
        · rw [if_pos c39] at H
          have c39b0 : decide (a0 ≤ 90) = true := decide_eq_true c39
          clear c39
          obtain rfl := Option.some.inj H
          go_enter Tryd.func35, Tryd.ntmps35
          go_wp2
          go_ret
          exact ⟨by first | rfl | (simp; done) | (simp [*]; done), by repeat (first | exact Drawn0.refl _ | apply Drawn0.step)⟩
        · rw [if_neg c39] at H
          have c39b0 : decide (a0 ≤ 90) = false := decide_eq_false c39
          clear c39
          by_cases c40 : a0 = 44
          · rw [if_pos c40] at H
            have c40b0 : (a0 == 44) = true := beq_iff_eq.mpr c40
            have c40b1 : (a0 != 44) = false := bne_eq_false_iff_eq.mpr c40
            clear c40
            obtain rfl := Option.some.inj H
            go_enter Tryd.func35, Tryd.ntmps35
            go_wp2
            go_ret
            exact ⟨by first | rfl | (simp; done) | (simp [*]; done), by repeat (first | exact Drawn0.refl _ | apply Drawn0.step)⟩
          · rw [if_neg c40] at H
            have c40b0 : (a0 == 44) = false := beq_eq_false_iff_ne.mpr c40
            have c40b1 : (a0 != 44) = true := bne_iff_ne.mpr c40
            by_cases c41 : a0 = 46
            · rw [if_pos c41] at H
              have c41b0 : (a0 == 46) = true := beq_iff_eq.mpr c41
              have c41b1 : (a0 != 46) = false := bne_eq_false_iff_eq.mpr c41
              clear c41
              obtain rfl := Option.some.inj H
              go_enter Tryd.func35, Tryd.ntmps35
              go_wp2
              go_ret
              exact ⟨by first | rfl | (simp; done) | (simp [*]; done), by repeat (first | exact Drawn0.refl _ | apply Drawn0.step)⟩
            · rw [if_neg c41] at H
              have c41b0 : (a0 == 46) = false := beq_eq_false_iff_ne.mpr c41
              have c41b1 : (a0 != 46) = true := bne_iff_ne.mpr c41
              by_cases c42 : a0 = 95
              · rw [if_pos c42] at H
                have c42b0 : (a0 == 95) = true := beq_iff_eq.mpr c42
                have c42b1 : (a0 != 95) = false := bne_eq_false_iff_eq.mpr c42
                clear c42
                obtain rfl := Option.some.inj H
                go_enter Tryd.func35, Tryd.ntmps35
                go_wp2
                go_ret
                exact ⟨by first | rfl | (simp; done) | (simp [*]; done), by repeat (first | exact Drawn0.refl _ | apply Drawn0.step)⟩
              · rw [if_neg c42] at H
                have c42b0 : (a0 == 95) = false := beq_eq_false_iff_ne.mpr c42
                have c42b1 : (a0 != 95) = true := bne_iff_ne.mpr c42
                by_cases c43 : a0 = 43
                · rw [if_pos c43] at H
                  have c43b0 : (a0 == 43) = true := beq_iff_eq.mpr c43
                  have c43b1 : (a0 != 43) = false := bne_eq_false_iff_eq.mpr c43
                  clear c43
                  obtain rfl := Option.some.inj H
                  go_enter Tryd.func35, Tryd.ntmps35
                  go_wp2
                  go_ret
                  exact ⟨by first | rfl | (simp; done) | (simp [*]; done), by repeat (first | exact Drawn0.refl _ | apply Drawn0.step)⟩
                · rw [if_neg c43] at H
                  have c43b0 : (a0 == 43) = false := beq_eq_false_iff_ne.mpr c43
                  have c43b1 : (a0 != 43) = true := bne_iff_ne.mpr c43
                  obtain rfl := Option.some.inj H
                  go_enter Tryd.func35, Tryd.ntmps35
                  go_wp2
                  go_ret
                  exact ⟨by first | rfl | (simp; done) | (simp [*]; done), by repeat (first | exact Drawn0.refl _ | apply Drawn0.step)⟩
      · rw [if_neg c38] at H
        have c38b0 : decide (65 ≤ a0) = false := decide_eq_false c38
        clear c38
        by_cases c44 : a0 = 44
        · rw [if_pos c44] at H
          have c44b0 : (a0 == 44) = true := beq_iff_eq.mpr c44
          have c44b1 : (a0 != 44) = false := bne_eq_false_iff_eq.mpr c44
          clear c44
          obtain rfl := Option.some.inj H
          go_enter Tryd.func35, Tryd.ntmps35
          go_wp2
          go_ret
          exact ⟨by first | rfl | (simp; done) | (simp [*]; done), by repeat (first | exact Drawn0.refl _ | apply Drawn0.step)⟩
        · rw [if_neg c44] at H
          have c44b0 : (a0 == 44) = false := beq_eq_false_iff_ne.mpr c44
          have c44b1 : (a0 != 44) = true := bne_iff_ne.mpr c44
          by_cases c45 : a0 = 46
          · rw [if_pos c45] at H
            have c45b0 : (a0 == 46) = true := beq_iff_eq.mpr c45
            have c45b1 : (a0 != 46) = false := bne_eq_false_iff_eq.mpr c45
            clear c45
            obtain rfl := Option.some.inj H
            go_enter Tryd.func35, Tryd.ntmps35
            go_wp2
            go_ret
            exact ⟨by first | rfl | (simp; done) | (simp [*]; done), by repeat (first | exact Drawn0.refl _ | apply Drawn0.step)⟩
          · rw [if_neg c45] at H
            have c45b0 : (a0 == 46) = false := beq_eq_false_iff_ne.mpr c45
            have c45b1 : (a0 != 46) = true := bne_iff_ne.mpr c45
            by_cases c46 : a0 = 95
            · rw [if_pos c46] at H
              have c46b0 : (a0 == 95) = true := beq_iff_eq.mpr c46
              have c46b1 : (a0 != 95) = false := bne_eq_false_iff_eq.mpr c46
              clear c46
              obtain rfl := Option.some.inj H
              go_enter Tryd.func35, Tryd.ntmps35
              go_wp2
              go_ret
              exact ⟨by first | rfl | (simp; done) | (simp [*]; done), by repeat (first | exact Drawn0.refl _ | apply Drawn0.step)⟩
            · rw [if_neg c46] at H
              have c46b0 : (a0 == 95) = false := beq_eq_false_iff_ne.mpr c46
              have c46b1 : (a0 != 95) = true := bne_iff_ne.mpr c46
              by_cases c47 : a0 = 43
              · rw [if_pos c47] at H
                have c47b0 : (a0 == 43) = true := beq_iff_eq.mpr c47
                have c47b1 : (a0 != 43) = false := bne_eq_false_iff_eq.mpr c47
                clear c47
                obtain rfl := Option.some.inj H
                go_enter Tryd.func35, Tryd.ntmps35
                go_wp2
                go_ret
                exact ⟨by first | rfl | (simp; done) | (simp [*]; done), by repeat (first | exact Drawn0.refl _ | apply Drawn0.step)⟩
              · rw [if_neg c47] at H
                have c47b0 : (a0 == 43) = false := beq_eq_false_iff_ne.mpr c47
                have c47b1 : (a0 != 43) = true := bne_iff_ne.mpr c47
                obtain rfl := Option.some.inj H
                go_enter Tryd.func35, Tryd.ntmps35
                go_wp2
                go_ret
                exact ⟨by first | rfl | (simp; done) | (simp [*]; done), by repeat (first | exact Drawn0.refl _ | apply Drawn0.step)⟩
end Go.Proofs.YtkopmkinlanhoaaDoor.PP

namespace Go.Proofs.YtkopmkinlanhoaaDoor.PP
open Go.RowKit Go.Proofs.YtkopmkinlanhoaaDoorW.PrintWords Go.Proofs.YtkopmkinlanhoaaDoorW.PrintLast Go.Proofs.YtkopmkinlanhoaaDoorW.PrintMore
attribute [local go_sem] max2_int min2_int max_two min_two max_three min_three max_four min_four   -- for this text's walks alone
set_option linter.unusedVariables false
set_option linter.unusedSimpArgs false
mutual
def arboretref01_Node.j0 : Nat → ByteArray → Int → ByteArray → Option (Bool)
  | 0, _, _, _ => none
  | k + 1, x0, x3, x4 => arboretref01_Node.l0 k x0 x3 x4 (x0.size : Int) 0
def arboretref01_Node.l0 : Nat → ByteArray → Int → ByteArray → Int → Int → Option (Bool)
  | 0, _, _, _, _, _ => none
  | k + 1, x0, x3, x4, x29, x30 => if x30 < x29 then (if x30 = x3 then (arboretref01_Node.l0 k x0 x3 x4 x29 (wrap64 (x30 + 1))) else (if 0 ≤ x30 then (if x30 < (x0.size : Int) then ((arboretref01_stands.f (bt x0 x30)).bind fun t159 => (if t159 = true then (arboretref01_Node.l0 k x0 x3 x4 x29 (wrap64 (x30 + 1))) else (some false))) else (none)) else (none))) else (if (x4.size : Int) ≥ 1 then (if (x4.size : Int) ≤ 31 then (if 0 < (x4.size : Int) then (if (bt x4 0) = 95 then (some true) else (if (bt x4 0) ≥ 97 then (if (bt x4 0) ≤ 122 then (some true) else (if (bt x4 0) ≥ 65 then (some (decide ((bt x4 0) ≤ 90))) else (some false))) else (if (bt x4 0) ≥ 65 then (some (decide ((bt x4 0) ≤ 90))) else (some false)))) else (none)) else (some false)) else (some false))
end
def arboretref01_Node.f (k : Nat) (a0 : ByteArray) : Option (Bool) := (arboretref01_Cut.f k a0).bind fun t158 => (if t158 ≥ 0 then (if 0 ≤ t158 then (if t158 ≤ (a0.size : Int) then (if (wrap64 ((wrap64 ((a0.size : Int) - t158)) - 1)) < 1 then (some false) else (if (wrap64 ((wrap64 ((a0.size : Int) - t158)) - 1)) > 31 then (some false) else (arboretref01_Node.j0 k a0 t158 (a0.extract 0 (t158 : Int).toNat)))) else (none)) else (none)) else (arboretref01_Node.j0 k a0 t158 a0))
set_option maxHeartbeats 8000000 in
set_option maxRecDepth 100000 in
theorem arboretref01_Node.calls (k : Nat) (a0 : ByteArray) (r : Bool) (w : World) (h : arboretref01_Node.f k a0 = some r) :
    Calls Tryd.prog 21 #[.string a0] w fun e w' => e = .returned (.bool r) ∧ Drawn0 w w' := by
  have H : ((arboretref01_Cut.f k a0).bind fun t158 => (if t158 ≥ 0 then (if 0 ≤ t158 then (if t158 ≤ (a0.size : Int) then (if (wrap64 ((wrap64 ((a0.size : Int) - t158)) - 1)) < 1 then (some false) else (if (wrap64 ((wrap64 ((a0.size : Int) - t158)) - 1)) > 31 then (some false) else (arboretref01_Node.j0 k a0 t158 (a0.extract 0 (t158 : Int).toNat)))) else (none)) else (none)) else (arboretref01_Node.j0 k a0 t158 a0))) = some r := h
  clear h
  replace H := Option.bind_eq_some_iff.mp H
  obtain ⟨t158, A20, H⟩ := H
  replace H : (if t158 ≥ 0 then (if 0 ≤ t158 then (if t158 ≤ (a0.size : Int) then (if (wrap64 ((wrap64 ((a0.size : Int) - t158)) - 1)) < 1 then (some false) else (if (wrap64 ((wrap64 ((a0.size : Int) - t158)) - 1)) > 31 then (some false) else (arboretref01_Node.j0 k a0 t158 (a0.extract 0 (t158 : Int).toNat)))) else (none)) else (none)) else (arboretref01_Node.j0 k a0 t158 a0)) = some r := H
  have A2 := Aside0.mk A20
  clear A20
  have HC3 := Aside0.mk H
  clear H
  go_enter Tryd.func21, Tryd.ntmps21
  go_upto_if 10 with (first | ((with_reducible refine gate_callee (f := 34) rfl ?_); refine goesL_ (some 7) rfl rfl Tryd.func34 (by kernel_rfl) rfl #[.string a0] rfl (by (try simp only [List.map_toArray, List.map_cons, List.map_nil]); first | done | rfl | (simp only [List.length_drop, List.length_take]; rfl)) ?_; (with_reducible refine (arboretref01_Cut.calls k a0 t158 _ A2.out).mono ?_); rintro e w' ⟨rfl, ⟨nd, rfl⟩⟩; refine ⟨_, rfl, ?_⟩))
  (try simp only [Act.put, List.setIfInBounds_toArray, List.set_cons_zero, List.set_cons_succ])
  go_cut [4] (fun v4 wc => ∃ (kq : Nat) (x4_2 : ByteArray), v4 = .string x4_2 ∧ Aside0 (arboretref01_Node.j0 kq a0 t158 x4_2 = some r) ∧ Aside0 (kq ≤ k) ∧ Drawn0 w wc)
  case first =>
    have H := HC3.out
    clear HC3
    by_cases c4 : t158 ≥ 0
    · rw [if_pos c4] at H
      have c4b0 : decide (0 ≤ t158) = true := decide_eq_true c4
      clear c4
      (first | rw [c4b0] | (simp only [i64_w, i32_w]; rw [c4b0]) | skip)
      by_cases c5 : 0 ≤ t158
      · rw [if_pos c5] at H
        have c5b0 := eq_true c5
        have c5b1 : decide (0 ≤ t158) = true := decide_eq_true c5
        clear c5
        by_cases c6 : t158 ≤ (a0.size : Int)
        · rw [if_pos c6] at H
          have c6b0 := eq_true c6
          have c6b1 : decide (t158 ≤ (a0.size : Int)) = true := decide_eq_true c6
          clear c6
          by_cases c7 : (wrap64 ((wrap64 ((a0.size : Int) - t158)) - 1)) < 1
          · rw [if_pos c7] at H
            have c7b0 : decide ((wrap64 ((wrap64 ((a0.size : Int) - t158)) - 1)) < 1) = true := decide_eq_true c7
            clear c7
            obtain rfl := Option.some.inj H
            go_wp2
            go_ret
            exact ⟨by first | rfl | (simp; done) | (simp [*]; done), by repeat (first | exact Drawn0.refl _ | apply Drawn0.step)⟩
          · rw [if_neg c7] at H
            have c7b0 : decide ((wrap64 ((wrap64 ((a0.size : Int) - t158)) - 1)) < 1) = false := decide_eq_false c7
            clear c7
            by_cases c8 : (wrap64 ((wrap64 ((a0.size : Int) - t158)) - 1)) > 31
            · rw [if_pos c8] at H
              have c8b0 : decide (31 < (wrap64 ((wrap64 ((a0.size : Int) - t158)) - 1))) = true := decide_eq_true c8
              clear c8
              obtain rfl := Option.some.inj H
              go_wp2
              go_ret
              exact ⟨by first | rfl | (simp; done) | (simp [*]; done), by repeat (first | exact Drawn0.refl _ | apply Drawn0.step)⟩
            · rw [if_neg c8] at H
              have c8b0 : decide (31 < (wrap64 ((wrap64 ((a0.size : Int) - t158)) - 1))) = false := decide_eq_false c8
              clear c8
              have H' := Aside0.mk H
              clear H
              go_wp2
              go_meet
              case rel => exact ⟨_, (a0.extract 0 (t158 : Int).toNat), (by first | rfl | (simp; done) | (simp [*]; done)), H', ⟨by first | omega | exact Nat.le_refl _⟩, by repeat (first | exact Drawn0.refl _ | apply Drawn0.step)⟩
        · rw [if_neg c6] at H
          exact absurd H (by simp)
      · rw [if_neg c5] at H
        exact absurd H (by simp)
    · rw [if_neg c4] at H
      have c4b0 : decide (0 ≤ t158) = false := decide_eq_false c4
      clear c4
      (first | rw [c4b0] | (simp only [i64_w, i32_w]; rw [c4b0]) | skip)
      have H' := Aside0.mk H
      clear H
      go_wp2
      go_meet
      case rel => exact ⟨_, (a0), (by first | rfl | (simp; done) | (simp [*]; done)), H', ⟨by first | omega | exact Nat.le_refl _⟩, by repeat (first | exact Drawn0.refl _ | apply Drawn0.step)⟩
  case rest =>
    clear HC3
    try clear c2
    try clear p2
    try clear c3
    try clear c4
    try clear c4b0
    try clear c5
    try clear c5b0
    try clear c5b1
    try clear c6
    try clear c6b0
    try clear c6b1
    try clear p6
    try clear c7
    try clear c7b0
    try clear c8
    try clear c8b0
    obtain ⟨kq, x4_2, rfl, HA, HJ2, ⟨mc2, rfl⟩⟩ := hcut
    cases kq with
    | zero => exact absurd HA.out (by simp [arboretref01_Node.j0])
    | succ kj2 =>
      have H := HA.out
      clear HA
      simp only [arboretref01_Node.j0] at H
      have H' := Aside0.mk H
      clear H
      go_wp2
      go_loopg [30] kj2 (fun kq v30 w' => ∃ (x30_2 : Int), v30 = .int .i64 x30_2 ∧ Aside0 (arboretref01_Node.l0 kq a0 t158 x4_2 (a0.size : Int) x30_2 = some r) ∧ Aside0 (kq ≤ kj2) ∧ Drawn0 w w')
      case atStart => exact ⟨(0), (by first | rfl | (simp; done) | (simp [*]; done)), H', ⟨Nat.le_refl _⟩, by repeat (first | exact Drawn0.refl _ | apply Drawn0.step)⟩
      case round =>
        clear H'
        try clear c2
        try clear p2
        try clear c3
        try clear c4
        try clear c4b0
        try clear c5
        try clear c5b0
        try clear c5b1
        try clear c6
        try clear c6b0
        try clear c6b1
        try clear p6
        try clear c7
        try clear c7b0
        try clear c8
        try clear c8b0
        try clear p2
        try clear p6
        obtain ⟨x30_2, rfl, HA, HK2, ⟨m2, rfl⟩⟩ := hrel
        cases gk with
        | zero => exact absurd HA.out (by simp [arboretref01_Node.l0])
        | succ k2 =>
          have H := HA.out
          clear HA
          simp only [arboretref01_Node.l0] at H
          by_cases c9 : x30_2 < (a0.size : Int)
          · rw [if_pos c9] at H
            have c9b0 : decide (x30_2 < (a0.size : Int)) = true := decide_eq_true c9
            clear c9
            by_cases c10 : x30_2 = t158
            · rw [if_pos c10] at H
              have c10b0 : (x30_2 == t158) = true := beq_iff_eq.mpr c10
              have c10b1 : (x30_2 != t158) = false := bne_eq_false_iff_eq.mpr c10
              clear c10
              have H' := Aside0.mk H
              clear H
              go_wp2
              go_roundg k2
              case measure => have := HJ2.out; have := HK2.out; omega
              case rel => exact ⟨(wrap64 (x30_2 + 1)), (by first | rfl | (simp; done) | (simp [*]; done)), H', ⟨by have := HJ2.out; have := HK2.out; omega⟩, by repeat (first | exact Drawn0.refl _ | apply Drawn0.step)⟩
            · rw [if_neg c10] at H
              have c10b0 : (x30_2 == t158) = false := beq_eq_false_iff_ne.mpr c10
              have c10b1 : (x30_2 != t158) = true := bne_iff_ne.mpr c10
              by_cases c11 : 0 ≤ x30_2
              · rw [if_pos c11] at H
                have c11b0 : decide (0 ≤ x30_2) = true := decide_eq_true c11
                clear c11
                by_cases c12 : x30_2 < (a0.size : Int)
                · rw [if_pos c12] at H
                  have c12b0 : decide (x30_2 < (a0.size : Int)) = true := decide_eq_true c12
                  clear c12
                  replace H := Option.bind_eq_some_iff.mp H
                  obtain ⟨t159, A140, H⟩ := H
                  replace H : (if t159 = true then (arboretref01_Node.l0 k2 a0 t158 x4_2 (a0.size : Int) (wrap64 (x30_2 + 1))) else (some false)) = some r := H
                  have A14 := Aside0.mk A140
                  clear A140
                  by_cases c15 : t159 = true
                  · subst c15
                    have H1 : (arboretref01_Node.l0 k2 a0 t158 x4_2 (a0.size : Int) (wrap64 (x30_2 + 1))) = some r := by rw [if_pos rfl] at H; exact H
                    clear H
                    have H := H1
                    clear H1
                    have H' := Aside0.mk H
                    clear H
                    have p13 : 0 ≤ (x30_2 : Int) := of_decide_eq_true (by first | (with_reducible assumption) | assumption)
                    have q13 : x30_2 < (a0.size : Int) := of_decide_eq_true (by first | (with_reducible assumption) | assumption)
                    have hx13 := bt_at a0 x30_2
                    replace p13 := eq_true p13
                    replace q13 := eq_true q13
                    go_wp2_with (first | (go_at_call 35; (with_reducible refine (arboretref01_stands.calls (bt a0 x30_2) true _ A14.out).mono ?_); rintro e w' ⟨rfl, ⟨nd, rfl⟩⟩))
                    go_roundg k2
                    case measure => have := HJ2.out; have := HK2.out; omega
                    case rel => exact ⟨(wrap64 (x30_2 + 1)), (by first | rfl | (simp; done) | (simp [*]; done)), H', ⟨by have := HJ2.out; have := HK2.out; omega⟩, by repeat (first | exact Drawn0.refl _ | apply Drawn0.step)⟩
                  · replace c15 := Bool.eq_false_iff.mpr c15
                    subst c15
                    have H1 : (some false) = some r := by rw [if_neg (show ¬ (false = true) by decide)] at H; exact H
                    clear H
                    have H := H1
                    clear H1
                    obtain rfl := Option.some.inj H
                    have p13 : 0 ≤ (x30_2 : Int) := of_decide_eq_true (by first | (with_reducible assumption) | assumption)
                    have q13 : x30_2 < (a0.size : Int) := of_decide_eq_true (by first | (with_reducible assumption) | assumption)
                    have hx13 := bt_at a0 x30_2
                    replace p13 := eq_true p13
                    replace q13 := eq_true q13
                    go_wp2_with (first | (go_at_call 35; (with_reducible refine (arboretref01_stands.calls (bt a0 x30_2) false _ A14.out).mono ?_); rintro e w' ⟨rfl, ⟨nd, rfl⟩⟩))
                    go_ret
                    exact ⟨by first | rfl | (simp; done) | (simp [*]; done), by repeat (first | exact Drawn0.refl _ | apply Drawn0.step)⟩
                · rw [if_neg c12] at H
                  exact absurd H (by simp)
              · rw [if_neg c11] at H
                exact absurd H (by simp)
          · rw [if_neg c9] at H
            have c9b0 : decide (x30_2 < (a0.size : Int)) = false := decide_eq_false c9
            clear c9
            by_cases c16 : (x4_2.size : Int) ≥ 1
            · rw [if_pos c16] at H
              have c16b0 : decide (1 ≤ (x4_2.size : Int)) = true := decide_eq_true c16
              have c16b1 : decide (1 ≤ x4_2.size) = true := decide_eq_true (by omega)
              clear c16
              by_cases c17 : (x4_2.size : Int) ≤ 31
              · rw [if_pos c17] at H
                have c17b0 : decide ((x4_2.size : Int) ≤ 31) = true := decide_eq_true c17
                have c17b1 : decide (x4_2.size ≤ 31) = true := decide_eq_true (by omega)
                clear c17
                by_cases c18 : 0 < (x4_2.size : Int)
                · rw [if_pos c18] at H
                  have c18b0 : decide (0 < (x4_2.size : Int)) = true := decide_eq_true c18
                  have c18b1 : decide (0 < x4_2.size) = true := decide_eq_true (by omega)
                  clear c18
                  by_cases c20 : (bt x4_2 0) = 95
                  · rw [if_pos c20] at H
                    have c20b0 : ((bt x4_2 0) == 95) = true := beq_iff_eq.mpr c20
                    have c20b1 : ((bt x4_2 0) != 95) = false := bne_eq_false_iff_eq.mpr c20
                    clear c20
                    obtain rfl := Option.some.inj H
                    have p19 : 0 ≤ (0 : Int) := (by omega)
                    have q19 : 0 < x4_2.size := (by have : (0 : Int) < (x4_2.size : Int) := of_decide_eq_true (by first | (with_reducible assumption) | assumption); omega)
                    have hx19 : ∀ h : 0 < x4_2.size, ((x4_2[0]'h).toNat : Int) = bt x4_2 0 := bt_at x4_2 0
                    clear p19
                    have qi19 : (0 < (x4_2.size : Int)) = True := eq_true (of_decide_eq_true (by first | (with_reducible assumption) | assumption))
                    replace q19 := eq_true q19
                    go_wp2
                    go_ret
                    exact ⟨by first | rfl | (simp; done) | (simp [*]; done), by repeat (first | exact Drawn0.refl _ | apply Drawn0.step)⟩
                  · rw [if_neg c20] at H
                    have c20b0 : ((bt x4_2 0) == 95) = false := beq_eq_false_iff_ne.mpr c20
                    have c20b1 : ((bt x4_2 0) != 95) = true := bne_iff_ne.mpr c20
                    by_cases c22 : (bt x4_2 0) ≥ 97
                    · rw [if_pos c22] at H
                      have c22b0 : decide (97 ≤ (bt x4_2 0)) = true := decide_eq_true c22
                      clear c22
                      by_cases c24 : (bt x4_2 0) ≤ 122
                      · rw [if_pos c24] at H
                        have c24b0 : decide ((bt x4_2 0) ≤ 122) = true := decide_eq_true c24
                        clear c24
                        obtain rfl := Option.some.inj H
                        have p19 : 0 ≤ (0 : Int) := (by omega)
                        have q19 : 0 < x4_2.size := (by have : (0 : Int) < (x4_2.size : Int) := of_decide_eq_true (by first | (with_reducible assumption) | assumption); omega)
                        have hx19 : ∀ h : 0 < x4_2.size, ((x4_2[0]'h).toNat : Int) = bt x4_2 0 := bt_at x4_2 0
                        clear p19
                        have qi19 : (0 < (x4_2.size : Int)) = True := eq_true (of_decide_eq_true (by first | (with_reducible assumption) | assumption))
                        replace q19 := eq_true q19
                        have p21 : 0 ≤ (0 : Int) := (by omega)
                        have q21 : 0 < x4_2.size := (by have : (0 : Int) < (x4_2.size : Int) := of_decide_eq_true (by first | (with_reducible assumption) | assumption); omega)
                        have hx21 : ∀ h : 0 < x4_2.size, ((x4_2[0]'h).toNat : Int) = bt x4_2 0 := bt_at x4_2 0
                        clear p21
                        have qi21 : (0 < (x4_2.size : Int)) = True := eq_true (of_decide_eq_true (by first | (with_reducible assumption) | assumption))
                        replace q21 := eq_true q21
                        have p23 : 0 ≤ (0 : Int) := (by omega)
                        have q23 : 0 < x4_2.size := (by have : (0 : Int) < (x4_2.size : Int) := of_decide_eq_true (by first | (with_reducible assumption) | assumption); omega)
                        have hx23 : ∀ h : 0 < x4_2.size, ((x4_2[0]'h).toNat : Int) = bt x4_2 0 := bt_at x4_2 0
                        clear p23
                        have qi23 : (0 < (x4_2.size : Int)) = True := eq_true (of_decide_eq_true (by first | (with_reducible assumption) | assumption))
                        replace q23 := eq_true q23
                        go_wp2
                        go_ret
                        exact ⟨by first | rfl | (simp; done) | (simp [*]; done), by repeat (first | exact Drawn0.refl _ | apply Drawn0.step)⟩
                      · rw [if_neg c24] at H
                        have c24b0 : decide ((bt x4_2 0) ≤ 122) = false := decide_eq_false c24
                        clear c24
                        by_cases c26 : (bt x4_2 0) ≥ 65
                        · rw [if_pos c26] at H
                          have c26b0 : decide (65 ≤ (bt x4_2 0)) = true := decide_eq_true c26
                          clear c26
                          obtain rfl := Option.some.inj H
                          have p19 : 0 ≤ (0 : Int) := (by omega)
                          have q19 : 0 < x4_2.size := (by have : (0 : Int) < (x4_2.size : Int) := of_decide_eq_true (by first | (with_reducible assumption) | assumption); omega)
                          have hx19 : ∀ h : 0 < x4_2.size, ((x4_2[0]'h).toNat : Int) = bt x4_2 0 := bt_at x4_2 0
                          clear p19
                          have qi19 : (0 < (x4_2.size : Int)) = True := eq_true (of_decide_eq_true (by first | (with_reducible assumption) | assumption))
                          replace q19 := eq_true q19
                          have p21 : 0 ≤ (0 : Int) := (by omega)
                          have q21 : 0 < x4_2.size := (by have : (0 : Int) < (x4_2.size : Int) := of_decide_eq_true (by first | (with_reducible assumption) | assumption); omega)
                          have hx21 : ∀ h : 0 < x4_2.size, ((x4_2[0]'h).toNat : Int) = bt x4_2 0 := bt_at x4_2 0
                          clear p21
                          have qi21 : (0 < (x4_2.size : Int)) = True := eq_true (of_decide_eq_true (by first | (with_reducible assumption) | assumption))
                          replace q21 := eq_true q21
                          have p23 : 0 ≤ (0 : Int) := (by omega)
                          have q23 : 0 < x4_2.size := (by have : (0 : Int) < (x4_2.size : Int) := of_decide_eq_true (by first | (with_reducible assumption) | assumption); omega)
                          have hx23 : ∀ h : 0 < x4_2.size, ((x4_2[0]'h).toNat : Int) = bt x4_2 0 := bt_at x4_2 0
                          clear p23
                          have qi23 : (0 < (x4_2.size : Int)) = True := eq_true (of_decide_eq_true (by first | (with_reducible assumption) | assumption))
                          replace q23 := eq_true q23
                          have p25 : 0 ≤ (0 : Int) := (by omega)
                          have q25 : 0 < x4_2.size := (by have : (0 : Int) < (x4_2.size : Int) := of_decide_eq_true (by first | (with_reducible assumption) | assumption); omega)
                          have hx25 : ∀ h : 0 < x4_2.size, ((x4_2[0]'h).toNat : Int) = bt x4_2 0 := bt_at x4_2 0
                          clear p25
                          have qi25 : (0 < (x4_2.size : Int)) = True := eq_true (of_decide_eq_true (by first | (with_reducible assumption) | assumption))
                          replace q25 := eq_true q25
                          have p27 : 0 ≤ (0 : Int) := (by omega)
                          have q27 : 0 < x4_2.size := (by have : (0 : Int) < (x4_2.size : Int) := of_decide_eq_true (by first | (with_reducible assumption) | assumption); omega)
                          have hx27 : ∀ h : 0 < x4_2.size, ((x4_2[0]'h).toNat : Int) = bt x4_2 0 := bt_at x4_2 0
                          clear p27
                          have qi27 : (0 < (x4_2.size : Int)) = True := eq_true (of_decide_eq_true (by first | (with_reducible assumption) | assumption))
                          replace q27 := eq_true q27
                          go_wp2
                          go_ret
                          exact ⟨by first | rfl | (simp; done) | (simp [*]; done), by repeat (first | exact Drawn0.refl _ | apply Drawn0.step)⟩
                        · rw [if_neg c26] at H
                          have c26b0 : decide (65 ≤ (bt x4_2 0)) = false := decide_eq_false c26
                          clear c26
                          obtain rfl := Option.some.inj H
                          have p19 : 0 ≤ (0 : Int) := (by omega)
                          have q19 : 0 < x4_2.size := (by have : (0 : Int) < (x4_2.size : Int) := of_decide_eq_true (by first | (with_reducible assumption) | assumption); omega)
                          have hx19 : ∀ h : 0 < x4_2.size, ((x4_2[0]'h).toNat : Int) = bt x4_2 0 := bt_at x4_2 0
                          clear p19
                          have qi19 : (0 < (x4_2.size : Int)) = True := eq_true (of_decide_eq_true (by first | (with_reducible assumption) | assumption))
                          replace q19 := eq_true q19
                          have p21 : 0 ≤ (0 : Int) := (by omega)
                          have q21 : 0 < x4_2.size := (by have : (0 : Int) < (x4_2.size : Int) := of_decide_eq_true (by first | (with_reducible assumption) | assumption); omega)
                          have hx21 : ∀ h : 0 < x4_2.size, ((x4_2[0]'h).toNat : Int) = bt x4_2 0 := bt_at x4_2 0
                          clear p21
                          have qi21 : (0 < (x4_2.size : Int)) = True := eq_true (of_decide_eq_true (by first | (with_reducible assumption) | assumption))
                          replace q21 := eq_true q21
                          have p23 : 0 ≤ (0 : Int) := (by omega)
                          have q23 : 0 < x4_2.size := (by have : (0 : Int) < (x4_2.size : Int) := of_decide_eq_true (by first | (with_reducible assumption) | assumption); omega)
                          have hx23 : ∀ h : 0 < x4_2.size, ((x4_2[0]'h).toNat : Int) = bt x4_2 0 := bt_at x4_2 0
                          clear p23
                          have qi23 : (0 < (x4_2.size : Int)) = True := eq_true (of_decide_eq_true (by first | (with_reducible assumption) | assumption))
                          replace q23 := eq_true q23
                          have p25 : 0 ≤ (0 : Int) := (by omega)
                          have q25 : 0 < x4_2.size := (by have : (0 : Int) < (x4_2.size : Int) := of_decide_eq_true (by first | (with_reducible assumption) | assumption); omega)
                          have hx25 : ∀ h : 0 < x4_2.size, ((x4_2[0]'h).toNat : Int) = bt x4_2 0 := bt_at x4_2 0
                          clear p25
                          have qi25 : (0 < (x4_2.size : Int)) = True := eq_true (of_decide_eq_true (by first | (with_reducible assumption) | assumption))
                          replace q25 := eq_true q25
                          go_wp2
                          go_ret
                          exact ⟨by first | rfl | (simp; done) | (simp [*]; done), by repeat (first | exact Drawn0.refl _ | apply Drawn0.step)⟩
                    · rw [if_neg c22] at H
                      have c22b0 : decide (97 ≤ (bt x4_2 0)) = false := decide_eq_false c22
                      clear c22
                      by_cases c29 : (bt x4_2 0) ≥ 65
                      · rw [if_pos c29] at H
                        have c29b0 : decide (65 ≤ (bt x4_2 0)) = true := decide_eq_true c29
                        clear c29
                        obtain rfl := Option.some.inj H
                        have p19 : 0 ≤ (0 : Int) := (by omega)
                        have q19 : 0 < x4_2.size := (by have : (0 : Int) < (x4_2.size : Int) := of_decide_eq_true (by first | (with_reducible assumption) | assumption); omega)
                        have hx19 : ∀ h : 0 < x4_2.size, ((x4_2[0]'h).toNat : Int) = bt x4_2 0 := bt_at x4_2 0
                        clear p19
                        have qi19 : (0 < (x4_2.size : Int)) = True := eq_true (of_decide_eq_true (by first | (with_reducible assumption) | assumption))
                        replace q19 := eq_true q19
                        have p21 : 0 ≤ (0 : Int) := (by omega)
                        have q21 : 0 < x4_2.size := (by have : (0 : Int) < (x4_2.size : Int) := of_decide_eq_true (by first | (with_reducible assumption) | assumption); omega)
                        have hx21 : ∀ h : 0 < x4_2.size, ((x4_2[0]'h).toNat : Int) = bt x4_2 0 := bt_at x4_2 0
                        clear p21
                        have qi21 : (0 < (x4_2.size : Int)) = True := eq_true (of_decide_eq_true (by first | (with_reducible assumption) | assumption))
                        replace q21 := eq_true q21
                        have p28 : 0 ≤ (0 : Int) := (by omega)
                        have q28 : 0 < x4_2.size := (by have : (0 : Int) < (x4_2.size : Int) := of_decide_eq_true (by first | (with_reducible assumption) | assumption); omega)
                        have hx28 : ∀ h : 0 < x4_2.size, ((x4_2[0]'h).toNat : Int) = bt x4_2 0 := bt_at x4_2 0
                        clear p28
                        have qi28 : (0 < (x4_2.size : Int)) = True := eq_true (of_decide_eq_true (by first | (with_reducible assumption) | assumption))
                        replace q28 := eq_true q28
                        have p30 : 0 ≤ (0 : Int) := (by omega)
                        have q30 : 0 < x4_2.size := (by have : (0 : Int) < (x4_2.size : Int) := of_decide_eq_true (by first | (with_reducible assumption) | assumption); omega)
                        have hx30 : ∀ h : 0 < x4_2.size, ((x4_2[0]'h).toNat : Int) = bt x4_2 0 := bt_at x4_2 0
                        clear p30
                        have qi30 : (0 < (x4_2.size : Int)) = True := eq_true (of_decide_eq_true (by first | (with_reducible assumption) | assumption))
                        replace q30 := eq_true q30
                        go_wp2
                        go_ret
                        exact ⟨by first | rfl | (simp; done) | (simp [*]; done), by repeat (first | exact Drawn0.refl _ | apply Drawn0.step)⟩
                      · rw [if_neg c29] at H
                        have c29b0 : decide (65 ≤ (bt x4_2 0)) = false := decide_eq_false c29
                        clear c29
                        obtain rfl := Option.some.inj H
                        have p19 : 0 ≤ (0 : Int) := (by omega)
                        have q19 : 0 < x4_2.size := (by have : (0 : Int) < (x4_2.size : Int) := of_decide_eq_true (by first | (with_reducible assumption) | assumption); omega)
                        have hx19 : ∀ h : 0 < x4_2.size, ((x4_2[0]'h).toNat : Int) = bt x4_2 0 := bt_at x4_2 0
                        clear p19
                        have qi19 : (0 < (x4_2.size : Int)) = True := eq_true (of_decide_eq_true (by first | (with_reducible assumption) | assumption))
                        replace q19 := eq_true q19
                        have p21 : 0 ≤ (0 : Int) := (by omega)
                        have q21 : 0 < x4_2.size := (by have : (0 : Int) < (x4_2.size : Int) := of_decide_eq_true (by first | (with_reducible assumption) | assumption); omega)
                        have hx21 : ∀ h : 0 < x4_2.size, ((x4_2[0]'h).toNat : Int) = bt x4_2 0 := bt_at x4_2 0
                        clear p21
                        have qi21 : (0 < (x4_2.size : Int)) = True := eq_true (of_decide_eq_true (by first | (with_reducible assumption) | assumption))
                        replace q21 := eq_true q21
                        have p28 : 0 ≤ (0 : Int) := (by omega)
                        have q28 : 0 < x4_2.size := (by have : (0 : Int) < (x4_2.size : Int) := of_decide_eq_true (by first | (with_reducible assumption) | assumption); omega)
                        have hx28 : ∀ h : 0 < x4_2.size, ((x4_2[0]'h).toNat : Int) = bt x4_2 0 := bt_at x4_2 0
                        clear p28
                        have qi28 : (0 < (x4_2.size : Int)) = True := eq_true (of_decide_eq_true (by first | (with_reducible assumption) | assumption))
                        replace q28 := eq_true q28
                        go_wp2
                        go_ret
                        exact ⟨by first | rfl | (simp; done) | (simp [*]; done), by repeat (first | exact Drawn0.refl _ | apply Drawn0.step)⟩
                · rw [if_neg c18] at H
                  exact absurd H (by simp)
              · rw [if_neg c17] at H
                have c17b0 : decide ((x4_2.size : Int) ≤ 31) = false := decide_eq_false c17
                have c17b1 : decide (x4_2.size ≤ 31) = false := decide_eq_false (by omega)
                clear c17
                obtain rfl := Option.some.inj H
                go_wp2
                go_ret
                exact ⟨by first | rfl | (simp; done) | (simp [*]; done), by repeat (first | exact Drawn0.refl _ | apply Drawn0.step)⟩
            · rw [if_neg c16] at H
              have c16b0 : decide (1 ≤ (x4_2.size : Int)) = false := decide_eq_false c16
              have c16b1 : decide (1 ≤ x4_2.size) = false := decide_eq_false (by omega)
              clear c16
              obtain rfl := Option.some.inj H
              go_wp2
              go_ret
              exact ⟨by first | rfl | (simp; done) | (simp [*]; done), by repeat (first | exact Drawn0.refl _ | apply Drawn0.step)⟩
end Go.Proofs.YtkopmkinlanhoaaDoor.PP

namespace Go.Proofs.YtkopmkinlanhoaaDoor.PP
open Go.RowKit Go.Proofs.YtkopmkinlanhoaaDoorW.PrintWords Go.Proofs.YtkopmkinlanhoaaDoorW.PrintLast Go.Proofs.YtkopmkinlanhoaaDoorW.PrintMore
attribute [local go_sem] max2_int min2_int max_two min_two max_three min_three max_four min_four   -- for this text's walks alone
set_option linter.unusedVariables false
set_option linter.unusedSimpArgs false
def arboretref01_Prop.l0 : Nat → ByteArray → Int → Int → Option (Bool)
  | 0, _, _, _ => none
  | k + 1, x0, x5, x6 => if x6 < x5 then (if 0 ≤ x6 then (if x6 < (x0.size : Int) then ((arboretref01_stands.f (bt x0 x6)).bind fun t160 => (if t160 = true then (arboretref01_Prop.l0 k x0 x5 (wrap64 (x6 + 1))) else (if (bt x0 x6) = 63 then (arboretref01_Prop.l0 k x0 x5 (wrap64 (x6 + 1))) else (if (bt x0 x6) = 35 then (arboretref01_Prop.l0 k x0 x5 (wrap64 (x6 + 1))) else (some false))))) else (none)) else (none)) else (if (x0.size : Int) ≥ 1 then (some (decide ((x0.size : Int) ≤ 31))) else (some false))
def arboretref01_Prop.f (k : Nat) (a0 : ByteArray) : Option (Bool) := arboretref01_Prop.l0 k a0 (a0.size : Int) 0
set_option maxHeartbeats 8000000 in
set_option maxRecDepth 100000 in
theorem arboretref01_Prop.calls (k : Nat) (a0 : ByteArray) (r : Bool) (w : World) (h : arboretref01_Prop.f k a0 = some r) :
    Calls Tryd.prog 22 #[.string a0] w fun e w' => e = .returned (.bool r) ∧ Drawn0 w w' := by
  have H : (arboretref01_Prop.l0 k a0 (a0.size : Int) 0) = some r := h
  clear h
  have H' := Aside0.mk H
  clear H
  go_enter Tryd.func22, Tryd.ntmps22
  go_wp2
  go_loopg [6] k (fun kq v6 w' => ∃ (x6_1 : Int), v6 = .int .i64 x6_1 ∧ Aside0 (arboretref01_Prop.l0 kq a0 (a0.size : Int) x6_1 = some r) ∧ Aside0 (kq ≤ k) ∧ Drawn0 w w')
  case atStart => exact ⟨(0), (by first | rfl | (simp; done) | (simp [*]; done)), H', ⟨Nat.le_refl _⟩, by repeat (first | exact Drawn0.refl _ | apply Drawn0.step)⟩
  case round =>
    clear H'
    obtain ⟨x6_1, rfl, HA, HK1, ⟨m1, rfl⟩⟩ := hrel
    cases gk with
    | zero => exact absurd HA.out (by simp [arboretref01_Prop.l0])
    | succ k1 =>
      have H := HA.out
      clear HA
      simp only [arboretref01_Prop.l0] at H
      by_cases c2 : x6_1 < (a0.size : Int)
      · rw [if_pos c2] at H
        have c2b0 : decide (x6_1 < (a0.size : Int)) = true := decide_eq_true c2
        clear c2
        by_cases c3 : 0 ≤ x6_1
        · rw [if_pos c3] at H
          have c3b0 : decide (0 ≤ x6_1) = true := decide_eq_true c3
          clear c3
          by_cases c4 : x6_1 < (a0.size : Int)
          · rw [if_pos c4] at H
            have c4b0 : decide (x6_1 < (a0.size : Int)) = true := decide_eq_true c4
            clear c4
            replace H := Option.bind_eq_some_iff.mp H
            obtain ⟨t160, A60, H⟩ := H
            replace H : (if t160 = true then (arboretref01_Prop.l0 k1 a0 (a0.size : Int) (wrap64 (x6_1 + 1))) else (if (bt a0 x6_1) = 63 then (arboretref01_Prop.l0 k1 a0 (a0.size : Int) (wrap64 (x6_1 + 1))) else (if (bt a0 x6_1) = 35 then (arboretref01_Prop.l0 k1 a0 (a0.size : Int) (wrap64 (x6_1 + 1))) else (some false)))) = some r := H
            have A6 := Aside0.mk A60
            clear A60
            by_cases c7 : t160 = true
            · subst c7
              have H1 : (arboretref01_Prop.l0 k1 a0 (a0.size : Int) (wrap64 (x6_1 + 1))) = some r := by rw [if_pos rfl] at H; exact H
              clear H
              have H := H1
              clear H1
              have H' := Aside0.mk H
              clear H
              have p5 : 0 ≤ (x6_1 : Int) := of_decide_eq_true (by first | (with_reducible assumption) | assumption)
              have q5 : x6_1 < (a0.size : Int) := of_decide_eq_true (by first | (with_reducible assumption) | assumption)
              have hx5 := bt_at a0 x6_1
              replace p5 := eq_true p5
              replace q5 := eq_true q5
              go_wp2_with (first | ((with_reducible refine gate_callee (f := 35) rfl ?_); refine goesL_ (some 12) rfl rfl Tryd.func35 (by kernel_rfl) rfl #[.int .u8 (bt a0 x6_1)] rfl (by (try simp only [List.map_toArray, List.map_cons, List.map_nil]); first | done | rfl | (simp only [List.length_drop, List.length_take]; rfl)) ?_; (with_reducible refine (arboretref01_stands.calls (bt a0 x6_1) true _ A6.out).mono ?_); rintro e w' ⟨rfl, ⟨nd, rfl⟩⟩; refine ⟨_, rfl, ?_⟩))
              go_roundg k1
              case measure => have := HK1.out; omega
              case rel => exact ⟨(wrap64 (x6_1 + 1)), (by first | rfl | (simp; done) | (simp [*]; done)), H', ⟨by have := HK1.out; omega⟩, by repeat (first | exact Drawn0.refl _ | apply Drawn0.step)⟩
            · replace c7 := Bool.eq_false_iff.mpr c7
              subst c7
              have H1 : (if (bt a0 x6_1) = 63 then (arboretref01_Prop.l0 k1 a0 (a0.size : Int) (wrap64 (x6_1 + 1))) else (if (bt a0 x6_1) = 35 then (arboretref01_Prop.l0 k1 a0 (a0.size : Int) (wrap64 (x6_1 + 1))) else (some false))) = some r := by rw [if_neg (show ¬ (false = true) by decide)] at H; exact H
              clear H
              have H := H1
              clear H1
              by_cases c9 : (bt a0 x6_1) = 63
              · rw [if_pos c9] at H
                have c9b0 : ((bt a0 x6_1) == 63) = true := beq_iff_eq.mpr c9
                have c9b1 : ((bt a0 x6_1) != 63) = false := bne_eq_false_iff_eq.mpr c9
                clear c9
                have H' := Aside0.mk H
                clear H
                have p5 : 0 ≤ (x6_1 : Int) := of_decide_eq_true (by first | (with_reducible assumption) | assumption)
                have q5 : x6_1 < (a0.size : Int) := of_decide_eq_true (by first | (with_reducible assumption) | assumption)
                have hx5 := bt_at a0 x6_1
                replace p5 := eq_true p5
                replace q5 := eq_true q5
                go_wp2_with (first | ((with_reducible refine gate_callee (f := 35) rfl ?_); refine goesL_ (some 12) rfl rfl Tryd.func35 (by kernel_rfl) rfl #[.int .u8 (bt a0 x6_1)] rfl (by (try simp only [List.map_toArray, List.map_cons, List.map_nil]); first | done | rfl | (simp only [List.length_drop, List.length_take]; rfl)) ?_; (with_reducible refine (arboretref01_stands.calls (bt a0 x6_1) false _ A6.out).mono ?_); rintro e w' ⟨rfl, ⟨nd, rfl⟩⟩; refine ⟨_, rfl, ?_⟩; have p8 : 0 ≤ (x6_1 : Int) := of_decide_eq_true (by first | (with_reducible assumption) | assumption); have q8 : x6_1 < (a0.size : Int) := of_decide_eq_true (by first | (with_reducible assumption) | assumption); have hx8 := bt_at a0 x6_1; replace p8 := eq_true p8; replace q8 := eq_true q8))
                go_roundg k1
                case measure => have := HK1.out; omega
                case rel => exact ⟨(wrap64 (x6_1 + 1)), (by first | rfl | (simp; done) | (simp [*]; done)), H', ⟨by have := HK1.out; omega⟩, by repeat (first | exact Drawn0.refl _ | apply Drawn0.step)⟩
              · rw [if_neg c9] at H
                have c9b0 : ((bt a0 x6_1) == 63) = false := beq_eq_false_iff_ne.mpr c9
                have c9b1 : ((bt a0 x6_1) != 63) = true := bne_iff_ne.mpr c9
                by_cases c11 : (bt a0 x6_1) = 35
                · rw [if_pos c11] at H
                  have c11b0 : ((bt a0 x6_1) == 35) = true := beq_iff_eq.mpr c11
                  have c11b1 : ((bt a0 x6_1) != 35) = false := bne_eq_false_iff_eq.mpr c11
                  clear c11
                  have H' := Aside0.mk H
                  clear H
                  have p5 : 0 ≤ (x6_1 : Int) := of_decide_eq_true (by first | (with_reducible assumption) | assumption)
                  have q5 : x6_1 < (a0.size : Int) := of_decide_eq_true (by first | (with_reducible assumption) | assumption)
                  have hx5 := bt_at a0 x6_1
                  replace p5 := eq_true p5
                  replace q5 := eq_true q5
                  go_wp2_with (first | ((with_reducible refine gate_callee (f := 35) rfl ?_); refine goesL_ (some 12) rfl rfl Tryd.func35 (by kernel_rfl) rfl #[.int .u8 (bt a0 x6_1)] rfl (by (try simp only [List.map_toArray, List.map_cons, List.map_nil]); first | done | rfl | (simp only [List.length_drop, List.length_take]; rfl)) ?_; (with_reducible refine (arboretref01_stands.calls (bt a0 x6_1) false _ A6.out).mono ?_); rintro e w' ⟨rfl, ⟨nd, rfl⟩⟩; refine ⟨_, rfl, ?_⟩; have p8 : 0 ≤ (x6_1 : Int) := of_decide_eq_true (by first | (with_reducible assumption) | assumption); have q8 : x6_1 < (a0.size : Int) := of_decide_eq_true (by first | (with_reducible assumption) | assumption); have hx8 := bt_at a0 x6_1; replace p8 := eq_true p8; replace q8 := eq_true q8; have p10 : 0 ≤ (x6_1 : Int) := of_decide_eq_true (by first | (with_reducible assumption) | assumption); have q10 : x6_1 < (a0.size : Int) := of_decide_eq_true (by first | (with_reducible assumption) | assumption); have hx10 := bt_at a0 x6_1; replace p10 := eq_true p10; replace q10 := eq_true q10))
                  go_roundg k1
                  case measure => have := HK1.out; omega
                  case rel => exact ⟨(wrap64 (x6_1 + 1)), (by first | rfl | (simp; done) | (simp [*]; done)), H', ⟨by have := HK1.out; omega⟩, by repeat (first | exact Drawn0.refl _ | apply Drawn0.step)⟩
                · rw [if_neg c11] at H
                  have c11b0 : ((bt a0 x6_1) == 35) = false := beq_eq_false_iff_ne.mpr c11
                  have c11b1 : ((bt a0 x6_1) != 35) = true := bne_iff_ne.mpr c11
                  obtain rfl := Option.some.inj H
                  have p5 : 0 ≤ (x6_1 : Int) := of_decide_eq_true (by first | (with_reducible assumption) | assumption)
                  have q5 : x6_1 < (a0.size : Int) := of_decide_eq_true (by first | (with_reducible assumption) | assumption)
                  have hx5 := bt_at a0 x6_1
                  replace p5 := eq_true p5
                  replace q5 := eq_true q5
                  go_wp2_with (first | ((with_reducible refine gate_callee (f := 35) rfl ?_); refine goesL_ (some 12) rfl rfl Tryd.func35 (by kernel_rfl) rfl #[.int .u8 (bt a0 x6_1)] rfl (by (try simp only [List.map_toArray, List.map_cons, List.map_nil]); first | done | rfl | (simp only [List.length_drop, List.length_take]; rfl)) ?_; (with_reducible refine (arboretref01_stands.calls (bt a0 x6_1) false _ A6.out).mono ?_); rintro e w' ⟨rfl, ⟨nd, rfl⟩⟩; refine ⟨_, rfl, ?_⟩; have p8 : 0 ≤ (x6_1 : Int) := of_decide_eq_true (by first | (with_reducible assumption) | assumption); have q8 : x6_1 < (a0.size : Int) := of_decide_eq_true (by first | (with_reducible assumption) | assumption); have hx8 := bt_at a0 x6_1; replace p8 := eq_true p8; replace q8 := eq_true q8; have p10 : 0 ≤ (x6_1 : Int) := of_decide_eq_true (by first | (with_reducible assumption) | assumption); have q10 : x6_1 < (a0.size : Int) := of_decide_eq_true (by first | (with_reducible assumption) | assumption); have hx10 := bt_at a0 x6_1; replace p10 := eq_true p10; replace q10 := eq_true q10))
                  go_ret
                  exact ⟨by first | rfl | (simp; done) | (simp [*]; done), by repeat (first | exact Drawn0.refl _ | apply Drawn0.step)⟩
          · rw [if_neg c4] at H
            exact absurd H (by simp)
        · rw [if_neg c3] at H
          exact absurd H (by simp)
      · rw [if_neg c2] at H
        have c2b0 : decide (x6_1 < (a0.size : Int)) = false := decide_eq_false c2
        clear c2
        by_cases c12 : (a0.size : Int) ≥ 1
        · rw [if_pos c12] at H
          have c12b0 : decide (1 ≤ (a0.size : Int)) = true := decide_eq_true c12
          have c12b1 : decide (1 ≤ a0.size) = true := decide_eq_true (by omega)
          clear c12
          obtain rfl := Option.some.inj H
          go_wp2
          go_ret
          exact ⟨by first | rfl | (simp; done) | (simp [*]; done), by repeat (first | exact Drawn0.refl _ | apply Drawn0.step)⟩
        · rw [if_neg c12] at H
          have c12b0 : decide (1 ≤ (a0.size : Int)) = false := decide_eq_false c12
          have c12b1 : decide (1 ≤ a0.size) = false := decide_eq_false (by omega)
          clear c12
          obtain rfl := Option.some.inj H
          go_wp2
          go_ret
          exact ⟨by first | rfl | (simp; done) | (simp [*]; done), by repeat (first | exact Drawn0.refl _ | apply Drawn0.step)⟩
end Go.Proofs.YtkopmkinlanhoaaDoor.PP

namespace Go.Proofs.YtkopmkinlanhoaaDoor.PP
open Go.RowKit Go.Proofs.YtkopmkinlanhoaaDoorW.PrintWords Go.Proofs.YtkopmkinlanhoaaDoorW.PrintLast Go.Proofs.YtkopmkinlanhoaaDoorW.PrintMore
attribute [local go_sem] max2_int min2_int max_two min_two max_three min_three max_four min_four   -- for this text's walks alone
set_option linter.unusedVariables false
set_option linter.unusedSimpArgs false
mutual
def arboretref01_wrong.j0 : Nat → Int → Bool → ByteArray → List (S62) → List (S27) → Option (Int)
  | 0, _, _, _, _, _ => none
  | k + 1, x1, x30, x162000, x162001, x162002 => if x30 = true then (some 5) else (arboretref01_wrong.l0 k x1 (x162001.length : Int) 0 x162000 x162001 x162002)
def arboretref01_wrong.l0 : Nat → Int → Int → Int → ByteArray → List (S62) → List (S27) → Option (Int)
  | 0, _, _, _, _, _, _ => none
  | k + 1, x1, x33, x34, x162000, x162001, x162002 => if x34 < x33 then (if 0 ≤ x34 then (if x34 < (x162001.length : Int) then ((arboretref01_Prop.f k ((rd_T62 x162001 x34).f0)).bind fun t165 => (if t165 = true then (arboretref01_wrong.l0 k x1 x33 (wrap64 (x34 + 1)) x162000 x162001 x162002) else (some 5))) else (none)) else (none)) else (arboretref01_wrong.l1 k x1 (x162001.length : Int) 0 x162000 x162001 x162002)
def arboretref01_wrong.l1 : Nat → Int → Int → Int → ByteArray → List (S62) → List (S27) → Option (Int)
  | 0, _, _, _, _, _, _ => none
  | k + 1, x1, x48, x49, x162000, x162001, x162002 => if x49 < x48 then (arboretref01_wrong.l2 k x1 x49 x48 x49 x49 0 x162000 x162001 x162002) else (arboretref01_wrong.l3 k x1 (x162002.length : Int) 0 x162000 x162001 x162002)
def arboretref01_wrong.l2 : Nat → Int → Int → Int → Int → Int → Int → ByteArray → List (S62) → List (S27) → Option (Int)
  | 0, _, _, _, _, _, _, _, _, _ => none
  | k + 1, x1, x6, x48, x49, x52, x53, x162000, x162001, x162002 => if x53 < x52 then (if 0 ≤ x53 then (if x53 < (x162001.length : Int) then (if 0 ≤ x6 then (if x6 < (x162001.length : Int) then (if ((rd_T62 x162001 x53).f0).toList = ((rd_T62 x162001 x6).f0).toList then (some 9) else (arboretref01_wrong.l2 k x1 x6 x48 x49 x52 (wrap64 (x53 + 1)) x162000 x162001 x162002)) else (none)) else (none)) else (none)) else (none)) else (arboretref01_wrong.l1 k x1 x48 (wrap64 (x49 + 1)) x162000 x162001 x162002)
def arboretref01_wrong.l3 : Nat → Int → Int → Int → ByteArray → List (S62) → List (S27) → Option (Int)
  | 0, _, _, _, _, _, _ => none
  | k + 1, x1, x73, x74, x162000, x162001, x162002 => if x74 < x73 then (arboretref01_wrong.l4 k x1 x74 x73 x74 x74 0 x162000 x162001 x162002) else (arboretref01_wrong.l5 k x1 (x162002.length : Int) 0 x162000 x162001 x162002)
def arboretref01_wrong.l4 : Nat → Int → Int → Int → Int → Int → Int → ByteArray → List (S62) → List (S27) → Option (Int)
  | 0, _, _, _, _, _, _, _, _, _ => none
  | k + 1, x1, x8, x73, x74, x77, x78, x162000, x162001, x162002 => if x78 < x77 then (if 0 ≤ x78 then (if x78 < (x162002.length : Int) then (if 0 ≤ x8 then (if x8 < (x162002.length : Int) then (if ((rd_T27 x162002 x78).f0).toList = ((rd_T27 x162002 x8).f0).toList then (some 9) else (arboretref01_wrong.l4 k x1 x8 x73 x74 x77 (wrap64 (x78 + 1)) x162000 x162001 x162002)) else (none)) else (none)) else (none)) else (none)) else (arboretref01_wrong.l3 k x1 x73 (wrap64 (x74 + 1)) x162000 x162001 x162002)
def arboretref01_wrong.l5 : Nat → Int → Int → Int → ByteArray → List (S62) → List (S27) → Option (Int)
  | 0, _, _, _, _, _, _ => none
  | k + 1, x1, x98, x99, x162000, x162001, x162002 => if x99 < x98 then (if 0 ≤ x99 then (if x99 < (x162002.length : Int) then ((arboretref01_wrong.f k ((rd_T27 x162002 x99).f0) ((rd_T27 x162002 x99).f1) ((rd_T27 x162002 x99).f2) (wrap64 (x1 + 1))).bind fun t171 => (if t171 = 0 then (arboretref01_wrong.l5 k x1 x98 (wrap64 (x99 + 1)) x162000 x162001 x162002) else (some t171))) else (none)) else (none)) else (some 0)
def arboretref01_wrong.f : Nat → ByteArray → List (S62) → List (S27) → Int → Option (Int)
  | 0, _, _, _, _ => none
  | k + 1, a0_0, l0_1, l0_2, a1 => if a1 > 16 then (some 6) else (if a1 = 1 then (if a0_0.toList = ([] : List UInt8) then (if a1 > 1 then ((arboretref01_Node.f k a0_0).bind fun t162 => (arboretref01_wrong.j0 k a1 (!t162) a0_0 l0_1 l0_2)) else (arboretref01_wrong.j0 k a1 false a0_0 l0_1 l0_2)) else (arboretref01_wrong.j0 k a1 true a0_0 l0_1 l0_2)) else (if a1 > 1 then ((arboretref01_Node.f k a0_0).bind fun t163 => (arboretref01_wrong.j0 k a1 (!t163) a0_0 l0_1 l0_2)) else (arboretref01_wrong.j0 k a1 false a0_0 l0_1 l0_2)))
end
set_option maxHeartbeats 8000000 in
set_option maxRecDepth 100000 in
theorem arboretref01_wrong.calls (k : Nat) : ∀ (a0_0 : ByteArray) (A0_1 : Option Addr) (c0_1 : Nat) (l0_1 : List (S62)) (A0_2 : Option Addr) (c0_2 : Nat) (l0_2 : List (S27)) (a1 : Int) (r : Int) (w : World) (hr0_1 : Kd.C k62 w A0_1 l0_1.length l0_1) (hc0_1 : l0_1.length ≤ c0_1) (hr0_2 : Kd.C k27 w A0_2 l0_2.length l0_2) (hc0_2 : l0_2.length ≤ c0_2) (h : arboretref01_wrong.f k a0_0 l0_1 l0_2 a1 = some r),
    Calls Tryd.prog 12 #[.agg #[.string a0_0, .slice A0_1 l0_1.length c0_1, .slice A0_2 l0_2.length c0_2], .int .i64 a1] w fun e w' => e = .returned (.int .i64 r) ∧ Below w.heap.size w w' := by
  induction k using Nat.strongRecOn with
  | _ k ih =>
  intro a0_0 A0_1 c0_1 l0_1 A0_2 c0_2 l0_2 a1 r w hr0_1 hc0_1 hr0_2 hc0_2 h
  cases k with
  | zero => exact absurd h (by simp [arboretref01_wrong.f])
  | succ k =>
  simp only [arboretref01_wrong.f] at h
  have hu27 := Tryd.underlying27
  have HR0_1 := Aside0.mk hr0_1
  have HC0_1 := Aside0.mk hc0_1
  clear hr0_1 hc0_1
  have HR0_2 := Aside0.mk hr0_2
  have HC0_2 := Aside0.mk hc0_2
  clear hr0_2 hc0_2
  have HB := Aside0.mk (Below.refl w.heap.size w)
  have H : (if a1 > 16 then (some 6) else (if a1 = 1 then (if a0_0.toList = ([] : List UInt8) then (if a1 > 1 then ((arboretref01_Node.f k a0_0).bind fun t162 => (arboretref01_wrong.j0 k a1 (!t162) a0_0 l0_1 l0_2)) else (arboretref01_wrong.j0 k a1 false a0_0 l0_1 l0_2)) else (arboretref01_wrong.j0 k a1 true a0_0 l0_1 l0_2)) else (if a1 > 1 then ((arboretref01_Node.f k a0_0).bind fun t163 => (arboretref01_wrong.j0 k a1 (!t163) a0_0 l0_1 l0_2)) else (arboretref01_wrong.j0 k a1 false a0_0 l0_1 l0_2)))) = some r := h
  clear h
  by_cases c3 : a1 > 16
  · rw [if_pos c3] at H
    have c3b0 : decide (16 < a1) = true := decide_eq_true c3
    clear c3
    obtain rfl := Option.some.inj H
    go_enter Tryd.func12, Tryd.ntmps12
    go_wp2_with (first | ((with_reducible refine gate_dst (N := 2) rfl ?_); refine box_event ?hg (N := 2) ?hd (cs := #[.string a0_0, .slice A0_1 l0_1.length c0_1, .slice A0_2 l0_2.length c0_2]) (t := 27) ?hr ?_; (case hd => rfl); (case hg => rfl); (case hr => first | (go_simp; done) | (go_simp; rfl)); intro gb161 hg w4 hbox hb; have n0_ := Aside0.mk (below_step (by repeat (first | (with_reducible first | exact HB.out | apply below_alloc | apply pw_below_drewN | apply below_drew1) | exact HB.out)) hb); have n1_ := Aside0.mk (hbox); have n2_ := Aside0.mk ((by rw [hg]; exact (below_size (by repeat (first | (with_reducible first | exact HB.out | apply below_alloc | apply pw_below_drewN | apply below_drew1) | exact HB.out))) : w.heap.size ≤ gb161)); have n3_ := Aside0.mk ((by rw [hg]; exact (below_size (by repeat (first | (with_reducible first | exact HB.out | apply below_alloc | apply pw_below_drewN | apply below_drew1) | exact HB.out))) : w.heap.size ≤ gb161)); clear HB; have HB := n0_; have BK161 := n1_; have GW161 := n2_; have GE161 := n3_; clear n0_ n1_ n2_ n3_; clear hb hbox hg))
    repeat (go_quiet (first | ((with_reducible refine gate_dst (N := 2) rfl ?_); refine box_event ?hg (N := 2) ?hd (cs := #[.string a0_0, .slice A0_1 l0_1.length c0_1, .slice A0_2 l0_2.length c0_2]) (t := 27) ?hr ?_; (case hd => rfl); (case hg => rfl); (case hr => first | (go_simp; done) | (go_simp; rfl)); intro gb161 hg w4 hbox hb; have n0_ := Aside0.mk (below_step (by repeat (first | (with_reducible first | exact HB.out | apply below_alloc | apply pw_below_drewN | apply below_drew1) | exact HB.out)) hb); have n1_ := Aside0.mk (hbox); have n2_ := Aside0.mk ((by rw [hg]; exact (below_size (by repeat (first | (with_reducible first | exact HB.out | apply below_alloc | apply pw_below_drewN | apply below_drew1) | exact HB.out))) : w.heap.size ≤ gb161)); have n3_ := Aside0.mk ((by rw [hg]; exact (below_size (by repeat (first | (with_reducible first | exact HB.out | apply below_alloc | apply pw_below_drewN | apply below_drew1) | exact HB.out))) : w.heap.size ≤ gb161)); clear HB; have HB := n0_; have BK161 := n1_; have GW161 := n2_; have GE161 := n3_; clear n0_ n1_ n2_ n3_; clear hb hbox hg)); try go_wp2_with (first | ((with_reducible refine gate_dst (N := 2) rfl ?_); refine box_event ?hg (N := 2) ?hd (cs := #[.string a0_0, .slice A0_1 l0_1.length c0_1, .slice A0_2 l0_2.length c0_2]) (t := 27) ?hr ?_; (case hd => rfl); (case hg => rfl); (case hr => first | (go_simp; done) | (go_simp; rfl)); intro gb161 hg w4 hbox hb; have n0_ := Aside0.mk (below_step (by repeat (first | (with_reducible first | exact HB.out | apply below_alloc | apply pw_below_drewN | apply below_drew1) | exact HB.out)) hb); have n1_ := Aside0.mk (hbox); have n2_ := Aside0.mk ((by rw [hg]; exact (below_size (by repeat (first | (with_reducible first | exact HB.out | apply below_alloc | apply pw_below_drewN | apply below_drew1) | exact HB.out))) : w.heap.size ≤ gb161)); have n3_ := Aside0.mk ((by rw [hg]; exact (below_size (by repeat (first | (with_reducible first | exact HB.out | apply below_alloc | apply pw_below_drewN | apply below_drew1) | exact HB.out))) : w.heap.size ≤ gb161)); clear HB; have HB := n0_; have BK161 := n1_; have GW161 := n2_; have GE161 := n3_; clear n0_ n1_ n2_ n3_; clear hb hbox hg)))
    go_ret
    exact ⟨by first | rfl | (simp [errW_none, errW_some] <;> rfl) | (simp [*, errW_none, errW_some] <;> rfl), by repeat (first | (with_reducible first | exact HB.out | apply below_alloc | apply pw_below_drewN | apply below_drew1 | refine below_set ?_ GE161.out) | exact HB.out)⟩
  · rw [if_neg c3] at H
    have c3b0 : decide (16 < a1) = false := decide_eq_false c3
    clear c3
    have HC5 := Aside0.mk H
    clear H
    go_enter Tryd.func12, Tryd.ntmps12
    go_upto_region 3 with (first | ((with_reducible refine gate_dst (N := 2) rfl ?_); refine box_event ?hg (N := 2) ?hd (cs := #[.string a0_0, .slice A0_1 l0_1.length c0_1, .slice A0_2 l0_2.length c0_2]) (t := 27) ?hr ?_; (case hd => rfl); (case hg => rfl); (case hr => first | (go_simp; done) | (go_simp; rfl)); intro gb161 hg w6 hbox hb; have n0_ := Aside0.mk (below_step (by repeat (first | (with_reducible first | exact HB.out | apply below_alloc | apply pw_below_drewN | apply below_drew1) | exact HB.out)) hb); have n1_ := Aside0.mk (hbox); have n2_ := Aside0.mk ((by rw [hg]; exact (below_size (by repeat (first | (with_reducible first | exact HB.out | apply below_alloc | apply pw_below_drewN | apply below_drew1) | exact HB.out))) : w.heap.size ≤ gb161)); have n3_ := Aside0.mk ((by rw [hg]; exact (below_size (by repeat (first | (with_reducible first | exact HB.out | apply below_alloc | apply pw_below_drewN | apply below_drew1) | exact HB.out))) : w.heap.size ≤ gb161)); clear HB; have HB := n0_; have BK161 := n1_; have GW161 := n2_; have GE161 := n3_; clear n0_ n1_ n2_ n3_; clear hb hbox hg))
    repeat (go_quiet (first | ((with_reducible refine gate_dst (N := 2) rfl ?_); refine box_event ?hg (N := 2) ?hd (cs := #[.string a0_0, .slice A0_1 l0_1.length c0_1, .slice A0_2 l0_2.length c0_2]) (t := 27) ?hr ?_; (case hd => rfl); (case hg => rfl); (case hr => first | (go_simp; done) | (go_simp; rfl)); intro gb161 hg w6 hbox hb; have n0_ := Aside0.mk (below_step (by repeat (first | (with_reducible first | exact HB.out | apply below_alloc | apply pw_below_drewN | apply below_drew1) | exact HB.out)) hb); have n1_ := Aside0.mk (hbox); have n2_ := Aside0.mk ((by rw [hg]; exact (below_size (by repeat (first | (with_reducible first | exact HB.out | apply below_alloc | apply pw_below_drewN | apply below_drew1) | exact HB.out))) : w.heap.size ≤ gb161)); have n3_ := Aside0.mk ((by rw [hg]; exact (below_size (by repeat (first | (with_reducible first | exact HB.out | apply below_alloc | apply pw_below_drewN | apply below_drew1) | exact HB.out))) : w.heap.size ≤ gb161)); clear HB; have HB := n0_; have BK161 := n1_; have GW161 := n2_; have GE161 := n3_; clear n0_ n1_ n2_ n3_; clear hb hbox hg)); go_upto_region 3 with (first | ((with_reducible refine gate_dst (N := 2) rfl ?_); refine box_event ?hg (N := 2) ?hd (cs := #[.string a0_0, .slice A0_1 l0_1.length c0_1, .slice A0_2 l0_2.length c0_2]) (t := 27) ?hr ?_; (case hd => rfl); (case hg => rfl); (case hr => first | (go_simp; done) | (go_simp; rfl)); intro gb161 hg w6 hbox hb; have n0_ := Aside0.mk (below_step (by repeat (first | (with_reducible first | exact HB.out | apply below_alloc | apply pw_below_drewN | apply below_drew1) | exact HB.out)) hb); have n1_ := Aside0.mk (hbox); have n2_ := Aside0.mk ((by rw [hg]; exact (below_size (by repeat (first | (with_reducible first | exact HB.out | apply below_alloc | apply pw_below_drewN | apply below_drew1) | exact HB.out))) : w.heap.size ≤ gb161)); have n3_ := Aside0.mk ((by rw [hg]; exact (below_size (by repeat (first | (with_reducible first | exact HB.out | apply below_alloc | apply pw_below_drewN | apply below_drew1) | exact HB.out))) : w.heap.size ≤ gb161)); clear HB; have HB := n0_; have BK161 := n1_; have GW161 := n2_; have GE161 := n3_; clear n0_ n1_ n2_ n3_; clear hb hbox hg)))
    (try simp only [Act.put, List.setIfInBounds_toArray, List.set_cons_zero, List.set_cons_succ])
    go_cut [30] (fun v30 wc => ∃ (kq : Nat) (x30_4 : Bool), v30 = .bool x30_4 ∧ Aside0 (arboretref01_wrong.j0 kq a1 x30_4 a0_0 l0_1 l0_2 = some r) ∧ Aside0 (kq ≤ k) ∧ Aside0 (wc.heap[gb161]? = some (.cells #[.string a0_0, (.slice A0_1 l0_1.length c0_1), (.slice A0_2 l0_2.length c0_2)] 27 (0, 0))) ∧ Aside0 (Below w.heap.size w wc))
    case first =>
      have H := HC5.out
      clear HC5
      by_cases c7 : a1 = 1
      · rw [if_pos c7] at H
        have c7b0 : (a1 == 1) = true := beq_iff_eq.mpr c7
        have c7b1 : (a1 != 1) = false := bne_eq_false_iff_eq.mpr c7
        clear c7
        (first | rw [c7b0] | (simp only [i64_w, i32_w]; rw [c7b0]) | skip)
        by_cases c8 : a0_0.toList = ([] : List UInt8)
        · rw [if_pos c8] at H
          have c8b0 : (a0_0.toList == ([] : List UInt8)) = true := beq_iff_eq.mpr c8
          have c8b1 : (a0_0.toList != ([] : List UInt8)) = false := bne_eq_false_iff_eq.mpr c8
          clear c8
          by_cases c9 : a1 > 1
          · rw [if_pos c9] at H
            have c9b0 : decide (1 < a1) = true := decide_eq_true c9
            clear c9
            replace H := Option.bind_eq_some_iff.mp H
            obtain ⟨t162, A100, H⟩ := H
            replace H : (arboretref01_wrong.j0 k a1 (!t162) a0_0 l0_1 l0_2) = some r := H
            have A10 := Aside0.mk A100
            clear A100
            have H' := Aside0.mk H
            clear H
            have hcz11_0 : w6.cell? ⟨gb161, 0, none⟩ = some (.string a0_0) := (blk_cell BK161.out 0).trans rfl
            have hcz11_1 : w6.cell? ⟨gb161, 1, none⟩ = some (.slice A0_1 l0_1.length c0_1) := (blk_cell BK161.out 1).trans rfl
            have hcz11_2 : w6.cell? ⟨gb161, 2, none⟩ = some (.slice A0_2 l0_2.length c0_2) := (blk_cell BK161.out 2).trans rfl
            have hfz11_0 := blk_frozen BK161.out 0
            have hfz11_1 := blk_frozen BK161.out 1
            have hfz11_2 := blk_frozen BK161.out 2
            go_wp2_with (first | (go_at_call 21; (with_reducible refine (arboretref01_Node.calls k a0_0 t162 _ A10.out).mono ?_); rintro e w' ⟨rfl, ⟨nd, rfl⟩⟩; (try first | exact ⟨rfl, _, World.drewN_drewN _ _ _⟩ | exact ⟨rfl, _, Eq.trans (World.drewN_drewN _ _ _) (congrArg (World.drewN _) (Nat.add_assoc _ _ _))⟩)))
            repeat (go_quiet (first | (go_at_call 21; (with_reducible refine (arboretref01_Node.calls k a0_0 t162 _ A10.out).mono ?_); rintro e w' ⟨rfl, ⟨nd, rfl⟩⟩; (try first | exact ⟨rfl, _, World.drewN_drewN _ _ _⟩ | exact ⟨rfl, _, Eq.trans (World.drewN_drewN _ _ _) (congrArg (World.drewN _) (Nat.add_assoc _ _ _))⟩))); try go_wp2_with (first | (go_at_call 21; (with_reducible refine (arboretref01_Node.calls k a0_0 t162 _ A10.out).mono ?_); rintro e w' ⟨rfl, ⟨nd, rfl⟩⟩; (try first | exact ⟨rfl, _, World.drewN_drewN _ _ _⟩ | exact ⟨rfl, _, Eq.trans (World.drewN_drewN _ _ _) (congrArg (World.drewN _) (Nat.add_assoc _ _ _))⟩))))
            go_meet
            case rel => exact ⟨_, (!t162), (by first | rfl | (simp; done) | (simp [*]; done)), H', ⟨by first | omega | exact Nat.le_refl _⟩, ⟨by (with_reducible repeat (first | refine blk_drewN ?_ _ | refine blk_drew ?_ | refine blk_alloc ?_ _)); exact BK161.out⟩, ⟨by repeat (first | (with_reducible first | exact HB.out | apply below_alloc | apply pw_below_drewN | apply below_drew1 | refine below_set ?_ GE161.out) | exact HB.out)⟩⟩
          · rw [if_neg c9] at H
            have c9b0 : decide (1 < a1) = false := decide_eq_false c9
            clear c9
            have H' := Aside0.mk H
            clear H
            have hcz12_0 : w6.cell? ⟨gb161, 0, none⟩ = some (.string a0_0) := (blk_cell BK161.out 0).trans rfl
            have hcz12_1 : w6.cell? ⟨gb161, 1, none⟩ = some (.slice A0_1 l0_1.length c0_1) := (blk_cell BK161.out 1).trans rfl
            have hcz12_2 : w6.cell? ⟨gb161, 2, none⟩ = some (.slice A0_2 l0_2.length c0_2) := (blk_cell BK161.out 2).trans rfl
            have hfz12_0 := blk_frozen BK161.out 0
            have hfz12_1 := blk_frozen BK161.out 1
            have hfz12_2 := blk_frozen BK161.out 2
            go_wp2
            repeat (go_quiet (fail); try go_wp2)
            go_meet
            case rel => exact ⟨_, (false), (by first | rfl | (simp; done) | (simp [*]; done)), H', ⟨by first | omega | exact Nat.le_refl _⟩, ⟨by (with_reducible repeat (first | refine blk_drewN ?_ _ | refine blk_drew ?_ | refine blk_alloc ?_ _)); exact BK161.out⟩, ⟨by repeat (first | (with_reducible first | exact HB.out | apply below_alloc | apply pw_below_drewN | apply below_drew1 | refine below_set ?_ GE161.out) | exact HB.out)⟩⟩
        · rw [if_neg c8] at H
          have c8b0 : (a0_0.toList == ([] : List UInt8)) = false := beq_eq_false_iff_ne.mpr c8
          have c8b1 : (a0_0.toList != ([] : List UInt8)) = true := bne_iff_ne.mpr c8
          have H' := Aside0.mk H
          clear H
          have hcz13_0 : w6.cell? ⟨gb161, 0, none⟩ = some (.string a0_0) := (blk_cell BK161.out 0).trans rfl
          have hcz13_1 : w6.cell? ⟨gb161, 1, none⟩ = some (.slice A0_1 l0_1.length c0_1) := (blk_cell BK161.out 1).trans rfl
          have hcz13_2 : w6.cell? ⟨gb161, 2, none⟩ = some (.slice A0_2 l0_2.length c0_2) := (blk_cell BK161.out 2).trans rfl
          have hfz13_0 := blk_frozen BK161.out 0
          have hfz13_1 := blk_frozen BK161.out 1
          have hfz13_2 := blk_frozen BK161.out 2
          go_wp2
          repeat (go_quiet (fail); try go_wp2)
          go_meet
          case rel => exact ⟨_, (true), (by first | rfl | (simp; done) | (simp [*]; done)), H', ⟨by first | omega | exact Nat.le_refl _⟩, ⟨by (with_reducible repeat (first | refine blk_drewN ?_ _ | refine blk_drew ?_ | refine blk_alloc ?_ _)); exact BK161.out⟩, ⟨by repeat (first | (with_reducible first | exact HB.out | apply below_alloc | apply pw_below_drewN | apply below_drew1 | refine below_set ?_ GE161.out) | exact HB.out)⟩⟩
      · rw [if_neg c7] at H
        have c7b0 : (a1 == 1) = false := beq_eq_false_iff_ne.mpr c7
        have c7b1 : (a1 != 1) = true := bne_iff_ne.mpr c7
        (first | rw [c7b0] | (simp only [i64_w, i32_w]; rw [c7b0]) | skip)
        by_cases c14 : a1 > 1
        · rw [if_pos c14] at H
          have c14b0 : decide (1 < a1) = true := decide_eq_true c14
          clear c14
          replace H := Option.bind_eq_some_iff.mp H
          obtain ⟨t163, A150, H⟩ := H
          replace H : (arboretref01_wrong.j0 k a1 (!t163) a0_0 l0_1 l0_2) = some r := H
          have A15 := Aside0.mk A150
          clear A150
          have H' := Aside0.mk H
          clear H
          have hcz16_0 : w6.cell? ⟨gb161, 0, none⟩ = some (.string a0_0) := (blk_cell BK161.out 0).trans rfl
          have hcz16_1 : w6.cell? ⟨gb161, 1, none⟩ = some (.slice A0_1 l0_1.length c0_1) := (blk_cell BK161.out 1).trans rfl
          have hcz16_2 : w6.cell? ⟨gb161, 2, none⟩ = some (.slice A0_2 l0_2.length c0_2) := (blk_cell BK161.out 2).trans rfl
          have hfz16_0 := blk_frozen BK161.out 0
          have hfz16_1 := blk_frozen BK161.out 1
          have hfz16_2 := blk_frozen BK161.out 2
          go_wp2_with (first | (go_at_call 21; (with_reducible refine (arboretref01_Node.calls k a0_0 t163 _ A15.out).mono ?_); rintro e w' ⟨rfl, ⟨nd, rfl⟩⟩; (try first | exact ⟨rfl, _, World.drewN_drewN _ _ _⟩ | exact ⟨rfl, _, Eq.trans (World.drewN_drewN _ _ _) (congrArg (World.drewN _) (Nat.add_assoc _ _ _))⟩)))
          repeat (go_quiet (first | (go_at_call 21; (with_reducible refine (arboretref01_Node.calls k a0_0 t163 _ A15.out).mono ?_); rintro e w' ⟨rfl, ⟨nd, rfl⟩⟩; (try first | exact ⟨rfl, _, World.drewN_drewN _ _ _⟩ | exact ⟨rfl, _, Eq.trans (World.drewN_drewN _ _ _) (congrArg (World.drewN _) (Nat.add_assoc _ _ _))⟩))); try go_wp2_with (first | (go_at_call 21; (with_reducible refine (arboretref01_Node.calls k a0_0 t163 _ A15.out).mono ?_); rintro e w' ⟨rfl, ⟨nd, rfl⟩⟩; (try first | exact ⟨rfl, _, World.drewN_drewN _ _ _⟩ | exact ⟨rfl, _, Eq.trans (World.drewN_drewN _ _ _) (congrArg (World.drewN _) (Nat.add_assoc _ _ _))⟩))))
          go_meet
          case rel => exact ⟨_, (!t163), (by first | rfl | (simp; done) | (simp [*]; done)), H', ⟨by first | omega | exact Nat.le_refl _⟩, ⟨by (with_reducible repeat (first | refine blk_drewN ?_ _ | refine blk_drew ?_ | refine blk_alloc ?_ _)); exact BK161.out⟩, ⟨by repeat (first | (with_reducible first | exact HB.out | apply below_alloc | apply pw_below_drewN | apply below_drew1 | refine below_set ?_ GE161.out) | exact HB.out)⟩⟩
        · rw [if_neg c14] at H
          have c14b0 : decide (1 < a1) = false := decide_eq_false c14
          clear c14
          have H' := Aside0.mk H
          clear H
          go_wp2
          repeat (go_quiet (fail); try go_wp2)
          go_meet
          case rel => exact ⟨_, (false), (by first | rfl | (simp; done) | (simp [*]; done)), H', ⟨by first | omega | exact Nat.le_refl _⟩, ⟨by (with_reducible repeat (first | refine blk_drewN ?_ _ | refine blk_drew ?_ | refine blk_alloc ?_ _)); exact BK161.out⟩, ⟨by repeat (first | (with_reducible first | exact HB.out | apply below_alloc | apply pw_below_drewN | apply below_drew1 | refine below_set ?_ GE161.out) | exact HB.out)⟩⟩
    case rest =>
      clear HC5
      try clear c1
      try clear p2
      try clear c3
      try clear c3b0
      try clear c7
      try clear c7b0
      try clear c7b1
      try clear c8
      try clear c8b0
      try clear c8b1
      try clear c9
      try clear c9b0
      try clear c12
      try clear c14
      try clear c14b0
      try clear hcz11_0
      try clear hcz11_1
      try clear hcz11_2
      try clear hcz12_0
      try clear hcz12_1
      try clear hcz12_2
      try clear hcz13_0
      try clear hcz13_1
      try clear hcz13_2
      try clear hcz16_0
      try clear hcz16_1
      try clear hcz16_2
      try clear hfz11_0
      try clear hfz11_1
      try clear hfz11_2
      try clear hfz12_0
      try clear hfz12_1
      try clear hfz12_2
      try clear hfz13_0
      try clear hfz13_1
      try clear hfz13_2
      try clear hfz16_0
      try clear hfz16_1
      try clear hfz16_2
      obtain ⟨kq, x30_4, rfl, HA, HJ4, BK161, HB⟩ := hcut
      cases kq with
      | zero => exact absurd HA.out (by simp [arboretref01_wrong.j0])
      | succ kj4 =>
        have H := HA.out
        clear HA
        simp only [arboretref01_wrong.j0] at H
        by_cases c17 : x30_4 = true
        · subst c17
          have H1 : (some 5) = some r := by rw [if_pos rfl] at H; exact H
          clear H
          have H := H1
          clear H1
          obtain rfl := Option.some.inj H
          go_wp2
          repeat (go_quiet (fail); try go_wp2)
          go_ret
          exact ⟨by first | rfl | (simp [errW_none, errW_some] <;> rfl) | (simp [*, errW_none, errW_some] <;> rfl), by repeat (first | (with_reducible first | exact HB.out | apply below_alloc | apply pw_below_drewN | apply below_drew1 | refine below_set ?_ GE161.out) | exact HB.out)⟩
        · replace c17 := Bool.eq_false_iff.mpr c17
          subst c17
          have H1 : (arboretref01_wrong.l0 kj4 a1 (l0_1.length : Int) 0 a0_0 l0_1 l0_2) = some r := by rw [if_neg (show ¬ (false = true) by decide)] at H; exact H
          clear H
          have H := H1
          clear H1
          have H' := Aside0.mk H
          clear H
          have hcz18_0 : wc.cell? ⟨gb161, 0, none⟩ = some (.string a0_0) := (blk_cell BK161.out 0).trans rfl
          have hcz18_1 : wc.cell? ⟨gb161, 1, none⟩ = some (.slice A0_1 l0_1.length c0_1) := (blk_cell BK161.out 1).trans rfl
          have hcz18_2 : wc.cell? ⟨gb161, 2, none⟩ = some (.slice A0_2 l0_2.length c0_2) := (blk_cell BK161.out 2).trans rfl
          have hfz18_0 := blk_frozen BK161.out 0
          have hfz18_1 := blk_frozen BK161.out 1
          have hfz18_2 := blk_frozen BK161.out 2
          go_wp2
          repeat (go_quiet (fail); try go_wp2)
          go_loopg [34] kj4 (fun kq v34 w' => ∃ (x34_2 : Int), v34 = .int .i64 x34_2 ∧ Aside0 (arboretref01_wrong.l0 kq a1 (l0_1.length : Int) x34_2 a0_0 l0_1 l0_2 = some r) ∧ Aside0 (kq ≤ kj4) ∧ Aside0 (w'.heap[gb161]? = some (.cells #[.string a0_0, (.slice A0_1 l0_1.length c0_1), (.slice A0_2 l0_2.length c0_2)] 27 (0, 0))) ∧ Aside0 (Below w.heap.size w w'))
          case atStart => exact ⟨(0), (by first | rfl | (simp; done) | (simp [*]; done)), H', ⟨Nat.le_refl _⟩, ⟨by (with_reducible repeat (first | refine blk_drewN ?_ _ | refine blk_drew ?_ | refine blk_alloc ?_ _)); exact BK161.out⟩, ⟨by repeat (first | (with_reducible first | exact HB.out | apply below_alloc | apply pw_below_drewN | apply below_drew1 | refine below_set ?_ GE161.out) | exact HB.out)⟩⟩
          case round =>
            clear H'
            try clear c1
            try clear p2
            try clear c3
            try clear c3b0
            try clear c7
            try clear c7b0
            try clear c7b1
            try clear c8
            try clear c8b0
            try clear c8b1
            try clear c9
            try clear c9b0
            try clear c12
            try clear c14
            try clear c14b0
            try clear c17
            try clear hcz11_0
            try clear hcz11_1
            try clear hcz11_2
            try clear hcz12_0
            try clear hcz12_1
            try clear hcz12_2
            try clear hcz13_0
            try clear hcz13_1
            try clear hcz13_2
            try clear hcz16_0
            try clear hcz16_1
            try clear hcz16_2
            try clear hcz18_0
            try clear hcz18_1
            try clear hcz18_2
            try clear hfz11_0
            try clear hfz11_1
            try clear hfz11_2
            try clear hfz12_0
            try clear hfz12_1
            try clear hfz12_2
            try clear hfz13_0
            try clear hfz13_1
            try clear hfz13_2
            try clear hfz16_0
            try clear hfz16_1
            try clear hfz16_2
            try clear hfz18_0
            try clear hfz18_1
            try clear hfz18_2
            try clear p2
            obtain ⟨x34_2, rfl, HA, HK2, BK161, HB⟩ := hrel
            cases gk with
            | zero => exact absurd HA.out (by simp [arboretref01_wrong.l0])
            | succ k2 =>
              have H := HA.out
              clear HA
              simp only [arboretref01_wrong.l0] at H
              by_cases c19 : x34_2 < (l0_1.length : Int)
              · rw [if_pos c19] at H
                have c19b0 : decide (x34_2 < (l0_1.length : Int)) = true := decide_eq_true c19
                clear c19
                by_cases c20 : 0 ≤ x34_2
                · rw [if_pos c20] at H
                  have c20b0 : decide (0 ≤ x34_2) = true := decide_eq_true c20
                  clear c20
                  by_cases c21 : x34_2 < (l0_1.length : Int)
                  · rw [if_pos c21] at H
                    have c21b0 : decide (x34_2 < (l0_1.length : Int)) = true := decide_eq_true c21
                    clear c21
                    replace H := Option.bind_eq_some_iff.mp H
                    obtain ⟨t165, A220, H⟩ := H
                    replace H : (if t165 = true then (arboretref01_wrong.l0 k2 a1 (l0_1.length : Int) (wrap64 (x34_2 + 1)) a0_0 l0_1 l0_2) else (some 5)) = some r := H
                    have A22 := Aside0.mk A220
                    clear A220
                    by_cases c23 : t165 = true
                    · subst c23
                      have H1 : (arboretref01_wrong.l0 k2 a1 (l0_1.length : Int) (wrap64 (x34_2 + 1)) a0_0 l0_1 l0_2) = some r := by rw [if_pos rfl] at H; exact H
                      clear H
                      have H := H1
                      clear H1
                      have H' := Aside0.mk H
                      clear H
                      have hcz24_0 : wr.cell? ⟨gb161, 0, none⟩ = some (.string a0_0) := (blk_cell BK161.out 0).trans rfl
                      have hcz24_1 : wr.cell? ⟨gb161, 1, none⟩ = some (.slice A0_1 l0_1.length c0_1) := (blk_cell BK161.out 1).trans rfl
                      have hcz24_2 : wr.cell? ⟨gb161, 2, none⟩ = some (.slice A0_2 l0_2.length c0_2) := (blk_cell BK161.out 2).trans rfl
                      have hfz24_0 := blk_frozen BK161.out 0
                      have hfz24_1 := blk_frozen BK161.out 1
                      have hfz24_2 := blk_frozen BK161.out 2
                      have p164 : 0 ≤ (x34_2 : Int) := of_decide_eq_true (by first | (with_reducible assumption) | assumption)
                      have q164 : x34_2 < (l0_1.length : Int) := of_decide_eq_true (by first | (with_reducible assumption) | assumption)
                      obtain ⟨ad164, A164_1, c164_1, e164, hx164_0, hx164_1, hl164_1, hi164_1⟩ := at_T62 HR0_1.out x34_2 p164 q164
                      cases e164
                      replace hx164_0 := (HB.out.cell (World.block_lt_of_cell? w _ hx164_0)).trans hx164_0
                      replace hx164_1 := (HB.out.cell (World.block_lt_of_cell? w _ hx164_1)).trans hx164_1
                      have HR164_1 := Aside0.mk hi164_1
                      have HC164_1 := Aside0.mk hl164_1
                      clear hi164_1 hl164_1
                      replace p164 := eq_true p164
                      replace q164 := eq_true q164
                      go_wp2_with (first | (go_at_call 22; (with_reducible refine (arboretref01_Prop.calls k2 ((rd_T62 l0_1 x34_2).f0) true _ A22.out).mono ?_); rintro e w' ⟨rfl, ⟨nd, rfl⟩⟩; (try first | exact ⟨rfl, _, World.drewN_drewN _ _ _⟩ | exact ⟨rfl, _, Eq.trans (World.drewN_drewN _ _ _) (congrArg (World.drewN _) (Nat.add_assoc _ _ _))⟩)))
                      repeat (go_quiet (first | (go_at_call 22; (with_reducible refine (arboretref01_Prop.calls k2 ((rd_T62 l0_1 x34_2).f0) true _ A22.out).mono ?_); rintro e w' ⟨rfl, ⟨nd, rfl⟩⟩; (try first | exact ⟨rfl, _, World.drewN_drewN _ _ _⟩ | exact ⟨rfl, _, Eq.trans (World.drewN_drewN _ _ _) (congrArg (World.drewN _) (Nat.add_assoc _ _ _))⟩))); try go_wp2_with (first | (go_at_call 22; (with_reducible refine (arboretref01_Prop.calls k2 ((rd_T62 l0_1 x34_2).f0) true _ A22.out).mono ?_); rintro e w' ⟨rfl, ⟨nd, rfl⟩⟩; (try first | exact ⟨rfl, _, World.drewN_drewN _ _ _⟩ | exact ⟨rfl, _, Eq.trans (World.drewN_drewN _ _ _) (congrArg (World.drewN _) (Nat.add_assoc _ _ _))⟩))))
                      go_roundg k2
                      case measure => have := HJ4.out; have := HK2.out; omega
                      case rel => exact ⟨(wrap64 (x34_2 + 1)), (by first | rfl | (simp; done) | (simp [*]; done)), H', ⟨by have := HJ4.out; have := HK2.out; omega⟩, ⟨by (with_reducible repeat (first | refine blk_drewN ?_ _ | refine blk_drew ?_ | refine blk_alloc ?_ _)); exact BK161.out⟩, ⟨by repeat (first | (with_reducible first | exact HB.out | apply below_alloc | apply pw_below_drewN | apply below_drew1 | refine below_set ?_ GE161.out) | exact HB.out)⟩⟩
                    · replace c23 := Bool.eq_false_iff.mpr c23
                      subst c23
                      have H1 : (some 5) = some r := by rw [if_neg (show ¬ (false = true) by decide)] at H; exact H
                      clear H
                      have H := H1
                      clear H1
                      obtain rfl := Option.some.inj H
                      have hcz25_0 : wr.cell? ⟨gb161, 0, none⟩ = some (.string a0_0) := (blk_cell BK161.out 0).trans rfl
                      have hcz25_1 : wr.cell? ⟨gb161, 1, none⟩ = some (.slice A0_1 l0_1.length c0_1) := (blk_cell BK161.out 1).trans rfl
                      have hcz25_2 : wr.cell? ⟨gb161, 2, none⟩ = some (.slice A0_2 l0_2.length c0_2) := (blk_cell BK161.out 2).trans rfl
                      have hfz25_0 := blk_frozen BK161.out 0
                      have hfz25_1 := blk_frozen BK161.out 1
                      have hfz25_2 := blk_frozen BK161.out 2
                      have p164 : 0 ≤ (x34_2 : Int) := of_decide_eq_true (by first | (with_reducible assumption) | assumption)
                      have q164 : x34_2 < (l0_1.length : Int) := of_decide_eq_true (by first | (with_reducible assumption) | assumption)
                      obtain ⟨ad164, A164_1, c164_1, e164, hx164_0, hx164_1, hl164_1, hi164_1⟩ := at_T62 HR0_1.out x34_2 p164 q164
                      cases e164
                      replace hx164_0 := (HB.out.cell (World.block_lt_of_cell? w _ hx164_0)).trans hx164_0
                      replace hx164_1 := (HB.out.cell (World.block_lt_of_cell? w _ hx164_1)).trans hx164_1
                      have HR164_1 := Aside0.mk hi164_1
                      have HC164_1 := Aside0.mk hl164_1
                      clear hi164_1 hl164_1
                      replace p164 := eq_true p164
                      replace q164 := eq_true q164
                      go_wp2_with (first | (go_at_call 22; (with_reducible refine (arboretref01_Prop.calls k2 ((rd_T62 l0_1 x34_2).f0) false _ A22.out).mono ?_); rintro e w' ⟨rfl, ⟨nd, rfl⟩⟩; (try first | exact ⟨rfl, _, World.drewN_drewN _ _ _⟩ | exact ⟨rfl, _, Eq.trans (World.drewN_drewN _ _ _) (congrArg (World.drewN _) (Nat.add_assoc _ _ _))⟩)))
                      repeat (go_quiet (first | (go_at_call 22; (with_reducible refine (arboretref01_Prop.calls k2 ((rd_T62 l0_1 x34_2).f0) false _ A22.out).mono ?_); rintro e w' ⟨rfl, ⟨nd, rfl⟩⟩; (try first | exact ⟨rfl, _, World.drewN_drewN _ _ _⟩ | exact ⟨rfl, _, Eq.trans (World.drewN_drewN _ _ _) (congrArg (World.drewN _) (Nat.add_assoc _ _ _))⟩))); try go_wp2_with (first | (go_at_call 22; (with_reducible refine (arboretref01_Prop.calls k2 ((rd_T62 l0_1 x34_2).f0) false _ A22.out).mono ?_); rintro e w' ⟨rfl, ⟨nd, rfl⟩⟩; (try first | exact ⟨rfl, _, World.drewN_drewN _ _ _⟩ | exact ⟨rfl, _, Eq.trans (World.drewN_drewN _ _ _) (congrArg (World.drewN _) (Nat.add_assoc _ _ _))⟩))))
                      go_ret
                      exact ⟨by first | rfl | (simp [errW_none, errW_some] <;> rfl) | (simp [*, errW_none, errW_some] <;> rfl), by repeat (first | (with_reducible first | exact HB.out | apply below_alloc | apply pw_below_drewN | apply below_drew1 | refine below_set ?_ GE161.out) | exact HB.out)⟩
                  · rw [if_neg c21] at H
                    exact absurd H (by simp)
                · rw [if_neg c20] at H
                  exact absurd H (by simp)
              · rw [if_neg c19] at H
                have c19b0 : decide (x34_2 < (l0_1.length : Int)) = false := decide_eq_false c19
                clear c19
                have H' := Aside0.mk H
                clear H
                have hcz26_0 : wr.cell? ⟨gb161, 0, none⟩ = some (.string a0_0) := (blk_cell BK161.out 0).trans rfl
                have hcz26_1 : wr.cell? ⟨gb161, 1, none⟩ = some (.slice A0_1 l0_1.length c0_1) := (blk_cell BK161.out 1).trans rfl
                have hcz26_2 : wr.cell? ⟨gb161, 2, none⟩ = some (.slice A0_2 l0_2.length c0_2) := (blk_cell BK161.out 2).trans rfl
                have hfz26_0 := blk_frozen BK161.out 0
                have hfz26_1 := blk_frozen BK161.out 1
                have hfz26_2 := blk_frozen BK161.out 2
                go_wp2
                repeat (go_quiet (fail); try go_wp2)
                go_loopg [49] k2 (fun kq v49 w' => ∃ (x49_3 : Int), v49 = .int .i64 x49_3 ∧ Aside0 (arboretref01_wrong.l1 kq a1 (l0_1.length : Int) x49_3 a0_0 l0_1 l0_2 = some r) ∧ Aside0 (kq ≤ k2) ∧ Aside0 (w'.heap[gb161]? = some (.cells #[.string a0_0, (.slice A0_1 l0_1.length c0_1), (.slice A0_2 l0_2.length c0_2)] 27 (0, 0))) ∧ Aside0 (Below w.heap.size w w'))
                case atStart => exact ⟨(0), (by first | rfl | (simp; done) | (simp [*]; done)), H', ⟨Nat.le_refl _⟩, ⟨by (with_reducible repeat (first | refine blk_drewN ?_ _ | refine blk_drew ?_ | refine blk_alloc ?_ _)); exact BK161.out⟩, ⟨by repeat (first | (with_reducible first | exact HB.out | apply below_alloc | apply pw_below_drewN | apply below_drew1 | refine below_set ?_ GE161.out) | exact HB.out)⟩⟩
                case round =>
                  clear H'
                  try clear c1
                  try clear p1
                  try clear q1
                  try clear hx1
                  try clear c2
                  try clear p2
                  try clear c3
                  try clear c3b0
                  try clear p6
                  try clear c7
                  try clear c7b0
                  try clear c7b1
                  try clear c8
                  try clear c8b0
                  try clear c8b1
                  try clear c9
                  try clear c9b0
                  try clear c12
                  try clear c14
                  try clear c14b0
                  try clear c16
                  try clear p16
                  try clear q16
                  try clear hx16
                  try clear c17
                  try clear c19
                  try clear c19b0
                  try clear c20
                  try clear c20b0
                  try clear c21
                  try clear c21b0
                  try clear c23
                  try clear hcz11_0
                  try clear hcz11_1
                  try clear hcz11_2
                  try clear hcz12_0
                  try clear hcz12_1
                  try clear hcz12_2
                  try clear hcz13_0
                  try clear hcz13_1
                  try clear hcz13_2
                  try clear hcz16_0
                  try clear hcz16_1
                  try clear hcz16_2
                  try clear hcz18_0
                  try clear hcz18_1
                  try clear hcz18_2
                  try clear hcz24_0
                  try clear hcz24_1
                  try clear hcz24_2
                  try clear hcz25_0
                  try clear hcz25_1
                  try clear hcz25_2
                  try clear hcz26_0
                  try clear hcz26_1
                  try clear hcz26_2
                  try clear hfz11_0
                  try clear hfz11_1
                  try clear hfz11_2
                  try clear hfz12_0
                  try clear hfz12_1
                  try clear hfz12_2
                  try clear hfz13_0
                  try clear hfz13_1
                  try clear hfz13_2
                  try clear hfz16_0
                  try clear hfz16_1
                  try clear hfz16_2
                  try clear hfz18_0
                  try clear hfz18_1
                  try clear hfz18_2
                  try clear hfz24_0
                  try clear hfz24_1
                  try clear hfz24_2
                  try clear hfz25_0
                  try clear hfz25_1
                  try clear hfz25_2
                  try clear hfz26_0
                  try clear hfz26_1
                  try clear hfz26_2
                  try clear hx164_0
                  try clear hx164_1
                  try clear p164
                  try clear p2
                  try clear q164
                  obtain ⟨x49_3, rfl, HA, HK3, BK161, HB⟩ := hrel
                  cases gk with
                  | zero => exact absurd HA.out (by simp [arboretref01_wrong.l1])
                  | succ k3 =>
                    have H := HA.out
                    clear HA
                    simp only [arboretref01_wrong.l1] at H
                    by_cases c27 : x49_3 < (l0_1.length : Int)
                    · rw [if_pos c27] at H
                      have c27b0 : decide (x49_3 < (l0_1.length : Int)) = true := decide_eq_true c27
                      clear c27
                      have H' := Aside0.mk H
                      clear H
                      go_wp2
                      repeat (go_quiet (fail); try go_wp2)
                      go_loopg [53] k3 (fun kq v53 w' => ∃ (x53_4 : Int), v53 = .int .i64 x53_4 ∧ Aside0 (arboretref01_wrong.l2 kq a1 x49_3 (l0_1.length : Int) x49_3 x49_3 x53_4 a0_0 l0_1 l0_2 = some r) ∧ Aside0 (kq ≤ k3) ∧ Aside0 (w'.heap[gb161]? = some (.cells #[.string a0_0, (.slice A0_1 l0_1.length c0_1), (.slice A0_2 l0_2.length c0_2)] 27 (0, 0))) ∧ Aside0 (Below w.heap.size w w'))
                      case atStart => exact ⟨(0), (by first | rfl | (simp; done) | (simp [*]; done)), H', ⟨Nat.le_refl _⟩, ⟨by (with_reducible repeat (first | refine blk_drewN ?_ _ | refine blk_drew ?_ | refine blk_alloc ?_ _)); exact BK161.out⟩, ⟨by repeat (first | (with_reducible first | exact HB.out | apply below_alloc | apply pw_below_drewN | apply below_drew1 | refine below_set ?_ GE161.out) | exact HB.out)⟩⟩
                      case round =>
                        clear H'
                        try clear c1
                        try clear p1
                        try clear q1
                        try clear hx1
                        try clear c2
                        try clear p2
                        try clear c3
                        try clear c3b0
                        try clear p6
                        try clear c7
                        try clear c7b0
                        try clear c7b1
                        try clear c8
                        try clear c8b0
                        try clear c8b1
                        try clear c9
                        try clear c9b0
                        try clear c12
                        try clear c14
                        try clear c14b0
                        try clear c16
                        try clear p16
                        try clear q16
                        try clear hx16
                        try clear c17
                        try clear c19
                        try clear c19b0
                        try clear c20
                        try clear c20b0
                        try clear c21
                        try clear c21b0
                        try clear c23
                        try clear c27
                        try clear c27b0
                        try clear hcz11_0
                        try clear hcz11_1
                        try clear hcz11_2
                        try clear hcz12_0
                        try clear hcz12_1
                        try clear hcz12_2
                        try clear hcz13_0
                        try clear hcz13_1
                        try clear hcz13_2
                        try clear hcz16_0
                        try clear hcz16_1
                        try clear hcz16_2
                        try clear hcz18_0
                        try clear hcz18_1
                        try clear hcz18_2
                        try clear hcz24_0
                        try clear hcz24_1
                        try clear hcz24_2
                        try clear hcz25_0
                        try clear hcz25_1
                        try clear hcz25_2
                        try clear hcz26_0
                        try clear hcz26_1
                        try clear hcz26_2
                        try clear hfz11_0
                        try clear hfz11_1
                        try clear hfz11_2
                        try clear hfz12_0
                        try clear hfz12_1
                        try clear hfz12_2
                        try clear hfz13_0
                        try clear hfz13_1
                        try clear hfz13_2
                        try clear hfz16_0
                        try clear hfz16_1
                        try clear hfz16_2
                        try clear hfz18_0
                        try clear hfz18_1
                        try clear hfz18_2
                        try clear hfz24_0
                        try clear hfz24_1
                        try clear hfz24_2
                        try clear hfz25_0
                        try clear hfz25_1
                        try clear hfz25_2
                        try clear hfz26_0
                        try clear hfz26_1
                        try clear hfz26_2
                        try clear hx164_0
                        try clear hx164_1
                        try clear p1
                        try clear p16
                        try clear p164
                        try clear p2
                        try clear p6
                        try clear q1
                        try clear q16
                        try clear q164
                        obtain ⟨x53_4, rfl, HA, HK4, BK161, HB⟩ := hrel
                        cases gk with
                        | zero => exact absurd HA.out (by simp [arboretref01_wrong.l2])
                        | succ k4 =>
                          have H := HA.out
                          clear HA
                          simp only [arboretref01_wrong.l2] at H
                          by_cases c28 : x53_4 < x49_3
                          · rw [if_pos c28] at H
                            have c28b0 : decide (x53_4 < x49_3) = true := decide_eq_true c28
                            clear c28
                            by_cases c29 : 0 ≤ x53_4
                            · rw [if_pos c29] at H
                              have c29b0 : decide (0 ≤ x53_4) = true := decide_eq_true c29
                              clear c29
                              by_cases c30 : x53_4 < (l0_1.length : Int)
                              · rw [if_pos c30] at H
                                have c30b0 : decide (x53_4 < (l0_1.length : Int)) = true := decide_eq_true c30
                                clear c30
                                by_cases c31 : 0 ≤ x49_3
                                · rw [if_pos c31] at H
                                  have c31b0 : decide (0 ≤ x49_3) = true := decide_eq_true c31
                                  clear c31
                                  by_cases c32 : x49_3 < (l0_1.length : Int)
                                  · rw [if_pos c32] at H
                                    have c32b0 : decide (x49_3 < (l0_1.length : Int)) = true := decide_eq_true c32
                                    clear c32
                                    by_cases c33 : ((rd_T62 l0_1 x53_4).f0).toList = ((rd_T62 l0_1 x49_3).f0).toList
                                    · rw [if_pos c33] at H
                                      have c33b0 : (((rd_T62 l0_1 x53_4).f0).toList == ((rd_T62 l0_1 x49_3).f0).toList) = true := beq_iff_eq.mpr c33
                                      have c33b1 : (((rd_T62 l0_1 x53_4).f0).toList != ((rd_T62 l0_1 x49_3).f0).toList) = false := bne_eq_false_iff_eq.mpr c33
                                      clear c33
                                      obtain rfl := Option.some.inj H
                                      have hcz34_0 : wr.cell? ⟨gb161, 0, none⟩ = some (.string a0_0) := (blk_cell BK161.out 0).trans rfl
                                      have hcz34_1 : wr.cell? ⟨gb161, 1, none⟩ = some (.slice A0_1 l0_1.length c0_1) := (blk_cell BK161.out 1).trans rfl
                                      have hcz34_2 : wr.cell? ⟨gb161, 2, none⟩ = some (.slice A0_2 l0_2.length c0_2) := (blk_cell BK161.out 2).trans rfl
                                      have hfz34_0 := blk_frozen BK161.out 0
                                      have hfz34_1 := blk_frozen BK161.out 1
                                      have hfz34_2 := blk_frozen BK161.out 2
                                      have p166 : 0 ≤ (x53_4 : Int) := of_decide_eq_true (by first | (with_reducible assumption) | assumption)
                                      have q166 : x53_4 < (l0_1.length : Int) := of_decide_eq_true (by first | (with_reducible assumption) | assumption)
                                      obtain ⟨ad166, A166_1, c166_1, e166, hx166_0, hx166_1, hl166_1, hi166_1⟩ := at_T62 HR0_1.out x53_4 p166 q166
                                      cases e166
                                      replace hx166_0 := (HB.out.cell (World.block_lt_of_cell? w _ hx166_0)).trans hx166_0
                                      replace hx166_1 := (HB.out.cell (World.block_lt_of_cell? w _ hx166_1)).trans hx166_1
                                      have HR166_1 := Aside0.mk hi166_1
                                      have HC166_1 := Aside0.mk hl166_1
                                      clear hi166_1 hl166_1
                                      replace p166 := eq_true p166
                                      replace q166 := eq_true q166
                                      have p167 : 0 ≤ (x49_3 : Int) := of_decide_eq_true (by first | (with_reducible assumption) | assumption)
                                      have q167 : x49_3 < (l0_1.length : Int) := of_decide_eq_true (by first | (with_reducible assumption) | assumption)
                                      obtain ⟨ad167, A167_1, c167_1, e167, hx167_0, hx167_1, hl167_1, hi167_1⟩ := at_T62 HR0_1.out x49_3 p167 q167
                                      obtain rfl : ad166 = ad167 := (by injection e167)
                                      replace hx167_0 := (HB.out.cell (World.block_lt_of_cell? w _ hx167_0)).trans hx167_0
                                      replace hx167_1 := (HB.out.cell (World.block_lt_of_cell? w _ hx167_1)).trans hx167_1
                                      have HR167_1 := Aside0.mk hi167_1
                                      have HC167_1 := Aside0.mk hl167_1
                                      clear hi167_1 hl167_1
                                      replace p167 := eq_true p167
                                      replace q167 := eq_true q167
                                      go_wp2
                                      repeat (go_quiet (fail); try go_wp2)
                                      go_ret
                                      exact ⟨by first | rfl | (simp [errW_none, errW_some] <;> rfl) | (simp [*, errW_none, errW_some] <;> rfl), by repeat (first | (with_reducible first | exact HB.out | apply below_alloc | apply pw_below_drewN | apply below_drew1 | refine below_set ?_ GE161.out) | exact HB.out)⟩
                                    · rw [if_neg c33] at H
                                      have c33b0 : (((rd_T62 l0_1 x53_4).f0).toList == ((rd_T62 l0_1 x49_3).f0).toList) = false := beq_eq_false_iff_ne.mpr c33
                                      have c33b1 : (((rd_T62 l0_1 x53_4).f0).toList != ((rd_T62 l0_1 x49_3).f0).toList) = true := bne_iff_ne.mpr c33
                                      have H' := Aside0.mk H
                                      clear H
                                      have hcz35_0 : wr.cell? ⟨gb161, 0, none⟩ = some (.string a0_0) := (blk_cell BK161.out 0).trans rfl
                                      have hcz35_1 : wr.cell? ⟨gb161, 1, none⟩ = some (.slice A0_1 l0_1.length c0_1) := (blk_cell BK161.out 1).trans rfl
                                      have hcz35_2 : wr.cell? ⟨gb161, 2, none⟩ = some (.slice A0_2 l0_2.length c0_2) := (blk_cell BK161.out 2).trans rfl
                                      have hfz35_0 := blk_frozen BK161.out 0
                                      have hfz35_1 := blk_frozen BK161.out 1
                                      have hfz35_2 := blk_frozen BK161.out 2
                                      have p166 : 0 ≤ (x53_4 : Int) := of_decide_eq_true (by first | (with_reducible assumption) | assumption)
                                      have q166 : x53_4 < (l0_1.length : Int) := of_decide_eq_true (by first | (with_reducible assumption) | assumption)
                                      obtain ⟨ad166, A166_1, c166_1, e166, hx166_0, hx166_1, hl166_1, hi166_1⟩ := at_T62 HR0_1.out x53_4 p166 q166
                                      cases e166
                                      replace hx166_0 := (HB.out.cell (World.block_lt_of_cell? w _ hx166_0)).trans hx166_0
                                      replace hx166_1 := (HB.out.cell (World.block_lt_of_cell? w _ hx166_1)).trans hx166_1
                                      have HR166_1 := Aside0.mk hi166_1
                                      have HC166_1 := Aside0.mk hl166_1
                                      clear hi166_1 hl166_1
                                      replace p166 := eq_true p166
                                      replace q166 := eq_true q166
                                      have p167 : 0 ≤ (x49_3 : Int) := of_decide_eq_true (by first | (with_reducible assumption) | assumption)
                                      have q167 : x49_3 < (l0_1.length : Int) := of_decide_eq_true (by first | (with_reducible assumption) | assumption)
                                      obtain ⟨ad167, A167_1, c167_1, e167, hx167_0, hx167_1, hl167_1, hi167_1⟩ := at_T62 HR0_1.out x49_3 p167 q167
                                      obtain rfl : ad166 = ad167 := (by injection e167)
                                      replace hx167_0 := (HB.out.cell (World.block_lt_of_cell? w _ hx167_0)).trans hx167_0
                                      replace hx167_1 := (HB.out.cell (World.block_lt_of_cell? w _ hx167_1)).trans hx167_1
                                      have HR167_1 := Aside0.mk hi167_1
                                      have HC167_1 := Aside0.mk hl167_1
                                      clear hi167_1 hl167_1
                                      replace p167 := eq_true p167
                                      replace q167 := eq_true q167
                                      go_wp2
                                      repeat (go_quiet (fail); try go_wp2)
                                      go_roundg k4
                                      case measure => have := HJ4.out; have := HK2.out; have := HK3.out; have := HK4.out; omega
                                      case rel => exact ⟨(wrap64 (x53_4 + 1)), (by first | rfl | (simp; done) | (simp [*]; done)), H', ⟨by have := HJ4.out; have := HK2.out; have := HK3.out; have := HK4.out; omega⟩, ⟨by (with_reducible repeat (first | refine blk_drewN ?_ _ | refine blk_drew ?_ | refine blk_alloc ?_ _)); exact BK161.out⟩, ⟨by repeat (first | (with_reducible first | exact HB.out | apply below_alloc | apply pw_below_drewN | apply below_drew1 | refine below_set ?_ GE161.out) | exact HB.out)⟩⟩
                                  · rw [if_neg c32] at H
                                    exact absurd H (by simp)
                                · rw [if_neg c31] at H
                                  exact absurd H (by simp)
                              · rw [if_neg c30] at H
                                exact absurd H (by simp)
                            · rw [if_neg c29] at H
                              exact absurd H (by simp)
                          · rw [if_neg c28] at H
                            have c28b0 : decide (x53_4 < x49_3) = false := decide_eq_false c28
                            clear c28
                            have H' := Aside0.mk H
                            clear H
                            go_wp2
                            repeat (go_quiet (fail); try go_wp2)
                            go_roundg k4
                            case measure => have := HJ4.out; have := HK2.out; have := HK3.out; have := HK4.out; omega
                            case rel => exact ⟨(wrap64 (x49_3 + 1)), (by first | rfl | (simp; done) | (simp [*]; done)), H', ⟨by have := HJ4.out; have := HK2.out; have := HK3.out; have := HK4.out; omega⟩, ⟨by (with_reducible repeat (first | refine blk_drewN ?_ _ | refine blk_drew ?_ | refine blk_alloc ?_ _)); exact BK161.out⟩, ⟨by repeat (first | (with_reducible first | exact HB.out | apply below_alloc | apply pw_below_drewN | apply below_drew1 | refine below_set ?_ GE161.out) | exact HB.out)⟩⟩
                    · rw [if_neg c27] at H
                      have c27b0 : decide (x49_3 < (l0_1.length : Int)) = false := decide_eq_false c27
                      clear c27
                      have H' := Aside0.mk H
                      clear H
                      have hcz36_0 : wr.cell? ⟨gb161, 0, none⟩ = some (.string a0_0) := (blk_cell BK161.out 0).trans rfl
                      have hcz36_1 : wr.cell? ⟨gb161, 1, none⟩ = some (.slice A0_1 l0_1.length c0_1) := (blk_cell BK161.out 1).trans rfl
                      have hcz36_2 : wr.cell? ⟨gb161, 2, none⟩ = some (.slice A0_2 l0_2.length c0_2) := (blk_cell BK161.out 2).trans rfl
                      have hfz36_0 := blk_frozen BK161.out 0
                      have hfz36_1 := blk_frozen BK161.out 1
                      have hfz36_2 := blk_frozen BK161.out 2
                      go_wp2
                      repeat (go_quiet (fail); try go_wp2)
                      go_loopg [74] k3 (fun kq v74 w' => ∃ (x74_4 : Int), v74 = .int .i64 x74_4 ∧ Aside0 (arboretref01_wrong.l3 kq a1 (l0_2.length : Int) x74_4 a0_0 l0_1 l0_2 = some r) ∧ Aside0 (kq ≤ k3) ∧ Aside0 (w'.heap[gb161]? = some (.cells #[.string a0_0, (.slice A0_1 l0_1.length c0_1), (.slice A0_2 l0_2.length c0_2)] 27 (0, 0))) ∧ Aside0 (Below w.heap.size w w'))
                      case atStart => exact ⟨(0), (by first | rfl | (simp; done) | (simp [*]; done)), H', ⟨Nat.le_refl _⟩, ⟨by (with_reducible repeat (first | refine blk_drewN ?_ _ | refine blk_drew ?_ | refine blk_alloc ?_ _)); exact BK161.out⟩, ⟨by repeat (first | (with_reducible first | exact HB.out | apply below_alloc | apply pw_below_drewN | apply below_drew1 | refine below_set ?_ GE161.out) | exact HB.out)⟩⟩
                      case round =>
                        clear H'
                        try clear c1
                        try clear p1
                        try clear q1
                        try clear hx1
                        try clear c2
                        try clear p2
                        try clear c3
                        try clear c3b0
                        try clear p6
                        try clear c7
                        try clear c7b0
                        try clear c7b1
                        try clear c8
                        try clear c8b0
                        try clear c8b1
                        try clear c9
                        try clear c9b0
                        try clear c12
                        try clear c14
                        try clear c14b0
                        try clear c16
                        try clear p16
                        try clear q16
                        try clear hx16
                        try clear c17
                        try clear c19
                        try clear c19b0
                        try clear c20
                        try clear c20b0
                        try clear c21
                        try clear c21b0
                        try clear c23
                        try clear c27
                        try clear c27b0
                        try clear c28
                        try clear c28b0
                        try clear c29
                        try clear c29b0
                        try clear c30
                        try clear c30b0
                        try clear c31
                        try clear c31b0
                        try clear c32
                        try clear c32b0
                        try clear c33
                        try clear c33b0
                        try clear c33b1
                        try clear hcz11_0
                        try clear hcz11_1
                        try clear hcz11_2
                        try clear hcz12_0
                        try clear hcz12_1
                        try clear hcz12_2
                        try clear hcz13_0
                        try clear hcz13_1
                        try clear hcz13_2
                        try clear hcz16_0
                        try clear hcz16_1
                        try clear hcz16_2
                        try clear hcz18_0
                        try clear hcz18_1
                        try clear hcz18_2
                        try clear hcz24_0
                        try clear hcz24_1
                        try clear hcz24_2
                        try clear hcz25_0
                        try clear hcz25_1
                        try clear hcz25_2
                        try clear hcz26_0
                        try clear hcz26_1
                        try clear hcz26_2
                        try clear hcz34_0
                        try clear hcz34_1
                        try clear hcz34_2
                        try clear hcz35_0
                        try clear hcz35_1
                        try clear hcz35_2
                        try clear hcz36_0
                        try clear hcz36_1
                        try clear hcz36_2
                        try clear hfz11_0
                        try clear hfz11_1
                        try clear hfz11_2
                        try clear hfz12_0
                        try clear hfz12_1
                        try clear hfz12_2
                        try clear hfz13_0
                        try clear hfz13_1
                        try clear hfz13_2
                        try clear hfz16_0
                        try clear hfz16_1
                        try clear hfz16_2
                        try clear hfz18_0
                        try clear hfz18_1
                        try clear hfz18_2
                        try clear hfz24_0
                        try clear hfz24_1
                        try clear hfz24_2
                        try clear hfz25_0
                        try clear hfz25_1
                        try clear hfz25_2
                        try clear hfz26_0
                        try clear hfz26_1
                        try clear hfz26_2
                        try clear hfz34_0
                        try clear hfz34_1
                        try clear hfz34_2
                        try clear hfz35_0
                        try clear hfz35_1
                        try clear hfz35_2
                        try clear hfz36_0
                        try clear hfz36_1
                        try clear hfz36_2
                        try clear hx164_0
                        try clear hx164_1
                        try clear hx166_0
                        try clear hx166_1
                        try clear hx167_0
                        try clear hx167_1
                        try clear p1
                        try clear p16
                        try clear p164
                        try clear p166
                        try clear p167
                        try clear p2
                        try clear p6
                        try clear q1
                        try clear q16
                        try clear q164
                        try clear q166
                        try clear q167
                        obtain ⟨x74_4, rfl, HA, HK4, BK161, HB⟩ := hrel
                        cases gk with
                        | zero => exact absurd HA.out (by simp [arboretref01_wrong.l3])
                        | succ k4 =>
                          have H := HA.out
                          clear HA
                          simp only [arboretref01_wrong.l3] at H
                          by_cases c37 : x74_4 < (l0_2.length : Int)
                          · rw [if_pos c37] at H
                            have c37b0 : decide (x74_4 < (l0_2.length : Int)) = true := decide_eq_true c37
                            clear c37
                            have H' := Aside0.mk H
                            clear H
                            go_wp2
                            repeat (go_quiet (fail); try go_wp2)
                            go_loopg [78] k4 (fun kq v78 w' => ∃ (x78_5 : Int), v78 = .int .i64 x78_5 ∧ Aside0 (arboretref01_wrong.l4 kq a1 x74_4 (l0_2.length : Int) x74_4 x74_4 x78_5 a0_0 l0_1 l0_2 = some r) ∧ Aside0 (kq ≤ k4) ∧ Aside0 (w'.heap[gb161]? = some (.cells #[.string a0_0, (.slice A0_1 l0_1.length c0_1), (.slice A0_2 l0_2.length c0_2)] 27 (0, 0))) ∧ Aside0 (Below w.heap.size w w'))
                            case atStart => exact ⟨(0), (by first | rfl | (simp; done) | (simp [*]; done)), H', ⟨Nat.le_refl _⟩, ⟨by (with_reducible repeat (first | refine blk_drewN ?_ _ | refine blk_drew ?_ | refine blk_alloc ?_ _)); exact BK161.out⟩, ⟨by repeat (first | (with_reducible first | exact HB.out | apply below_alloc | apply pw_below_drewN | apply below_drew1 | refine below_set ?_ GE161.out) | exact HB.out)⟩⟩
                            case round =>
                              clear H'
                              try clear c1
                              try clear p1
                              try clear q1
                              try clear hx1
                              try clear c2
                              try clear p2
                              try clear c3
                              try clear c3b0
                              try clear p6
                              try clear c7
                              try clear c7b0
                              try clear c7b1
                              try clear c8
                              try clear c8b0
                              try clear c8b1
                              try clear c9
                              try clear c9b0
                              try clear c12
                              try clear c14
                              try clear c14b0
                              try clear c16
                              try clear p16
                              try clear q16
                              try clear hx16
                              try clear c17
                              try clear c19
                              try clear c19b0
                              try clear c20
                              try clear c20b0
                              try clear c21
                              try clear c21b0
                              try clear c23
                              try clear c27
                              try clear c27b0
                              try clear c28
                              try clear c28b0
                              try clear c29
                              try clear c29b0
                              try clear c30
                              try clear c30b0
                              try clear c31
                              try clear c31b0
                              try clear c32
                              try clear c32b0
                              try clear c33
                              try clear c33b0
                              try clear c33b1
                              try clear c37
                              try clear c37b0
                              try clear hcz11_0
                              try clear hcz11_1
                              try clear hcz11_2
                              try clear hcz12_0
                              try clear hcz12_1
                              try clear hcz12_2
                              try clear hcz13_0
                              try clear hcz13_1
                              try clear hcz13_2
                              try clear hcz16_0
                              try clear hcz16_1
                              try clear hcz16_2
                              try clear hcz18_0
                              try clear hcz18_1
                              try clear hcz18_2
                              try clear hcz24_0
                              try clear hcz24_1
                              try clear hcz24_2
                              try clear hcz25_0
                              try clear hcz25_1
                              try clear hcz25_2
                              try clear hcz26_0
                              try clear hcz26_1
                              try clear hcz26_2
                              try clear hcz34_0
                              try clear hcz34_1
                              try clear hcz34_2
                              try clear hcz35_0
                              try clear hcz35_1
                              try clear hcz35_2
                              try clear hcz36_0
                              try clear hcz36_1
                              try clear hcz36_2
                              try clear hfz11_0
                              try clear hfz11_1
                              try clear hfz11_2
                              try clear hfz12_0
                              try clear hfz12_1
                              try clear hfz12_2
                              try clear hfz13_0
                              try clear hfz13_1
                              try clear hfz13_2
                              try clear hfz16_0
                              try clear hfz16_1
                              try clear hfz16_2
                              try clear hfz18_0
                              try clear hfz18_1
                              try clear hfz18_2
                              try clear hfz24_0
                              try clear hfz24_1
                              try clear hfz24_2
                              try clear hfz25_0
                              try clear hfz25_1
                              try clear hfz25_2
                              try clear hfz26_0
                              try clear hfz26_1
                              try clear hfz26_2
                              try clear hfz34_0
                              try clear hfz34_1
                              try clear hfz34_2
                              try clear hfz35_0
                              try clear hfz35_1
                              try clear hfz35_2
                              try clear hfz36_0
                              try clear hfz36_1
                              try clear hfz36_2
                              try clear hx164_0
                              try clear hx164_1
                              try clear hx166_0
                              try clear hx166_1
                              try clear hx167_0
                              try clear hx167_1
                              try clear p1
                              try clear p16
                              try clear p164
                              try clear p166
                              try clear p167
                              try clear p2
                              try clear p6
                              try clear q1
                              try clear q16
                              try clear q164
                              try clear q166
                              try clear q167
                              obtain ⟨x78_5, rfl, HA, HK5, BK161, HB⟩ := hrel
                              cases gk with
                              | zero => exact absurd HA.out (by simp [arboretref01_wrong.l4])
                              | succ k5 =>
                                have H := HA.out
                                clear HA
                                simp only [arboretref01_wrong.l4] at H
                                by_cases c38 : x78_5 < x74_4
                                · rw [if_pos c38] at H
                                  have c38b0 : decide (x78_5 < x74_4) = true := decide_eq_true c38
                                  clear c38
                                  by_cases c39 : 0 ≤ x78_5
                                  · rw [if_pos c39] at H
                                    have c39b0 : decide (0 ≤ x78_5) = true := decide_eq_true c39
                                    clear c39
                                    by_cases c40 : x78_5 < (l0_2.length : Int)
                                    · rw [if_pos c40] at H
                                      have c40b0 : decide (x78_5 < (l0_2.length : Int)) = true := decide_eq_true c40
                                      clear c40
                                      by_cases c41 : 0 ≤ x74_4
                                      · rw [if_pos c41] at H
                                        have c41b0 : decide (0 ≤ x74_4) = true := decide_eq_true c41
                                        clear c41
                                        by_cases c42 : x74_4 < (l0_2.length : Int)
                                        · rw [if_pos c42] at H
                                          have c42b0 : decide (x74_4 < (l0_2.length : Int)) = true := decide_eq_true c42
                                          clear c42
                                          by_cases c43 : ((rd_T27 l0_2 x78_5).f0).toList = ((rd_T27 l0_2 x74_4).f0).toList
                                          · rw [if_pos c43] at H
                                            have c43b0 : (((rd_T27 l0_2 x78_5).f0).toList == ((rd_T27 l0_2 x74_4).f0).toList) = true := beq_iff_eq.mpr c43
                                            have c43b1 : (((rd_T27 l0_2 x78_5).f0).toList != ((rd_T27 l0_2 x74_4).f0).toList) = false := bne_eq_false_iff_eq.mpr c43
                                            clear c43
                                            obtain rfl := Option.some.inj H
                                            have hcz44_0 : wr.cell? ⟨gb161, 0, none⟩ = some (.string a0_0) := (blk_cell BK161.out 0).trans rfl
                                            have hcz44_1 : wr.cell? ⟨gb161, 1, none⟩ = some (.slice A0_1 l0_1.length c0_1) := (blk_cell BK161.out 1).trans rfl
                                            have hcz44_2 : wr.cell? ⟨gb161, 2, none⟩ = some (.slice A0_2 l0_2.length c0_2) := (blk_cell BK161.out 2).trans rfl
                                            have hfz44_0 := blk_frozen BK161.out 0
                                            have hfz44_1 := blk_frozen BK161.out 1
                                            have hfz44_2 := blk_frozen BK161.out 2
                                            have p168 : 0 ≤ (x78_5 : Int) := of_decide_eq_true (by first | (with_reducible assumption) | assumption)
                                            have q168 : x78_5 < (l0_2.length : Int) := of_decide_eq_true (by first | (with_reducible assumption) | assumption)
                                            obtain ⟨ad168, A168_1, c168_1, A168_2, c168_2, e168, hx168_0, hx168_1, hx168_2, hl168_1, hi168_1, hl168_2, hi168_2⟩ := at_T27 HR0_2.out x78_5 p168 q168
                                            cases e168
                                            replace hx168_0 := (HB.out.cell (World.block_lt_of_cell? w _ hx168_0)).trans hx168_0
                                            replace hx168_1 := (HB.out.cell (World.block_lt_of_cell? w _ hx168_1)).trans hx168_1
                                            replace hx168_2 := (HB.out.cell (World.block_lt_of_cell? w _ hx168_2)).trans hx168_2
                                            have HR168_1 := Aside0.mk hi168_1
                                            have HC168_1 := Aside0.mk hl168_1
                                            clear hi168_1 hl168_1
                                            have HR168_2 := Aside0.mk hi168_2
                                            have HC168_2 := Aside0.mk hl168_2
                                            clear hi168_2 hl168_2
                                            replace p168 := eq_true p168
                                            replace q168 := eq_true q168
                                            have p169 : 0 ≤ (x74_4 : Int) := of_decide_eq_true (by first | (with_reducible assumption) | assumption)
                                            have q169 : x74_4 < (l0_2.length : Int) := of_decide_eq_true (by first | (with_reducible assumption) | assumption)
                                            obtain ⟨ad169, A169_1, c169_1, A169_2, c169_2, e169, hx169_0, hx169_1, hx169_2, hl169_1, hi169_1, hl169_2, hi169_2⟩ := at_T27 HR0_2.out x74_4 p169 q169
                                            obtain rfl : ad168 = ad169 := (by injection e169)
                                            replace hx169_0 := (HB.out.cell (World.block_lt_of_cell? w _ hx169_0)).trans hx169_0
                                            replace hx169_1 := (HB.out.cell (World.block_lt_of_cell? w _ hx169_1)).trans hx169_1
                                            replace hx169_2 := (HB.out.cell (World.block_lt_of_cell? w _ hx169_2)).trans hx169_2
                                            have HR169_1 := Aside0.mk hi169_1
                                            have HC169_1 := Aside0.mk hl169_1
                                            clear hi169_1 hl169_1
                                            have HR169_2 := Aside0.mk hi169_2
                                            have HC169_2 := Aside0.mk hl169_2
                                            clear hi169_2 hl169_2
                                            replace p169 := eq_true p169
                                            replace q169 := eq_true q169
                                            go_wp2
                                            repeat (go_quiet (fail); try go_wp2)
                                            go_ret
                                            exact ⟨by first | rfl | (simp [errW_none, errW_some] <;> rfl) | (simp [*, errW_none, errW_some] <;> rfl), by repeat (first | (with_reducible first | exact HB.out | apply below_alloc | apply pw_below_drewN | apply below_drew1 | refine below_set ?_ GE161.out) | exact HB.out)⟩
                                          · rw [if_neg c43] at H
                                            have c43b0 : (((rd_T27 l0_2 x78_5).f0).toList == ((rd_T27 l0_2 x74_4).f0).toList) = false := beq_eq_false_iff_ne.mpr c43
                                            have c43b1 : (((rd_T27 l0_2 x78_5).f0).toList != ((rd_T27 l0_2 x74_4).f0).toList) = true := bne_iff_ne.mpr c43
                                            have H' := Aside0.mk H
                                            clear H
                                            have hcz45_0 : wr.cell? ⟨gb161, 0, none⟩ = some (.string a0_0) := (blk_cell BK161.out 0).trans rfl
                                            have hcz45_1 : wr.cell? ⟨gb161, 1, none⟩ = some (.slice A0_1 l0_1.length c0_1) := (blk_cell BK161.out 1).trans rfl
                                            have hcz45_2 : wr.cell? ⟨gb161, 2, none⟩ = some (.slice A0_2 l0_2.length c0_2) := (blk_cell BK161.out 2).trans rfl
                                            have hfz45_0 := blk_frozen BK161.out 0
                                            have hfz45_1 := blk_frozen BK161.out 1
                                            have hfz45_2 := blk_frozen BK161.out 2
                                            have p168 : 0 ≤ (x78_5 : Int) := of_decide_eq_true (by first | (with_reducible assumption) | assumption)
                                            have q168 : x78_5 < (l0_2.length : Int) := of_decide_eq_true (by first | (with_reducible assumption) | assumption)
                                            obtain ⟨ad168, A168_1, c168_1, A168_2, c168_2, e168, hx168_0, hx168_1, hx168_2, hl168_1, hi168_1, hl168_2, hi168_2⟩ := at_T27 HR0_2.out x78_5 p168 q168
                                            cases e168
                                            replace hx168_0 := (HB.out.cell (World.block_lt_of_cell? w _ hx168_0)).trans hx168_0
                                            replace hx168_1 := (HB.out.cell (World.block_lt_of_cell? w _ hx168_1)).trans hx168_1
                                            replace hx168_2 := (HB.out.cell (World.block_lt_of_cell? w _ hx168_2)).trans hx168_2
                                            have HR168_1 := Aside0.mk hi168_1
                                            have HC168_1 := Aside0.mk hl168_1
                                            clear hi168_1 hl168_1
                                            have HR168_2 := Aside0.mk hi168_2
                                            have HC168_2 := Aside0.mk hl168_2
                                            clear hi168_2 hl168_2
                                            replace p168 := eq_true p168
                                            replace q168 := eq_true q168
                                            have p169 : 0 ≤ (x74_4 : Int) := of_decide_eq_true (by first | (with_reducible assumption) | assumption)
                                            have q169 : x74_4 < (l0_2.length : Int) := of_decide_eq_true (by first | (with_reducible assumption) | assumption)
                                            obtain ⟨ad169, A169_1, c169_1, A169_2, c169_2, e169, hx169_0, hx169_1, hx169_2, hl169_1, hi169_1, hl169_2, hi169_2⟩ := at_T27 HR0_2.out x74_4 p169 q169
                                            obtain rfl : ad168 = ad169 := (by injection e169)
                                            replace hx169_0 := (HB.out.cell (World.block_lt_of_cell? w _ hx169_0)).trans hx169_0
                                            replace hx169_1 := (HB.out.cell (World.block_lt_of_cell? w _ hx169_1)).trans hx169_1
                                            replace hx169_2 := (HB.out.cell (World.block_lt_of_cell? w _ hx169_2)).trans hx169_2
                                            have HR169_1 := Aside0.mk hi169_1
                                            have HC169_1 := Aside0.mk hl169_1
                                            clear hi169_1 hl169_1
                                            have HR169_2 := Aside0.mk hi169_2
                                            have HC169_2 := Aside0.mk hl169_2
                                            clear hi169_2 hl169_2
                                            replace p169 := eq_true p169
                                            replace q169 := eq_true q169
                                            go_wp2
                                            repeat (go_quiet (fail); try go_wp2)
                                            go_roundg k5
                                            case measure => have := HJ4.out; have := HK2.out; have := HK3.out; have := HK4.out; have := HK5.out; omega
                                            case rel => exact ⟨(wrap64 (x78_5 + 1)), (by first | rfl | (simp; done) | (simp [*]; done)), H', ⟨by have := HJ4.out; have := HK2.out; have := HK3.out; have := HK4.out; have := HK5.out; omega⟩, ⟨by (with_reducible repeat (first | refine blk_drewN ?_ _ | refine blk_drew ?_ | refine blk_alloc ?_ _)); exact BK161.out⟩, ⟨by repeat (first | (with_reducible first | exact HB.out | apply below_alloc | apply pw_below_drewN | apply below_drew1 | refine below_set ?_ GE161.out) | exact HB.out)⟩⟩
                                        · rw [if_neg c42] at H
                                          exact absurd H (by simp)
                                      · rw [if_neg c41] at H
                                        exact absurd H (by simp)
                                    · rw [if_neg c40] at H
                                      exact absurd H (by simp)
                                  · rw [if_neg c39] at H
                                    exact absurd H (by simp)
                                · rw [if_neg c38] at H
                                  have c38b0 : decide (x78_5 < x74_4) = false := decide_eq_false c38
                                  clear c38
                                  have H' := Aside0.mk H
                                  clear H
                                  go_wp2
                                  repeat (go_quiet (fail); try go_wp2)
                                  go_roundg k5
                                  case measure => have := HJ4.out; have := HK2.out; have := HK3.out; have := HK4.out; have := HK5.out; omega
                                  case rel => exact ⟨(wrap64 (x74_4 + 1)), (by first | rfl | (simp; done) | (simp [*]; done)), H', ⟨by have := HJ4.out; have := HK2.out; have := HK3.out; have := HK4.out; have := HK5.out; omega⟩, ⟨by (with_reducible repeat (first | refine blk_drewN ?_ _ | refine blk_drew ?_ | refine blk_alloc ?_ _)); exact BK161.out⟩, ⟨by repeat (first | (with_reducible first | exact HB.out | apply below_alloc | apply pw_below_drewN | apply below_drew1 | refine below_set ?_ GE161.out) | exact HB.out)⟩⟩
                          · rw [if_neg c37] at H
                            have c37b0 : decide (x74_4 < (l0_2.length : Int)) = false := decide_eq_false c37
                            clear c37
                            have H' := Aside0.mk H
                            clear H
                            have hcz46_0 : wr.cell? ⟨gb161, 0, none⟩ = some (.string a0_0) := (blk_cell BK161.out 0).trans rfl
                            have hcz46_1 : wr.cell? ⟨gb161, 1, none⟩ = some (.slice A0_1 l0_1.length c0_1) := (blk_cell BK161.out 1).trans rfl
                            have hcz46_2 : wr.cell? ⟨gb161, 2, none⟩ = some (.slice A0_2 l0_2.length c0_2) := (blk_cell BK161.out 2).trans rfl
                            have hfz46_0 := blk_frozen BK161.out 0
                            have hfz46_1 := blk_frozen BK161.out 1
                            have hfz46_2 := blk_frozen BK161.out 2
                            go_wp2
                            repeat (go_quiet (fail); try go_wp2)
                            go_loopg [99] k4 (fun kq v99 w' => ∃ (x99_5 : Int), v99 = .int .i64 x99_5 ∧ Aside0 (arboretref01_wrong.l5 kq a1 (l0_2.length : Int) x99_5 a0_0 l0_1 l0_2 = some r) ∧ Aside0 (kq ≤ k4) ∧ Aside0 (w'.heap[gb161]? = some (.cells #[.string a0_0, (.slice A0_1 l0_1.length c0_1), (.slice A0_2 l0_2.length c0_2)] 27 (0, 0))) ∧ Aside0 (Below w.heap.size w w'))
                            case atStart => exact ⟨(0), (by first | rfl | (simp; done) | (simp [*]; done)), H', ⟨Nat.le_refl _⟩, ⟨by (with_reducible repeat (first | refine blk_drewN ?_ _ | refine blk_drew ?_ | refine blk_alloc ?_ _)); exact BK161.out⟩, ⟨by repeat (first | (with_reducible first | exact HB.out | apply below_alloc | apply pw_below_drewN | apply below_drew1 | refine below_set ?_ GE161.out) | exact HB.out)⟩⟩
                            case round =>
                              clear H'
                              try clear c1
                              try clear p1
                              try clear q1
                              try clear hx1
                              try clear c2
                              try clear p2
                              try clear c3
                              try clear c3b0
                              try clear c4
                              try clear p6
                              try clear c7
                              try clear c7b0
                              try clear c7b1
                              try clear c8
                              try clear c8b0
                              try clear c8b1
                              try clear c9
                              try clear c9b0
                              try clear c12
                              try clear c14
                              try clear c14b0
                              try clear c16
                              try clear p16
                              try clear q16
                              try clear hx16
                              try clear c17
                              try clear c19
                              try clear c19b0
                              try clear c20
                              try clear c20b0
                              try clear c21
                              try clear c21b0
                              try clear c23
                              try clear c27
                              try clear c27b0
                              try clear c28
                              try clear c28b0
                              try clear c29
                              try clear c29b0
                              try clear c30
                              try clear c30b0
                              try clear c31
                              try clear c31b0
                              try clear c32
                              try clear c32b0
                              try clear c33
                              try clear c33b0
                              try clear c33b1
                              try clear c37
                              try clear c37b0
                              try clear c38
                              try clear c38b0
                              try clear c39
                              try clear c39b0
                              try clear c40
                              try clear c40b0
                              try clear c41
                              try clear c41b0
                              try clear c42
                              try clear c42b0
                              try clear c43
                              try clear c43b0
                              try clear c43b1
                              try clear hcz11_0
                              try clear hcz11_1
                              try clear hcz11_2
                              try clear hcz12_0
                              try clear hcz12_1
                              try clear hcz12_2
                              try clear hcz13_0
                              try clear hcz13_1
                              try clear hcz13_2
                              try clear hcz16_0
                              try clear hcz16_1
                              try clear hcz16_2
                              try clear hcz18_0
                              try clear hcz18_1
                              try clear hcz18_2
                              try clear hcz24_0
                              try clear hcz24_1
                              try clear hcz24_2
                              try clear hcz25_0
                              try clear hcz25_1
                              try clear hcz25_2
                              try clear hcz26_0
                              try clear hcz26_1
                              try clear hcz26_2
                              try clear hcz34_0
                              try clear hcz34_1
                              try clear hcz34_2
                              try clear hcz35_0
                              try clear hcz35_1
                              try clear hcz35_2
                              try clear hcz36_0
                              try clear hcz36_1
                              try clear hcz36_2
                              try clear hcz44_0
                              try clear hcz44_1
                              try clear hcz44_2
                              try clear hcz45_0
                              try clear hcz45_1
                              try clear hcz45_2
                              try clear hcz46_0
                              try clear hcz46_1
                              try clear hcz46_2
                              try clear hfz11_0
                              try clear hfz11_1
                              try clear hfz11_2
                              try clear hfz12_0
                              try clear hfz12_1
                              try clear hfz12_2
                              try clear hfz13_0
                              try clear hfz13_1
                              try clear hfz13_2
                              try clear hfz16_0
                              try clear hfz16_1
                              try clear hfz16_2
                              try clear hfz18_0
                              try clear hfz18_1
                              try clear hfz18_2
                              try clear hfz24_0
                              try clear hfz24_1
                              try clear hfz24_2
                              try clear hfz25_0
                              try clear hfz25_1
                              try clear hfz25_2
                              try clear hfz26_0
                              try clear hfz26_1
                              try clear hfz26_2
                              try clear hfz34_0
                              try clear hfz34_1
                              try clear hfz34_2
                              try clear hfz35_0
                              try clear hfz35_1
                              try clear hfz35_2
                              try clear hfz36_0
                              try clear hfz36_1
                              try clear hfz36_2
                              try clear hfz44_0
                              try clear hfz44_1
                              try clear hfz44_2
                              try clear hfz45_0
                              try clear hfz45_1
                              try clear hfz45_2
                              try clear hfz46_0
                              try clear hfz46_1
                              try clear hfz46_2
                              try clear hx164_0
                              try clear hx164_1
                              try clear hx166_0
                              try clear hx166_1
                              try clear hx167_0
                              try clear hx167_1
                              try clear hx168_0
                              try clear hx168_1
                              try clear hx168_2
                              try clear hx169_0
                              try clear hx169_1
                              try clear hx169_2
                              try clear p1
                              try clear p16
                              try clear p164
                              try clear p166
                              try clear p167
                              try clear p168
                              try clear p169
                              try clear p2
                              try clear p6
                              try clear q1
                              try clear q16
                              try clear q164
                              try clear q166
                              try clear q167
                              try clear q168
                              try clear q169
                              obtain ⟨x99_5, rfl, HA, HK5, BK161, HB⟩ := hrel
                              cases gk with
                              | zero => exact absurd HA.out (by simp [arboretref01_wrong.l5])
                              | succ k5 =>
                                have H := HA.out
                                clear HA
                                simp only [arboretref01_wrong.l5] at H
                                by_cases c47 : x99_5 < (l0_2.length : Int)
                                · rw [if_pos c47] at H
                                  have c47b0 : decide (x99_5 < (l0_2.length : Int)) = true := decide_eq_true c47
                                  clear c47
                                  by_cases c48 : 0 ≤ x99_5
                                  · rw [if_pos c48] at H
                                    have c48b0 : decide (0 ≤ x99_5) = true := decide_eq_true c48
                                    clear c48
                                    by_cases c49 : x99_5 < (l0_2.length : Int)
                                    · rw [if_pos c49] at H
                                      have c49b0 : decide (x99_5 < (l0_2.length : Int)) = true := decide_eq_true c49
                                      clear c49
                                      replace H := Option.bind_eq_some_iff.mp H
                                      obtain ⟨t171, A500, H⟩ := H
                                      replace H : (if t171 = 0 then (arboretref01_wrong.l5 k5 a1 (l0_2.length : Int) (wrap64 (x99_5 + 1)) a0_0 l0_1 l0_2) else (some t171)) = some r := H
                                      have A50 := Aside0.mk A500
                                      clear A500
                                      by_cases c51 : t171 = 0
                                      · rw [if_pos c51] at H
                                        have c51b0 : (t171 == 0) = true := beq_iff_eq.mpr c51
                                        have c51b1 : (t171 != 0) = false := bne_eq_false_iff_eq.mpr c51
                                        clear c51
                                        have H' := Aside0.mk H
                                        clear H
                                        have hcz52_0 : wr.cell? ⟨gb161, 0, none⟩ = some (.string a0_0) := (blk_cell BK161.out 0).trans rfl
                                        have hcz52_1 : wr.cell? ⟨gb161, 1, none⟩ = some (.slice A0_1 l0_1.length c0_1) := (blk_cell BK161.out 1).trans rfl
                                        have hcz52_2 : wr.cell? ⟨gb161, 2, none⟩ = some (.slice A0_2 l0_2.length c0_2) := (blk_cell BK161.out 2).trans rfl
                                        have hfz52_0 := blk_frozen BK161.out 0
                                        have hfz52_1 := blk_frozen BK161.out 1
                                        have hfz52_2 := blk_frozen BK161.out 2
                                        have p170 : 0 ≤ (x99_5 : Int) := of_decide_eq_true (by first | (with_reducible assumption) | assumption)
                                        have q170 : x99_5 < (l0_2.length : Int) := of_decide_eq_true (by first | (with_reducible assumption) | assumption)
                                        obtain ⟨ad170, A170_1, c170_1, A170_2, c170_2, e170, hx170_0, hx170_1, hx170_2, hl170_1, hi170_1, hl170_2, hi170_2⟩ := at_T27 HR0_2.out x99_5 p170 q170
                                        cases e170
                                        replace hx170_0 := (HB.out.cell (World.block_lt_of_cell? w _ hx170_0)).trans hx170_0
                                        replace hx170_1 := (HB.out.cell (World.block_lt_of_cell? w _ hx170_1)).trans hx170_1
                                        replace hx170_2 := (HB.out.cell (World.block_lt_of_cell? w _ hx170_2)).trans hx170_2
                                        have HR170_1 := Aside0.mk hi170_1
                                        have HC170_1 := Aside0.mk hl170_1
                                        clear hi170_1 hl170_1
                                        have HR170_2 := Aside0.mk hi170_2
                                        have HC170_2 := Aside0.mk hl170_2
                                        clear hi170_2 hl170_2
                                        replace p170 := eq_true p170
                                        replace q170 := eq_true q170
                                        go_wp2_with (first | (go_at_call 12; (with_reducible refine (ih k5 (by have := HJ4.out; have := HK2.out; have := HK3.out; have := HK4.out; have := HK5.out; omega) ((rd_T27 l0_2 x99_5).f0) _ _ ((rd_T27 l0_2 x99_5).f1) _ _ ((rd_T27 l0_2 x99_5).f2) (wrap64 (a1 + 1)) t171 _ ?side1 ?side2 ?side3 ?side4 A50.out).mono ?_); (case side1 => repeat (first | exact (Kd.C_below HR170_1.out HB.out) | (with_reducible refine Kd.C_alloc ?_ _) | (with_reducible refine Kd.C_drewN ?_ _) | (with_reducible refine Kd.C_drew ?_))); (case side2 => exact HC170_1.out); (case side3 => repeat (first | exact (Kd.C_below HR170_2.out HB.out) | (with_reducible refine Kd.C_alloc ?_ _) | (with_reducible refine Kd.C_drewN ?_ _) | (with_reducible refine Kd.C_drew ?_))); (case side4 => exact HC170_2.out); rintro e w53 ⟨rfl, hb⟩; have n0_ := Aside0.mk (blk_below (g := gb161) (o := .cells #[.string a0_0, .slice A0_1 l0_1.length c0_1, .slice (some ad170) l0_2.length c0_2] 27 (0, 0)) (by (with_reducible repeat (first | refine blk_drewN ?_ _ | refine blk_drew ?_ | refine blk_alloc ?_ _)); exact BK161.out) hb); have n1_ := Aside0.mk (below_step (by repeat (first | (with_reducible first | exact HB.out | apply below_alloc | apply pw_below_drewN | apply below_drew1 | refine below_set ?_ GE161.out) | exact HB.out)) hb); clear BK161; clear HB; have BK161 := n0_; have HB := n1_; clear n0_ n1_; (try clear hb); (try clear hb2); (try clear hk); (try clear hi)))
                                        repeat (go_quiet (first | (go_at_call 12; (with_reducible refine (ih k5 (by have := HJ4.out; have := HK2.out; have := HK3.out; have := HK4.out; have := HK5.out; omega) ((rd_T27 l0_2 x99_5).f0) _ _ ((rd_T27 l0_2 x99_5).f1) _ _ ((rd_T27 l0_2 x99_5).f2) (wrap64 (a1 + 1)) t171 _ ?side1 ?side2 ?side3 ?side4 A50.out).mono ?_); (case side1 => repeat (first | exact (Kd.C_below HR170_1.out HB.out) | (with_reducible refine Kd.C_alloc ?_ _) | (with_reducible refine Kd.C_drewN ?_ _) | (with_reducible refine Kd.C_drew ?_))); (case side2 => exact HC170_1.out); (case side3 => repeat (first | exact (Kd.C_below HR170_2.out HB.out) | (with_reducible refine Kd.C_alloc ?_ _) | (with_reducible refine Kd.C_drewN ?_ _) | (with_reducible refine Kd.C_drew ?_))); (case side4 => exact HC170_2.out); rintro e w53 ⟨rfl, hb⟩; have n0_ := Aside0.mk (blk_below (g := gb161) (o := .cells #[.string a0_0, .slice A0_1 l0_1.length c0_1, .slice (some ad170) l0_2.length c0_2] 27 (0, 0)) (by (with_reducible repeat (first | refine blk_drewN ?_ _ | refine blk_drew ?_ | refine blk_alloc ?_ _)); exact BK161.out) hb); have n1_ := Aside0.mk (below_step (by repeat (first | (with_reducible first | exact HB.out | apply below_alloc | apply pw_below_drewN | apply below_drew1 | refine below_set ?_ GE161.out) | exact HB.out)) hb); clear BK161; clear HB; have BK161 := n0_; have HB := n1_; clear n0_ n1_; (try clear hb); (try clear hb2); (try clear hk); (try clear hi))); try go_wp2_with (first | (go_at_call 12; (with_reducible refine (ih k5 (by have := HJ4.out; have := HK2.out; have := HK3.out; have := HK4.out; have := HK5.out; omega) ((rd_T27 l0_2 x99_5).f0) _ _ ((rd_T27 l0_2 x99_5).f1) _ _ ((rd_T27 l0_2 x99_5).f2) (wrap64 (a1 + 1)) t171 _ ?side1 ?side2 ?side3 ?side4 A50.out).mono ?_); (case side1 => repeat (first | exact (Kd.C_below HR170_1.out HB.out) | (with_reducible refine Kd.C_alloc ?_ _) | (with_reducible refine Kd.C_drewN ?_ _) | (with_reducible refine Kd.C_drew ?_))); (case side2 => exact HC170_1.out); (case side3 => repeat (first | exact (Kd.C_below HR170_2.out HB.out) | (with_reducible refine Kd.C_alloc ?_ _) | (with_reducible refine Kd.C_drewN ?_ _) | (with_reducible refine Kd.C_drew ?_))); (case side4 => exact HC170_2.out); rintro e w53 ⟨rfl, hb⟩; have n0_ := Aside0.mk (blk_below (g := gb161) (o := .cells #[.string a0_0, .slice A0_1 l0_1.length c0_1, .slice (some ad170) l0_2.length c0_2] 27 (0, 0)) (by (with_reducible repeat (first | refine blk_drewN ?_ _ | refine blk_drew ?_ | refine blk_alloc ?_ _)); exact BK161.out) hb); have n1_ := Aside0.mk (below_step (by repeat (first | (with_reducible first | exact HB.out | apply below_alloc | apply pw_below_drewN | apply below_drew1 | refine below_set ?_ GE161.out) | exact HB.out)) hb); clear BK161; clear HB; have BK161 := n0_; have HB := n1_; clear n0_ n1_; (try clear hb); (try clear hb2); (try clear hk); (try clear hi))))
                                        go_roundg k5
                                        case measure => have := HJ4.out; have := HK2.out; have := HK3.out; have := HK4.out; have := HK5.out; omega
                                        case rel => exact ⟨(wrap64 (x99_5 + 1)), (by first | rfl | (simp; done) | (simp [*]; done)), H', ⟨by have := HJ4.out; have := HK2.out; have := HK3.out; have := HK4.out; have := HK5.out; omega⟩, ⟨by (with_reducible repeat (first | refine blk_drewN ?_ _ | refine blk_drew ?_ | refine blk_alloc ?_ _)); exact BK161.out⟩, ⟨by repeat (first | (with_reducible first | exact HB.out | apply below_alloc | apply pw_below_drewN | apply below_drew1 | refine below_set ?_ GE161.out) | exact HB.out)⟩⟩
                                      · rw [if_neg c51] at H
                                        have c51b0 : (t171 == 0) = false := beq_eq_false_iff_ne.mpr c51
                                        have c51b1 : (t171 != 0) = true := bne_iff_ne.mpr c51
                                        obtain rfl := Option.some.inj H
                                        have hcz54_0 : wr.cell? ⟨gb161, 0, none⟩ = some (.string a0_0) := (blk_cell BK161.out 0).trans rfl
                                        have hcz54_1 : wr.cell? ⟨gb161, 1, none⟩ = some (.slice A0_1 l0_1.length c0_1) := (blk_cell BK161.out 1).trans rfl
                                        have hcz54_2 : wr.cell? ⟨gb161, 2, none⟩ = some (.slice A0_2 l0_2.length c0_2) := (blk_cell BK161.out 2).trans rfl
                                        have hfz54_0 := blk_frozen BK161.out 0
                                        have hfz54_1 := blk_frozen BK161.out 1
                                        have hfz54_2 := blk_frozen BK161.out 2
                                        have p170 : 0 ≤ (x99_5 : Int) := of_decide_eq_true (by first | (with_reducible assumption) | assumption)
                                        have q170 : x99_5 < (l0_2.length : Int) := of_decide_eq_true (by first | (with_reducible assumption) | assumption)
                                        obtain ⟨ad170, A170_1, c170_1, A170_2, c170_2, e170, hx170_0, hx170_1, hx170_2, hl170_1, hi170_1, hl170_2, hi170_2⟩ := at_T27 HR0_2.out x99_5 p170 q170
                                        cases e170
                                        replace hx170_0 := (HB.out.cell (World.block_lt_of_cell? w _ hx170_0)).trans hx170_0
                                        replace hx170_1 := (HB.out.cell (World.block_lt_of_cell? w _ hx170_1)).trans hx170_1
                                        replace hx170_2 := (HB.out.cell (World.block_lt_of_cell? w _ hx170_2)).trans hx170_2
                                        have HR170_1 := Aside0.mk hi170_1
                                        have HC170_1 := Aside0.mk hl170_1
                                        clear hi170_1 hl170_1
                                        have HR170_2 := Aside0.mk hi170_2
                                        have HC170_2 := Aside0.mk hl170_2
                                        clear hi170_2 hl170_2
                                        replace p170 := eq_true p170
                                        replace q170 := eq_true q170
                                        go_wp2_with (first | (go_at_call 12; (with_reducible refine (ih k5 (by have := HJ4.out; have := HK2.out; have := HK3.out; have := HK4.out; have := HK5.out; omega) ((rd_T27 l0_2 x99_5).f0) _ _ ((rd_T27 l0_2 x99_5).f1) _ _ ((rd_T27 l0_2 x99_5).f2) (wrap64 (a1 + 1)) t171 _ ?side1 ?side2 ?side3 ?side4 A50.out).mono ?_); (case side1 => repeat (first | exact (Kd.C_below HR170_1.out HB.out) | (with_reducible refine Kd.C_alloc ?_ _) | (with_reducible refine Kd.C_drewN ?_ _) | (with_reducible refine Kd.C_drew ?_))); (case side2 => exact HC170_1.out); (case side3 => repeat (first | exact (Kd.C_below HR170_2.out HB.out) | (with_reducible refine Kd.C_alloc ?_ _) | (with_reducible refine Kd.C_drewN ?_ _) | (with_reducible refine Kd.C_drew ?_))); (case side4 => exact HC170_2.out); rintro e w55 ⟨rfl, hb⟩; have n0_ := Aside0.mk (blk_below (g := gb161) (o := .cells #[.string a0_0, .slice A0_1 l0_1.length c0_1, .slice (some ad170) l0_2.length c0_2] 27 (0, 0)) (by (with_reducible repeat (first | refine blk_drewN ?_ _ | refine blk_drew ?_ | refine blk_alloc ?_ _)); exact BK161.out) hb); have n1_ := Aside0.mk (below_step (by repeat (first | (with_reducible first | exact HB.out | apply below_alloc | apply pw_below_drewN | apply below_drew1 | refine below_set ?_ GE161.out) | exact HB.out)) hb); clear BK161; clear HB; have BK161 := n0_; have HB := n1_; clear n0_ n1_; (try clear hb); (try clear hb2); (try clear hk); (try clear hi)))
                                        repeat (go_quiet (first | (go_at_call 12; (with_reducible refine (ih k5 (by have := HJ4.out; have := HK2.out; have := HK3.out; have := HK4.out; have := HK5.out; omega) ((rd_T27 l0_2 x99_5).f0) _ _ ((rd_T27 l0_2 x99_5).f1) _ _ ((rd_T27 l0_2 x99_5).f2) (wrap64 (a1 + 1)) t171 _ ?side1 ?side2 ?side3 ?side4 A50.out).mono ?_); (case side1 => repeat (first | exact (Kd.C_below HR170_1.out HB.out) | (with_reducible refine Kd.C_alloc ?_ _) | (with_reducible refine Kd.C_drewN ?_ _) | (with_reducible refine Kd.C_drew ?_))); (case side2 => exact HC170_1.out); (case side3 => repeat (first | exact (Kd.C_below HR170_2.out HB.out) | (with_reducible refine Kd.C_alloc ?_ _) | (with_reducible refine Kd.C_drewN ?_ _) | (with_reducible refine Kd.C_drew ?_))); (case side4 => exact HC170_2.out); rintro e w55 ⟨rfl, hb⟩; have n0_ := Aside0.mk (blk_below (g := gb161) (o := .cells #[.string a0_0, .slice A0_1 l0_1.length c0_1, .slice (some ad170) l0_2.length c0_2] 27 (0, 0)) (by (with_reducible repeat (first | refine blk_drewN ?_ _ | refine blk_drew ?_ | refine blk_alloc ?_ _)); exact BK161.out) hb); have n1_ := Aside0.mk (below_step (by repeat (first | (with_reducible first | exact HB.out | apply below_alloc | apply pw_below_drewN | apply below_drew1 | refine below_set ?_ GE161.out) | exact HB.out)) hb); clear BK161; clear HB; have BK161 := n0_; have HB := n1_; clear n0_ n1_; (try clear hb); (try clear hb2); (try clear hk); (try clear hi))); try go_wp2_with (first | (go_at_call 12; (with_reducible refine (ih k5 (by have := HJ4.out; have := HK2.out; have := HK3.out; have := HK4.out; have := HK5.out; omega) ((rd_T27 l0_2 x99_5).f0) _ _ ((rd_T27 l0_2 x99_5).f1) _ _ ((rd_T27 l0_2 x99_5).f2) (wrap64 (a1 + 1)) t171 _ ?side1 ?side2 ?side3 ?side4 A50.out).mono ?_); (case side1 => repeat (first | exact (Kd.C_below HR170_1.out HB.out) | (with_reducible refine Kd.C_alloc ?_ _) | (with_reducible refine Kd.C_drewN ?_ _) | (with_reducible refine Kd.C_drew ?_))); (case side2 => exact HC170_1.out); (case side3 => repeat (first | exact (Kd.C_below HR170_2.out HB.out) | (with_reducible refine Kd.C_alloc ?_ _) | (with_reducible refine Kd.C_drewN ?_ _) | (with_reducible refine Kd.C_drew ?_))); (case side4 => exact HC170_2.out); rintro e w55 ⟨rfl, hb⟩; have n0_ := Aside0.mk (blk_below (g := gb161) (o := .cells #[.string a0_0, .slice A0_1 l0_1.length c0_1, .slice (some ad170) l0_2.length c0_2] 27 (0, 0)) (by (with_reducible repeat (first | refine blk_drewN ?_ _ | refine blk_drew ?_ | refine blk_alloc ?_ _)); exact BK161.out) hb); have n1_ := Aside0.mk (below_step (by repeat (first | (with_reducible first | exact HB.out | apply below_alloc | apply pw_below_drewN | apply below_drew1 | refine below_set ?_ GE161.out) | exact HB.out)) hb); clear BK161; clear HB; have BK161 := n0_; have HB := n1_; clear n0_ n1_; (try clear hb); (try clear hb2); (try clear hk); (try clear hi))))
                                        go_ret
                                        exact ⟨by first | rfl | (simp [errW_none, errW_some] <;> rfl) | (simp [*, errW_none, errW_some] <;> rfl), by repeat (first | (with_reducible first | exact HB.out | apply below_alloc | apply pw_below_drewN | apply below_drew1 | refine below_set ?_ GE161.out) | exact HB.out)⟩
                                    · rw [if_neg c49] at H
                                      exact absurd H (by simp)
                                  · rw [if_neg c48] at H
                                    exact absurd H (by simp)
                                · rw [if_neg c47] at H
                                  have c47b0 : decide (x99_5 < (l0_2.length : Int)) = false := decide_eq_false c47
                                  clear c47
                                  obtain rfl := Option.some.inj H
                                  go_wp2
                                  repeat (go_quiet (fail); try go_wp2)
                                  go_ret
                                  exact ⟨by first | rfl | (simp [errW_none, errW_some] <;> rfl) | (simp [*, errW_none, errW_some] <;> rfl), by repeat (first | (with_reducible first | exact HB.out | apply below_alloc | apply pw_below_drewN | apply below_drew1 | refine below_set ?_ GE161.out) | exact HB.out)⟩
end Go.Proofs.YtkopmkinlanhoaaDoor.PP

namespace Go.Proofs.YtkopmkinlanhoaaDoor.PP
open Go.RowKit Go.Proofs.YtkopmkinlanhoaaDoorW.PrintWords Go.Proofs.YtkopmkinlanhoaaDoorW.PrintLast Go.Proofs.YtkopmkinlanhoaaDoorW.PrintMore
attribute [local go_sem] max2_int min2_int max_two min_two max_three min_three max_four min_four   -- for this text's walks alone
set_option linter.unusedVariables false
set_option linter.unusedSimpArgs false
mutual
def arboretref01_Count.l0 : Nat → Int → Int → Int → Int → ByteArray → List (S62) → List (S27) → Option (Int × Int)
  | 0, _, _, _, _, _, _, _ => none
  | k + 1, x4, x5, x14, x15, x173000, x173001, x173002 => if x15 < x14 then (if 0 ≤ x15 then (if x15 < (x173002.length : Int) then ((arboretref01_Count.f k ((rd_T27 x173002 x15).f0) ((rd_T27 x173002 x15).f1) ((rd_T27 x173002 x15).f2)).bind fun bt174 => (arboretref01_Count.l0 k (wrap64 (x4 + bt174.1)) (wrap64 (x5 + bt174.2)) x14 (wrap64 (x15 + 1)) x173000 x173001 x173002)) else (none)) else (none)) else (some (x4, x5))
def arboretref01_Count.f : Nat → ByteArray → List (S62) → List (S27) → Option (Int × Int)
  | 0, _, _, _ => none
  | k + 1, a0_0, l0_1, l0_2 => arboretref01_Count.l0 k 1 (l0_1.length : Int) (l0_2.length : Int) 0 a0_0 l0_1 l0_2
end
set_option maxHeartbeats 8000000 in
set_option maxRecDepth 100000 in
theorem arboretref01_Count.calls (k : Nat) : ∀ (a0_0 : ByteArray) (A0_1 : Option Addr) (c0_1 : Nat) (l0_1 : List (S62)) (A0_2 : Option Addr) (c0_2 : Nat) (l0_2 : List (S27)) (r1 : Int) (r2 : Int) (w : World) (hr0_1 : Kd.C k62 w A0_1 l0_1.length l0_1) (hc0_1 : l0_1.length ≤ c0_1) (hr0_2 : Kd.C k27 w A0_2 l0_2.length l0_2) (hc0_2 : l0_2.length ≤ c0_2) (h : arboretref01_Count.f k a0_0 l0_1 l0_2 = some (r1, r2)),
    Calls Tryd.prog 13 #[.agg #[.string a0_0, .slice A0_1 l0_1.length c0_1, .slice A0_2 l0_2.length c0_2]] w fun e w' => e = .returned (.tuple #[.int .i64 r1, .int .i64 r2]) ∧ Below w.heap.size w w' := by
  induction k using Nat.strongRecOn with
  | _ k ih =>
  intro a0_0 A0_1 c0_1 l0_1 A0_2 c0_2 l0_2 r1 r2 w hr0_1 hc0_1 hr0_2 hc0_2 h
  cases k with
  | zero => exact absurd h (by simp [arboretref01_Count.f])
  | succ k =>
  simp only [arboretref01_Count.f] at h
  have hu27 := Tryd.underlying27
  have HR0_1 := Aside0.mk hr0_1
  have HC0_1 := Aside0.mk hc0_1
  clear hr0_1 hc0_1
  have HR0_2 := Aside0.mk hr0_2
  have HC0_2 := Aside0.mk hc0_2
  clear hr0_2 hc0_2
  have HB := Aside0.mk (Below.refl w.heap.size w)
  have H : (arboretref01_Count.l0 k 1 (l0_1.length : Int) (l0_2.length : Int) 0 a0_0 l0_1 l0_2) = some (r1, r2) := h
  clear h
  have H' := Aside0.mk H
  clear H
  go_enter Tryd.func13, Tryd.ntmps13
  go_wp2_with (first | ((with_reducible refine gate_dst (N := 1) rfl ?_); refine box_event ?hg (N := 1) ?hd (cs := #[.string a0_0, .slice A0_1 l0_1.length c0_1, .slice A0_2 l0_2.length c0_2]) (t := 27) ?hr ?_; (case hd => rfl); (case hg => rfl); (case hr => first | (go_simp; done) | (go_simp; rfl)); intro gb172 hg w2 hbox hb; have n0_ := Aside0.mk (below_step (by repeat (first | (with_reducible first | exact HB.out | apply below_alloc | apply pw_below_drewN | apply below_drew1) | exact HB.out)) hb); have n1_ := Aside0.mk (hbox); have n2_ := Aside0.mk ((by rw [hg]; exact (below_size (by repeat (first | (with_reducible first | exact HB.out | apply below_alloc | apply pw_below_drewN | apply below_drew1) | exact HB.out))) : w.heap.size ≤ gb172)); have n3_ := Aside0.mk ((by rw [hg]; exact (below_size (by repeat (first | (with_reducible first | exact HB.out | apply below_alloc | apply pw_below_drewN | apply below_drew1) | exact HB.out))) : w.heap.size ≤ gb172)); clear HB; have HB := n0_; have BK172 := n1_; have GW172 := n2_; have GE172 := n3_; clear n0_ n1_ n2_ n3_; clear hb hbox hg; have hcz3_0 : w2.cell? ⟨gb172, 0, none⟩ = some (.string a0_0) := (blk_cell BK172.out 0).trans rfl; have hcz3_1 : w2.cell? ⟨gb172, 1, none⟩ = some (.slice A0_1 l0_1.length c0_1) := (blk_cell BK172.out 1).trans rfl; have hcz3_2 : w2.cell? ⟨gb172, 2, none⟩ = some (.slice A0_2 l0_2.length c0_2) := (blk_cell BK172.out 2).trans rfl; have hfz3_0 := blk_frozen BK172.out 0; have hfz3_1 := blk_frozen BK172.out 1; have hfz3_2 := blk_frozen BK172.out 2))
  repeat (go_quiet (first | ((with_reducible refine gate_dst (N := 1) rfl ?_); refine box_event ?hg (N := 1) ?hd (cs := #[.string a0_0, .slice A0_1 l0_1.length c0_1, .slice A0_2 l0_2.length c0_2]) (t := 27) ?hr ?_; (case hd => rfl); (case hg => rfl); (case hr => first | (go_simp; done) | (go_simp; rfl)); intro gb172 hg w2 hbox hb; have n0_ := Aside0.mk (below_step (by repeat (first | (with_reducible first | exact HB.out | apply below_alloc | apply pw_below_drewN | apply below_drew1) | exact HB.out)) hb); have n1_ := Aside0.mk (hbox); have n2_ := Aside0.mk ((by rw [hg]; exact (below_size (by repeat (first | (with_reducible first | exact HB.out | apply below_alloc | apply pw_below_drewN | apply below_drew1) | exact HB.out))) : w.heap.size ≤ gb172)); have n3_ := Aside0.mk ((by rw [hg]; exact (below_size (by repeat (first | (with_reducible first | exact HB.out | apply below_alloc | apply pw_below_drewN | apply below_drew1) | exact HB.out))) : w.heap.size ≤ gb172)); clear HB; have HB := n0_; have BK172 := n1_; have GW172 := n2_; have GE172 := n3_; clear n0_ n1_ n2_ n3_; clear hb hbox hg; have hcz3_0 : w2.cell? ⟨gb172, 0, none⟩ = some (.string a0_0) := (blk_cell BK172.out 0).trans rfl; have hcz3_1 : w2.cell? ⟨gb172, 1, none⟩ = some (.slice A0_1 l0_1.length c0_1) := (blk_cell BK172.out 1).trans rfl; have hcz3_2 : w2.cell? ⟨gb172, 2, none⟩ = some (.slice A0_2 l0_2.length c0_2) := (blk_cell BK172.out 2).trans rfl; have hfz3_0 := blk_frozen BK172.out 0; have hfz3_1 := blk_frozen BK172.out 1; have hfz3_2 := blk_frozen BK172.out 2)); try go_wp2_with (first | ((with_reducible refine gate_dst (N := 1) rfl ?_); refine box_event ?hg (N := 1) ?hd (cs := #[.string a0_0, .slice A0_1 l0_1.length c0_1, .slice A0_2 l0_2.length c0_2]) (t := 27) ?hr ?_; (case hd => rfl); (case hg => rfl); (case hr => first | (go_simp; done) | (go_simp; rfl)); intro gb172 hg w2 hbox hb; have n0_ := Aside0.mk (below_step (by repeat (first | (with_reducible first | exact HB.out | apply below_alloc | apply pw_below_drewN | apply below_drew1) | exact HB.out)) hb); have n1_ := Aside0.mk (hbox); have n2_ := Aside0.mk ((by rw [hg]; exact (below_size (by repeat (first | (with_reducible first | exact HB.out | apply below_alloc | apply pw_below_drewN | apply below_drew1) | exact HB.out))) : w.heap.size ≤ gb172)); have n3_ := Aside0.mk ((by rw [hg]; exact (below_size (by repeat (first | (with_reducible first | exact HB.out | apply below_alloc | apply pw_below_drewN | apply below_drew1) | exact HB.out))) : w.heap.size ≤ gb172)); clear HB; have HB := n0_; have BK172 := n1_; have GW172 := n2_; have GE172 := n3_; clear n0_ n1_ n2_ n3_; clear hb hbox hg; have hcz3_0 : w2.cell? ⟨gb172, 0, none⟩ = some (.string a0_0) := (blk_cell BK172.out 0).trans rfl; have hcz3_1 : w2.cell? ⟨gb172, 1, none⟩ = some (.slice A0_1 l0_1.length c0_1) := (blk_cell BK172.out 1).trans rfl; have hcz3_2 : w2.cell? ⟨gb172, 2, none⟩ = some (.slice A0_2 l0_2.length c0_2) := (blk_cell BK172.out 2).trans rfl; have hfz3_0 := blk_frozen BK172.out 0; have hfz3_1 := blk_frozen BK172.out 1; have hfz3_2 := blk_frozen BK172.out 2)))
  go_loopg [4, 5, 15] k (fun kq v4 v5 v15 w' => ∃ (x4_1 : Int) (x5_1 : Int) (x15_1 : Int), v4 = .int .i64 x4_1 ∧ v5 = .int .i64 x5_1 ∧ v15 = .int .i64 x15_1 ∧ Aside0 (arboretref01_Count.l0 kq x4_1 x5_1 (l0_2.length : Int) x15_1 a0_0 l0_1 l0_2 = some (r1, r2)) ∧ Aside0 (kq ≤ k) ∧ Aside0 (w'.heap[gb172]? = some (.cells #[.string a0_0, (.slice A0_1 l0_1.length c0_1), (.slice A0_2 l0_2.length c0_2)] 27 (0, 0))) ∧ Aside0 (Below w.heap.size w w'))
  case atStart => exact ⟨(1), ((l0_1.length : Int)), (0), (by first | rfl | (simp; done) | (simp [*]; done)), (by first | rfl | (simp; done) | (simp [*]; done)), (by first | rfl | (simp; done) | (simp [*]; done)), H', ⟨Nat.le_refl _⟩, ⟨by (with_reducible repeat (first | refine blk_drewN ?_ _ | refine blk_drew ?_ | refine blk_alloc ?_ _)); exact BK172.out⟩, ⟨by repeat (first | (with_reducible first | exact HB.out | apply below_alloc | apply pw_below_drewN | apply below_drew1 | refine below_set ?_ GE172.out) | exact HB.out)⟩⟩
  case round =>
    clear H'
    try clear c1
    try clear p2
    try clear hcz3_0
    try clear hcz3_1
    try clear hcz3_2
    try clear hfz3_0
    try clear hfz3_1
    try clear hfz3_2
    obtain ⟨x4_1, x5_1, x15_1, rfl, rfl, rfl, HA, HK1, BK172, HB⟩ := hrel
    cases gk with
    | zero => exact absurd HA.out (by simp [arboretref01_Count.l0])
    | succ k1 =>
      have H := HA.out
      clear HA
      simp only [arboretref01_Count.l0] at H
      by_cases c4 : x15_1 < (l0_2.length : Int)
      · rw [if_pos c4] at H
        have c4b0 : decide (x15_1 < (l0_2.length : Int)) = true := decide_eq_true c4
        clear c4
        by_cases c5 : 0 ≤ x15_1
        · rw [if_pos c5] at H
          have c5b0 : decide (0 ≤ x15_1) = true := decide_eq_true c5
          clear c5
          by_cases c6 : x15_1 < (l0_2.length : Int)
          · rw [if_pos c6] at H
            have c6b0 : decide (x15_1 < (l0_2.length : Int)) = true := decide_eq_true c6
            clear c6
            replace H := Option.bind_eq_some_iff.mp H
            obtain ⟨⟨t174, t175⟩, A70, H⟩ := H
            replace H : (arboretref01_Count.l0 k1 (wrap64 (x4_1 + t174)) (wrap64 (x5_1 + t175)) (l0_2.length : Int) (wrap64 (x15_1 + 1)) a0_0 l0_1 l0_2) = some (r1, r2) := H
            have A7 := Aside0.mk A70
            clear A70
            have H' := Aside0.mk H
            clear H
            have hcz8_0 : wr.cell? ⟨gb172, 0, none⟩ = some (.string a0_0) := (blk_cell BK172.out 0).trans rfl
            have hcz8_1 : wr.cell? ⟨gb172, 1, none⟩ = some (.slice A0_1 l0_1.length c0_1) := (blk_cell BK172.out 1).trans rfl
            have hcz8_2 : wr.cell? ⟨gb172, 2, none⟩ = some (.slice A0_2 l0_2.length c0_2) := (blk_cell BK172.out 2).trans rfl
            have hfz8_0 := blk_frozen BK172.out 0
            have hfz8_1 := blk_frozen BK172.out 1
            have hfz8_2 := blk_frozen BK172.out 2
            have p173 : 0 ≤ (x15_1 : Int) := of_decide_eq_true (by first | (with_reducible assumption) | assumption)
            have q173 : x15_1 < (l0_2.length : Int) := of_decide_eq_true (by first | (with_reducible assumption) | assumption)
            obtain ⟨ad173, A173_1, c173_1, A173_2, c173_2, e173, hx173_0, hx173_1, hx173_2, hl173_1, hi173_1, hl173_2, hi173_2⟩ := at_T27 HR0_2.out x15_1 p173 q173
            cases e173
            replace hx173_0 := (HB.out.cell (World.block_lt_of_cell? w _ hx173_0)).trans hx173_0
            replace hx173_1 := (HB.out.cell (World.block_lt_of_cell? w _ hx173_1)).trans hx173_1
            replace hx173_2 := (HB.out.cell (World.block_lt_of_cell? w _ hx173_2)).trans hx173_2
            have HR173_1 := Aside0.mk hi173_1
            have HC173_1 := Aside0.mk hl173_1
            clear hi173_1 hl173_1
            have HR173_2 := Aside0.mk hi173_2
            have HC173_2 := Aside0.mk hl173_2
            clear hi173_2 hl173_2
            replace p173 := eq_true p173
            replace q173 := eq_true q173
            go_wp2_with (first | (go_at_call 13; (with_reducible refine (ih k1 (by have := HK1.out; omega) ((rd_T27 l0_2 x15_1).f0) _ _ ((rd_T27 l0_2 x15_1).f1) _ _ ((rd_T27 l0_2 x15_1).f2) t174 t175 _ ?side1 ?side2 ?side3 ?side4 A7.out).mono ?_); (case side1 => repeat (first | exact (Kd.C_below HR173_1.out HB.out) | (with_reducible refine Kd.C_alloc ?_ _) | (with_reducible refine Kd.C_drewN ?_ _) | (with_reducible refine Kd.C_drew ?_))); (case side2 => exact HC173_1.out); (case side3 => repeat (first | exact (Kd.C_below HR173_2.out HB.out) | (with_reducible refine Kd.C_alloc ?_ _) | (with_reducible refine Kd.C_drewN ?_ _) | (with_reducible refine Kd.C_drew ?_))); (case side4 => exact HC173_2.out); rintro e w9 ⟨rfl, hb⟩; have n0_ := Aside0.mk (blk_below (g := gb172) (o := .cells #[.string a0_0, .slice A0_1 l0_1.length c0_1, .slice (some ad173) l0_2.length c0_2] 27 (0, 0)) (by (with_reducible repeat (first | refine blk_drewN ?_ _ | refine blk_drew ?_ | refine blk_alloc ?_ _)); exact BK172.out) hb); have n1_ := Aside0.mk (below_step (by repeat (first | (with_reducible first | exact HB.out | apply below_alloc | apply pw_below_drewN | apply below_drew1 | refine below_set ?_ GE172.out) | exact HB.out)) hb); clear BK172; clear HB; have BK172 := n0_; have HB := n1_; clear n0_ n1_; (try clear hb); (try clear hb2); (try clear hk); (try clear hi)))
            repeat (go_quiet (first | (go_at_call 13; (with_reducible refine (ih k1 (by have := HK1.out; omega) ((rd_T27 l0_2 x15_1).f0) _ _ ((rd_T27 l0_2 x15_1).f1) _ _ ((rd_T27 l0_2 x15_1).f2) t174 t175 _ ?side1 ?side2 ?side3 ?side4 A7.out).mono ?_); (case side1 => repeat (first | exact (Kd.C_below HR173_1.out HB.out) | (with_reducible refine Kd.C_alloc ?_ _) | (with_reducible refine Kd.C_drewN ?_ _) | (with_reducible refine Kd.C_drew ?_))); (case side2 => exact HC173_1.out); (case side3 => repeat (first | exact (Kd.C_below HR173_2.out HB.out) | (with_reducible refine Kd.C_alloc ?_ _) | (with_reducible refine Kd.C_drewN ?_ _) | (with_reducible refine Kd.C_drew ?_))); (case side4 => exact HC173_2.out); rintro e w9 ⟨rfl, hb⟩; have n0_ := Aside0.mk (blk_below (g := gb172) (o := .cells #[.string a0_0, .slice A0_1 l0_1.length c0_1, .slice (some ad173) l0_2.length c0_2] 27 (0, 0)) (by (with_reducible repeat (first | refine blk_drewN ?_ _ | refine blk_drew ?_ | refine blk_alloc ?_ _)); exact BK172.out) hb); have n1_ := Aside0.mk (below_step (by repeat (first | (with_reducible first | exact HB.out | apply below_alloc | apply pw_below_drewN | apply below_drew1 | refine below_set ?_ GE172.out) | exact HB.out)) hb); clear BK172; clear HB; have BK172 := n0_; have HB := n1_; clear n0_ n1_; (try clear hb); (try clear hb2); (try clear hk); (try clear hi))); try go_wp2_with (first | (go_at_call 13; (with_reducible refine (ih k1 (by have := HK1.out; omega) ((rd_T27 l0_2 x15_1).f0) _ _ ((rd_T27 l0_2 x15_1).f1) _ _ ((rd_T27 l0_2 x15_1).f2) t174 t175 _ ?side1 ?side2 ?side3 ?side4 A7.out).mono ?_); (case side1 => repeat (first | exact (Kd.C_below HR173_1.out HB.out) | (with_reducible refine Kd.C_alloc ?_ _) | (with_reducible refine Kd.C_drewN ?_ _) | (with_reducible refine Kd.C_drew ?_))); (case side2 => exact HC173_1.out); (case side3 => repeat (first | exact (Kd.C_below HR173_2.out HB.out) | (with_reducible refine Kd.C_alloc ?_ _) | (with_reducible refine Kd.C_drewN ?_ _) | (with_reducible refine Kd.C_drew ?_))); (case side4 => exact HC173_2.out); rintro e w9 ⟨rfl, hb⟩; have n0_ := Aside0.mk (blk_below (g := gb172) (o := .cells #[.string a0_0, .slice A0_1 l0_1.length c0_1, .slice (some ad173) l0_2.length c0_2] 27 (0, 0)) (by (with_reducible repeat (first | refine blk_drewN ?_ _ | refine blk_drew ?_ | refine blk_alloc ?_ _)); exact BK172.out) hb); have n1_ := Aside0.mk (below_step (by repeat (first | (with_reducible first | exact HB.out | apply below_alloc | apply pw_below_drewN | apply below_drew1 | refine below_set ?_ GE172.out) | exact HB.out)) hb); clear BK172; clear HB; have BK172 := n0_; have HB := n1_; clear n0_ n1_; (try clear hb); (try clear hb2); (try clear hk); (try clear hi))))
            go_roundg k1
            case measure => have := HK1.out; omega
            case rel => exact ⟨(wrap64 (x4_1 + t174)), (wrap64 (x5_1 + t175)), (wrap64 (x15_1 + 1)), (by first | rfl | (simp; done) | (simp [*]; done)), (by first | rfl | (simp; done) | (simp [*]; done)), (by first | rfl | (simp; done) | (simp [*]; done)), H', ⟨by have := HK1.out; omega⟩, ⟨by (with_reducible repeat (first | refine blk_drewN ?_ _ | refine blk_drew ?_ | refine blk_alloc ?_ _)); exact BK172.out⟩, ⟨by repeat (first | (with_reducible first | exact HB.out | apply below_alloc | apply pw_below_drewN | apply below_drew1 | refine below_set ?_ GE172.out) | exact HB.out)⟩⟩
          · rw [if_neg c6] at H
            exact absurd H (by simp)
        · rw [if_neg c5] at H
          exact absurd H (by simp)
      · rw [if_neg c4] at H
        have c4b0 : decide (x15_1 < (l0_2.length : Int)) = false := decide_eq_false c4
        clear c4
        simp only [Option.some.injEq, Prod.mk.injEq] at H
        obtain ⟨rfl, rfl⟩ := H
        go_wp2
        repeat (go_quiet (fail); try go_wp2)
        go_ret2
        exact ⟨by first | rfl | (simp [errW_none, errW_some] <;> rfl) | (simp [*, errW_none, errW_some] <;> rfl), by repeat (first | (with_reducible first | exact HB.out | apply below_alloc | apply pw_below_drewN | apply below_drew1 | refine below_set ?_ GE172.out) | exact HB.out)⟩
end Go.Proofs.YtkopmkinlanhoaaDoor.PP

namespace Go.Proofs.YtkopmkinlanhoaaDoor.PP
open Go.RowKit Go.Proofs.YtkopmkinlanhoaaDoorW.PrintWords Go.Proofs.YtkopmkinlanhoaaDoorW.PrintLast Go.Proofs.YtkopmkinlanhoaaDoorW.PrintMore
attribute [local go_sem] max2_int min2_int max_two min_two max_three min_three max_four min_four   -- for this text's walks alone
set_option linter.unusedVariables false
set_option linter.unusedSimpArgs false
mutual
def arboretref01_Check.j0 : Nat → Bool → Int → List (S48) → ByteArray → List (S62) → List (S27) → Option (Int)
  | 0, _, _, _, _, _, _ => none
  | k + 1, x30, x177000, x177001, x177002, x177003, x177004 => if x30 = true then (some 7) else (arboretref01_Check.l0 k (x177001.length : Int) 0 x177000 x177001 x177002 x177003 x177004)
def arboretref01_Check.l0 : Nat → Int → Int → Int → List (S48) → ByteArray → List (S62) → List (S27) → Option (Int)
  | 0, _, _, _, _, _, _, _ => none
  | k + 1, x33, x34, x177000, x177001, x177002, x177003, x177004 => if x34 < x33 then (if 0 ≤ x34 then (if x34 < (x177001.length : Int) then (if ((rd_T48 x177001 x34).f0) = 0 then (if ((rd_T48 x177001 x34).f1) = 0 then (some 7) else (arboretref01_Check.l0 k x33 (wrap64 (x34 + 1)) x177000 x177001 x177002 x177003 x177004)) else (arboretref01_Check.l0 k x33 (wrap64 (x34 + 1)) x177000 x177001 x177002 x177003 x177004)) else (none)) else (none)) else (some 0)
end
def arboretref01_Check.f (k : Nat) (a0_0 : Int) (l0_1 : List (S48)) (a0_2 : ByteArray) (l0_3 : List (S62)) (l0_4 : List (S27)) : Option (Int) := (arboretref01_wrong.f k a0_2 l0_3 l0_4 1).bind fun t177 => (if t177 = 0 then ((arboretref01_Count.f k a0_2 l0_3 l0_4).bind fun bt178 => (if bt178.1 > 4096 then (arboretref01_Check.j0 k true a0_0 l0_1 a0_2 l0_3 l0_4) else (if bt178.2 > 8192 then (arboretref01_Check.j0 k true a0_0 l0_1 a0_2 l0_3 l0_4) else (arboretref01_Check.j0 k (decide ((l0_1.length : Int) > 64)) a0_0 l0_1 a0_2 l0_3 l0_4)))) else (some t177))
set_option maxHeartbeats 8000000 in
set_option maxRecDepth 100000 in
theorem arboretref01_Check.calls (k : Nat) (a0_0 : Int) (A0_1 : Option Addr) (c0_1 : Nat) (l0_1 : List (S48)) (a0_2 : ByteArray) (A0_3 : Option Addr) (c0_3 : Nat) (l0_3 : List (S62)) (A0_4 : Option Addr) (c0_4 : Nat) (l0_4 : List (S27)) (r : Int) (w : World) (hr0_1 : Kd.C k48 w A0_1 l0_1.length l0_1) (hc0_1 : l0_1.length ≤ c0_1) (hr0_3 : Kd.C k62 w A0_3 l0_3.length l0_3) (hc0_3 : l0_3.length ≤ c0_3) (hr0_4 : Kd.C k27 w A0_4 l0_4.length l0_4) (hc0_4 : l0_4.length ≤ c0_4) (h : arboretref01_Check.f k a0_0 l0_1 a0_2 l0_3 l0_4 = some r) :
    Calls Tryd.prog 6 #[.agg #[.int .u32 a0_0, .slice A0_1 l0_1.length c0_1, .string a0_2, .slice A0_3 l0_3.length c0_3, .slice A0_4 l0_4.length c0_4]] w fun e w' => e = .returned (.int .i64 r) ∧ Below w.heap.size w w' := by
  have hu29 := Tryd.underlying29
  have hu27 := Tryd.underlying27
  have HR0_1 := Aside0.mk hr0_1
  have HC0_1 := Aside0.mk hc0_1
  clear hr0_1 hc0_1
  have HR0_3 := Aside0.mk hr0_3
  have HC0_3 := Aside0.mk hc0_3
  clear hr0_3 hc0_3
  have HR0_4 := Aside0.mk hr0_4
  have HC0_4 := Aside0.mk hc0_4
  clear hr0_4 hc0_4
  have HB := Aside0.mk (Below.refl w.heap.size w)
  have H : ((arboretref01_wrong.f k a0_2 l0_3 l0_4 1).bind fun t177 => (if t177 = 0 then ((arboretref01_Count.f k a0_2 l0_3 l0_4).bind fun bt178 => (if bt178.1 > 4096 then (arboretref01_Check.j0 k true a0_0 l0_1 a0_2 l0_3 l0_4) else (if bt178.2 > 8192 then (arboretref01_Check.j0 k true a0_0 l0_1 a0_2 l0_3 l0_4) else (arboretref01_Check.j0 k (decide ((l0_1.length : Int) > 64)) a0_0 l0_1 a0_2 l0_3 l0_4)))) else (some t177))) = some r := h
  clear h
  replace H := Option.bind_eq_some_iff.mp H
  obtain ⟨t177, A20, H⟩ := H
  replace H : (if t177 = 0 then ((arboretref01_Count.f k a0_2 l0_3 l0_4).bind fun bt178 => (if bt178.1 > 4096 then (arboretref01_Check.j0 k true a0_0 l0_1 a0_2 l0_3 l0_4) else (if bt178.2 > 8192 then (arboretref01_Check.j0 k true a0_0 l0_1 a0_2 l0_3 l0_4) else (arboretref01_Check.j0 k (decide ((l0_1.length : Int) > 64)) a0_0 l0_1 a0_2 l0_3 l0_4)))) else (some t177)) = some r := H
  have A2 := Aside0.mk A20
  clear A20
  by_cases c3 : t177 = 0
  · rw [if_pos c3] at H
    have c3b0 : (t177 == 0) = true := beq_iff_eq.mpr c3
    have c3b1 : (t177 != 0) = false := bne_eq_false_iff_eq.mpr c3
    clear c3
    replace H := Option.bind_eq_some_iff.mp H
    obtain ⟨⟨t178, t179⟩, A40, H⟩ := H
    replace H : (if t178 > 4096 then (arboretref01_Check.j0 k true a0_0 l0_1 a0_2 l0_3 l0_4) else (if t179 > 8192 then (arboretref01_Check.j0 k true a0_0 l0_1 a0_2 l0_3 l0_4) else (arboretref01_Check.j0 k (decide ((l0_1.length : Int) > 64)) a0_0 l0_1 a0_2 l0_3 l0_4))) = some r := H
    have A4 := Aside0.mk A40
    clear A40
    have HC5 := Aside0.mk H
    clear H
    go_enter Tryd.func6, Tryd.ntmps6
    go_upto_region 5 with (first | ((with_reducible refine gate_dst (N := 1) rfl ?_); (try (refine gate_guard (by rfl) ?_; dsimp only)); refine box_event ?hg (N := 1) ?hd (cs := #[.int .u32 a0_0, .slice A0_1 l0_1.length c0_1, .string a0_2, .slice A0_3 l0_3.length c0_3, .slice A0_4 l0_4.length c0_4]) (t := 29) ?hr ?_; (case hd => rfl); (case hg => rfl); (case hr => first | (go_simp; done) | (go_simp; rfl)); intro gb176 hg w6 hbox hb; have n0_ := Aside0.mk (below_step (by repeat (first | (with_reducible first | exact HB.out | apply below_alloc | apply pw_below_drewN | apply below_drew1) | exact HB.out)) hb); have n1_ := Aside0.mk (hbox); have n2_ := Aside0.mk ((by rw [hg]; exact (below_size (by repeat (first | (with_reducible first | exact HB.out | apply below_alloc | apply pw_below_drewN | apply below_drew1) | exact HB.out))) : w.heap.size ≤ gb176)); have n3_ := Aside0.mk ((by rw [hg]; exact (below_size (by repeat (first | (with_reducible first | exact HB.out | apply below_alloc | apply pw_below_drewN | apply below_drew1) | exact HB.out))) : w.heap.size ≤ gb176)); clear HB; have HB := n0_; have BK176 := n1_; have GW176 := n2_; have GE176 := n3_; clear n0_ n1_ n2_ n3_; clear hb hbox hg; have hcz7_0 : w6.cell? ⟨gb176, 0, none⟩ = some (.int .u32 a0_0) := (blk_cell BK176.out 0).trans rfl; have hcz7_1 : w6.cell? ⟨gb176, 1, none⟩ = some (.slice A0_1 l0_1.length c0_1) := (blk_cell BK176.out 1).trans rfl; have hcz7_2 : w6.cell? ⟨gb176, 2, none⟩ = some (.string a0_2) := (blk_cell BK176.out 2).trans rfl; have hcz7_3 : w6.cell? ⟨gb176, 3, none⟩ = some (.slice A0_3 l0_3.length c0_3) := (blk_cell BK176.out 3).trans rfl; have hcz7_4 : w6.cell? ⟨gb176, 4, none⟩ = some (.slice A0_4 l0_4.length c0_4) := (blk_cell BK176.out 4).trans rfl; have hfz7_0 := blk_frozen BK176.out 0; have hfz7_1 := blk_frozen BK176.out 1; have hfz7_2 := blk_frozen BK176.out 2; have hfz7_3 := blk_frozen BK176.out 3; have hfz7_4 := blk_frozen BK176.out 4) | ((with_reducible refine gate_callee (f := 12) rfl ?_); refine goesL_ (some 9) rfl rfl Tryd.func12 (by kernel_rfl) rfl #[.agg #[.string a0_2, .slice A0_3 l0_3.length c0_3, .slice A0_4 l0_4.length c0_4], .int .i64 1] rfl (by (try simp only [List.map_toArray, List.map_cons, List.map_nil]); first | done | rfl | (simp only [List.length_drop, List.length_take]; rfl)) ?_; (with_reducible refine (arboretref01_wrong.calls k a0_2 _ _ l0_3 _ _ l0_4 1 t177 _ ?side1 ?side2 ?side3 ?side4 A2.out).mono ?_); (case side1 => repeat (first | exact (Kd.C_below HR0_3.out HB.out) | (with_reducible refine Kd.C_alloc ?_ _) | (with_reducible refine Kd.C_drewN ?_ _) | (with_reducible refine Kd.C_drew ?_))); (case side2 => exact HC0_3.out); (case side3 => repeat (first | exact (Kd.C_below HR0_4.out HB.out) | (with_reducible refine Kd.C_alloc ?_ _) | (with_reducible refine Kd.C_drewN ?_ _) | (with_reducible refine Kd.C_drew ?_))); (case side4 => exact HC0_4.out); rintro e w8 ⟨rfl, hb⟩; refine ⟨_, rfl, ?_⟩; have n0_ := Aside0.mk (blk_below (g := gb176) (o := .cells #[.int .u32 a0_0, .slice A0_1 l0_1.length c0_1, .string a0_2, .slice A0_3 l0_3.length c0_3, .slice A0_4 l0_4.length c0_4] 29 (0, 0)) (by (with_reducible repeat (first | refine blk_drewN ?_ _ | refine blk_drew ?_ | refine blk_alloc ?_ _)); exact BK176.out) hb); have n1_ := Aside0.mk (below_step (by repeat (first | (with_reducible first | exact HB.out | apply below_alloc | apply pw_below_drewN | apply below_drew1 | refine below_set ?_ GE176.out) | exact HB.out)) hb); clear BK176; clear HB; have BK176 := n0_; have HB := n1_; clear n0_ n1_; (try clear hb); (try clear hb2); (try clear hk); (try clear hi); have hcz9_0 : w8.cell? ⟨gb176, 0, none⟩ = some (.int .u32 a0_0) := (blk_cell BK176.out 0).trans rfl; have hcz9_1 : w8.cell? ⟨gb176, 1, none⟩ = some (.slice A0_1 l0_1.length c0_1) := (blk_cell BK176.out 1).trans rfl; have hcz9_2 : w8.cell? ⟨gb176, 2, none⟩ = some (.string a0_2) := (blk_cell BK176.out 2).trans rfl; have hcz9_3 : w8.cell? ⟨gb176, 3, none⟩ = some (.slice A0_3 l0_3.length c0_3) := (blk_cell BK176.out 3).trans rfl; have hcz9_4 : w8.cell? ⟨gb176, 4, none⟩ = some (.slice A0_4 l0_4.length c0_4) := (blk_cell BK176.out 4).trans rfl; have hfz9_0 := blk_frozen BK176.out 0; have hfz9_1 := blk_frozen BK176.out 1; have hfz9_2 := blk_frozen BK176.out 2; have hfz9_3 := blk_frozen BK176.out 3; have hfz9_4 := blk_frozen BK176.out 4) | ((with_reducible refine gate_callee (f := 13) rfl ?_); refine goesL_ (some 16) rfl rfl Tryd.func13 (by kernel_rfl) rfl #[.agg #[.string a0_2, .slice A0_3 l0_3.length c0_3, .slice A0_4 l0_4.length c0_4]] rfl (by (try simp only [List.map_toArray, List.map_cons, List.map_nil]); first | done | rfl | (simp only [List.length_drop, List.length_take]; rfl)) ?_; (with_reducible refine (arboretref01_Count.calls k a0_2 _ _ l0_3 _ _ l0_4 t178 t179 _ ?side1 ?side2 ?side3 ?side4 A4.out).mono ?_); (case side1 => repeat (first | exact (Kd.C_below HR0_3.out HB.out) | (with_reducible refine Kd.C_alloc ?_ _) | (with_reducible refine Kd.C_drewN ?_ _) | (with_reducible refine Kd.C_drew ?_))); (case side2 => exact HC0_3.out); (case side3 => repeat (first | exact (Kd.C_below HR0_4.out HB.out) | (with_reducible refine Kd.C_alloc ?_ _) | (with_reducible refine Kd.C_drewN ?_ _) | (with_reducible refine Kd.C_drew ?_))); (case side4 => exact HC0_4.out); rintro e w10 ⟨rfl, hb⟩; refine ⟨_, rfl, ?_⟩; have n0_ := Aside0.mk (blk_below (g := gb176) (o := .cells #[.int .u32 a0_0, .slice A0_1 l0_1.length c0_1, .string a0_2, .slice A0_3 l0_3.length c0_3, .slice A0_4 l0_4.length c0_4] 29 (0, 0)) (by (with_reducible repeat (first | refine blk_drewN ?_ _ | refine blk_drew ?_ | refine blk_alloc ?_ _)); exact BK176.out) hb); have n1_ := Aside0.mk (below_step (by repeat (first | (with_reducible first | exact HB.out | apply below_alloc | apply pw_below_drewN | apply below_drew1 | refine below_set ?_ GE176.out) | exact HB.out)) hb); clear BK176; clear HB; have BK176 := n0_; have HB := n1_; clear n0_ n1_; (try clear hb); (try clear hb2); (try clear hk); (try clear hi)))
    (try simp only [Act.put, List.setIfInBounds_toArray, List.set_cons_zero, List.set_cons_succ])
    go_cut [30] (fun v30 wc => ∃ (kq : Nat) (x30_4 : Bool), v30 = .bool x30_4 ∧ Aside0 (arboretref01_Check.j0 kq x30_4 a0_0 l0_1 a0_2 l0_3 l0_4 = some r) ∧ Aside0 (kq ≤ k) ∧ Aside0 (wc.heap[gb176]? = some (.cells #[.int .u32 a0_0, (.slice A0_1 l0_1.length c0_1), .string a0_2, (.slice A0_3 l0_3.length c0_3), (.slice A0_4 l0_4.length c0_4)] 29 (0, 0))) ∧ Aside0 (Below w.heap.size w wc))
    case first =>
      have H := HC5.out
      clear HC5
      by_cases c11 : t178 > 4096
      · rw [if_pos c11] at H
        have c11b0 : decide (4096 < t178) = true := decide_eq_true c11
        clear c11
        (first | rw [c11b0] | (simp only [i64_w, i32_w]; rw [c11b0]) | skip)
        have H' := Aside0.mk H
        clear H
        go_wp2
        go_meet
        case rel => exact ⟨_, (true), (by first | rfl | (simp; done) | (simp [*]; done)), H', ⟨by first | omega | exact Nat.le_refl _⟩, ⟨by (with_reducible repeat (first | refine blk_drewN ?_ _ | refine blk_drew ?_ | refine blk_alloc ?_ _)); exact BK176.out⟩, ⟨by repeat (first | (with_reducible first | exact HB.out | apply below_alloc | apply pw_below_drewN | apply below_drew1 | refine below_set ?_ GE176.out) | exact HB.out)⟩⟩
      · rw [if_neg c11] at H
        have c11b0 : decide (4096 < t178) = false := decide_eq_false c11
        clear c11
        (first | rw [c11b0] | (simp only [i64_w, i32_w]; rw [c11b0]) | skip)
        by_cases c12 : t179 > 8192
        · rw [if_pos c12] at H
          have c12b0 : decide (8192 < t179) = true := decide_eq_true c12
          clear c12
          have H' := Aside0.mk H
          clear H
          go_wp2
          go_meet
          case rel => exact ⟨_, (true), (by first | rfl | (simp; done) | (simp [*]; done)), H', ⟨by first | omega | exact Nat.le_refl _⟩, ⟨by (with_reducible repeat (first | refine blk_drewN ?_ _ | refine blk_drew ?_ | refine blk_alloc ?_ _)); exact BK176.out⟩, ⟨by repeat (first | (with_reducible first | exact HB.out | apply below_alloc | apply pw_below_drewN | apply below_drew1 | refine below_set ?_ GE176.out) | exact HB.out)⟩⟩
        · rw [if_neg c12] at H
          have c12b0 : decide (8192 < t179) = false := decide_eq_false c12
          clear c12
          have H' := Aside0.mk H
          clear H
          have hcz13_0 : w10.cell? ⟨gb176, 0, none⟩ = some (.int .u32 a0_0) := (blk_cell BK176.out 0).trans rfl
          have hcz13_1 : w10.cell? ⟨gb176, 1, none⟩ = some (.slice A0_1 l0_1.length c0_1) := (blk_cell BK176.out 1).trans rfl
          have hcz13_2 : w10.cell? ⟨gb176, 2, none⟩ = some (.string a0_2) := (blk_cell BK176.out 2).trans rfl
          have hcz13_3 : w10.cell? ⟨gb176, 3, none⟩ = some (.slice A0_3 l0_3.length c0_3) := (blk_cell BK176.out 3).trans rfl
          have hcz13_4 : w10.cell? ⟨gb176, 4, none⟩ = some (.slice A0_4 l0_4.length c0_4) := (blk_cell BK176.out 4).trans rfl
          have hfz13_0 := blk_frozen BK176.out 0
          have hfz13_1 := blk_frozen BK176.out 1
          have hfz13_2 := blk_frozen BK176.out 2
          have hfz13_3 := blk_frozen BK176.out 3
          have hfz13_4 := blk_frozen BK176.out 4
          go_wp2
          go_meet
          case rel => exact ⟨_, (decide ((l0_1.length : Int) > 64)), (by first | rfl | (simp; done) | (simp [*]; done)), H', ⟨by first | omega | exact Nat.le_refl _⟩, ⟨by (with_reducible repeat (first | refine blk_drewN ?_ _ | refine blk_drew ?_ | refine blk_alloc ?_ _)); exact BK176.out⟩, ⟨by repeat (first | (with_reducible first | exact HB.out | apply below_alloc | apply pw_below_drewN | apply below_drew1 | refine below_set ?_ GE176.out) | exact HB.out)⟩⟩
    case rest =>
      clear HC5
      try clear c1
      try clear p2
      try clear c3
      try clear c3b0
      try clear c3b1
      try clear c6
      try clear c11
      try clear c11b0
      try clear c12
      try clear c12b0
      try clear c13
      try clear hcz13_0
      try clear hcz13_1
      try clear hcz13_2
      try clear hcz13_3
      try clear hcz13_4
      try clear hcz7_0
      try clear hcz7_1
      try clear hcz7_2
      try clear hcz7_3
      try clear hcz7_4
      try clear hcz9_0
      try clear hcz9_1
      try clear hcz9_2
      try clear hcz9_3
      try clear hcz9_4
      try clear hfz13_0
      try clear hfz13_1
      try clear hfz13_2
      try clear hfz13_3
      try clear hfz13_4
      try clear hfz7_0
      try clear hfz7_1
      try clear hfz7_2
      try clear hfz7_3
      try clear hfz7_4
      try clear hfz9_0
      try clear hfz9_1
      try clear hfz9_2
      try clear hfz9_3
      try clear hfz9_4
      obtain ⟨kq, x30_4, rfl, HA, HJ4, BK176, HB⟩ := hcut
      cases kq with
      | zero => exact absurd HA.out (by simp [arboretref01_Check.j0])
      | succ kj4 =>
        have H := HA.out
        clear HA
        simp only [arboretref01_Check.j0] at H
        by_cases c14 : x30_4 = true
        · subst c14
          have H1 : (some 7) = some r := by rw [if_pos rfl] at H; exact H
          clear H
          have H := H1
          clear H1
          obtain rfl := Option.some.inj H
          go_wp2
          go_ret
          exact ⟨by first | rfl | (simp [errW_none, errW_some] <;> rfl) | (simp [*, errW_none, errW_some] <;> rfl), by repeat (first | (with_reducible first | exact HB.out | apply below_alloc | apply pw_below_drewN | apply below_drew1 | refine below_set ?_ GE176.out) | exact HB.out)⟩
        · replace c14 := Bool.eq_false_iff.mpr c14
          subst c14
          have H1 : (arboretref01_Check.l0 kj4 (l0_1.length : Int) 0 a0_0 l0_1 a0_2 l0_3 l0_4) = some r := by rw [if_neg (show ¬ (false = true) by decide)] at H; exact H
          clear H
          have H := H1
          clear H1
          have H' := Aside0.mk H
          clear H
          have hcz15_0 : wc.cell? ⟨gb176, 0, none⟩ = some (.int .u32 a0_0) := (blk_cell BK176.out 0).trans rfl
          have hcz15_1 : wc.cell? ⟨gb176, 1, none⟩ = some (.slice A0_1 l0_1.length c0_1) := (blk_cell BK176.out 1).trans rfl
          have hcz15_2 : wc.cell? ⟨gb176, 2, none⟩ = some (.string a0_2) := (blk_cell BK176.out 2).trans rfl
          have hcz15_3 : wc.cell? ⟨gb176, 3, none⟩ = some (.slice A0_3 l0_3.length c0_3) := (blk_cell BK176.out 3).trans rfl
          have hcz15_4 : wc.cell? ⟨gb176, 4, none⟩ = some (.slice A0_4 l0_4.length c0_4) := (blk_cell BK176.out 4).trans rfl
          have hfz15_0 := blk_frozen BK176.out 0
          have hfz15_1 := blk_frozen BK176.out 1
          have hfz15_2 := blk_frozen BK176.out 2
          have hfz15_3 := blk_frozen BK176.out 3
          have hfz15_4 := blk_frozen BK176.out 4
          go_wp2
          go_loopg [34] kj4 (fun kq v34 w' => ∃ (x34_2 : Int), v34 = .int .i64 x34_2 ∧ Aside0 (arboretref01_Check.l0 kq (l0_1.length : Int) x34_2 a0_0 l0_1 a0_2 l0_3 l0_4 = some r) ∧ Aside0 (kq ≤ kj4) ∧ Aside0 (w'.heap[gb176]? = some (.cells #[.int .u32 a0_0, (.slice A0_1 l0_1.length c0_1), .string a0_2, (.slice A0_3 l0_3.length c0_3), (.slice A0_4 l0_4.length c0_4)] 29 (0, 0))) ∧ Aside0 (Below w.heap.size w w'))
          case atStart => exact ⟨(0), (by first | rfl | (simp; done) | (simp [*]; done)), H', ⟨Nat.le_refl _⟩, ⟨by (with_reducible repeat (first | refine blk_drewN ?_ _ | refine blk_drew ?_ | refine blk_alloc ?_ _)); exact BK176.out⟩, ⟨by repeat (first | (with_reducible first | exact HB.out | apply below_alloc | apply pw_below_drewN | apply below_drew1 | refine below_set ?_ GE176.out) | exact HB.out)⟩⟩
          case round =>
            clear H'
            try clear c1
            try clear p2
            try clear c3
            try clear c3b0
            try clear c3b1
            try clear c6
            try clear c11
            try clear c11b0
            try clear c12
            try clear c12b0
            try clear c13
            try clear c14
            try clear hcz13_0
            try clear hcz13_1
            try clear hcz13_2
            try clear hcz13_3
            try clear hcz13_4
            try clear hcz15_0
            try clear hcz15_1
            try clear hcz15_2
            try clear hcz15_3
            try clear hcz15_4
            try clear hcz7_0
            try clear hcz7_1
            try clear hcz7_2
            try clear hcz7_3
            try clear hcz7_4
            try clear hcz9_0
            try clear hcz9_1
            try clear hcz9_2
            try clear hcz9_3
            try clear hcz9_4
            try clear hfz13_0
            try clear hfz13_1
            try clear hfz13_2
            try clear hfz13_3
            try clear hfz13_4
            try clear hfz15_0
            try clear hfz15_1
            try clear hfz15_2
            try clear hfz15_3
            try clear hfz15_4
            try clear hfz7_0
            try clear hfz7_1
            try clear hfz7_2
            try clear hfz7_3
            try clear hfz7_4
            try clear hfz9_0
            try clear hfz9_1
            try clear hfz9_2
            try clear hfz9_3
            try clear hfz9_4
            try clear p2
            obtain ⟨x34_2, rfl, HA, HK2, BK176, HB⟩ := hrel
            cases gk with
            | zero => exact absurd HA.out (by simp [arboretref01_Check.l0])
            | succ k2 =>
              have H := HA.out
              clear HA
              simp only [arboretref01_Check.l0] at H
              by_cases c16 : x34_2 < (l0_1.length : Int)
              · rw [if_pos c16] at H
                have c16b0 : decide (x34_2 < (l0_1.length : Int)) = true := decide_eq_true c16
                clear c16
                by_cases c17 : 0 ≤ x34_2
                · rw [if_pos c17] at H
                  have c17b0 : decide (0 ≤ x34_2) = true := decide_eq_true c17
                  clear c17
                  by_cases c18 : x34_2 < (l0_1.length : Int)
                  · rw [if_pos c18] at H
                    have c18b0 : decide (x34_2 < (l0_1.length : Int)) = true := decide_eq_true c18
                    clear c18
                    by_cases c19 : ((rd_T48 l0_1 x34_2).f0) = 0
                    · rw [if_pos c19] at H
                      have c19b0 : (((rd_T48 l0_1 x34_2).f0) == 0) = true := beq_iff_eq.mpr c19
                      have c19b1 : (((rd_T48 l0_1 x34_2).f0) != 0) = false := bne_eq_false_iff_eq.mpr c19
                      clear c19
                      by_cases c20 : ((rd_T48 l0_1 x34_2).f1) = 0
                      · rw [if_pos c20] at H
                        have c20b0 : (((rd_T48 l0_1 x34_2).f1) == 0) = true := beq_iff_eq.mpr c20
                        have c20b1 : (((rd_T48 l0_1 x34_2).f1) != 0) = false := bne_eq_false_iff_eq.mpr c20
                        clear c20
                        obtain rfl := Option.some.inj H
                        have hcz21_0 : wr.cell? ⟨gb176, 0, none⟩ = some (.int .u32 a0_0) := (blk_cell BK176.out 0).trans rfl
                        have hcz21_1 : wr.cell? ⟨gb176, 1, none⟩ = some (.slice A0_1 l0_1.length c0_1) := (blk_cell BK176.out 1).trans rfl
                        have hcz21_2 : wr.cell? ⟨gb176, 2, none⟩ = some (.string a0_2) := (blk_cell BK176.out 2).trans rfl
                        have hcz21_3 : wr.cell? ⟨gb176, 3, none⟩ = some (.slice A0_3 l0_3.length c0_3) := (blk_cell BK176.out 3).trans rfl
                        have hcz21_4 : wr.cell? ⟨gb176, 4, none⟩ = some (.slice A0_4 l0_4.length c0_4) := (blk_cell BK176.out 4).trans rfl
                        have hfz21_0 := blk_frozen BK176.out 0
                        have hfz21_1 := blk_frozen BK176.out 1
                        have hfz21_2 := blk_frozen BK176.out 2
                        have hfz21_3 := blk_frozen BK176.out 3
                        have hfz21_4 := blk_frozen BK176.out 4
                        have p180 : 0 ≤ (x34_2 : Int) := of_decide_eq_true (by first | (with_reducible assumption) | assumption)
                        have q180 : x34_2 < (l0_1.length : Int) := of_decide_eq_true (by first | (with_reducible assumption) | assumption)
                        obtain ⟨ad180, e180, hx180_0, hx180_1⟩ := at_T48 HR0_1.out x34_2 p180 q180
                        cases e180
                        replace hx180_0 := (HB.out.cell (World.block_lt_of_cell? w _ hx180_0)).trans hx180_0
                        replace hx180_1 := (HB.out.cell (World.block_lt_of_cell? w _ hx180_1)).trans hx180_1
                        replace p180 := eq_true p180
                        replace q180 := eq_true q180
                        have p181 : 0 ≤ (x34_2 : Int) := of_decide_eq_true (by first | (with_reducible assumption) | assumption)
                        have q181 : x34_2 < (l0_1.length : Int) := of_decide_eq_true (by first | (with_reducible assumption) | assumption)
                        obtain ⟨ad181, e181, hx181_0, hx181_1⟩ := at_T48 HR0_1.out x34_2 p181 q181
                        obtain rfl : ad180 = ad181 := (by injection e181)
                        replace hx181_0 := (HB.out.cell (World.block_lt_of_cell? w _ hx181_0)).trans hx181_0
                        replace hx181_1 := (HB.out.cell (World.block_lt_of_cell? w _ hx181_1)).trans hx181_1
                        replace p181 := eq_true p181
                        replace q181 := eq_true q181
                        go_wp2
                        go_ret
                        exact ⟨by first | rfl | (simp [errW_none, errW_some] <;> rfl) | (simp [*, errW_none, errW_some] <;> rfl), by repeat (first | (with_reducible first | exact HB.out | apply below_alloc | apply pw_below_drewN | apply below_drew1 | refine below_set ?_ GE176.out) | exact HB.out)⟩
                      · rw [if_neg c20] at H
                        have c20b0 : (((rd_T48 l0_1 x34_2).f1) == 0) = false := beq_eq_false_iff_ne.mpr c20
                        have c20b1 : (((rd_T48 l0_1 x34_2).f1) != 0) = true := bne_iff_ne.mpr c20
                        have H' := Aside0.mk H
                        clear H
                        have hcz22_0 : wr.cell? ⟨gb176, 0, none⟩ = some (.int .u32 a0_0) := (blk_cell BK176.out 0).trans rfl
                        have hcz22_1 : wr.cell? ⟨gb176, 1, none⟩ = some (.slice A0_1 l0_1.length c0_1) := (blk_cell BK176.out 1).trans rfl
                        have hcz22_2 : wr.cell? ⟨gb176, 2, none⟩ = some (.string a0_2) := (blk_cell BK176.out 2).trans rfl
                        have hcz22_3 : wr.cell? ⟨gb176, 3, none⟩ = some (.slice A0_3 l0_3.length c0_3) := (blk_cell BK176.out 3).trans rfl
                        have hcz22_4 : wr.cell? ⟨gb176, 4, none⟩ = some (.slice A0_4 l0_4.length c0_4) := (blk_cell BK176.out 4).trans rfl
                        have hfz22_0 := blk_frozen BK176.out 0
                        have hfz22_1 := blk_frozen BK176.out 1
                        have hfz22_2 := blk_frozen BK176.out 2
                        have hfz22_3 := blk_frozen BK176.out 3
                        have hfz22_4 := blk_frozen BK176.out 4
                        have p180 : 0 ≤ (x34_2 : Int) := of_decide_eq_true (by first | (with_reducible assumption) | assumption)
                        have q180 : x34_2 < (l0_1.length : Int) := of_decide_eq_true (by first | (with_reducible assumption) | assumption)
                        obtain ⟨ad180, e180, hx180_0, hx180_1⟩ := at_T48 HR0_1.out x34_2 p180 q180
                        cases e180
                        replace hx180_0 := (HB.out.cell (World.block_lt_of_cell? w _ hx180_0)).trans hx180_0
                        replace hx180_1 := (HB.out.cell (World.block_lt_of_cell? w _ hx180_1)).trans hx180_1
                        replace p180 := eq_true p180
                        replace q180 := eq_true q180
                        have p181 : 0 ≤ (x34_2 : Int) := of_decide_eq_true (by first | (with_reducible assumption) | assumption)
                        have q181 : x34_2 < (l0_1.length : Int) := of_decide_eq_true (by first | (with_reducible assumption) | assumption)
                        obtain ⟨ad181, e181, hx181_0, hx181_1⟩ := at_T48 HR0_1.out x34_2 p181 q181
                        obtain rfl : ad180 = ad181 := (by injection e181)
                        replace hx181_0 := (HB.out.cell (World.block_lt_of_cell? w _ hx181_0)).trans hx181_0
                        replace hx181_1 := (HB.out.cell (World.block_lt_of_cell? w _ hx181_1)).trans hx181_1
                        replace p181 := eq_true p181
                        replace q181 := eq_true q181
                        go_wp2
                        go_roundg k2
                        case measure => have := HJ4.out; have := HK2.out; omega
                        case rel => exact ⟨(wrap64 (x34_2 + 1)), (by first | rfl | (simp; done) | (simp [*]; done)), H', ⟨by have := HJ4.out; have := HK2.out; omega⟩, ⟨by (with_reducible repeat (first | refine blk_drewN ?_ _ | refine blk_drew ?_ | refine blk_alloc ?_ _)); exact BK176.out⟩, ⟨by repeat (first | (with_reducible first | exact HB.out | apply below_alloc | apply pw_below_drewN | apply below_drew1 | refine below_set ?_ GE176.out) | exact HB.out)⟩⟩
                    · rw [if_neg c19] at H
                      have c19b0 : (((rd_T48 l0_1 x34_2).f0) == 0) = false := beq_eq_false_iff_ne.mpr c19
                      have c19b1 : (((rd_T48 l0_1 x34_2).f0) != 0) = true := bne_iff_ne.mpr c19
                      have H' := Aside0.mk H
                      clear H
                      have hcz23_0 : wr.cell? ⟨gb176, 0, none⟩ = some (.int .u32 a0_0) := (blk_cell BK176.out 0).trans rfl
                      have hcz23_1 : wr.cell? ⟨gb176, 1, none⟩ = some (.slice A0_1 l0_1.length c0_1) := (blk_cell BK176.out 1).trans rfl
                      have hcz23_2 : wr.cell? ⟨gb176, 2, none⟩ = some (.string a0_2) := (blk_cell BK176.out 2).trans rfl
                      have hcz23_3 : wr.cell? ⟨gb176, 3, none⟩ = some (.slice A0_3 l0_3.length c0_3) := (blk_cell BK176.out 3).trans rfl
                      have hcz23_4 : wr.cell? ⟨gb176, 4, none⟩ = some (.slice A0_4 l0_4.length c0_4) := (blk_cell BK176.out 4).trans rfl
                      have hfz23_0 := blk_frozen BK176.out 0
                      have hfz23_1 := blk_frozen BK176.out 1
                      have hfz23_2 := blk_frozen BK176.out 2
                      have hfz23_3 := blk_frozen BK176.out 3
                      have hfz23_4 := blk_frozen BK176.out 4
                      have p180 : 0 ≤ (x34_2 : Int) := of_decide_eq_true (by first | (with_reducible assumption) | assumption)
                      have q180 : x34_2 < (l0_1.length : Int) := of_decide_eq_true (by first | (with_reducible assumption) | assumption)
                      obtain ⟨ad180, e180, hx180_0, hx180_1⟩ := at_T48 HR0_1.out x34_2 p180 q180
                      cases e180
                      replace hx180_0 := (HB.out.cell (World.block_lt_of_cell? w _ hx180_0)).trans hx180_0
                      replace hx180_1 := (HB.out.cell (World.block_lt_of_cell? w _ hx180_1)).trans hx180_1
                      replace p180 := eq_true p180
                      replace q180 := eq_true q180
                      go_wp2
                      go_roundg k2
                      case measure => have := HJ4.out; have := HK2.out; omega
                      case rel => exact ⟨(wrap64 (x34_2 + 1)), (by first | rfl | (simp; done) | (simp [*]; done)), H', ⟨by have := HJ4.out; have := HK2.out; omega⟩, ⟨by (with_reducible repeat (first | refine blk_drewN ?_ _ | refine blk_drew ?_ | refine blk_alloc ?_ _)); exact BK176.out⟩, ⟨by repeat (first | (with_reducible first | exact HB.out | apply below_alloc | apply pw_below_drewN | apply below_drew1 | refine below_set ?_ GE176.out) | exact HB.out)⟩⟩
                  · rw [if_neg c18] at H
                    exact absurd H (by simp)
                · rw [if_neg c17] at H
                  exact absurd H (by simp)
              · rw [if_neg c16] at H
                have c16b0 : decide (x34_2 < (l0_1.length : Int)) = false := decide_eq_false c16
                clear c16
                obtain rfl := Option.some.inj H
                go_wp2
                go_ret
                exact ⟨by first | rfl | (simp [errW_none, errW_some] <;> rfl) | (simp [*, errW_none, errW_some] <;> rfl), by repeat (first | (with_reducible first | exact HB.out | apply below_alloc | apply pw_below_drewN | apply below_drew1 | refine below_set ?_ GE176.out) | exact HB.out)⟩
  · rw [if_neg c3] at H
    have c3b0 : (t177 == 0) = false := beq_eq_false_iff_ne.mpr c3
    have c3b1 : (t177 != 0) = true := bne_iff_ne.mpr c3
    obtain rfl := Option.some.inj H
    go_enter Tryd.func6, Tryd.ntmps6
    go_wp2_with (first | ((with_reducible refine gate_dst (N := 1) rfl ?_); (try (refine gate_guard (by rfl) ?_; dsimp only)); refine box_event ?hg (N := 1) ?hd (cs := #[.int .u32 a0_0, .slice A0_1 l0_1.length c0_1, .string a0_2, .slice A0_3 l0_3.length c0_3, .slice A0_4 l0_4.length c0_4]) (t := 29) ?hr ?_; (case hd => rfl); (case hg => rfl); (case hr => first | (go_simp; done) | (go_simp; rfl)); intro gb176 hg w24 hbox hb; have n0_ := Aside0.mk (below_step (by repeat (first | (with_reducible first | exact HB.out | apply below_alloc | apply pw_below_drewN | apply below_drew1) | exact HB.out)) hb); have n1_ := Aside0.mk (hbox); have n2_ := Aside0.mk ((by rw [hg]; exact (below_size (by repeat (first | (with_reducible first | exact HB.out | apply below_alloc | apply pw_below_drewN | apply below_drew1) | exact HB.out))) : w.heap.size ≤ gb176)); have n3_ := Aside0.mk ((by rw [hg]; exact (below_size (by repeat (first | (with_reducible first | exact HB.out | apply below_alloc | apply pw_below_drewN | apply below_drew1) | exact HB.out))) : w.heap.size ≤ gb176)); clear HB; have HB := n0_; have BK176 := n1_; have GW176 := n2_; have GE176 := n3_; clear n0_ n1_ n2_ n3_; clear hb hbox hg; have hcz25_0 : w24.cell? ⟨gb176, 0, none⟩ = some (.int .u32 a0_0) := (blk_cell BK176.out 0).trans rfl; have hcz25_1 : w24.cell? ⟨gb176, 1, none⟩ = some (.slice A0_1 l0_1.length c0_1) := (blk_cell BK176.out 1).trans rfl; have hcz25_2 : w24.cell? ⟨gb176, 2, none⟩ = some (.string a0_2) := (blk_cell BK176.out 2).trans rfl; have hcz25_3 : w24.cell? ⟨gb176, 3, none⟩ = some (.slice A0_3 l0_3.length c0_3) := (blk_cell BK176.out 3).trans rfl; have hcz25_4 : w24.cell? ⟨gb176, 4, none⟩ = some (.slice A0_4 l0_4.length c0_4) := (blk_cell BK176.out 4).trans rfl; have hfz25_0 := blk_frozen BK176.out 0; have hfz25_1 := blk_frozen BK176.out 1; have hfz25_2 := blk_frozen BK176.out 2; have hfz25_3 := blk_frozen BK176.out 3; have hfz25_4 := blk_frozen BK176.out 4) | ((with_reducible refine gate_callee (f := 12) rfl ?_); refine goesL_ (some 9) rfl rfl Tryd.func12 (by kernel_rfl) rfl #[.agg #[.string a0_2, .slice A0_3 l0_3.length c0_3, .slice A0_4 l0_4.length c0_4], .int .i64 1] rfl (by (try simp only [List.map_toArray, List.map_cons, List.map_nil]); first | done | rfl | (simp only [List.length_drop, List.length_take]; rfl)) ?_; (with_reducible refine (arboretref01_wrong.calls k a0_2 _ _ l0_3 _ _ l0_4 1 t177 _ ?side1 ?side2 ?side3 ?side4 A2.out).mono ?_); (case side1 => repeat (first | exact (Kd.C_below HR0_3.out HB.out) | (with_reducible refine Kd.C_alloc ?_ _) | (with_reducible refine Kd.C_drewN ?_ _) | (with_reducible refine Kd.C_drew ?_))); (case side2 => exact HC0_3.out); (case side3 => repeat (first | exact (Kd.C_below HR0_4.out HB.out) | (with_reducible refine Kd.C_alloc ?_ _) | (with_reducible refine Kd.C_drewN ?_ _) | (with_reducible refine Kd.C_drew ?_))); (case side4 => exact HC0_4.out); rintro e w26 ⟨rfl, hb⟩; refine ⟨_, rfl, ?_⟩; have n0_ := Aside0.mk (blk_below (g := gb176) (o := .cells #[.int .u32 a0_0, .slice A0_1 l0_1.length c0_1, .string a0_2, .slice A0_3 l0_3.length c0_3, .slice A0_4 l0_4.length c0_4] 29 (0, 0)) (by (with_reducible repeat (first | refine blk_drewN ?_ _ | refine blk_drew ?_ | refine blk_alloc ?_ _)); exact BK176.out) hb); have n1_ := Aside0.mk (below_step (by repeat (first | (with_reducible first | exact HB.out | apply below_alloc | apply pw_below_drewN | apply below_drew1 | refine below_set ?_ GE176.out) | exact HB.out)) hb); clear BK176; clear HB; have BK176 := n0_; have HB := n1_; clear n0_ n1_; (try clear hb); (try clear hb2); (try clear hk); (try clear hi)))
    go_ret
    exact ⟨by first | rfl | (simp [errW_none, errW_some] <;> rfl) | (simp [*, errW_none, errW_some] <;> rfl), by repeat (first | (with_reducible first | exact HB.out | apply below_alloc | apply pw_below_drewN | apply below_drew1 | refine below_set ?_ GE176.out) | exact HB.out)⟩
end Go.Proofs.YtkopmkinlanhoaaDoor.PP

namespace Go.Proofs.YtkopmkinlanhoaaDoor.PP
open Go.RowKit Go.Proofs.YtkopmkinlanhoaaDoorW.PrintWords Go.Proofs.YtkopmkinlanhoaaDoorW.PrintLast Go.Proofs.YtkopmkinlanhoaaDoorW.PrintMore
attribute [local go_sem] max2_int min2_int max_two min_two max_three min_three max_four min_four   -- for this text's walks alone
set_option linter.unusedVariables false
set_option linter.unusedSimpArgs false
def slices_Clone_int_int.f (l0 : List Int) : Option (List Int) := if l0.length < 17592186044416 then (some l0) else (none)
set_option maxRecDepth 100000 in
theorem slices_Clone_int_int.calls (A0 : Option Addr) (c0 : Nat) (l0 : List Int) (r : List Int) (w : World) (hr0 : Kd.C (Kd.int .i64) w A0 l0.length l0) (hc0 : l0.length ≤ c0) (h : slices_Clone_int_int.f l0 = some r) :
    Calls Tryd.prog 23 #[.slice A0 l0.length c0] w fun e w' => ∃ v0_ : Value, e = .returned (v0_) ∧ Kd.R (Kd.int .i64) 3 w' w.heap.size (fun _ => True) v0_ r ∧ Below w.heap.size w w' := by
  unfold slices_Clone_int_int.f at h
  by_cases c3 : l0.length < 17592186044416
  · rw [if_pos c3] at h
    injection h with h
    subst h
    have HR0 := Aside0.mk hr0
    have HC0 := Aside0.mk hc0
    clear hr0 hc0
    have HB := Aside0.mk (Below.refl w.heap.size w)
    have LMc3 := Aside0.mk c3
    clear c3
    cases A0 with
    | none =>
      have hn : l0 = [] := by
        cases l0 with
        | nil => rfl
        | cons x r =>
          obtain ⟨ad, he, _⟩ := HR0.out.2.2 (by simp)
          cases he
      subst hn
      have q := fun w' : World => Lib.run_eql_slice_nil (P := Tryd.prog) w' 38 3 none ([] : List Int).length c0 0 0 Tryd.underlying38
      simp only [Option.isNone_none, List.length_nil] at q
      go_enter Tryd.func23, Tryd.ntmps23
      go_wp2
      go_ret
      exact ⟨_, rfl, Kd.R_nil _ _ _ _ _, Below.refl _ _⟩
    | some x0 =>
      have q := fun w' : World => Lib.run_eql_slice_nil (P := Tryd.prog) w' 38 3 (some x0) l0.length c0 0 0 Tryd.underlying38
      simp only [Option.isNone_some] at q
      obtain ⟨y5, hy5⟩ : ∃ y_ : List Int, y_ = [] := ⟨_, rfl⟩
      have Ny5 := Aside0.mk hy5
      clear hy5
      obtain ⟨y7, hy7⟩ : ∃ y_ : List Int, y_ = y5 ++ l0 := ⟨_, rfl⟩
      have Ny7 := Aside0.mk hy7
      clear hy7
      go_enter Tryd.func23, Tryd.ntmps23
      go_wp2_with (first | ((with_reducible refine gate_dst (N := 5) rfl ?_); refine Kd.R_lit (Kd.int .i64) _ 3 ?hg (N := 5) ?hd (xs := ([] : List Int)) (inner := []) (ok := fun _ => True) (okp := fun _ => True) ?hr ?hp (fun _ hk => hk) trivial (Below.refl _ _) (Nat.le_refl _) (by simp) ?_; (case hd => rfl); (case hg => rfl); (case hr => first | (go_simp; done) | (go_simp; rfl)); (case hp => exact (Reps.none _ _)); intro v5 w5 ho6 hb hg_ hnew_; clear hg_ hnew_; rw [← Ny5.out] at ho6; have n0_ := Aside0.mk (Kd.R_lower (base' := w.heap.size) ho6 (below_size (by repeat (first | (with_reducible first | exact HB.out | apply below_alloc | apply pw_below_drewN | apply below_drew1) | exact HB.out)))); have n2_ := Aside0.mk (below_step (by repeat (first | (with_reducible first | exact HB.out | apply below_alloc | apply pw_below_drewN | apply below_drew1) | exact HB.out)) hb); clear HB; have HO5 := n0_; have HB := n2_; clear n0_ n2_; clear hb ho6) | ((with_reducible refine gate_builtin (b := .append) (xs := #[.tmp 5, .tmp 6]) rfl ?_); at_builtin; refine Kd.R_append_rows (Kd.int .i64) (w0 := w) w.heap.size rfl (.tmp 5) (.tmp 6) 38 3 (.int .i64 0) 8 rfl Tryd.underlying38 info3 rfl (by decide) (by omega) v5 y5 l0 _ _ _ (fun _ => True) (fun _ => False) rfl rfl ?aO ?aR (fun _ _ h => h) (fun _ h => h.elim) (fun _ _ => trivial) ?aB ?aS ?aL ?_; (case aR => repeat (first | exact (Kd.C_below HR0.out HB.out) | (with_reducible refine Kd.C_alloc ?_ _) | (with_reducible refine Kd.C_drewN ?_ _) | (with_reducible refine Kd.C_drew ?_))); (case aB => exact (by repeat (first | (with_reducible first | exact HB.out | apply below_alloc | apply pw_below_drewN | apply below_drew1) | exact HB.out))); (case aO => exact (by (with_reducible repeat (first | apply Kd.R_alloc | apply Kd.R_drewN | apply Kd.R_drew)); exact HO5.out)); (case aS => exact (below_size (by repeat (first | (with_reducible first | exact HB.out | apply below_alloc | apply pw_below_drewN | apply below_drew1) | exact HB.out)))); (case aL => have := LMc3.out; rw [Ny5.out]; simp; omega); intro v7 w7 ho hb hg hat; rw [← Ny7.out] at ho; have n1_ := Aside0.mk (hb); have n2_ := Aside0.mk (ho); clear HB; clear HO5; have HB := n1_; have HO7 := n2_; clear n1_ n2_; clear ho hb hg hat))
      go_ret
      exact ⟨_, rfl, by have e7 : y7 = l0 := (by rw [Ny7.out, Ny5.out]; rfl); rw [← e7]; (with_reducible repeat (first | apply Kd.R_alloc | apply Kd.R_drewN | apply Kd.R_drew)); exact HO7.out, by repeat (first | (with_reducible first | exact HB.out | apply below_alloc | apply pw_below_drewN | apply below_drew1) | exact HB.out)⟩
  · rw [if_neg c3] at h
    cases h
end Go.Proofs.YtkopmkinlanhoaaDoor.PP
