/- IrqSelf: texts of this session's, and what the kit's print laid for this seat, as far as the law's row uses them (PBx0, PBx0, PBx0, PBx0, PBx0, PBx0). -/
import Derived.Test.YtkopmkinlanhoaaZIrqSelf2
set_option linter.unusedVariables false
set_option linter.unusedSimpArgs false
namespace Go.Proofs.Ytkopmkinlanhoaa.PB
open Go.RowKit Go.Proofs.YtkopmkinlanhoaaW.PrintWords Go.Proofs.YtkopmkinlanhoaaW.PrintLast Go.Proofs.YtkopmkinlanhoaaW.PrintMore
attribute [local go_sem] max2_int min2_int max_two min_two max_three min_three max_four min_four
mutual
def arboretref01_Count.l0 : Nat → Int → Int → Int → Int → ByteArray → List (S63) → List (S27) → Option (Int × Int)
 | 0, _, _, _, _, _, _, _ => none
 | k + 1, x4, x5, x14, x15, xfp, xfq, xea => if x15 < x14 then (if 0 ≤ x15 then (if x15 < (xea.length : Int) then ((arboretref01_Count.f k ((rd_T27 xea x15).f0) ((rd_T27 xea x15).f1) ((rd_T27 xea x15).f2)).bind fun btdx => (arboretref01_Count.l0 k (wrap64 (x4 + btdx.1)) (wrap64 (x5 + btdx.2)) x14 (wrap64 (x15 + 1)) xfp xfq xea)) else (none)) else (none)) else (some (x4, x5))
def arboretref01_Count.f : Nat → ByteArray → List (S63) → List (S27) → Option (Int × Int)
 | 0, _, _, _ => none
 | k + 1, a0_0, l0_1, l0_2 => arboretref01_Count.l0 k 1 (l0_1.length : Int) (l0_2.length : Int) 0 a0_0 l0_1 l0_2
end
set_option maxHeartbeats 8000000 in
set_option maxRecDepth 100000 in
theorem arboretref01_Count.calls (k : Nat) : ∀ (a0_0 : ByteArray) (A0_1 : Option Addr) (c0_1 : Nat) (l0_1 : List (S63)) (A0_2 : Option Addr) (c0_2 : Nat) (l0_2 : List (S27)) (r1 : Int) (r2 : Int) (w : World) (hr0_1 : Kd.C k63 w A0_1 l0_1.length l0_1) (hc0_1 : l0_1.length ≤ c0_1) (hr0_2 : Kd.C k27 w A0_2 l0_2.length l0_2) (hc0_2 : l0_2.length ≤ c0_2) (h : arboretref01_Count.f k a0_0 l0_1 l0_2 = some (r1, r2)),
  Calls Try.prog 38 #[.agg #[.string a0_0, .slice A0_1 l0_1.length c0_1, .slice A0_2 l0_2.length c0_2]] w fun e w' => e = .returned (.tuple #[.int .i64 r1, .int .i64 r2]) ∧ Below w.heap.size w w' := by
 induction k using Nat.strongRecOn with
 | _ k ih =>
 intro a0_0 A0_1 c0_1 l0_1 A0_2 c0_2 l0_2 r1 r2 w hr0_1 hc0_1 hr0_2 hc0_2 h
 cases k with
 | zero => exact absurd h (by simp [arboretref01_Count.f])
 | succ k =>
 simp only [arboretref01_Count.f] at h; have hu27 := Try.underlying27; have HR0_1 := Ak hr0_1; have HC0_1 := Ak hc0_1; clear hr0_1 hc0_1; have HR0_2 := Ak hr0_2; have HC0_2 := Ak hc0_2; clear hr0_2 hc0_2; have HB := Zq151; have H : (arboretref01_Count.l0 k 1 (l0_1.length : Int) (l0_2.length : Int) 0 a0_0 l0_1 l0_2) = some (r1, r2) := h; clear h; have H' := Ak H; clear H
 go_enter Try.func38, Try.ntmps38
 go_wp2_with (first | ((with_reducible refine gate_dst (N := 1) rfl ?_); refine box_event ?hg (N := 1) ?hd (cs := #[.string a0_0, .slice A0_1 l0_1.length c0_1, .slice A0_2 l0_2.length c0_2]) (t := 27) ?hr ?_; (case hd | hg => rfl); (case hr => first | (go_simp; done) | (go_simp; rfl)); intro gbaZ hg w2 hbox hb; have n0_ := Zq142; have n1_ := Ak (hbox); have n2_ := Zq199; have n3_ := Zq199; clear HB; have HB := n0_; have BKaZ := n1_; have GWaZ := n2_; have GEaZ := n3_; clear n0_ n1_ n2_ n3_ hb hbox hg; have hcz3_0 : w2.cell? ⟨gbaZ, 0, none⟩ = some (.string a0_0) := (blk_cell BKaZ.out 0).trans rfl; have hcz3_1 : w2.cell? ⟨gbaZ, 1, none⟩ = some (.slice A0_1 l0_1.length c0_1) := (blk_cell BKaZ.out 1).trans rfl; have hcz3_2 : w2.cell? ⟨gbaZ, 2, none⟩ = some (.slice A0_2 l0_2.length c0_2) := (blk_cell BKaZ.out 2).trans rfl; have hfz3_0 := blk_frozen BKaZ.out 0; have hfz3_1 := blk_frozen BKaZ.out 1; have hfz3_2 := blk_frozen BKaZ.out 2))
 repeat (go_quiet (first | ((with_reducible refine gate_dst (N := 1) rfl ?_); refine box_event ?hg (N := 1) ?hd (cs := #[.string a0_0, .slice A0_1 l0_1.length c0_1, .slice A0_2 l0_2.length c0_2]) (t := 27) ?hr ?_; (case hd | hg => rfl); (case hr => first | (go_simp; done) | (go_simp; rfl)); intro gbaZ hg w2 hbox hb; have n0_ := Zq142; have n1_ := Ak (hbox); have n2_ := Zq199; have n3_ := Zq199; clear HB; have HB := n0_; have BKaZ := n1_; have GWaZ := n2_; have GEaZ := n3_; clear n0_ n1_ n2_ n3_ hb hbox hg; have hcz3_0 : w2.cell? ⟨gbaZ, 0, none⟩ = some (.string a0_0) := (blk_cell BKaZ.out 0).trans rfl; have hcz3_1 : w2.cell? ⟨gbaZ, 1, none⟩ = some (.slice A0_1 l0_1.length c0_1) := (blk_cell BKaZ.out 1).trans rfl; have hcz3_2 : w2.cell? ⟨gbaZ, 2, none⟩ = some (.slice A0_2 l0_2.length c0_2) := (blk_cell BKaZ.out 2).trans rfl; have hfz3_0 := blk_frozen BKaZ.out 0; have hfz3_1 := blk_frozen BKaZ.out 1; have hfz3_2 := blk_frozen BKaZ.out 2)); try go_wp2_with (first | ((with_reducible refine gate_dst (N := 1) rfl ?_); refine box_event ?hg (N := 1) ?hd (cs := #[.string a0_0, .slice A0_1 l0_1.length c0_1, .slice A0_2 l0_2.length c0_2]) (t := 27) ?hr ?_; (case hd | hg => rfl); (case hr => first | (go_simp; done) | (go_simp; rfl)); intro gbaZ hg w2 hbox hb; have n0_ := Zq142; have n1_ := Ak (hbox); have n2_ := Zq199; have n3_ := Zq199; clear HB; have HB := n0_; have BKaZ := n1_; have GWaZ := n2_; have GEaZ := n3_; clear n0_ n1_ n2_ n3_ hb hbox hg; have hcz3_0 : w2.cell? ⟨gbaZ, 0, none⟩ = some (.string a0_0) := (blk_cell BKaZ.out 0).trans rfl; have hcz3_1 : w2.cell? ⟨gbaZ, 1, none⟩ = some (.slice A0_1 l0_1.length c0_1) := (blk_cell BKaZ.out 1).trans rfl; have hcz3_2 : w2.cell? ⟨gbaZ, 2, none⟩ = some (.slice A0_2 l0_2.length c0_2) := (blk_cell BKaZ.out 2).trans rfl; have hfz3_0 := blk_frozen BKaZ.out 0; have hfz3_1 := blk_frozen BKaZ.out 1; have hfz3_2 := blk_frozen BKaZ.out 2)))
 go_loopg [4, 5, 15] k (fun kq v4 v5 v15 w' => ∃ (x4_1 : Int) (x5_1 : Int) (x15_1 : Int), v4 = .int .i64 x4_1 ∧ v5 = .int .i64 x5_1 ∧ v15 = .int .i64 x15_1 ∧ Aside0 (arboretref01_Count.l0 kq x4_1 x5_1 (l0_2.length : Int) x15_1 a0_0 l0_1 l0_2 = some (r1, r2)) ∧ Aside0 (kq ≤ k) ∧ Aside0 (w'.heap[gbaZ]? = some (.cells #[.string a0_0, (.slice A0_1 l0_1.length c0_1), (.slice A0_2 l0_2.length c0_2)] 27 (0, 0))) ∧ Aside0 (Below w.heap.size w w'))
 case atStart => exact ⟨(1), ((l0_1.length : Int)), (0), Zq7, Zq7, Zq7, H', ⟨Nat.le_refl _⟩, ⟨Zq92⟩, ⟨Zq86⟩⟩
 case round =>
  clear H'
  try clear p2
  try clear c3
  try clear hcz3_0
  try clear hcz3_1
  try clear hcz3_2
  try clear hfz3_0
  try clear hfz3_1
  try clear hfz3_2
  obtain ⟨x4_1, x5_1, x15_1, rfl, rfl, rfl, HA, HK1, BKaZ, HB⟩ := hrel
  cases gk with
  | zero => exact absurd HA.out (by simp [arboretref01_Count.l0])
  | succ k1 =>
   have H := HA.out; clear HA; simp only [arboretref01_Count.l0] at H
   by_cases c4 : x15_1 < (l0_2.length : Int)
   ·rw [if_pos c4] at H; have c4b0 : decide (x15_1 < (l0_2.length : Int)) = true := decide_eq_true c4; clear c4
    by_cases c5 : 0 ≤ x15_1
    ·rw [if_pos c5] at H; have c5b0 : decide (0 ≤ x15_1) = true := decide_eq_true c5; clear c5
     by_cases c6 : x15_1 < (l0_2.length : Int)
     ·rw [if_pos c6] at H; have c6b0 : decide (x15_1 < (l0_2.length : Int)) = true := decide_eq_true c6; clear c6; replace H := Option.bind_eq_some_iff.mp H; obtain ⟨⟨tdx, teb⟩, A70, H⟩ := H; replace H : (arboretref01_Count.l0 k1 (wrap64 (x4_1 + tdx)) (wrap64 (x5_1 + teb)) (l0_2.length : Int) (wrap64 (x15_1 + 1)) a0_0 l0_1 l0_2) = some (r1, r2) := H; have A7 := Ak A70; clear A70; have H' := Ak H; clear H; have hcz8_0 : wr.cell? ⟨gbaZ, 0, none⟩ = some (.string a0_0) := (blk_cell BKaZ.out 0).trans rfl; have hcz8_1 : wr.cell? ⟨gbaZ, 1, none⟩ = some (.slice A0_1 l0_1.length c0_1) := (blk_cell BKaZ.out 1).trans rfl; have hcz8_2 : wr.cell? ⟨gbaZ, 2, none⟩ = some (.slice A0_2 l0_2.length c0_2) := (blk_cell BKaZ.out 2).trans rfl; have hfz8_0 := blk_frozen BKaZ.out 0; have hfz8_1 := blk_frozen BKaZ.out 1; have hfz8_2 := blk_frozen BKaZ.out 2; have p216 : 0 ≤ (x15_1 : Int) := of_decide_eq_true Zq5; have q216 : x15_1 < (l0_2.length : Int) := of_decide_eq_true Zq5; obtain ⟨adbY, AbY_1, cbY_1, AbY_2, cbY_2, e216, hx216_0, hx216_1, hx216_2, hl216_1, hi216_1, hl216_2, hi216_2⟩ := at_T27 HR0_2.out x15_1 p216 q216
      cases e216
      replace hx216_0 := (HB.out.cell (World.block_lt_of_cell? w _ hx216_0)).trans hx216_0; replace hx216_1 := (HB.out.cell (World.block_lt_of_cell? w _ hx216_1)).trans hx216_1; replace hx216_2 := (HB.out.cell (World.block_lt_of_cell? w _ hx216_2)).trans hx216_2; have HRbY_1 := Ak hi216_1; have HCbY_1 := Ak hl216_1; clear hi216_1 hl216_1; have HRbY_2 := Ak hi216_2; have HCbY_2 := Ak hl216_2; clear hi216_2 hl216_2; replace p216 := eq_true p216; replace q216 := eq_true q216
      go_wp2_with (first | (go_at_call 38; (with_reducible refine (ih k1 Zq27 ((rd_T27 l0_2 x15_1).f0) _ _ ((rd_T27 l0_2 x15_1).f1) _ _ ((rd_T27 l0_2 x15_1).f2) tdx teb _ ?side1 ?side2 ?side3 ?side4 A7.out).mono ?_); (case side1 => repeat (first | exact (Kd.C_below HRbY_1.out HB.out) | (with_reducible refine Kd.C_alloc ?_ _) | (with_reducible refine Kd.C_drewN ?_ _) | (with_reducible refine Kd.C_drew ?_))); (case side2 => exact HCbY_1.out); (case side3 => repeat (first | exact (Kd.C_below HRbY_2.out HB.out) | (with_reducible refine Kd.C_alloc ?_ _) | (with_reducible refine Kd.C_drewN ?_ _) | (with_reducible refine Kd.C_drew ?_))); (case side4 => exact HCbY_2.out); rintro e w9 ⟨rfl, hb⟩; have n0_ := Zq213; have n1_ := Ak (below_step Zq86 hb); clear BKaZ HB; have BKaZ := n0_; have HB := n1_; clear n0_ n1_; (try clear hb); (try clear hb2); (try clear hk); (try clear hi)))
      repeat (go_quiet (first | (go_at_call 38; (with_reducible refine (ih k1 Zq27 ((rd_T27 l0_2 x15_1).f0) _ _ ((rd_T27 l0_2 x15_1).f1) _ _ ((rd_T27 l0_2 x15_1).f2) tdx teb _ ?side1 ?side2 ?side3 ?side4 A7.out).mono ?_); (case side1 => repeat (first | exact (Kd.C_below HRbY_1.out HB.out) | (with_reducible refine Kd.C_alloc ?_ _) | (with_reducible refine Kd.C_drewN ?_ _) | (with_reducible refine Kd.C_drew ?_))); (case side2 => exact HCbY_1.out); (case side3 => repeat (first | exact (Kd.C_below HRbY_2.out HB.out) | (with_reducible refine Kd.C_alloc ?_ _) | (with_reducible refine Kd.C_drewN ?_ _) | (with_reducible refine Kd.C_drew ?_))); (case side4 => exact HCbY_2.out); rintro e w9 ⟨rfl, hb⟩; have n0_ := Zq213; have n1_ := Ak (below_step Zq86 hb); clear BKaZ HB; have BKaZ := n0_; have HB := n1_; clear n0_ n1_; (try clear hb); (try clear hb2); (try clear hk); (try clear hi))); try go_wp2_with (first | (go_at_call 38; (with_reducible refine (ih k1 Zq27 ((rd_T27 l0_2 x15_1).f0) _ _ ((rd_T27 l0_2 x15_1).f1) _ _ ((rd_T27 l0_2 x15_1).f2) tdx teb _ ?side1 ?side2 ?side3 ?side4 A7.out).mono ?_); (case side1 => repeat (first | exact (Kd.C_below HRbY_1.out HB.out) | (with_reducible refine Kd.C_alloc ?_ _) | (with_reducible refine Kd.C_drewN ?_ _) | (with_reducible refine Kd.C_drew ?_))); (case side2 => exact HCbY_1.out); (case side3 => repeat (first | exact (Kd.C_below HRbY_2.out HB.out) | (with_reducible refine Kd.C_alloc ?_ _) | (with_reducible refine Kd.C_drewN ?_ _) | (with_reducible refine Kd.C_drew ?_))); (case side4 => exact HCbY_2.out); rintro e w9 ⟨rfl, hb⟩; have n0_ := Zq213; have n1_ := Ak (below_step Zq86 hb); clear BKaZ HB; have BKaZ := n0_; have HB := n1_; clear n0_ n1_; (try clear hb); (try clear hb2); (try clear hk); (try clear hi))))
      go_roundg k1
      case measure => have := HK1.out; omega
      case rel => exact ⟨(wrap64 (x4_1 + tdx)), (wrap64 (x5_1 + teb)), (wrap64 (x15_1 + 1)), Zq7, Zq7, Zq7, H', ⟨Zq27⟩, ⟨Zq92⟩, ⟨Zq86⟩⟩
     ·rw [if_neg c6] at H; exact absurd H Zq10
    ·rw [if_neg c5] at H; exact absurd H Zq10
   ·rw [if_neg c4] at H; have c4b0 : decide (x15_1 < (l0_2.length : Int)) = false := decide_eq_false c4; clear c4; simp only [Option.some.injEq, Prod.mk.injEq] at H; obtain ⟨rfl, rfl⟩ := H
    go_wp2
    repeat (go_quiet (fail); try go_wp2)
    go_ret2
    exact ⟨Zq13, Zq86⟩
mutual
def arboretref01_Check.j0 : Nat → Bool → Int → List (S82) → ByteArray → List (S63) → List (S27) → Option (Int)
 | 0, _, _, _, _, _, _ => none
 | k + 1, x30, xep, xdy, xeq, xer, xet => if x30 = true then (some 7) else (arboretref01_Check.l0 k (xdy.length : Int) 0 xep xdy xeq xer xet)
def arboretref01_Check.l0 : Nat → Int → Int → Int → List (S82) → ByteArray → List (S63) → List (S27) → Option (Int)
 | 0, _, _, _, _, _, _, _ => none
 | k + 1, x33, x34, xep, xdy, xeq, xer, xet => if x34 < x33 then (if 0 ≤ x34 then (if x34 < (xdy.length : Int) then (if ((rd_T82 xdy x34).f0) = 0 then (if ((rd_T82 xdy x34).f1) = 0 then (some 7) else (arboretref01_Check.l0 k x33 (wrap64 (x34 + 1)) xep xdy xeq xer xet)) else (arboretref01_Check.l0 k x33 (wrap64 (x34 + 1)) xep xdy xeq xer xet)) else (none)) else (none)) else (some 0)
end
def arboretref01_Check.f (k : Nat) (a0_0 : Int) (l0_1 : List (S82)) (a0_2 : ByteArray) (l0_3 : List (S63)) (l0_4 : List (S27)) : Option (Int) := (arboretref01_wrong.f k a0_2 l0_3 l0_4 1).bind fun tcg => (if tcg = 0 then ((arboretref01_Count.f k a0_2 l0_3 l0_4).bind fun btcB => (if btcB.1 > 4096 then (arboretref01_Check.j0 k true a0_0 l0_1 a0_2 l0_3 l0_4) else (if btcB.2 > 8192 then (arboretref01_Check.j0 k true a0_0 l0_1 a0_2 l0_3 l0_4) else (arboretref01_Check.j0 k (decide ((l0_1.length : Int) > 64)) a0_0 l0_1 a0_2 l0_3 l0_4)))) else (some tcg))
set_option maxHeartbeats 8000000 in
set_option maxRecDepth 100000 in
theorem arboretref01_Check.calls (k : Nat) (a0_0 : Int) (A0_1 : Option Addr) (c0_1 : Nat) (l0_1 : List (S82)) (a0_2 : ByteArray) (A0_3 : Option Addr) (c0_3 : Nat) (l0_3 : List (S63)) (A0_4 : Option Addr) (c0_4 : Nat) (l0_4 : List (S27)) (r : Int) (w : World) (hr0_1 : Kd.C k82 w A0_1 l0_1.length l0_1) (hc0_1 : l0_1.length ≤ c0_1) (hr0_3 : Kd.C k63 w A0_3 l0_3.length l0_3) (hc0_3 : l0_3.length ≤ c0_3) (hr0_4 : Kd.C k27 w A0_4 l0_4.length l0_4) (hc0_4 : l0_4.length ≤ c0_4) (h : arboretref01_Check.f k a0_0 l0_1 a0_2 l0_3 l0_4 = some r) :
  Calls Try.prog 20 #[.agg #[.int .u32 a0_0, .slice A0_1 l0_1.length c0_1, .string a0_2, .slice A0_3 l0_3.length c0_3, .slice A0_4 l0_4.length c0_4]] w fun e w' => e = .returned (.int .i64 r) ∧ Below w.heap.size w w' := by
 have hu29 := Try.underlying29; have hu27 := Try.underlying27; have HR0_1 := Ak hr0_1; have HC0_1 := Ak hc0_1; clear hr0_1 hc0_1; have HR0_3 := Ak hr0_3; have HC0_3 := Ak hc0_3; clear hr0_3 hc0_3; have HR0_4 := Ak hr0_4; have HC0_4 := Ak hc0_4; clear hr0_4 hc0_4; have HB := Zq151; have H : ((arboretref01_wrong.f k a0_2 l0_3 l0_4 1).bind fun tcg => (if tcg = 0 then ((arboretref01_Count.f k a0_2 l0_3 l0_4).bind fun btcB => (if btcB.1 > 4096 then (arboretref01_Check.j0 k true a0_0 l0_1 a0_2 l0_3 l0_4) else (if btcB.2 > 8192 then (arboretref01_Check.j0 k true a0_0 l0_1 a0_2 l0_3 l0_4) else (arboretref01_Check.j0 k (decide ((l0_1.length : Int) > 64)) a0_0 l0_1 a0_2 l0_3 l0_4)))) else (some tcg))) = some r := h; clear h; replace H := Option.bind_eq_some_iff.mp H; obtain ⟨tcg, A20, H⟩ := H; replace H : (if tcg = 0 then ((arboretref01_Count.f k a0_2 l0_3 l0_4).bind fun btcB => (if btcB.1 > 4096 then (arboretref01_Check.j0 k true a0_0 l0_1 a0_2 l0_3 l0_4) else (if btcB.2 > 8192 then (arboretref01_Check.j0 k true a0_0 l0_1 a0_2 l0_3 l0_4) else (arboretref01_Check.j0 k (decide ((l0_1.length : Int) > 64)) a0_0 l0_1 a0_2 l0_3 l0_4)))) else (some tcg)) = some r := H; have A2 := Ak A20; clear A20
 by_cases c3 : tcg = 0
 ·rw [if_pos c3] at H; have c3b0 : (tcg == 0) = true := beq_iff_eq.mpr c3; have c3b1 : (tcg != 0) = false := bne_eq_false_iff_eq.mpr c3; clear c3; replace H := Option.bind_eq_some_iff.mp H; obtain ⟨⟨tcB, tec⟩, A40, H⟩ := H; replace H : (if tcB > 4096 then (arboretref01_Check.j0 k true a0_0 l0_1 a0_2 l0_3 l0_4) else (if tec > 8192 then (arboretref01_Check.j0 k true a0_0 l0_1 a0_2 l0_3 l0_4) else (arboretref01_Check.j0 k (decide ((l0_1.length : Int) > 64)) a0_0 l0_1 a0_2 l0_3 l0_4))) = some r := H; have A4 := Ak A40; clear A40; have HC5 := Ak H; clear H
  go_enter Try.func20, Try.ntmps20
  go_upto_region 5 with (first | ((with_reducible refine gate_dst (N := 1) rfl ?_); (try (refine gate_guard Zq3 ?_; dsimp only)); refine box_event ?hg (N := 1) ?hd (cs := #[.int .u32 a0_0, .slice A0_1 l0_1.length c0_1, .string a0_2, .slice A0_3 l0_3.length c0_3, .slice A0_4 l0_4.length c0_4]) (t := 29) ?hr ?_; (case hd | hg => rfl); (case hr => first | (go_simp; done) | (go_simp; rfl)); intro gbam hg w6 hbox hb; have n0_ := Zq142; have n1_ := Ak (hbox); have n2_ := Zq246; have n3_ := Zq246; clear HB; have HB := n0_; have BKam := n1_; have GWam := n2_; have GEam := n3_; clear n0_ n1_ n2_ n3_ hb hbox hg; have hcz7_0 : w6.cell? ⟨gbam, 0, none⟩ = some (.int .u32 a0_0) := (blk_cell BKam.out 0).trans rfl; have hcz7_1 : w6.cell? ⟨gbam, 1, none⟩ = some (.slice A0_1 l0_1.length c0_1) := (blk_cell BKam.out 1).trans rfl; have hcz7_2 : w6.cell? ⟨gbam, 2, none⟩ = some (.string a0_2) := (blk_cell BKam.out 2).trans rfl; have hcz7_3 : w6.cell? ⟨gbam, 3, none⟩ = some (.slice A0_3 l0_3.length c0_3) := (blk_cell BKam.out 3).trans rfl; have hcz7_4 : w6.cell? ⟨gbam, 4, none⟩ = some (.slice A0_4 l0_4.length c0_4) := (blk_cell BKam.out 4).trans rfl; have hfz7_0 := blk_frozen BKam.out 0; have hfz7_1 := blk_frozen BKam.out 1; have hfz7_2 := blk_frozen BKam.out 2; have hfz7_3 := blk_frozen BKam.out 3; have hfz7_4 := blk_frozen BKam.out 4) | ((with_reducible refine gate_callee (f := 37) rfl ?_); refine goesL_ (some 9) rfl rfl Try.func37 Zq2 rfl #[.agg #[.string a0_2, .slice A0_3 l0_3.length c0_3, .slice A0_4 l0_4.length c0_4], .int .i64 1] rfl Zq8 ?_; (with_reducible refine (arboretref01_wrong.calls k a0_2 _ _ l0_3 _ _ l0_4 1 tcg _ ?side1 ?side2 ?side3 ?side4 A2.out).mono ?_); (case side1 => repeat (first | exact Zq153 | (with_reducible refine Kd.C_alloc ?_ _) | (with_reducible refine Kd.C_drewN ?_ _) | (with_reducible refine Kd.C_drew ?_))); (case side2 => exact HC0_3.out); (case side3 => repeat (first | exact Zq154 | (with_reducible refine Kd.C_alloc ?_ _) | (with_reducible refine Kd.C_drewN ?_ _) | (with_reducible refine Kd.C_drew ?_))); (case side4 => exact HC0_4.out); rintro e w8 ⟨rfl, hb⟩; refine ⟨_, rfl, ?_⟩; have n0_ := Zq195; have n1_ := Ak (below_step Zq53 hb); clear BKam HB; have BKam := n0_; have HB := n1_; clear n0_ n1_; (try clear hb); (try clear hb2); (try clear hk); (try clear hi); have hcz9_0 : w8.cell? ⟨gbam, 0, none⟩ = some (.int .u32 a0_0) := (blk_cell BKam.out 0).trans rfl; have hcz9_1 : w8.cell? ⟨gbam, 1, none⟩ = some (.slice A0_1 l0_1.length c0_1) := (blk_cell BKam.out 1).trans rfl; have hcz9_2 : w8.cell? ⟨gbam, 2, none⟩ = some (.string a0_2) := (blk_cell BKam.out 2).trans rfl; have hcz9_3 : w8.cell? ⟨gbam, 3, none⟩ = some (.slice A0_3 l0_3.length c0_3) := (blk_cell BKam.out 3).trans rfl; have hcz9_4 : w8.cell? ⟨gbam, 4, none⟩ = some (.slice A0_4 l0_4.length c0_4) := (blk_cell BKam.out 4).trans rfl; have hfz9_0 := blk_frozen BKam.out 0; have hfz9_1 := blk_frozen BKam.out 1; have hfz9_2 := blk_frozen BKam.out 2; have hfz9_3 := blk_frozen BKam.out 3; have hfz9_4 := blk_frozen BKam.out 4) | ((with_reducible refine gate_callee (f := 38) rfl ?_); refine goesL_ (some 16) rfl rfl Try.func38 Zq2 rfl #[.agg #[.string a0_2, .slice A0_3 l0_3.length c0_3, .slice A0_4 l0_4.length c0_4]] rfl Zq8 ?_; (with_reducible refine (arboretref01_Count.calls k a0_2 _ _ l0_3 _ _ l0_4 tcB tec _ ?side1 ?side2 ?side3 ?side4 A4.out).mono ?_); (case side1 => repeat (first | exact Zq153 | (with_reducible refine Kd.C_alloc ?_ _) | (with_reducible refine Kd.C_drewN ?_ _) | (with_reducible refine Kd.C_drew ?_))); (case side2 => exact HC0_3.out); (case side3 => repeat (first | exact Zq154 | (with_reducible refine Kd.C_alloc ?_ _) | (with_reducible refine Kd.C_drewN ?_ _) | (with_reducible refine Kd.C_drew ?_))); (case side4 => exact HC0_4.out); rintro e w10 ⟨rfl, hb⟩; refine ⟨_, rfl, ?_⟩; have n0_ := Zq195; have n1_ := Ak (below_step Zq53 hb); clear BKam HB; have BKam := n0_; have HB := n1_; clear n0_ n1_; (try clear hb); (try clear hb2); (try clear hk); (try clear hi)))
  (try simp only [Act.put, List.setIfInBounds_toArray, List.set_cons_zero, List.set_cons_succ])
  go_cut [30] (fun v30 wc => ∃ (kq : Nat) (x30_4 : Bool), v30 = .bool x30_4 ∧ Aside0 (arboretref01_Check.j0 kq x30_4 a0_0 l0_1 a0_2 l0_3 l0_4 = some r) ∧ Aside0 (kq ≤ k) ∧ Aside0 (wc.heap[gbam]? = some (.cells #[.int .u32 a0_0, (.slice A0_1 l0_1.length c0_1), .string a0_2, (.slice A0_3 l0_3.length c0_3), (.slice A0_4 l0_4.length c0_4)] 29 (0, 0))) ∧ Aside0 (Below w.heap.size w wc))
  case first =>
   have H := HC5.out; clear HC5
   by_cases c11 : tcB > 4096
   ·rw [if_pos c11] at H; have c11b0 : decide (4096 < tcB) = true := decide_eq_true c11; clear c11
    (first | rw [c11b0] | (simp only [i64_w, i32_w]; rw [c11b0]) | skip)
    have H' := Ak H; clear H
    go_wp2
    go_meet
    case rel => exact ⟨_, (true), Zq7, H', ⟨Zq43⟩, ⟨Zq66⟩, ⟨Zq53⟩⟩
   ·rw [if_neg c11] at H; have c11b0 : decide (4096 < tcB) = false := decide_eq_false c11; clear c11
    (first | rw [c11b0] | (simp only [i64_w, i32_w]; rw [c11b0]) | skip)
    by_cases c12 : tec > 8192
    ·rw [if_pos c12] at H; have c12b0 : decide (8192 < tec) = true := decide_eq_true c12; clear c12; have H' := Ak H; clear H
     go_wp2
     go_meet
     case rel => exact ⟨_, (true), Zq7, H', ⟨Zq43⟩, ⟨Zq66⟩, ⟨Zq53⟩⟩
    ·rw [if_neg c12] at H; have c12b0 : decide (8192 < tec) = false := decide_eq_false c12; clear c12; have H' := Ak H; clear H; have hcz13_0 : w10.cell? ⟨gbam, 0, none⟩ = some (.int .u32 a0_0) := (blk_cell BKam.out 0).trans rfl; have hcz13_1 : w10.cell? ⟨gbam, 1, none⟩ = some (.slice A0_1 l0_1.length c0_1) := (blk_cell BKam.out 1).trans rfl; have hcz13_2 : w10.cell? ⟨gbam, 2, none⟩ = some (.string a0_2) := (blk_cell BKam.out 2).trans rfl; have hcz13_3 : w10.cell? ⟨gbam, 3, none⟩ = some (.slice A0_3 l0_3.length c0_3) := (blk_cell BKam.out 3).trans rfl; have hcz13_4 : w10.cell? ⟨gbam, 4, none⟩ = some (.slice A0_4 l0_4.length c0_4) := (blk_cell BKam.out 4).trans rfl; have hfz13_0 := blk_frozen BKam.out 0; have hfz13_1 := blk_frozen BKam.out 1; have hfz13_2 := blk_frozen BKam.out 2; have hfz13_3 := blk_frozen BKam.out 3; have hfz13_4 := blk_frozen BKam.out 4
     go_wp2
     go_meet
     case rel => exact ⟨_, (decide ((l0_1.length : Int) > 64)), Zq7, H', ⟨Zq43⟩, ⟨Zq66⟩, ⟨Zq53⟩⟩
  case rest =>
   clear HC5
   try clear c1
   try clear c2
   try clear p2
   try clear c3
   try clear c3b0
   try clear c3b1
   try clear c11
   try clear c11b0
   try clear c12
   try clear c12b0
   try clear hcz13_0
   try clear hcz13_1
   try clear hcz13_2
   try clear hcz13_3
   try clear hcz13_4
   try clear hcz7_0
   try clear hcz7_1
   try clear hcz7_2
   try clear hcz7_3
   try clear hcz7_4
   try clear hcz9_0
   try clear hcz9_1
   try clear hcz9_2
   try clear hcz9_3
   try clear hcz9_4
   try clear hfz13_0
   try clear hfz13_1
   try clear hfz13_2
   try clear hfz13_3
   try clear hfz13_4
   try clear hfz7_0
   try clear hfz7_1
   try clear hfz7_2
   try clear hfz7_3
   try clear hfz7_4
   try clear hfz9_0
   try clear hfz9_1
   try clear hfz9_2
   try clear hfz9_3
   try clear hfz9_4
   obtain ⟨kq, x30_4, rfl, HA, HJ4, BKam, HB⟩ := hcut
   cases kq with
   | zero => exact absurd HA.out (by simp [arboretref01_Check.j0])
   | succ kj4 =>
    have H := HA.out; clear HA; simp only [arboretref01_Check.j0] at H
    by_cases c14 : x30_4 = true
    ·subst c14
     have H1 : (some 7) = some r := by rw [if_pos rfl] at H; exact H
     clear H; have H := H1; clear H1; obtain rfl := Option.some.inj H
     go_wp2
     go_ret
     exact ⟨Zq13, Zq53⟩
    ·replace c14 := Bool.eq_false_iff.mpr c14; subst c14
     have H1 : (arboretref01_Check.l0 kj4 (l0_1.length : Int) 0 a0_0 l0_1 a0_2 l0_3 l0_4) = some r := by rw [if_neg (show ¬ (false = true) by decide)] at H; exact H
     clear H; have H := H1; clear H1; have H' := Ak H; clear H; have hcz15_0 : wc.cell? ⟨gbam, 0, none⟩ = some (.int .u32 a0_0) := (blk_cell BKam.out 0).trans rfl; have hcz15_1 : wc.cell? ⟨gbam, 1, none⟩ = some (.slice A0_1 l0_1.length c0_1) := (blk_cell BKam.out 1).trans rfl; have hcz15_2 : wc.cell? ⟨gbam, 2, none⟩ = some (.string a0_2) := (blk_cell BKam.out 2).trans rfl; have hcz15_3 : wc.cell? ⟨gbam, 3, none⟩ = some (.slice A0_3 l0_3.length c0_3) := (blk_cell BKam.out 3).trans rfl; have hcz15_4 : wc.cell? ⟨gbam, 4, none⟩ = some (.slice A0_4 l0_4.length c0_4) := (blk_cell BKam.out 4).trans rfl; have hfz15_0 := blk_frozen BKam.out 0; have hfz15_1 := blk_frozen BKam.out 1; have hfz15_2 := blk_frozen BKam.out 2; have hfz15_3 := blk_frozen BKam.out 3; have hfz15_4 := blk_frozen BKam.out 4
     go_wp2
     go_loopg [34] kj4 (fun kq v34 w' => ∃ (x34_2 : Int), v34 = .int .i64 x34_2 ∧ Aside0 (arboretref01_Check.l0 kq (l0_1.length : Int) x34_2 a0_0 l0_1 a0_2 l0_3 l0_4 = some r) ∧ Aside0 (kq ≤ kj4) ∧ Aside0 (w'.heap[gbam]? = some (.cells #[.int .u32 a0_0, (.slice A0_1 l0_1.length c0_1), .string a0_2, (.slice A0_3 l0_3.length c0_3), (.slice A0_4 l0_4.length c0_4)] 29 (0, 0))) ∧ Aside0 (Below w.heap.size w w'))
     case atStart => exact ⟨(0), Zq7, H', ⟨Nat.le_refl _⟩, ⟨Zq66⟩, ⟨Zq53⟩⟩
     case round =>
      clear H'
      try clear c1
      try clear c2
      try clear p2
      try clear c3
      try clear c3b0
      try clear c3b1
      try clear c11
      try clear c11b0
      try clear c12
      try clear c12b0
      try clear c14
      try clear hcz13_0
      try clear hcz13_1
      try clear hcz13_2
      try clear hcz13_3
      try clear hcz13_4
      try clear hcz15_0
      try clear hcz15_1
      try clear hcz15_2
      try clear hcz15_3
      try clear hcz15_4
      try clear hcz7_0
      try clear hcz7_1
      try clear hcz7_2
      try clear hcz7_3
      try clear hcz7_4
      try clear hcz9_0
      try clear hcz9_1
      try clear hcz9_2
      try clear hcz9_3
      try clear hcz9_4
      try clear hfz13_0
      try clear hfz13_1
      try clear hfz13_2
      try clear hfz13_3
      try clear hfz13_4
      try clear hfz15_0
      try clear hfz15_1
      try clear hfz15_2
      try clear hfz15_3
      try clear hfz15_4
      try clear hfz7_0
      try clear hfz7_1
      try clear hfz7_2
      try clear hfz7_3
      try clear hfz7_4
      try clear hfz9_0
      try clear hfz9_1
      try clear hfz9_2
      try clear hfz9_3
      try clear hfz9_4
      try clear p2
      obtain ⟨x34_2, rfl, HA, HK2, BKam, HB⟩ := hrel
      cases gk with
      | zero => exact absurd HA.out (by simp [arboretref01_Check.l0])
      | succ k2 =>
       have H := HA.out; clear HA; simp only [arboretref01_Check.l0] at H
       by_cases c16 : x34_2 < (l0_1.length : Int)
       ·rw [if_pos c16] at H; have c16b0 : decide (x34_2 < (l0_1.length : Int)) = true := decide_eq_true c16; clear c16
        by_cases c17 : 0 ≤ x34_2
        ·rw [if_pos c17] at H; have c17b0 : decide (0 ≤ x34_2) = true := decide_eq_true c17; clear c17
         by_cases c18 : x34_2 < (l0_1.length : Int)
         ·rw [if_pos c18] at H; have c18b0 : decide (x34_2 < (l0_1.length : Int)) = true := decide_eq_true c18; clear c18
          by_cases c19 : ((rd_T82 l0_1 x34_2).f0) = 0
          ·rw [if_pos c19] at H; have c19b0 : (((rd_T82 l0_1 x34_2).f0) == 0) = true := beq_iff_eq.mpr c19; have c19b1 : (((rd_T82 l0_1 x34_2).f0) != 0) = false := bne_eq_false_iff_eq.mpr c19; clear c19
           by_cases c20 : ((rd_T82 l0_1 x34_2).f1) = 0
           ·rw [if_pos c20] at H; have c20b0 : (((rd_T82 l0_1 x34_2).f1) == 0) = true := beq_iff_eq.mpr c20; have c20b1 : (((rd_T82 l0_1 x34_2).f1) != 0) = false := bne_eq_false_iff_eq.mpr c20; clear c20; obtain rfl := Option.some.inj H; have hcz21_0 : wr.cell? ⟨gbam, 0, none⟩ = some (.int .u32 a0_0) := (blk_cell BKam.out 0).trans rfl; have hcz21_1 : wr.cell? ⟨gbam, 1, none⟩ = some (.slice A0_1 l0_1.length c0_1) := (blk_cell BKam.out 1).trans rfl; have hcz21_2 : wr.cell? ⟨gbam, 2, none⟩ = some (.string a0_2) := (blk_cell BKam.out 2).trans rfl; have hcz21_3 : wr.cell? ⟨gbam, 3, none⟩ = some (.slice A0_3 l0_3.length c0_3) := (blk_cell BKam.out 3).trans rfl; have hcz21_4 : wr.cell? ⟨gbam, 4, none⟩ = some (.slice A0_4 l0_4.length c0_4) := (blk_cell BKam.out 4).trans rfl; have hfz21_0 := blk_frozen BKam.out 0; have hfz21_1 := blk_frozen BKam.out 1; have hfz21_2 := blk_frozen BKam.out 2; have hfz21_3 := blk_frozen BKam.out 3; have hfz21_4 := blk_frozen BKam.out 4; have p223 : 0 ≤ (x34_2 : Int) := of_decide_eq_true Zq5; have q223 : x34_2 < (l0_1.length : Int) := of_decide_eq_true Zq5; obtain ⟨adeu, e223, hx223_0, hx223_1⟩ := at_T82 HR0_1.out x34_2 p223 q223
            cases e223
            replace hx223_0 := (HB.out.cell (World.block_lt_of_cell? w _ hx223_0)).trans hx223_0; replace hx223_1 := (HB.out.cell (World.block_lt_of_cell? w _ hx223_1)).trans hx223_1; replace p223 := eq_true p223; replace q223 := eq_true q223; have p224 : 0 ≤ (x34_2 : Int) := of_decide_eq_true Zq5; have q224 : x34_2 < (l0_1.length : Int) := of_decide_eq_true Zq5; obtain ⟨adeH, e224, hx224_0, hx224_1⟩ := at_T82 HR0_1.out x34_2 p224 q224
            obtain rfl : adeu = adeH := (by injection e224)
            replace hx224_0 := (HB.out.cell (World.block_lt_of_cell? w _ hx224_0)).trans hx224_0; replace hx224_1 := (HB.out.cell (World.block_lt_of_cell? w _ hx224_1)).trans hx224_1; replace p224 := eq_true p224; replace q224 := eq_true q224
            go_wp2
            go_ret
            exact ⟨Zq13, Zq53⟩
           ·rw [if_neg c20] at H; have c20b0 : (((rd_T82 l0_1 x34_2).f1) == 0) = false := beq_eq_false_iff_ne.mpr c20; have c20b1 : (((rd_T82 l0_1 x34_2).f1) != 0) = true := bne_iff_ne.mpr c20; have H' := Ak H; clear H; have hcz22_0 : wr.cell? ⟨gbam, 0, none⟩ = some (.int .u32 a0_0) := (blk_cell BKam.out 0).trans rfl; have hcz22_1 : wr.cell? ⟨gbam, 1, none⟩ = some (.slice A0_1 l0_1.length c0_1) := (blk_cell BKam.out 1).trans rfl; have hcz22_2 : wr.cell? ⟨gbam, 2, none⟩ = some (.string a0_2) := (blk_cell BKam.out 2).trans rfl; have hcz22_3 : wr.cell? ⟨gbam, 3, none⟩ = some (.slice A0_3 l0_3.length c0_3) := (blk_cell BKam.out 3).trans rfl; have hcz22_4 : wr.cell? ⟨gbam, 4, none⟩ = some (.slice A0_4 l0_4.length c0_4) := (blk_cell BKam.out 4).trans rfl; have hfz22_0 := blk_frozen BKam.out 0; have hfz22_1 := blk_frozen BKam.out 1; have hfz22_2 := blk_frozen BKam.out 2; have hfz22_3 := blk_frozen BKam.out 3; have hfz22_4 := blk_frozen BKam.out 4; have p223 : 0 ≤ (x34_2 : Int) := of_decide_eq_true Zq5; have q223 : x34_2 < (l0_1.length : Int) := of_decide_eq_true Zq5; obtain ⟨adeu, e223, hx223_0, hx223_1⟩ := at_T82 HR0_1.out x34_2 p223 q223
            cases e223
            replace hx223_0 := (HB.out.cell (World.block_lt_of_cell? w _ hx223_0)).trans hx223_0; replace hx223_1 := (HB.out.cell (World.block_lt_of_cell? w _ hx223_1)).trans hx223_1; replace p223 := eq_true p223; replace q223 := eq_true q223; have p224 : 0 ≤ (x34_2 : Int) := of_decide_eq_true Zq5; have q224 : x34_2 < (l0_1.length : Int) := of_decide_eq_true Zq5; obtain ⟨adeH, e224, hx224_0, hx224_1⟩ := at_T82 HR0_1.out x34_2 p224 q224
            obtain rfl : adeu = adeH := (by injection e224)
            replace hx224_0 := (HB.out.cell (World.block_lt_of_cell? w _ hx224_0)).trans hx224_0; replace hx224_1 := (HB.out.cell (World.block_lt_of_cell? w _ hx224_1)).trans hx224_1; replace p224 := eq_true p224; replace q224 := eq_true q224
            go_wp2
            go_roundg k2
            case measure => have := HJ4.out; have := HK2.out; omega
            case rel => exact ⟨(wrap64 (x34_2 + 1)), Zq7, H', ⟨by have := HJ4.out; have := HK2.out; omega⟩, ⟨Zq66⟩, ⟨Zq53⟩⟩
          ·rw [if_neg c19] at H; have c19b0 : (((rd_T82 l0_1 x34_2).f0) == 0) = false := beq_eq_false_iff_ne.mpr c19; have c19b1 : (((rd_T82 l0_1 x34_2).f0) != 0) = true := bne_iff_ne.mpr c19; have H' := Ak H; clear H; have hcz23_0 : wr.cell? ⟨gbam, 0, none⟩ = some (.int .u32 a0_0) := (blk_cell BKam.out 0).trans rfl; have hcz23_1 : wr.cell? ⟨gbam, 1, none⟩ = some (.slice A0_1 l0_1.length c0_1) := (blk_cell BKam.out 1).trans rfl; have hcz23_2 : wr.cell? ⟨gbam, 2, none⟩ = some (.string a0_2) := (blk_cell BKam.out 2).trans rfl; have hcz23_3 : wr.cell? ⟨gbam, 3, none⟩ = some (.slice A0_3 l0_3.length c0_3) := (blk_cell BKam.out 3).trans rfl; have hcz23_4 : wr.cell? ⟨gbam, 4, none⟩ = some (.slice A0_4 l0_4.length c0_4) := (blk_cell BKam.out 4).trans rfl; have hfz23_0 := blk_frozen BKam.out 0; have hfz23_1 := blk_frozen BKam.out 1; have hfz23_2 := blk_frozen BKam.out 2; have hfz23_3 := blk_frozen BKam.out 3; have hfz23_4 := blk_frozen BKam.out 4; have p223 : 0 ≤ (x34_2 : Int) := of_decide_eq_true Zq5; have q223 : x34_2 < (l0_1.length : Int) := of_decide_eq_true Zq5; obtain ⟨adeu, e223, hx223_0, hx223_1⟩ := at_T82 HR0_1.out x34_2 p223 q223
           cases e223
           replace hx223_0 := (HB.out.cell (World.block_lt_of_cell? w _ hx223_0)).trans hx223_0; replace hx223_1 := (HB.out.cell (World.block_lt_of_cell? w _ hx223_1)).trans hx223_1; replace p223 := eq_true p223; replace q223 := eq_true q223
           go_wp2
           go_roundg k2
           case measure => have := HJ4.out; have := HK2.out; omega
           case rel => exact ⟨(wrap64 (x34_2 + 1)), Zq7, H', ⟨by have := HJ4.out; have := HK2.out; omega⟩, ⟨Zq66⟩, ⟨Zq53⟩⟩
         ·rw [if_neg c18] at H; exact absurd H Zq10
        ·rw [if_neg c17] at H; exact absurd H Zq10
       ·rw [if_neg c16] at H; have c16b0 : decide (x34_2 < (l0_1.length : Int)) = false := decide_eq_false c16; clear c16; obtain rfl := Option.some.inj H
        go_wp2
        go_ret
        exact ⟨Zq13, Zq53⟩
 ·rw [if_neg c3] at H; have c3b0 : (tcg == 0) = false := beq_eq_false_iff_ne.mpr c3; have c3b1 : (tcg != 0) = true := bne_iff_ne.mpr c3; obtain rfl := Option.some.inj H
  go_enter Try.func20, Try.ntmps20
  go_wp2_with (first | ((with_reducible refine gate_dst (N := 1) rfl ?_); (try (refine gate_guard Zq3 ?_; dsimp only)); refine box_event ?hg (N := 1) ?hd (cs := #[.int .u32 a0_0, .slice A0_1 l0_1.length c0_1, .string a0_2, .slice A0_3 l0_3.length c0_3, .slice A0_4 l0_4.length c0_4]) (t := 29) ?hr ?_; (case hd | hg => rfl); (case hr => first | (go_simp; done) | (go_simp; rfl)); intro gbam hg w24 hbox hb; have n0_ := Zq142; have n1_ := Ak (hbox); have n2_ := Zq246; have n3_ := Zq246; clear HB; have HB := n0_; have BKam := n1_; have GWam := n2_; have GEam := n3_; clear n0_ n1_ n2_ n3_ hb hbox hg; have hcz25_0 : w24.cell? ⟨gbam, 0, none⟩ = some (.int .u32 a0_0) := (blk_cell BKam.out 0).trans rfl; have hcz25_1 : w24.cell? ⟨gbam, 1, none⟩ = some (.slice A0_1 l0_1.length c0_1) := (blk_cell BKam.out 1).trans rfl; have hcz25_2 : w24.cell? ⟨gbam, 2, none⟩ = some (.string a0_2) := (blk_cell BKam.out 2).trans rfl; have hcz25_3 : w24.cell? ⟨gbam, 3, none⟩ = some (.slice A0_3 l0_3.length c0_3) := (blk_cell BKam.out 3).trans rfl; have hcz25_4 : w24.cell? ⟨gbam, 4, none⟩ = some (.slice A0_4 l0_4.length c0_4) := (blk_cell BKam.out 4).trans rfl; have hfz25_0 := blk_frozen BKam.out 0; have hfz25_1 := blk_frozen BKam.out 1; have hfz25_2 := blk_frozen BKam.out 2; have hfz25_3 := blk_frozen BKam.out 3; have hfz25_4 := blk_frozen BKam.out 4) | ((with_reducible refine gate_callee (f := 37) rfl ?_); refine goesL_ (some 9) rfl rfl Try.func37 Zq2 rfl #[.agg #[.string a0_2, .slice A0_3 l0_3.length c0_3, .slice A0_4 l0_4.length c0_4], .int .i64 1] rfl Zq8 ?_; (with_reducible refine (arboretref01_wrong.calls k a0_2 _ _ l0_3 _ _ l0_4 1 tcg _ ?side1 ?side2 ?side3 ?side4 A2.out).mono ?_); (case side1 => repeat (first | exact Zq153 | (with_reducible refine Kd.C_alloc ?_ _) | (with_reducible refine Kd.C_drewN ?_ _) | (with_reducible refine Kd.C_drew ?_))); (case side2 => exact HC0_3.out); (case side3 => repeat (first | exact Zq154 | (with_reducible refine Kd.C_alloc ?_ _) | (with_reducible refine Kd.C_drewN ?_ _) | (with_reducible refine Kd.C_drew ?_))); (case side4 => exact HC0_4.out); rintro e w26 ⟨rfl, hb⟩; refine ⟨_, rfl, ?_⟩; have n0_ := Zq195; have n1_ := Ak (below_step Zq53 hb); clear BKam HB; have BKam := n0_; have HB := n1_; clear n0_ n1_; (try clear hb); (try clear hb2); (try clear hk); (try clear hi)))
  go_ret
  exact ⟨Zq13, Zq53⟩
def arboretlaw14_few.f (k : Nat) (a0_0 : Int) (l0_1 : List (S82)) (a0_2 : ByteArray) (l0_3 : List (S63)) (l0_4 : List (S27)) (l1 : List Int) : Option (Bool) := (arboretlaw03_Few.f k a0_0 l0_1 a0_2 l0_3 l0_4).bind fun tdU => (if tdU = true then (if (l1.length : Int) ≤ 40 then ((arboretref01_Check.f k a0_0 l0_1 a0_2 l0_3 l0_4).bind fun tdc => (some (tdc == 0))) else (some false)) else (some false))
set_option maxHeartbeats 8000000 in
set_option maxRecDepth 100000 in
theorem arboretlaw14_few.calls (k : Nat) (a0_0 : Int) (A0_1 : Option Addr) (c0_1 : Nat) (l0_1 : List (S82)) (a0_2 : ByteArray) (A0_3 : Option Addr) (c0_3 : Nat) (l0_3 : List (S63)) (A0_4 : Option Addr) (c0_4 : Nat) (l0_4 : List (S27)) (A1 : Option Addr) (c1 : Nat) (l1 : List Int) (r : Bool) (w : World) (hr0_1 : Kd.C k82 w A0_1 l0_1.length l0_1) (hc0_1 : l0_1.length ≤ c0_1) (hr0_3 : Kd.C k63 w A0_3 l0_3.length l0_3) (hc0_3 : l0_3.length ≤ c0_3) (hr0_4 : Kd.C k27 w A0_4 l0_4.length l0_4) (hc0_4 : l0_4.length ≤ c0_4) (hr1 : Kd.C (Kd.int .i64) w A1 l1.length l1) (hc1 : l1.length ≤ c1) (h : arboretlaw14_few.f k a0_0 l0_1 a0_2 l0_3 l0_4 l1 = some r) :
  Calls Try.prog 10 #[.agg #[.int .u32 a0_0, .slice A0_1 l0_1.length c0_1, .string a0_2, .slice A0_3 l0_3.length c0_3, .slice A0_4 l0_4.length c0_4], .slice A1 l1.length c1] w fun e w' => e = .returned (.bool r) ∧ Below w.heap.size w w' := by
 have hu29 := Try.underlying29; have HR0_1 := Ak hr0_1; have HC0_1 := Ak hc0_1; clear hr0_1 hc0_1; have HR0_3 := Ak hr0_3; have HC0_3 := Ak hc0_3; clear hr0_3 hc0_3; have HR0_4 := Ak hr0_4; have HC0_4 := Ak hc0_4; clear hr0_4 hc0_4; have HR1 := Ak hr1; have HC1 := Ak hc1; clear hr1 hc1; have HB := Zq151; have H : ((arboretlaw03_Few.f k a0_0 l0_1 a0_2 l0_3 l0_4).bind fun tdU => (if tdU = true then (if (l1.length : Int) ≤ 40 then ((arboretref01_Check.f k a0_0 l0_1 a0_2 l0_3 l0_4).bind fun tdc => (some (tdc == 0))) else (some false)) else (some false))) = some r := h; clear h; replace H := Option.bind_eq_some_iff.mp H; obtain ⟨tdU, A30, H⟩ := H; replace H : (if tdU = true then (if (l1.length : Int) ≤ 40 then ((arboretref01_Check.f k a0_0 l0_1 a0_2 l0_3 l0_4).bind fun tdc => (some (tdc == 0))) else (some false)) else (some false)) = some r := H; have A3 := Ak A30; clear A30
 by_cases c4 : tdU = true
 ·subst c4
  have H1 : (if (l1.length : Int) ≤ 40 then ((arboretref01_Check.f k a0_0 l0_1 a0_2 l0_3 l0_4).bind fun tdc => (some (tdc == 0))) else (some false)) = some r := by rw [if_pos rfl] at H; exact H
  clear H; have H := H1; clear H1
  by_cases c5 : (l1.length : Int) ≤ 40
  ·rw [if_pos c5] at H; have c5b0 : decide ((l1.length : Int) ≤ 40) = true := decide_eq_true c5; have c5b1 : decide (l1.length ≤ 40) = true := decide_eq_true Zq1; clear c5; replace H := Option.bind_eq_some_iff.mp H; obtain ⟨tdc, A60, H⟩ := H; replace H : (some (tdc == 0)) = some r := H; have A6 := Ak A60; clear A60; obtain rfl := Option.some.inj H
   go_enter Try.func10, Try.ntmps10
   go_wp2_with (first | ((with_reducible refine gate_dst (N := 2) rfl ?_); (try (refine gate_guard Zq3 ?_; dsimp only)); refine box_event ?hg (N := 2) ?hd (cs := #[.int .u32 a0_0, .slice A0_1 l0_1.length c0_1, .string a0_2, .slice A0_3 l0_3.length c0_3, .slice A0_4 l0_4.length c0_4]) (t := 29) ?hr ?_; (case hd | hg => rfl); (case hr => first | (go_simp; done) | (go_simp; rfl)); intro gbaM hg w7 hbox hb; have n0_ := Zq142; have n1_ := Ak (hbox); have n2_ := Zq200; have n3_ := Zq200; clear HB; have HB := n0_; have BKaM := n1_; have GWaM := n2_; have GEaM := n3_; clear n0_ n1_ n2_ n3_ hb hbox hg; have hcz8_0 : w7.cell? ⟨gbaM, 0, none⟩ = some (.int .u32 a0_0) := (blk_cell BKaM.out 0).trans rfl; have hcz8_1 : w7.cell? ⟨gbaM, 1, none⟩ = some (.slice A0_1 l0_1.length c0_1) := (blk_cell BKaM.out 1).trans rfl; have hcz8_2 : w7.cell? ⟨gbaM, 2, none⟩ = some (.string a0_2) := (blk_cell BKaM.out 2).trans rfl; have hcz8_3 : w7.cell? ⟨gbaM, 3, none⟩ = some (.slice A0_3 l0_3.length c0_3) := (blk_cell BKaM.out 3).trans rfl; have hcz8_4 : w7.cell? ⟨gbaM, 4, none⟩ = some (.slice A0_4 l0_4.length c0_4) := (blk_cell BKaM.out 4).trans rfl; have hfz8_0 := blk_frozen BKaM.out 0; have hfz8_1 := blk_frozen BKaM.out 1; have hfz8_2 := blk_frozen BKaM.out 2; have hfz8_3 := blk_frozen BKaM.out 3; have hfz8_4 := blk_frozen BKaM.out 4) | ((with_reducible refine gate_callee (f := 19) rfl ?_); refine goesL_ (some 6) rfl rfl Try.func19 Zq2 rfl #[.agg #[.int .u32 a0_0, .slice A0_1 l0_1.length c0_1, .string a0_2, .slice A0_3 l0_3.length c0_3, .slice A0_4 l0_4.length c0_4]] rfl Zq8 ?_; (with_reducible refine (arboretlaw03_Few.calls k a0_0 _ _ l0_1 a0_2 _ _ l0_3 _ _ l0_4 true _ ?side1 ?side2 ?side3 ?side4 ?side5 ?side6 A3.out).mono ?_); (case side1 => repeat (first | exact Zq138 | (with_reducible refine Kd.C_alloc ?_ _) | (with_reducible refine Kd.C_drewN ?_ _) | (with_reducible refine Kd.C_drew ?_))); (case side2 => exact HC0_1.out); (case side3 => repeat (first | exact Zq153 | (with_reducible refine Kd.C_alloc ?_ _) | (with_reducible refine Kd.C_drewN ?_ _) | (with_reducible refine Kd.C_drew ?_))); (case side4 => exact HC0_3.out); (case side5 => repeat (first | exact Zq154 | (with_reducible refine Kd.C_alloc ?_ _) | (with_reducible refine Kd.C_drewN ?_ _) | (with_reducible refine Kd.C_drew ?_))); (case side6 => exact HC0_4.out); rintro e w9 ⟨rfl, hb⟩; refine ⟨_, rfl, ?_⟩; have n0_ := Zq170; have n1_ := Ak (below_step Zq76 hb); clear BKaM HB; have BKaM := n0_; have HB := n1_; clear n0_ n1_; (try clear hb); (try clear hb2); (try clear hk); (try clear hi); have hcz10_0 : w9.cell? ⟨gbaM, 0, none⟩ = some (.int .u32 a0_0) := (blk_cell BKaM.out 0).trans rfl; have hcz10_1 : w9.cell? ⟨gbaM, 1, none⟩ = some (.slice A0_1 l0_1.length c0_1) := (blk_cell BKaM.out 1).trans rfl; have hcz10_2 : w9.cell? ⟨gbaM, 2, none⟩ = some (.string a0_2) := (blk_cell BKaM.out 2).trans rfl; have hcz10_3 : w9.cell? ⟨gbaM, 3, none⟩ = some (.slice A0_3 l0_3.length c0_3) := (blk_cell BKaM.out 3).trans rfl; have hcz10_4 : w9.cell? ⟨gbaM, 4, none⟩ = some (.slice A0_4 l0_4.length c0_4) := (blk_cell BKaM.out 4).trans rfl; have hfz10_0 := blk_frozen BKaM.out 0; have hfz10_1 := blk_frozen BKaM.out 1; have hfz10_2 := blk_frozen BKaM.out 2; have hfz10_3 := blk_frozen BKaM.out 3; have hfz10_4 := blk_frozen BKaM.out 4) | (go_at_call 20; (with_reducible refine (arboretref01_Check.calls k a0_0 _ _ l0_1 a0_2 _ _ l0_3 _ _ l0_4 tdc _ ?side1 ?side2 ?side3 ?side4 ?side5 ?side6 A6.out).mono ?_); (case side1 => repeat (first | exact Zq138 | (with_reducible refine Kd.C_alloc ?_ _) | (with_reducible refine Kd.C_drewN ?_ _) | (with_reducible refine Kd.C_drew ?_))); (case side2 => exact HC0_1.out); (case side3 => repeat (first | exact Zq153 | (with_reducible refine Kd.C_alloc ?_ _) | (with_reducible refine Kd.C_drewN ?_ _) | (with_reducible refine Kd.C_drew ?_))); (case side4 => exact HC0_3.out); (case side5 => repeat (first | exact Zq154 | (with_reducible refine Kd.C_alloc ?_ _) | (with_reducible refine Kd.C_drewN ?_ _) | (with_reducible refine Kd.C_drew ?_))); (case side6 => exact HC0_4.out); rintro e w11 ⟨rfl, hb⟩; have n0_ := Zq170; have n1_ := Ak (below_step Zq76 hb); clear BKaM HB; have BKaM := n0_; have HB := n1_; clear n0_ n1_; (try clear hb); (try clear hb2); (try clear hk); (try clear hi)))
   go_ret
   exact ⟨Zq13, Zq76⟩
  ·rw [if_neg c5] at H; have c5b0 : decide ((l1.length : Int) ≤ 40) = false := decide_eq_false c5; have c5b1 : decide (l1.length ≤ 40) = false := decide_eq_false Zq1; clear c5; obtain rfl := Option.some.inj H
   go_enter Try.func10, Try.ntmps10
   go_wp2_with (first | ((with_reducible refine gate_dst (N := 2) rfl ?_); (try (refine gate_guard Zq3 ?_; dsimp only)); refine box_event ?hg (N := 2) ?hd (cs := #[.int .u32 a0_0, .slice A0_1 l0_1.length c0_1, .string a0_2, .slice A0_3 l0_3.length c0_3, .slice A0_4 l0_4.length c0_4]) (t := 29) ?hr ?_; (case hd | hg => rfl); (case hr => first | (go_simp; done) | (go_simp; rfl)); intro gbaM hg w12 hbox hb; have n0_ := Zq142; have n1_ := Ak (hbox); have n2_ := Zq200; have n3_ := Zq200; clear HB; have HB := n0_; have BKaM := n1_; have GWaM := n2_; have GEaM := n3_; clear n0_ n1_ n2_ n3_ hb hbox hg; have hcz13_0 : w12.cell? ⟨gbaM, 0, none⟩ = some (.int .u32 a0_0) := (blk_cell BKaM.out 0).trans rfl; have hcz13_1 : w12.cell? ⟨gbaM, 1, none⟩ = some (.slice A0_1 l0_1.length c0_1) := (blk_cell BKaM.out 1).trans rfl; have hcz13_2 : w12.cell? ⟨gbaM, 2, none⟩ = some (.string a0_2) := (blk_cell BKaM.out 2).trans rfl; have hcz13_3 : w12.cell? ⟨gbaM, 3, none⟩ = some (.slice A0_3 l0_3.length c0_3) := (blk_cell BKaM.out 3).trans rfl; have hcz13_4 : w12.cell? ⟨gbaM, 4, none⟩ = some (.slice A0_4 l0_4.length c0_4) := (blk_cell BKaM.out 4).trans rfl; have hfz13_0 := blk_frozen BKaM.out 0; have hfz13_1 := blk_frozen BKaM.out 1; have hfz13_2 := blk_frozen BKaM.out 2; have hfz13_3 := blk_frozen BKaM.out 3; have hfz13_4 := blk_frozen BKaM.out 4) | ((with_reducible refine gate_callee (f := 19) rfl ?_); refine goesL_ (some 6) rfl rfl Try.func19 Zq2 rfl #[.agg #[.int .u32 a0_0, .slice A0_1 l0_1.length c0_1, .string a0_2, .slice A0_3 l0_3.length c0_3, .slice A0_4 l0_4.length c0_4]] rfl Zq8 ?_; (with_reducible refine (arboretlaw03_Few.calls k a0_0 _ _ l0_1 a0_2 _ _ l0_3 _ _ l0_4 true _ ?side1 ?side2 ?side3 ?side4 ?side5 ?side6 A3.out).mono ?_); (case side1 => repeat (first | exact Zq138 | (with_reducible refine Kd.C_alloc ?_ _) | (with_reducible refine Kd.C_drewN ?_ _) | (with_reducible refine Kd.C_drew ?_))); (case side2 => exact HC0_1.out); (case side3 => repeat (first | exact Zq153 | (with_reducible refine Kd.C_alloc ?_ _) | (with_reducible refine Kd.C_drewN ?_ _) | (with_reducible refine Kd.C_drew ?_))); (case side4 => exact HC0_3.out); (case side5 => repeat (first | exact Zq154 | (with_reducible refine Kd.C_alloc ?_ _) | (with_reducible refine Kd.C_drewN ?_ _) | (with_reducible refine Kd.C_drew ?_))); (case side6 => exact HC0_4.out); rintro e w14 ⟨rfl, hb⟩; refine ⟨_, rfl, ?_⟩; have n0_ := Zq170; have n1_ := Ak (below_step Zq76 hb); clear BKaM HB; have BKaM := n0_; have HB := n1_; clear n0_ n1_; (try clear hb); (try clear hb2); (try clear hk); (try clear hi)))
   go_ret
   exact ⟨Zq13, Zq76⟩
 ·replace c4 := Bool.eq_false_iff.mpr c4; subst c4
  have H1 : (some false) = some r := by rw [if_neg (show ¬ (false = true) by decide)] at H; exact H
  clear H; have H := H1; clear H1; obtain rfl := Option.some.inj H
  go_enter Try.func10, Try.ntmps10
  go_wp2_with (first | ((with_reducible refine gate_dst (N := 2) rfl ?_); (try (refine gate_guard Zq3 ?_; dsimp only)); refine box_event ?hg (N := 2) ?hd (cs := #[.int .u32 a0_0, .slice A0_1 l0_1.length c0_1, .string a0_2, .slice A0_3 l0_3.length c0_3, .slice A0_4 l0_4.length c0_4]) (t := 29) ?hr ?_; (case hd | hg => rfl); (case hr => first | (go_simp; done) | (go_simp; rfl)); intro gbaM hg w15 hbox hb; have n0_ := Zq142; have n1_ := Ak (hbox); have n2_ := Zq200; have n3_ := Zq200; clear HB; have HB := n0_; have BKaM := n1_; have GWaM := n2_; have GEaM := n3_; clear n0_ n1_ n2_ n3_ hb hbox hg; have hcz16_0 : w15.cell? ⟨gbaM, 0, none⟩ = some (.int .u32 a0_0) := (blk_cell BKaM.out 0).trans rfl; have hcz16_1 : w15.cell? ⟨gbaM, 1, none⟩ = some (.slice A0_1 l0_1.length c0_1) := (blk_cell BKaM.out 1).trans rfl; have hcz16_2 : w15.cell? ⟨gbaM, 2, none⟩ = some (.string a0_2) := (blk_cell BKaM.out 2).trans rfl; have hcz16_3 : w15.cell? ⟨gbaM, 3, none⟩ = some (.slice A0_3 l0_3.length c0_3) := (blk_cell BKaM.out 3).trans rfl; have hcz16_4 : w15.cell? ⟨gbaM, 4, none⟩ = some (.slice A0_4 l0_4.length c0_4) := (blk_cell BKaM.out 4).trans rfl; have hfz16_0 := blk_frozen BKaM.out 0; have hfz16_1 := blk_frozen BKaM.out 1; have hfz16_2 := blk_frozen BKaM.out 2; have hfz16_3 := blk_frozen BKaM.out 3; have hfz16_4 := blk_frozen BKaM.out 4) | ((with_reducible refine gate_callee (f := 19) rfl ?_); refine goesL_ (some 6) rfl rfl Try.func19 Zq2 rfl #[.agg #[.int .u32 a0_0, .slice A0_1 l0_1.length c0_1, .string a0_2, .slice A0_3 l0_3.length c0_3, .slice A0_4 l0_4.length c0_4]] rfl Zq8 ?_; (with_reducible refine (arboretlaw03_Few.calls k a0_0 _ _ l0_1 a0_2 _ _ l0_3 _ _ l0_4 false _ ?side1 ?side2 ?side3 ?side4 ?side5 ?side6 A3.out).mono ?_); (case side1 => repeat (first | exact Zq138 | (with_reducible refine Kd.C_alloc ?_ _) | (with_reducible refine Kd.C_drewN ?_ _) | (with_reducible refine Kd.C_drew ?_))); (case side2 => exact HC0_1.out); (case side3 => repeat (first | exact Zq153 | (with_reducible refine Kd.C_alloc ?_ _) | (with_reducible refine Kd.C_drewN ?_ _) | (with_reducible refine Kd.C_drew ?_))); (case side4 => exact HC0_3.out); (case side5 => repeat (first | exact Zq154 | (with_reducible refine Kd.C_alloc ?_ _) | (with_reducible refine Kd.C_drewN ?_ _) | (with_reducible refine Kd.C_drew ?_))); (case side6 => exact HC0_4.out); rintro e w17 ⟨rfl, hb⟩; refine ⟨_, rfl, ?_⟩; have n0_ := Zq170; have n1_ := Ak (below_step Zq76 hb); clear BKaM HB; have BKaM := n0_; have HB := n1_; clear n0_ n1_; (try clear hb); (try clear hb2); (try clear hk); (try clear hi)))
  go_ret
  exact ⟨Zq13, Zq76⟩
def irq_Controller.f (k : Nat) (a0_0 : ByteArray) (l0_1 : List (S63)) (l0_2 : List (S27)) : Option (Bool) := (tree_Find.f k a0_0 l0_1 l0_2 (⟨#[105, 110, 116, 101, 114, 114, 117, 112, 116, 45, 99, 111, 110, 116, 114, 111, 108, 108, 101, 114]⟩ : ByteArray)).bind fun btdz => ((prop_One.f k a0_0 l0_1 l0_2 (⟨#[35, 105, 110, 116, 101, 114, 114, 117, 112, 116, 45, 99, 101, 108, 108, 115]⟩ : ByteArray)).bind fun btcd => (if btdz.2 = true then (if btcd.2.1 = true then (if btcd.2.2 = 0 then (some (btcd.1 == 1)) else (some false)) else (some false)) else (some false)))
end Go.Proofs.Ytkopmkinlanhoaa.PB

namespace Go.Proofs.Ytkopmkinlanhoaa.PB
open Go.RowKit Go.Proofs.YtkopmkinlanhoaaW.PrintWords Go.Proofs.YtkopmkinlanhoaaW.PrintLast Go.Proofs.YtkopmkinlanhoaaW.PrintMore
attribute [local go_sem] max2_int min2_int max_two min_two max_three min_three max_four min_four
set_option maxHeartbeats 8000000 in
set_option maxRecDepth 100000 in
theorem irq_Controller.calls (k : Nat) (a0_0 : ByteArray) (A0_1 : Option Addr) (c0_1 : Nat) (l0_1 : List (S63)) (A0_2 : Option Addr) (c0_2 : Nat) (l0_2 : List (S27)) (r : Bool) (w : World) (hr0_1 : Kd.C k63 w A0_1 l0_1.length l0_1) (hc0_1 : l0_1.length ≤ c0_1) (hr0_2 : Kd.C k27 w A0_2 l0_2.length l0_2) (hc0_2 : l0_2.length ≤ c0_2) (h : irq_Controller.f k a0_0 l0_1 l0_2 = some r) :
  Calls Try.prog 29 #[.agg #[.string a0_0, .slice A0_1 l0_1.length c0_1, .slice A0_2 l0_2.length c0_2]] w fun e w' => e = .returned (.bool r) ∧ Below w.heap.size w w' := by
 have hu27 := Try.underlying27; have HR0_1 := Ak hr0_1; have HC0_1 := Ak hc0_1; clear hr0_1 hc0_1; have HR0_2 := Ak hr0_2; have HC0_2 := Ak hc0_2; clear hr0_2 hc0_2; have HB := Zq151; have H : ((tree_Find.f k a0_0 l0_1 l0_2 (⟨#[105, 110, 116, 101, 114, 114, 117, 112, 116, 45, 99, 111, 110, 116, 114, 111, 108, 108, 101, 114]⟩ : ByteArray)).bind fun btdz => ((prop_One.f k a0_0 l0_1 l0_2 (⟨#[35, 105, 110, 116, 101, 114, 114, 117, 112, 116, 45, 99, 101, 108, 108, 115]⟩ : ByteArray)).bind fun btcd => (if btdz.2 = true then (if btcd.2.1 = true then (if btcd.2.2 = 0 then (some (btcd.1 == 1)) else (some false)) else (some false)) else (some false)))) = some r := h; clear h; replace H := Option.bind_eq_some_iff.mp H; obtain ⟨⟨tdz, teI⟩, A20, H⟩ := H; replace H : ((prop_One.f k a0_0 l0_1 l0_2 (⟨#[35, 105, 110, 116, 101, 114, 114, 117, 112, 116, 45, 99, 101, 108, 108, 115]⟩ : ByteArray)).bind fun btcd => (if teI = true then (if btcd.2.1 = true then (if btcd.2.2 = 0 then (some (btcd.1 == 1)) else (some false)) else (some false)) else (some false))) = some r := H; have A2 := Ak A20; clear A20; replace H := Option.bind_eq_some_iff.mp H; obtain ⟨⟨tcd, tev, tcN⟩, A30, H⟩ := H; replace H : (if teI = true then (if tev = true then (if tcN = 0 then (some (tcd == 1)) else (some false)) else (some false)) else (some false)) = some r := H; have A3 := Ak A30; clear A30
 by_cases c4 : teI = true
 ·subst c4
  have H1 : (if tev = true then (if tcN = 0 then (some (tcd == 1)) else (some false)) else (some false)) = some r := by rw [if_pos rfl] at H; exact H
  clear H; have H := H1; clear H1
  by_cases c5 : tev = true
  ·subst c5
   have H1 : (if tcN = 0 then (some (tcd == 1)) else (some false)) = some r := by rw [if_pos rfl] at H; exact H
   clear H; have H := H1; clear H1
   by_cases c6 : tcN = 0
   ·rw [if_pos c6] at H; have c6b0 : (tcN == 0) = true := beq_iff_eq.mpr c6; have c6b1 : (tcN != 0) = false := bne_eq_false_iff_eq.mpr c6; clear c6; obtain rfl := Option.some.inj H
    go_enter Try.func29, Try.ntmps29
    go_wp2_with (first | ((with_reducible refine gate_dst (N := 1) rfl ?_); refine box_event ?hg (N := 1) ?hd (cs := #[.string a0_0, .slice A0_1 l0_1.length c0_1, .slice A0_2 l0_2.length c0_2]) (t := 27) ?hr ?_; (case hd | hg => rfl); (case hr => first | (go_simp; done) | (go_simp; rfl)); intro gbau hg w7 hbox hb; have n0_ := Zq142; have n1_ := Ak (hbox); have n2_ := Zq183; have n3_ := Zq183; clear HB; have HB := n0_; have BKau := n1_; have GWau := n2_; have GEau := n3_; clear n0_ n1_ n2_ n3_ hb hbox hg; have hcz8_0 : w7.cell? ⟨gbau, 0, none⟩ = some (.string a0_0) := (blk_cell BKau.out 0).trans rfl; have hcz8_1 : w7.cell? ⟨gbau, 1, none⟩ = some (.slice A0_1 l0_1.length c0_1) := (blk_cell BKau.out 1).trans rfl; have hcz8_2 : w7.cell? ⟨gbau, 2, none⟩ = some (.slice A0_2 l0_2.length c0_2) := (blk_cell BKau.out 2).trans rfl; have hfz8_0 := blk_frozen BKau.out 0; have hfz8_1 := blk_frozen BKau.out 1; have hfz8_2 := blk_frozen BKau.out 2) | ((with_reducible refine gate_callee (f := 59) rfl ?_); refine goesL_ (some 10) rfl rfl Try.func59 Zq2 rfl #[.agg #[.string a0_0, .slice A0_1 l0_1.length c0_1, .slice A0_2 l0_2.length c0_2], .string (⟨#[105, 110, 116, 101, 114, 114, 117, 112, 116, 45, 99, 111, 110, 116, 114, 111, 108, 108, 101, 114]⟩ : ByteArray)] rfl Zq8 ?_; (with_reducible refine (tree_Find.calls k a0_0 _ _ l0_1 _ _ l0_2 (⟨#[105, 110, 116, 101, 114, 114, 117, 112, 116, 45, 99, 111, 110, 116, 114, 111, 108, 108, 101, 114]⟩ : ByteArray) tdz true _ ?side1 ?side2 ?side3 ?side4 A2.out).mono ?_); (case side1 => repeat (first | exact Zq138 | (with_reducible refine Kd.C_alloc ?_ _) | (with_reducible refine Kd.C_drewN ?_ _) | (with_reducible refine Kd.C_drew ?_))); (case side2 => exact HC0_1.out); (case side3 => repeat (first | exact Zq161 | (with_reducible refine Kd.C_alloc ?_ _) | (with_reducible refine Kd.C_drewN ?_ _) | (with_reducible refine Kd.C_drew ?_))); (case side4 => exact HC0_2.out); rintro e w9 ⟨v230, rfl, ho0, hb⟩; refine ⟨_, rfl, ?_⟩; have n0_ := Ak (Kd.R_lower ho0 (below_size Zq46)); have n1_ := Zq146; have n2_ := Zq247; clear BKau HB; have HOcO := n0_; have BKau := n1_; have HB := n2_; clear n0_ n1_ n2_; (try clear hb); (try clear hb2); (try clear hk); (try clear hi); (try clear ho0); have hcz10_0 : w9.cell? ⟨gbau, 0, none⟩ = some (.string a0_0) := (blk_cell BKau.out 0).trans rfl; have hcz10_1 : w9.cell? ⟨gbau, 1, none⟩ = some (.slice A0_1 l0_1.length c0_1) := (blk_cell BKau.out 1).trans rfl; have hcz10_2 : w9.cell? ⟨gbau, 2, none⟩ = some (.slice A0_2 l0_2.length c0_2) := (blk_cell BKau.out 2).trans rfl; have hfz10_0 := blk_frozen BKau.out 0; have hfz10_1 := blk_frozen BKau.out 1; have hfz10_2 := blk_frozen BKau.out 2) | ((with_reducible refine gate_callee (f := 56) rfl ?_); refine goesL_ (some 15) rfl rfl Try.func56 Zq2 rfl #[.agg #[.string a0_0, .slice A0_1 l0_1.length c0_1, .slice A0_2 l0_2.length c0_2], .string (⟨#[35, 105, 110, 116, 101, 114, 114, 117, 112, 116, 45, 99, 101, 108, 108, 115]⟩ : ByteArray)] rfl Zq8 ?_; (with_reducible refine (prop_One.calls k a0_0 _ _ l0_1 _ _ l0_2 (⟨#[35, 105, 110, 116, 101, 114, 114, 117, 112, 116, 45, 99, 101, 108, 108, 115]⟩ : ByteArray) tcd true tcN _ ?side1 ?side2 ?side3 ?side4 A3.out).mono ?_); (case side1 => repeat (first | exact Zq138 | (with_reducible refine Kd.C_alloc ?_ _) | (with_reducible refine Kd.C_drewN ?_ _) | (with_reducible refine Kd.C_drew ?_))); (case side2 => exact HC0_1.out); (case side3 => repeat (first | exact Zq161 | (with_reducible refine Kd.C_alloc ?_ _) | (with_reducible refine Kd.C_drewN ?_ _) | (with_reducible refine Kd.C_drew ?_))); (case side4 => exact HC0_2.out); rintro e w11 ⟨rfl, hb⟩; refine ⟨_, rfl, ?_⟩; have n0_ := Ak (Kd.R_below Zq111 hb); have n1_ := Zq146; have n2_ := Zq247; clear HOcO BKau HB; have HOcO := n0_; have BKau := n1_; have HB := n2_; clear n0_ n1_ n2_; (try clear hb); (try clear hb2); (try clear hk); (try clear hi)))
    go_ret
    exact ⟨Zq13, Zq46⟩
   ·rw [if_neg c6] at H; have c6b0 : (tcN == 0) = false := beq_eq_false_iff_ne.mpr c6; have c6b1 : (tcN != 0) = true := bne_iff_ne.mpr c6; obtain rfl := Option.some.inj H
    go_enter Try.func29, Try.ntmps29
    go_wp2_with (first | ((with_reducible refine gate_dst (N := 1) rfl ?_); refine box_event ?hg (N := 1) ?hd (cs := #[.string a0_0, .slice A0_1 l0_1.length c0_1, .slice A0_2 l0_2.length c0_2]) (t := 27) ?hr ?_; (case hd | hg => rfl); (case hr => first | (go_simp; done) | (go_simp; rfl)); intro gbau hg w12 hbox hb; have n0_ := Zq142; have n1_ := Ak (hbox); have n2_ := Zq183; have n3_ := Zq183; clear HB; have HB := n0_; have BKau := n1_; have GWau := n2_; have GEau := n3_; clear n0_ n1_ n2_ n3_ hb hbox hg; have hcz13_0 : w12.cell? ⟨gbau, 0, none⟩ = some (.string a0_0) := (blk_cell BKau.out 0).trans rfl; have hcz13_1 : w12.cell? ⟨gbau, 1, none⟩ = some (.slice A0_1 l0_1.length c0_1) := (blk_cell BKau.out 1).trans rfl; have hcz13_2 : w12.cell? ⟨gbau, 2, none⟩ = some (.slice A0_2 l0_2.length c0_2) := (blk_cell BKau.out 2).trans rfl; have hfz13_0 := blk_frozen BKau.out 0; have hfz13_1 := blk_frozen BKau.out 1; have hfz13_2 := blk_frozen BKau.out 2) | ((with_reducible refine gate_callee (f := 59) rfl ?_); refine goesL_ (some 10) rfl rfl Try.func59 Zq2 rfl #[.agg #[.string a0_0, .slice A0_1 l0_1.length c0_1, .slice A0_2 l0_2.length c0_2], .string (⟨#[105, 110, 116, 101, 114, 114, 117, 112, 116, 45, 99, 111, 110, 116, 114, 111, 108, 108, 101, 114]⟩ : ByteArray)] rfl Zq8 ?_; (with_reducible refine (tree_Find.calls k a0_0 _ _ l0_1 _ _ l0_2 (⟨#[105, 110, 116, 101, 114, 114, 117, 112, 116, 45, 99, 111, 110, 116, 114, 111, 108, 108, 101, 114]⟩ : ByteArray) tdz true _ ?side1 ?side2 ?side3 ?side4 A2.out).mono ?_); (case side1 => repeat (first | exact Zq138 | (with_reducible refine Kd.C_alloc ?_ _) | (with_reducible refine Kd.C_drewN ?_ _) | (with_reducible refine Kd.C_drew ?_))); (case side2 => exact HC0_1.out); (case side3 => repeat (first | exact Zq161 | (with_reducible refine Kd.C_alloc ?_ _) | (with_reducible refine Kd.C_drewN ?_ _) | (with_reducible refine Kd.C_drew ?_))); (case side4 => exact HC0_2.out); rintro e w14 ⟨v230, rfl, ho0, hb⟩; refine ⟨_, rfl, ?_⟩; have n0_ := Ak (Kd.R_lower ho0 (below_size Zq46)); have n1_ := Zq146; have n2_ := Zq247; clear BKau HB; have HOcO := n0_; have BKau := n1_; have HB := n2_; clear n0_ n1_ n2_; (try clear hb); (try clear hb2); (try clear hk); (try clear hi); (try clear ho0); have hcz15_0 : w14.cell? ⟨gbau, 0, none⟩ = some (.string a0_0) := (blk_cell BKau.out 0).trans rfl; have hcz15_1 : w14.cell? ⟨gbau, 1, none⟩ = some (.slice A0_1 l0_1.length c0_1) := (blk_cell BKau.out 1).trans rfl; have hcz15_2 : w14.cell? ⟨gbau, 2, none⟩ = some (.slice A0_2 l0_2.length c0_2) := (blk_cell BKau.out 2).trans rfl; have hfz15_0 := blk_frozen BKau.out 0; have hfz15_1 := blk_frozen BKau.out 1; have hfz15_2 := blk_frozen BKau.out 2) | ((with_reducible refine gate_callee (f := 56) rfl ?_); refine goesL_ (some 15) rfl rfl Try.func56 Zq2 rfl #[.agg #[.string a0_0, .slice A0_1 l0_1.length c0_1, .slice A0_2 l0_2.length c0_2], .string (⟨#[35, 105, 110, 116, 101, 114, 114, 117, 112, 116, 45, 99, 101, 108, 108, 115]⟩ : ByteArray)] rfl Zq8 ?_; (with_reducible refine (prop_One.calls k a0_0 _ _ l0_1 _ _ l0_2 (⟨#[35, 105, 110, 116, 101, 114, 114, 117, 112, 116, 45, 99, 101, 108, 108, 115]⟩ : ByteArray) tcd true tcN _ ?side1 ?side2 ?side3 ?side4 A3.out).mono ?_); (case side1 => repeat (first | exact Zq138 | (with_reducible refine Kd.C_alloc ?_ _) | (with_reducible refine Kd.C_drewN ?_ _) | (with_reducible refine Kd.C_drew ?_))); (case side2 => exact HC0_1.out); (case side3 => repeat (first | exact Zq161 | (with_reducible refine Kd.C_alloc ?_ _) | (with_reducible refine Kd.C_drewN ?_ _) | (with_reducible refine Kd.C_drew ?_))); (case side4 => exact HC0_2.out); rintro e w16 ⟨rfl, hb⟩; refine ⟨_, rfl, ?_⟩; have n0_ := Ak (Kd.R_below Zq111 hb); have n1_ := Zq146; have n2_ := Zq247; clear HOcO BKau HB; have HOcO := n0_; have BKau := n1_; have HB := n2_; clear n0_ n1_ n2_; (try clear hb); (try clear hb2); (try clear hk); (try clear hi)))
    go_ret
    exact ⟨Zq13, Zq46⟩
  ·replace c5 := Bool.eq_false_iff.mpr c5; subst c5
   have H1 : (some false) = some r := by rw [if_neg (show ¬ (false = true) by decide)] at H; exact H
   clear H; have H := H1; clear H1; obtain rfl := Option.some.inj H
   go_enter Try.func29, Try.ntmps29
   go_wp2_with (first | ((with_reducible refine gate_dst (N := 1) rfl ?_); refine box_event ?hg (N := 1) ?hd (cs := #[.string a0_0, .slice A0_1 l0_1.length c0_1, .slice A0_2 l0_2.length c0_2]) (t := 27) ?hr ?_; (case hd | hg => rfl); (case hr => first | (go_simp; done) | (go_simp; rfl)); intro gbau hg w17 hbox hb; have n0_ := Zq142; have n1_ := Ak (hbox); have n2_ := Zq183; have n3_ := Zq183; clear HB; have HB := n0_; have BKau := n1_; have GWau := n2_; have GEau := n3_; clear n0_ n1_ n2_ n3_ hb hbox hg; have hcz18_0 : w17.cell? ⟨gbau, 0, none⟩ = some (.string a0_0) := (blk_cell BKau.out 0).trans rfl; have hcz18_1 : w17.cell? ⟨gbau, 1, none⟩ = some (.slice A0_1 l0_1.length c0_1) := (blk_cell BKau.out 1).trans rfl; have hcz18_2 : w17.cell? ⟨gbau, 2, none⟩ = some (.slice A0_2 l0_2.length c0_2) := (blk_cell BKau.out 2).trans rfl; have hfz18_0 := blk_frozen BKau.out 0; have hfz18_1 := blk_frozen BKau.out 1; have hfz18_2 := blk_frozen BKau.out 2) | ((with_reducible refine gate_callee (f := 59) rfl ?_); refine goesL_ (some 10) rfl rfl Try.func59 Zq2 rfl #[.agg #[.string a0_0, .slice A0_1 l0_1.length c0_1, .slice A0_2 l0_2.length c0_2], .string (⟨#[105, 110, 116, 101, 114, 114, 117, 112, 116, 45, 99, 111, 110, 116, 114, 111, 108, 108, 101, 114]⟩ : ByteArray)] rfl Zq8 ?_; (with_reducible refine (tree_Find.calls k a0_0 _ _ l0_1 _ _ l0_2 (⟨#[105, 110, 116, 101, 114, 114, 117, 112, 116, 45, 99, 111, 110, 116, 114, 111, 108, 108, 101, 114]⟩ : ByteArray) tdz true _ ?side1 ?side2 ?side3 ?side4 A2.out).mono ?_); (case side1 => repeat (first | exact Zq138 | (with_reducible refine Kd.C_alloc ?_ _) | (with_reducible refine Kd.C_drewN ?_ _) | (with_reducible refine Kd.C_drew ?_))); (case side2 => exact HC0_1.out); (case side3 => repeat (first | exact Zq161 | (with_reducible refine Kd.C_alloc ?_ _) | (with_reducible refine Kd.C_drewN ?_ _) | (with_reducible refine Kd.C_drew ?_))); (case side4 => exact HC0_2.out); rintro e w19 ⟨v230, rfl, ho0, hb⟩; refine ⟨_, rfl, ?_⟩; have n0_ := Ak (Kd.R_lower ho0 (below_size Zq46)); have n1_ := Zq146; have n2_ := Zq247; clear BKau HB; have HOcO := n0_; have BKau := n1_; have HB := n2_; clear n0_ n1_ n2_; (try clear hb); (try clear hb2); (try clear hk); (try clear hi); (try clear ho0); have hcz20_0 : w19.cell? ⟨gbau, 0, none⟩ = some (.string a0_0) := (blk_cell BKau.out 0).trans rfl; have hcz20_1 : w19.cell? ⟨gbau, 1, none⟩ = some (.slice A0_1 l0_1.length c0_1) := (blk_cell BKau.out 1).trans rfl; have hcz20_2 : w19.cell? ⟨gbau, 2, none⟩ = some (.slice A0_2 l0_2.length c0_2) := (blk_cell BKau.out 2).trans rfl; have hfz20_0 := blk_frozen BKau.out 0; have hfz20_1 := blk_frozen BKau.out 1; have hfz20_2 := blk_frozen BKau.out 2) | ((with_reducible refine gate_callee (f := 56) rfl ?_); refine goesL_ (some 15) rfl rfl Try.func56 Zq2 rfl #[.agg #[.string a0_0, .slice A0_1 l0_1.length c0_1, .slice A0_2 l0_2.length c0_2], .string (⟨#[35, 105, 110, 116, 101, 114, 114, 117, 112, 116, 45, 99, 101, 108, 108, 115]⟩ : ByteArray)] rfl Zq8 ?_; (with_reducible refine (prop_One.calls k a0_0 _ _ l0_1 _ _ l0_2 (⟨#[35, 105, 110, 116, 101, 114, 114, 117, 112, 116, 45, 99, 101, 108, 108, 115]⟩ : ByteArray) tcd false tcN _ ?side1 ?side2 ?side3 ?side4 A3.out).mono ?_); (case side1 => repeat (first | exact Zq138 | (with_reducible refine Kd.C_alloc ?_ _) | (with_reducible refine Kd.C_drewN ?_ _) | (with_reducible refine Kd.C_drew ?_))); (case side2 => exact HC0_1.out); (case side3 => repeat (first | exact Zq161 | (with_reducible refine Kd.C_alloc ?_ _) | (with_reducible refine Kd.C_drewN ?_ _) | (with_reducible refine Kd.C_drew ?_))); (case side4 => exact HC0_2.out); rintro e w21 ⟨rfl, hb⟩; refine ⟨_, rfl, ?_⟩; have n0_ := Ak (Kd.R_below Zq111 hb); have n1_ := Zq146; have n2_ := Zq247; clear HOcO BKau HB; have HOcO := n0_; have BKau := n1_; have HB := n2_; clear n0_ n1_ n2_; (try clear hb); (try clear hb2); (try clear hk); (try clear hi)))
   go_ret
   exact ⟨Zq13, Zq46⟩
 ·replace c4 := Bool.eq_false_iff.mpr c4; subst c4
  have H1 : (some false) = some r := by rw [if_neg (show ¬ (false = true) by decide)] at H; exact H
  clear H; have H := H1; clear H1; obtain rfl := Option.some.inj H
  go_enter Try.func29, Try.ntmps29
  go_wp2_with (first | ((with_reducible refine gate_dst (N := 1) rfl ?_); refine box_event ?hg (N := 1) ?hd (cs := #[.string a0_0, .slice A0_1 l0_1.length c0_1, .slice A0_2 l0_2.length c0_2]) (t := 27) ?hr ?_; (case hd | hg => rfl); (case hr => first | (go_simp; done) | (go_simp; rfl)); intro gbau hg w22 hbox hb; have n0_ := Zq142; have n1_ := Ak (hbox); have n2_ := Zq183; have n3_ := Zq183; clear HB; have HB := n0_; have BKau := n1_; have GWau := n2_; have GEau := n3_; clear n0_ n1_ n2_ n3_ hb hbox hg; have hcz23_0 : w22.cell? ⟨gbau, 0, none⟩ = some (.string a0_0) := (blk_cell BKau.out 0).trans rfl; have hcz23_1 : w22.cell? ⟨gbau, 1, none⟩ = some (.slice A0_1 l0_1.length c0_1) := (blk_cell BKau.out 1).trans rfl; have hcz23_2 : w22.cell? ⟨gbau, 2, none⟩ = some (.slice A0_2 l0_2.length c0_2) := (blk_cell BKau.out 2).trans rfl; have hfz23_0 := blk_frozen BKau.out 0; have hfz23_1 := blk_frozen BKau.out 1; have hfz23_2 := blk_frozen BKau.out 2) | ((with_reducible refine gate_callee (f := 59) rfl ?_); refine goesL_ (some 10) rfl rfl Try.func59 Zq2 rfl #[.agg #[.string a0_0, .slice A0_1 l0_1.length c0_1, .slice A0_2 l0_2.length c0_2], .string (⟨#[105, 110, 116, 101, 114, 114, 117, 112, 116, 45, 99, 111, 110, 116, 114, 111, 108, 108, 101, 114]⟩ : ByteArray)] rfl Zq8 ?_; (with_reducible refine (tree_Find.calls k a0_0 _ _ l0_1 _ _ l0_2 (⟨#[105, 110, 116, 101, 114, 114, 117, 112, 116, 45, 99, 111, 110, 116, 114, 111, 108, 108, 101, 114]⟩ : ByteArray) tdz false _ ?side1 ?side2 ?side3 ?side4 A2.out).mono ?_); (case side1 => repeat (first | exact Zq138 | (with_reducible refine Kd.C_alloc ?_ _) | (with_reducible refine Kd.C_drewN ?_ _) | (with_reducible refine Kd.C_drew ?_))); (case side2 => exact HC0_1.out); (case side3 => repeat (first | exact Zq161 | (with_reducible refine Kd.C_alloc ?_ _) | (with_reducible refine Kd.C_drewN ?_ _) | (with_reducible refine Kd.C_drew ?_))); (case side4 => exact HC0_2.out); rintro e w24 ⟨v230, rfl, ho0, hb⟩; refine ⟨_, rfl, ?_⟩; have n0_ := Ak (Kd.R_lower ho0 (below_size Zq46)); have n1_ := Zq146; have n2_ := Zq247; clear BKau HB; have HOcO := n0_; have BKau := n1_; have HB := n2_; clear n0_ n1_ n2_; (try clear hb); (try clear hb2); (try clear hk); (try clear hi); (try clear ho0); have hcz25_0 : w24.cell? ⟨gbau, 0, none⟩ = some (.string a0_0) := (blk_cell BKau.out 0).trans rfl; have hcz25_1 : w24.cell? ⟨gbau, 1, none⟩ = some (.slice A0_1 l0_1.length c0_1) := (blk_cell BKau.out 1).trans rfl; have hcz25_2 : w24.cell? ⟨gbau, 2, none⟩ = some (.slice A0_2 l0_2.length c0_2) := (blk_cell BKau.out 2).trans rfl; have hfz25_0 := blk_frozen BKau.out 0; have hfz25_1 := blk_frozen BKau.out 1; have hfz25_2 := blk_frozen BKau.out 2) | ((with_reducible refine gate_callee (f := 56) rfl ?_); refine goesL_ (some 15) rfl rfl Try.func56 Zq2 rfl #[.agg #[.string a0_0, .slice A0_1 l0_1.length c0_1, .slice A0_2 l0_2.length c0_2], .string (⟨#[35, 105, 110, 116, 101, 114, 114, 117, 112, 116, 45, 99, 101, 108, 108, 115]⟩ : ByteArray)] rfl Zq8 ?_; (with_reducible refine (prop_One.calls k a0_0 _ _ l0_1 _ _ l0_2 (⟨#[35, 105, 110, 116, 101, 114, 114, 117, 112, 116, 45, 99, 101, 108, 108, 115]⟩ : ByteArray) tcd tev tcN _ ?side1 ?side2 ?side3 ?side4 A3.out).mono ?_); (case side1 => repeat (first | exact Zq138 | (with_reducible refine Kd.C_alloc ?_ _) | (with_reducible refine Kd.C_drewN ?_ _) | (with_reducible refine Kd.C_drew ?_))); (case side2 => exact HC0_1.out); (case side3 => repeat (first | exact Zq161 | (with_reducible refine Kd.C_alloc ?_ _) | (with_reducible refine Kd.C_drewN ?_ _) | (with_reducible refine Kd.C_drew ?_))); (case side4 => exact HC0_2.out); rintro e w26 ⟨rfl, hb⟩; refine ⟨_, rfl, ?_⟩; have n0_ := Ak (Kd.R_below Zq111 hb); have n1_ := Zq146; have n2_ := Zq247; clear HOcO BKau HB; have HOcO := n0_; have BKau := n1_; have HB := n2_; clear n0_ n1_ n2_; (try clear hb); (try clear hb2); (try clear hk); (try clear hi)))
  go_ret
  exact ⟨Zq13, Zq46⟩
def prop_Cells.l0 : Nat → List Int → List Int → Int → Option (List Int × Int)
 | 0, _, _, _ => none
 | k + 1, x0, x4, x5 => if x5 < (x0.length : Int) then ((words_Get.f x0 x5).bind fun btdF => (if x4.length < 35184372088832 then (prop_Cells.l0 k x0 (x4 ++ [btdF.1]) (wrap64 (x5 + 4))) else (none))) else (some (x4, 0))
def prop_Cells.f (k : Nat) (l0 : List Int) : Option (List Int × Int) := if ((l0.length : Int) % 4) = 0 then (prop_Cells.l0 k l0 ([] : List Int) 0) else (some (([] : List Int), 4))
set_option maxHeartbeats 8000000 in
set_option maxRecDepth 100000 in
theorem prop_Cells.calls (k : Nat) (A0 : Option Addr) (c0 : Nat) (l0 : List Int) (r1 : List Int) (r2 : Int) (w : World) (hr0 : Kd.C (Kd.int .u8) w A0 l0.length l0) (hc0 : l0.length ≤ c0) (h : prop_Cells.f k l0 = some (r1, r2)) :
  Calls Try.prog 60 #[.slice A0 l0.length c0] w fun e w' => ∃ v0_ : Value, e = .returned (.tuple #[v0_, .int .i64 r2]) ∧ Kd.R (Kd.int .u32) 22 w' w.heap.size (fun _ => True) v0_ r1 ∧ Below w.heap.size w w' := by
 have HR0 := Ak hr0; have HC0 := Ak hc0; clear hr0 hc0; have HB := Zq151; have H : (if ((l0.length : Int) % 4) = 0 then (prop_Cells.l0 k l0 ([] : List Int) 0) else (some (([] : List Int), 4))) = some (r1, r2) := h; clear h
 by_cases c2 : ((l0.length : Int) % 4) = 0
 ·rw [if_pos c2] at H; have c2b0 : (((l0.length : Int) % 4) == 0) = true := beq_iff_eq.mpr c2; have c2b1 : (((l0.length : Int) % 4) != 0) = false := bne_eq_false_iff_eq.mpr c2; clear c2; have H' := Ak H; clear H
  go_enter Try.func60, Try.ntmps60
  go_wp2
  go_loopg [4, 5] k (fun kq v4 v5 w' => ∃ (x4_1 : List Int) (x5_1 : Int), v5 = .int .i64 x5_1 ∧ Aside0 (prop_Cells.l0 kq l0 x4_1 x5_1 = some (r1, r2)) ∧ Aside0 (kq ≤ k) ∧ Aside0 (Kd.R (Kd.int .u32) 22 w' w.heap.size (fun _ => True) v4 x4_1) ∧ Aside0 (Below w.heap.size w w'))
  case atStart => exact ⟨(([] : List Int)), (0), Zq7, H', ⟨Nat.le_refl _⟩, ⟨Zq34⟩, ⟨Zq6⟩⟩
  case round =>
   clear H'
   try clear c2
   try clear c2b0
   try clear c2b1
   try clear p2
   obtain ⟨x4_1, x5_1, rfl, HA, HK1, HO_4, HB⟩ := hrel
   cases gk with
   | zero => exact absurd HA.out (by simp [prop_Cells.l0])
   | succ k1 =>
    have H := HA.out; clear HA; simp only [prop_Cells.l0] at H
    by_cases c3 : x5_1 < (l0.length : Int)
    ·rw [if_pos c3] at H; have c3b0 : decide (x5_1 < (l0.length : Int)) = true := decide_eq_true c3; clear c3; replace H := Option.bind_eq_some_iff.mp H; obtain ⟨⟨tdF, tfr⟩, A40, H⟩ := H; replace H : (if x4_1.length < 35184372088832 then (prop_Cells.l0 k1 l0 (x4_1 ++ [tdF]) (wrap64 (x5_1 + 4))) else (none)) = some (r1, r2) := H; have A4 := Ak A40; clear A40
     by_cases c5 : x4_1.length < 35184372088832
     ·rw [if_pos c5] at H; have LMc5 := Ak c5; clear c5
      obtain ⟨ydd, hydd⟩ : ∃ y_ : List Int, y_ = (x4_1 ++ [tdF]) := ⟨_, rfl⟩
      replace H : (prop_Cells.l0 k1 l0 ydd (wrap64 (x5_1 + 4))) = some (r1, r2) := by first | (rw [hydd]; with_reducible exact H) | (have H2_ := (Option.bind_some _ _).symm.trans H; rw [hydd]; with_reducible exact H2_) | (have H2_ := (Option.bind_some _ _).symm.trans H; with_reducible exact H2_) | with_reducible exact H | (rw [hydd]; exact H) | exact H
      have Nydd := Ak hydd; clear hydd; have H' := Ak H; clear H
      go_wp2_with (first | ((with_reducible refine gate_callee (f := 34) rfl ?_); refine goesL_ (some 21) rfl rfl Try.func34 Zq2 rfl #[.slice A0 l0.length c0, .int .i64 x5_1] rfl Zq8 ?_; (with_reducible refine (words_Get.calls _ _ l0 x5_1 tdF tfr _ ?side1 ?side2 A4.out).mono ?_); (case side1 => repeat (first | exact (Kd.C_below HR0.out HB.out) | (with_reducible refine Kd.C_alloc ?_ _) | (with_reducible refine Kd.C_drewN ?_ _) | (with_reducible refine Kd.C_drew ?_))); (case side2 => exact HC0.out); rintro e w' ⟨rfl, ⟨nd, rfl⟩⟩; refine ⟨_, rfl, ?_⟩) | ((with_reducible refine gate_builtin (b := .append) (xs := #[.tmp 24, .tmp 26]) rfl ?_); at_builtin; refine Kd.R_append (Kd.int .u32) (w0 := w) w.heap.size rfl (.tmp 24) (.tmp 26) 113 22 (.int .u32 0) 4 rfl Try.underlying113 info22 rfl Zq4 Zq1 u4 x4_1 tdF [.int .u32 tdF] (fun _ => True) (fun _ => False) rfl rfl ?aP (fun _ hk => hk.elim) ?aF ?aO ?aB ?aS ?aL ?_; (case aP => exact rfl); (case aB => exact Zq6); (case aF => exact (fun _ _ => trivial)); (case aO => exact Zq112); (case aS => exact (below_size Zq6)); (case aL => have := LMc5.out; omega); intro v239 w6 ho hb hg hat; rw [← Nydd.out] at ho; have n0_ := Ak (hb); have n1_ := Ak (ho); clear HB HO_4; have HB := n0_; have HOfs := n1_; clear n0_ n1_ ho hb hg hat))
      go_roundg k1
      case measure => have := HK1.out; omega
      case rel => exact ⟨(ydd), (wrap64 (x5_1 + 4)), Zq7, H', ⟨Zq27⟩, ⟨by (with_reducible repeat (first | apply Kd.R_alloc | apply Kd.R_drewN | apply Kd.R_drew)); exact HOfs.out⟩, ⟨Zq6⟩⟩
     ·rw [if_neg c5] at H; exact absurd H Zq10
    ·rw [if_neg c3] at H; have c3b0 : decide (x5_1 < (l0.length : Int)) = false := decide_eq_false c3; clear c3; simp only [Option.some.injEq, Prod.mk.injEq] at H; obtain ⟨rfl, rfl⟩ := H
     go_wp2
     go_ret2
     exact ⟨_, Zq13, Zq112, Zq6⟩
 ·rw [if_neg c2] at H; have c2b0 : (((l0.length : Int) % 4) == 0) = false := beq_eq_false_iff_ne.mpr c2; have c2b1 : (((l0.length : Int) % 4) != 0) = true := bne_iff_ne.mpr c2; simp only [Option.some.injEq, Prod.mk.injEq] at H; obtain ⟨rfl, rfl⟩ := H
  go_enter Try.func60, Try.ntmps60
  go_wp2
  go_ret2
  exact ⟨_, Zq13, Zq34, Zq6⟩
mutual
def irq_mapped.j0 : Nat → Int → List Int → Int → Bool → Bool → Int → List (S82) → ByteArray → List (S63) → List (S27) → Option (List Int × Int × Int)
 | 0, _, _, _, _, _, _, _, _, _, _ => none
 | k + 1, x2, x10, x12, x13, x47, xdG, xdH, xdI, xdJ, xdK => if x47 = true then (some (([] : List Int), 0, 4)) else (if x13 = true then (irq_mapped.j1 k x2 x10 x12 xdG xdH xdI xdJ xdK) else (irq_mapped.j1 k x2 x10 4294967295 xdG xdH xdI xdJ xdK))
def irq_mapped.j1 : Nat → Int → List Int → Int → Int → List (S82) → ByteArray → List (S63) → List (S27) → Option (List Int × Int × Int)
 | 0, _, _, _, _, _, _, _, _ => none
 | k + 1, x2, x10, x12, xdG, xdH, xdI, xdJ, xdK => irq_mapped.l0 k x2 x10 x12 xdG xdH xdI xdJ xdK
def irq_mapped.l0 : Nat → Int → List Int → Int → Int → List (S82) → ByteArray → List (S63) → List (S27) → Option (List Int × Int × Int)
 | 0, _, _, _, _, _, _, _, _ => none
 | k + 1, x2, x10, x12, xdG, xdH, xdI, xdJ, xdK => if (x10.length : Int) > 0 then (if 0 < (x10.length : Int) then (if (Go.bits .and .u32 (rd x10 0) x12) = (Go.bits .and .u32 x2 x12) then (if 1 < (x10.length : Int) then ((handle_Find.f k xdG xdH xdI xdJ xdK (rd x10 1)).bind fun btde => (if btde.2 = 0 then (if 2 < (x10.length : Int) then (some (btde.1, rd x10 2, 0)) else (none)) else (some (([] : List Int), 0, btde.2)))) else (none)) else (if 3 ≤ (x10.length : Int) then (irq_mapped.l0 k x2 (x10.drop (3 : Int).toNat) x12 xdG xdH xdI xdJ xdK) else (none))) else (none)) else (some (([] : List Int), 0, 8))
end
def irq_mapped.f (k : Nat) (a0_0 : Int) (l0_1 : List (S82)) (a0_2 : ByteArray) (l0_3 : List (S63)) (l0_4 : List (S27)) (a1_0 : ByteArray) (l1_1 : List (S63)) (l1_2 : List (S27)) (a2 : Int) : Option (List Int × Int × Int) := (tree_Find.f k a1_0 l1_1 l1_2 (⟨#[105, 110, 116, 101, 114, 114, 117, 112, 116, 45, 109, 97, 112]⟩ : ByteArray)).bind fun btcP => (if btcP.2 = true then ((prop_Cells.f k btcP.1).bind fun btbt => ((prop_One.f k a1_0 l1_1 l1_2 (⟨#[105, 110, 116, 101, 114, 114, 117, 112, 116, 45, 109, 97, 112, 45, 109, 97, 115, 107]⟩ : ByteArray)).bind fun btbk => (if btbt.2 = 0 then (if btbk.2.2 = 0 then (irq_mapped.j0 k a2 btbt.1 btbk.1 btbk.2.1 (((btbt.1.length : Int) % 3) != 0) a0_0 l0_1 a0_2 l0_3 l0_4) else (irq_mapped.j0 k a2 btbt.1 btbk.1 btbk.2.1 true a0_0 l0_1 a0_2 l0_3 l0_4)) else (irq_mapped.j0 k a2 btbt.1 btbk.1 btbk.2.1 true a0_0 l0_1 a0_2 l0_3 l0_4)))) else (some (([] : List Int), 0, 8)))
def irq_mapped.T13 : Bool × List (List Nat × List Nat) := (true, [([], []), ([], []), ([1], [1]), ([2], [2]), ([0, 3], [0, 3]), ([4], [4]), ([5], [5]), ([5], [5]), ([6, 4, 0, 1, 2, 3, 4, 5, 6], [6]), ([7, 8, 0, 1, 2, 3, 4, 5, 6, 7, 8], [7])])
def irq_mapped.B13 : List Nat := [0, 0, 2, 6, 15, 31, 63, 63, 127, 511]
theorem irq_mapped.tab13 : rtab .any (opsOf Try.f31 13) = irq_mapped.T13 := by kernel_rfl
theorem irq_mapped.bits13 : waitsOk irq_mapped.T13.2 irq_mapped.B13 = true := by kernel_rfl
end Go.Proofs.Ytkopmkinlanhoaa.PB

namespace Go.Proofs.Ytkopmkinlanhoaa.PB
open Go.RowKit Go.Proofs.YtkopmkinlanhoaaW.PrintWords Go.Proofs.YtkopmkinlanhoaaW.PrintLast Go.Proofs.YtkopmkinlanhoaaW.PrintMore
attribute [local go_sem] max2_int min2_int max_two min_two max_three min_three max_four min_four
set_option maxHeartbeats 8000000 in
set_option maxRecDepth 100000 in
theorem irq_mapped.calls (k : Nat) (a0_0 : Int) (A0_1 : Option Addr) (c0_1 : Nat) (l0_1 : List (S82)) (a0_2 : ByteArray) (A0_3 : Option Addr) (c0_3 : Nat) (l0_3 : List (S63)) (A0_4 : Option Addr) (c0_4 : Nat) (l0_4 : List (S27)) (a1_0 : ByteArray) (A1_1 : Option Addr) (c1_1 : Nat) (l1_1 : List (S63)) (A1_2 : Option Addr) (c1_2 : Nat) (l1_2 : List (S27)) (a2 : Int) (r1 : List Int) (r2 : Int) (r3 : Int) (w : World) (hr0_1 : Kd.C k82 w A0_1 l0_1.length l0_1) (hc0_1 : l0_1.length ≤ c0_1) (hr0_3 : Kd.C k63 w A0_3 l0_3.length l0_3) (hc0_3 : l0_3.length ≤ c0_3) (hr0_4 : Kd.C k27 w A0_4 l0_4.length l0_4) (hc0_4 : l0_4.length ≤ c0_4) (hr1_1 : Kd.C k63 w A1_1 l1_1.length l1_1) (hc1_1 : l1_1.length ≤ c1_1) (hr1_2 : Kd.C k27 w A1_2 l1_2.length l1_2) (hc1_2 : l1_2.length ≤ c1_2) (h : irq_mapped.f k a0_0 l0_1 a0_2 l0_3 l0_4 a1_0 l1_1 l1_2 a2 = some (r1, r2, r3)) :
  Calls Try.prog 31 #[.agg #[.int .u32 a0_0, .slice A0_1 l0_1.length c0_1, .string a0_2, .slice A0_3 l0_3.length c0_3, .slice A0_4 l0_4.length c0_4], .agg #[.string a1_0, .slice A1_1 l1_1.length c1_1, .slice A1_2 l1_2.length c1_2], .int .u32 a2] w fun e w' => ∃ v0_ : Value, e = .returned (.tuple #[.agg #[v0_, .int .u32 r2], .int .i64 r3]) ∧ Kd.R (Kd.int .i64) 3 w' w.heap.size (fun _ => True) v0_ r1 ∧ Below w.heap.size w w' := by
 have hu29 := Try.underlying29; have hu27 := Try.underlying27; have hu32 := Try.underlying32; have HR0_1 := Ak hr0_1; have HC0_1 := Ak hc0_1; clear hr0_1 hc0_1; have HR0_3 := Ak hr0_3; have HC0_3 := Ak hc0_3; clear hr0_3 hc0_3; have HR0_4 := Ak hr0_4; have HC0_4 := Ak hc0_4; clear hr0_4 hc0_4; have HR1_1 := Ak hr1_1; have HC1_1 := Ak hc1_1; clear hr1_1 hc1_1; have HR1_2 := Ak hr1_2; have HC1_2 := Ak hc1_2; clear hr1_2 hc1_2; have HB := Zq151; have H : ((tree_Find.f k a1_0 l1_1 l1_2 (⟨#[105, 110, 116, 101, 114, 114, 117, 112, 116, 45, 109, 97, 112]⟩ : ByteArray)).bind fun btcP => (if btcP.2 = true then ((prop_Cells.f k btcP.1).bind fun btbt => ((prop_One.f k a1_0 l1_1 l1_2 (⟨#[105, 110, 116, 101, 114, 114, 117, 112, 116, 45, 109, 97, 112, 45, 109, 97, 115, 107]⟩ : ByteArray)).bind fun btbk => (if btbt.2 = 0 then (if btbk.2.2 = 0 then (irq_mapped.j0 k a2 btbt.1 btbk.1 btbk.2.1 (((btbt.1.length : Int) % 3) != 0) a0_0 l0_1 a0_2 l0_3 l0_4) else (irq_mapped.j0 k a2 btbt.1 btbk.1 btbk.2.1 true a0_0 l0_1 a0_2 l0_3 l0_4)) else (irq_mapped.j0 k a2 btbt.1 btbk.1 btbk.2.1 true a0_0 l0_1 a0_2 l0_3 l0_4)))) else (some (([] : List Int), 0, 8)))) = some (r1, r2, r3) := h; clear h; replace H := Option.bind_eq_some_iff.mp H; obtain ⟨⟨tcP, tfh⟩, A40, H⟩ := H; replace H : (if tfh = true then ((prop_Cells.f k tcP).bind fun btbt => ((prop_One.f k a1_0 l1_1 l1_2 (⟨#[105, 110, 116, 101, 114, 114, 117, 112, 116, 45, 109, 97, 112, 45, 109, 97, 115, 107]⟩ : ByteArray)).bind fun btbk => (if btbt.2 = 0 then (if btbk.2.2 = 0 then (irq_mapped.j0 k a2 btbt.1 btbk.1 btbk.2.1 (((btbt.1.length : Int) % 3) != 0) a0_0 l0_1 a0_2 l0_3 l0_4) else (irq_mapped.j0 k a2 btbt.1 btbk.1 btbk.2.1 true a0_0 l0_1 a0_2 l0_3 l0_4)) else (irq_mapped.j0 k a2 btbt.1 btbk.1 btbk.2.1 true a0_0 l0_1 a0_2 l0_3 l0_4)))) else (some (([] : List Int), 0, 8))) = some (r1, r2, r3) := H; have A4 := Ak A40; clear A40
 by_cases c5 : tfh = true
 ·subst c5
  have H1 : ((prop_Cells.f k tcP).bind fun btbt => ((prop_One.f k a1_0 l1_1 l1_2 (⟨#[105, 110, 116, 101, 114, 114, 117, 112, 116, 45, 109, 97, 112, 45, 109, 97, 115, 107]⟩ : ByteArray)).bind fun btbk => (if btbt.2 = 0 then (if btbk.2.2 = 0 then (irq_mapped.j0 k a2 btbt.1 btbk.1 btbk.2.1 (((btbt.1.length : Int) % 3) != 0) a0_0 l0_1 a0_2 l0_3 l0_4) else (irq_mapped.j0 k a2 btbt.1 btbk.1 btbk.2.1 true a0_0 l0_1 a0_2 l0_3 l0_4)) else (irq_mapped.j0 k a2 btbt.1 btbk.1 btbk.2.1 true a0_0 l0_1 a0_2 l0_3 l0_4)))) = some (r1, r2, r3) := by rw [if_pos rfl] at H; exact H
  clear H; have H := H1; clear H1; replace H := Option.bind_eq_some_iff.mp H; obtain ⟨⟨tbt, tdA⟩, A60, H⟩ := H; replace H : ((prop_One.f k a1_0 l1_1 l1_2 (⟨#[105, 110, 116, 101, 114, 114, 117, 112, 116, 45, 109, 97, 112, 45, 109, 97, 115, 107]⟩ : ByteArray)).bind fun btbk => (if tdA = 0 then (if btbk.2.2 = 0 then (irq_mapped.j0 k a2 tbt btbk.1 btbk.2.1 (((tbt.length : Int) % 3) != 0) a0_0 l0_1 a0_2 l0_3 l0_4) else (irq_mapped.j0 k a2 tbt btbk.1 btbk.2.1 true a0_0 l0_1 a0_2 l0_3 l0_4)) else (irq_mapped.j0 k a2 tbt btbk.1 btbk.2.1 true a0_0 l0_1 a0_2 l0_3 l0_4))) = some (r1, r2, r3) := H; have A6 := Ak A60; clear A60; replace H := Option.bind_eq_some_iff.mp H; obtain ⟨⟨tbk, tdL, tdM⟩, A70, H⟩ := H; replace H : (if tdA = 0 then (if tdM = 0 then (irq_mapped.j0 k a2 tbt tbk tdL (((tbt.length : Int) % 3) != 0) a0_0 l0_1 a0_2 l0_3 l0_4) else (irq_mapped.j0 k a2 tbt tbk tdL true a0_0 l0_1 a0_2 l0_3 l0_4)) else (irq_mapped.j0 k a2 tbt tbk tdL true a0_0 l0_1 a0_2 l0_3 l0_4)) = some (r1, r2, r3) := H; have A7 := Ak A70; clear A70; have HC8 := Ak H; clear H
  go_enter Try.func31, Try.ntmps31
  go_upto_region 6 with (first | ((with_reducible refine gate_dst (N := 3) rfl ?_); (try (refine gate_guard Zq3 ?_; dsimp only)); refine box_event ?hg (N := 3) ?hd (cs := #[.int .u32 a0_0, .slice A0_1 l0_1.length c0_1, .string a0_2, .slice A0_3 l0_3.length c0_3, .slice A0_4 l0_4.length c0_4]) (t := 29) ?hr ?_; (case hd | hg => rfl); (case hr => first | (go_simp; done) | (go_simp; rfl)); intro gbaJ hg w9 hbox hb; have n0_ := Zq142; have n1_ := Ak (hbox); have n2_ := Zq248; have n3_ := Zq248; clear HB; have HB := n0_; have BKaJ := n1_; have GWaJ := n2_; have GEaJ := n3_; clear n0_ n1_ n2_ n3_ hb hbox hg) | ((with_reducible refine gate_dst (N := 4) rfl ?_); (try (refine gate_guard Zq3 ?_; dsimp only)); refine box_event ?hg (N := 4) ?hd (cs := #[.string a1_0, .slice A1_1 l1_1.length c1_1, .slice A1_2 l1_2.length c1_2]) (t := 27) ?hr ?_; (case hd | hg => rfl); (case hr => first | (go_simp; done) | (go_simp; rfl)); intro gbaP hg w10 hbox hb; have n0_ := Zq140; have n1_ := Ak (below_step Zq87 hb); have n2_ := Ak (hbox); have n3_ := Zq240; have n4_ := Zq240; have n5_ := Ak ((by rw [hg]; exact Nat.ne_of_lt Zq144 : gbaJ ≠ gbaP)); have n6_ := Ak ((by rw [hg]; exact Nat.ne_of_gt Zq144 : gbaP ≠ gbaJ)); clear BKaJ HB; have BKaJ := n0_; have HB := n1_; have BKaP := n2_; have GWaP := n3_; have GEaP := n4_; have NB241_242 := n5_; have NB242_241 := n6_; clear n0_ n1_ n2_ n3_ n4_ n5_ n6_ hb hbox hg) | ((with_reducible refine gate_dst (N := 6) rfl ?_); (try (refine gate_guard Zq3 ?_; dsimp only)); refine box_event ?hg (N := 6) ?hd (cs := #[.slice none 0 0, .int .u32 0]) (t := 32) ?hr ?_; (case hd | hg => rfl); (case hr => first | (go_simp; done) | (go_simp; rfl)); intro gbaE hg w11 hbox hb; have n0_ := Zq140; have n1_ := Zq147; have n2_ := Ak (below_step Zq88 hb); have n3_ := Ak (hbox); have n4_ := Zq241; have n5_ := Zq241; have n6_ := Ak ((by rw [hg]; exact Nat.ne_of_lt Zq144 : gbaJ ≠ gbaE)); have n7_ := Ak ((by rw [hg]; exact Nat.ne_of_gt Zq144 : gbaE ≠ gbaJ)); have n8_ := Ak ((by rw [hg]; exact Nat.ne_of_lt Zq192 : gbaP ≠ gbaE)); have n9_ := Ak ((by rw [hg]; exact Nat.ne_of_gt Zq192 : gbaE ≠ gbaP)); clear BKaJ BKaP HB; have BKaJ := n0_; have BKaP := n1_; have HB := n2_; have BKaE := n3_; have GWaE := n4_; have GEaE := n5_; have NB241_243 := n6_; have NB243_241 := n7_; have NB242_243 := n8_; have NB243_242 := n9_; clear n0_ n1_ n2_ n3_ n4_ n5_ n6_ n7_ n8_ n9_ hb hbox hg; have hnb12 := NB242_241.out; have hnc12 := NB241_242.out; have hnb13 := NB242_243.out; have hnc13 := NB243_242.out; have hcz14_0 : w11.cell? ⟨gbaP, 0, none⟩ = some (.string a1_0) := (blk_cell BKaP.out 0).trans rfl; have hcz14_1 : w11.cell? ⟨gbaP, 1, none⟩ = some (.slice A1_1 l1_1.length c1_1) := (blk_cell BKaP.out 1).trans rfl; have hcz14_2 : w11.cell? ⟨gbaP, 2, none⟩ = some (.slice A1_2 l1_2.length c1_2) := (blk_cell BKaP.out 2).trans rfl; have hfz14_0 := blk_frozen BKaP.out 0; have hfz14_1 := blk_frozen BKaP.out 1; have hfz14_2 := blk_frozen BKaP.out 2) | ((with_reducible refine gate_callee (f := 59) rfl ?_); refine goesL_ (some 19) rfl rfl Try.func59 Zq2 rfl #[.agg #[.string a1_0, .slice A1_1 l1_1.length c1_1, .slice A1_2 l1_2.length c1_2], .string (⟨#[105, 110, 116, 101, 114, 114, 117, 112, 116, 45, 109, 97, 112]⟩ : ByteArray)] rfl Zq8 ?_; (with_reducible refine (tree_Find.calls k a1_0 _ _ l1_1 _ _ l1_2 (⟨#[105, 110, 116, 101, 114, 114, 117, 112, 116, 45, 109, 97, 112]⟩ : ByteArray) tcP true _ ?side1 ?side2 ?side3 ?side4 A4.out).mono ?_); (case side1 => repeat (first | exact (Kd.C_below HR1_1.out HB.out) | (with_reducible refine Kd.C_alloc ?_ _) | (with_reducible refine Kd.C_drewN ?_ _) | (with_reducible refine Kd.C_drew ?_))); (case side2 => exact HC1_1.out); (case side3 => repeat (first | exact (Kd.C_below HR1_2.out HB.out) | (with_reducible refine Kd.C_alloc ?_ _) | (with_reducible refine Kd.C_drewN ?_ _) | (with_reducible refine Kd.C_drew ?_))); (case side4 => exact HC1_2.out); rintro e w15 ⟨v245, rfl, ho0, hb⟩; refine ⟨_, rfl, ?_⟩; have n0_ := Zq262; have n1_ := Zq140; have n2_ := Zq147; have n3_ := Zq219; have n4_ := Zq272; clear BKaJ BKaP BKaE HB; have HOdp := n0_; have BKaJ := n1_; have BKaP := n2_; have BKaE := n3_; have HB := n4_; clear n0_ n1_ n2_ n3_ n4_; (try clear hb); (try clear hb2); (try clear hk); (try clear hi); (try clear ho0); obtain ⟨Ao16, co16, eo16⟩ := Kd.R_slice HOdp.out; subst eo16) | ((with_reducible refine gate_callee (f := 60) rfl ?_); refine goesL_ (some 27) rfl rfl Try.func60 Zq2 rfl #[.slice Ao16 tcP.length co16] rfl Zq8 ?_; (with_reducible refine (prop_Cells.calls k _ _ tcP tbt tdA _ ?side1 ?side2 A6.out).mono ?_); (case side1 => repeat (first | exact (Kd.R_reads' HOdp.out).2.2 | (with_reducible refine Kd.C_alloc ?_ _) | (with_reducible refine Kd.C_drewN ?_ _) | (with_reducible refine Kd.C_drew ?_))); (case side2 => exact (Kd.R_reads' HOdp.out).2.1); rintro e w17 ⟨v250, rfl, ho0, hb⟩; refine ⟨_, rfl, ?_⟩; have n0_ := Zq280; have n1_ := Zq262; have n2_ := Zq140; have n3_ := Zq147; have n4_ := Zq219; have n5_ := Zq272; clear HOdp BKaJ BKaP BKaE HB; have HOdp := n0_; have HOew := n1_; have BKaJ := n2_; have BKaP := n3_; have BKaE := n4_; have HB := n5_; clear n0_ n1_ n2_ n3_ n4_ n5_; (try clear hb); (try clear hb2); (try clear hk); (try clear hi); (try clear ho0); have hcz18_0 : w17.cell? ⟨gbaP, 0, none⟩ = some (.string a1_0) := (blk_cell BKaP.out 0).trans rfl; have hcz18_1 : w17.cell? ⟨gbaP, 1, none⟩ = some (.slice A1_1 l1_1.length c1_1) := (blk_cell BKaP.out 1).trans rfl; have hcz18_2 : w17.cell? ⟨gbaP, 2, none⟩ = some (.slice A1_2 l1_2.length c1_2) := (blk_cell BKaP.out 2).trans rfl; have hfz18_0 := blk_frozen BKaP.out 0; have hfz18_1 := blk_frozen BKaP.out 1; have hfz18_2 := blk_frozen BKaP.out 2) | ((with_reducible refine gate_callee (f := 56) rfl ?_); refine goesL_ (some 32) rfl rfl Try.func56 Zq2 rfl #[.agg #[.string a1_0, .slice A1_1 l1_1.length c1_1, .slice A1_2 l1_2.length c1_2], .string (⟨#[105, 110, 116, 101, 114, 114, 117, 112, 116, 45, 109, 97, 112, 45, 109, 97, 115, 107]⟩ : ByteArray)] rfl Zq8 ?_; (with_reducible refine (prop_One.calls k a1_0 _ _ l1_1 _ _ l1_2 (⟨#[105, 110, 116, 101, 114, 114, 117, 112, 116, 45, 109, 97, 112, 45, 109, 97, 115, 107]⟩ : ByteArray) tbk tdL tdM _ ?side1 ?side2 ?side3 ?side4 A7.out).mono ?_); (case side1 => repeat (first | exact (Kd.C_below HR1_1.out HB.out) | (with_reducible refine Kd.C_alloc ?_ _) | (with_reducible refine Kd.C_drewN ?_ _) | (with_reducible refine Kd.C_drew ?_))); (case side2 => exact HC1_1.out); (case side3 => repeat (first | exact (Kd.C_below HR1_2.out HB.out) | (with_reducible refine Kd.C_alloc ?_ _) | (with_reducible refine Kd.C_drewN ?_ _) | (with_reducible refine Kd.C_drew ?_))); (case side4 => exact HC1_2.out); rintro e w19 ⟨rfl, hb⟩; refine ⟨_, rfl, ?_⟩; have n0_ := Zq280; have n1_ := Ak (Kd.R_below Zq113 hb); have n2_ := Zq140; have n3_ := Zq147; have n4_ := Zq219; have n5_ := Zq272; clear HOdp HOew BKaJ BKaP BKaE HB; have HOdp := n0_; have HOew := n1_; have BKaJ := n2_; have BKaP := n3_; have BKaE := n4_; have HB := n5_; clear n0_ n1_ n2_ n3_ n4_ n5_; (try clear hb); (try clear hb2); (try clear hk); (try clear hi)))
  (try simp only [Act.put, List.setIfInBounds_toArray, List.set_cons_zero, List.set_cons_succ])
  go_cut [47] (fun v47 wc => ∃ (kq : Nat) (x47_7 : Bool), v47 = .bool x47_7 ∧ Aside0 (irq_mapped.j0 kq a2 tbt tbk tdL x47_7 a0_0 l0_1 a0_2 l0_3 l0_4 = some (r1, r2, r3)) ∧ Aside0 (kq ≤ k) ∧ Aside0 (Kd.Q (Kd.int .u32) 22 wc w.heap.size (fun _ => True) v250 tbt) ∧ Aside0 (wc.heap[gbaJ]? = some (.cells #[.int .u32 a0_0, (.slice A0_1 l0_1.length c0_1), .string a0_2, (.slice A0_3 l0_3.length c0_3), (.slice A0_4 l0_4.length c0_4)] 29 (0, 0))) ∧ Aside0 (wc.heap[gbaP]? = some (.cells #[.string a1_0, (.slice A1_1 l1_1.length c1_1), (.slice A1_2 l1_2.length c1_2)] 27 (0, 0))) ∧ Aside0 (wc.heap[gbaE]? = some (.cells #[(.slice none 0 0), .int .u32 0] 32 (0, 0))) ∧ Aside0 (Below w.heap.size w wc))
  case first =>
   have H := HC8.out; clear HC8
   by_cases c20 : tdA = 0
   ·rw [if_pos c20] at H; have c20b0 : (tdA == 0) = true := beq_iff_eq.mpr c20; have c20b1 : (tdA != 0) = false := bne_eq_false_iff_eq.mpr c20; clear c20
    (first | rw [c20b0] | (simp only [i64_w, i32_w]; rw [c20b0]) | skip)
    by_cases c21 : tdM = 0
    ·rw [if_pos c21] at H; have c21b0 : (tdM == 0) = true := beq_iff_eq.mpr c21; have c21b1 : (tdM != 0) = false := bne_eq_false_iff_eq.mpr c21; clear c21; have H' := Ak H; clear H; obtain ⟨Ao22, co22, eo22⟩ := Kd.R_slice HOew.out; subst eo22
     go_wp2
     go_meet
     case rel => exact ⟨_, ((((tbt.length : Int) % 3) != 0)), Zq7, H', ⟨Zq43⟩, ⟨Kd.Q_of_R Zq113⟩, ⟨Zq29⟩, ⟨Zq42⟩, ⟨Zq54⟩, ⟨Zq32⟩⟩
    ·rw [if_neg c21] at H; have c21b0 : (tdM == 0) = false := beq_eq_false_iff_ne.mpr c21; have c21b1 : (tdM != 0) = true := bne_iff_ne.mpr c21; have H' := Ak H; clear H
     go_wp2
     go_meet
     case rel => exact ⟨_, (true), Zq7, H', ⟨Zq43⟩, ⟨Kd.Q_of_R Zq113⟩, ⟨Zq29⟩, ⟨Zq42⟩, ⟨Zq54⟩, ⟨Zq32⟩⟩
   ·rw [if_neg c20] at H; have c20b0 : (tdA == 0) = false := beq_eq_false_iff_ne.mpr c20; have c20b1 : (tdA != 0) = true := bne_iff_ne.mpr c20
    (first | rw [c20b0] | (simp only [i64_w, i32_w]; rw [c20b0]) | skip)
    have H' := Ak H; clear H
    go_wp2
    go_meet
    case rel => exact ⟨_, (true), Zq7, H', ⟨Zq43⟩, ⟨Kd.Q_of_R Zq113⟩, ⟨Zq29⟩, ⟨Zq42⟩, ⟨Zq54⟩, ⟨Zq32⟩⟩
  case rest =>
   clear HC8
   try clear c1
   try clear c2
   try clear p2
   try clear c3
   try clear c5
   try clear c6
   try clear c12
   try clear c13
   try clear c20
   try clear c20b0
   try clear c20b1
   try clear c21
   try clear c21b0
   try clear c21b1
   try clear hcz14_0
   try clear hcz14_1
   try clear hcz14_2
   try clear hcz18_0
   try clear hcz18_1
   try clear hcz18_2
   try clear hfz14_0
   try clear hfz14_1
   try clear hfz14_2
   try clear hfz18_0
   try clear hfz18_1
   try clear hfz18_2
   obtain ⟨kq, x47_7, rfl, HA, HJ7, HO_10, BKaJ, BKaP, BKaE, HB⟩ := hcut
   cases kq with
   | zero => exact absurd HA.out (by simp [irq_mapped.j0])
   | succ kj7 =>
    have H := HA.out; clear HA; simp only [irq_mapped.j0] at H
    by_cases c23 : x47_7 = true
    ·subst c23
     have H1 : (some (([] : List Int), 0, 4)) = some (r1, r2, r3) := by rw [if_pos rfl] at H; exact H
     clear H; have H := H1; clear H1; simp only [Option.some.injEq, Prod.mk.injEq] at H; obtain ⟨rfl, rfl, rfl⟩ := H; have hnb24 := NB243_241.out; have hnc24 := NB241_243.out; have hnb25 := NB243_242.out; have hnc25 := NB242_243.out; have hcz26_0 : wc.cell? ⟨gbaE, 0, none⟩ = some (.slice none 0 0) := (blk_cell BKaE.out 0).trans rfl; have hcz26_1 : wc.cell? ⟨gbaE, 1, none⟩ = some (.int .u32 0) := (blk_cell BKaE.out 1).trans rfl; have hfz26_0 := blk_frozen BKaE.out 0; have hfz26_1 := blk_frozen BKaE.out 1
     go_wp2
     refine bodyPost_ret (results_ct rfl _ _ gbaE 32 #[.slice none 0 0, .int .u32 0] (0, 0) _ rfl (by (with_reducible repeat (first | refine blk_drewN ?_ _ | refine blk_drew ?_ | refine blk_alloc ?_ _)); refine blk_put (cs := #[.slice none 0 0, .int .u32 0]) ?_ 1 _ rfl; (with_reducible repeat (first | refine blk_drewN ?_ _ | refine blk_drew ?_ | refine blk_alloc ?_ _)); refine blk_put (cs := #[.slice none 0 0, .int .u32 0]) ?_ 0 _ rfl; (with_reducible repeat (first | refine blk_drewN ?_ _ | refine blk_drew ?_ | refine blk_alloc ?_ _)); exact BKaE.out) Try.underlying32 rfl Zq2) rfl ?_
     exact ⟨_, Zq13, Zq34, Zq32⟩
    ·replace c23 := Bool.eq_false_iff.mpr c23; subst c23
     have H1 : (if tdL = true then (irq_mapped.j1 kj7 a2 tbt tbk a0_0 l0_1 a0_2 l0_3 l0_4) else (irq_mapped.j1 kj7 a2 tbt 4294967295 a0_0 l0_1 a0_2 l0_3 l0_4)) = some (r1, r2, r3) := by rw [if_neg (show ¬ (false = true) by decide)] at H; exact H
     clear H; have H := H1; clear H1; have HC27 := Ak H; clear H
     go_upto_if 50 with (fail)
     go_cut [12] (fun v12 wc => ∃ (kq : Nat) (x12_26 : Int), v12 = .int .u32 x12_26 ∧ Aside0 (irq_mapped.j1 kq a2 tbt x12_26 a0_0 l0_1 a0_2 l0_3 l0_4 = some (r1, r2, r3)) ∧ Aside0 (kq ≤ kj7) ∧ Aside0 (Kd.Q (Kd.int .u32) 22 wc w.heap.size (fun _ => True) v250 tbt) ∧ Aside0 (wc.heap[gbaJ]? = some (.cells #[.int .u32 a0_0, (.slice A0_1 l0_1.length c0_1), .string a0_2, (.slice A0_3 l0_3.length c0_3), (.slice A0_4 l0_4.length c0_4)] 29 (0, 0))) ∧ Aside0 (wc.heap[gbaP]? = some (.cells #[.string a1_0, (.slice A1_1 l1_1.length c1_1), (.slice A1_2 l1_2.length c1_2)] 27 (0, 0))) ∧ Aside0 (wc.heap[gbaE]? = some (.cells #[(.slice none 0 0), .int .u32 0] 32 (0, 0))) ∧ Aside0 (Below w.heap.size w wc))
     case first =>
      have H := HC27.out; clear HC27
      by_cases c28 : tdL = true
      ·subst c28
       have H1 : (irq_mapped.j1 kj7 a2 tbt tbk a0_0 l0_1 a0_2 l0_3 l0_4) = some (r1, r2, r3) := by rw [if_pos rfl] at H; exact H
       clear H; have H := H1; clear H1; have H' := Ak H; clear H
       go_wp2
       go_meet
       case rel => exact ⟨_, (tbk), Zq7, H', ⟨by have := HJ7.out; first | omega | exact Nat.le_refl _⟩, ⟨Zq93⟩, ⟨Zq29⟩, ⟨Zq42⟩, ⟨Zq54⟩, ⟨Zq32⟩⟩
      ·replace c28 := Bool.eq_false_iff.mpr c28; subst c28
       have H1 : (irq_mapped.j1 kj7 a2 tbt 4294967295 a0_0 l0_1 a0_2 l0_3 l0_4) = some (r1, r2, r3) := by rw [if_neg (show ¬ (false = true) by decide)] at H; exact H
       clear H; have H := H1; clear H1; have H' := Ak H; clear H
       go_wp2
       go_meet
       case rel => exact ⟨_, (4294967295), Zq7, H', ⟨by have := HJ7.out; first | omega | exact Nat.le_refl _⟩, ⟨Zq93⟩, ⟨Zq29⟩, ⟨Zq42⟩, ⟨Zq54⟩, ⟨Zq32⟩⟩
     case rest =>
      clear HC27
      try clear c1
      try clear c2
      try clear p2
      try clear c3
      try clear c5
      try clear c6
      try clear c12
      try clear c13
      try clear c20
      try clear c20b0
      try clear c20b1
      try clear c21
      try clear c21b0
      try clear c21b1
      try clear c23
      try clear c24
      try clear c25
      try clear c28
      try clear hcz14_0
      try clear hcz14_1
      try clear hcz14_2
      try clear hcz18_0
      try clear hcz18_1
      try clear hcz18_2
      try clear hcz26_0
      try clear hcz26_1
      try clear hfz14_0
      try clear hfz14_1
      try clear hfz14_2
      try clear hfz18_0
      try clear hfz18_1
      try clear hfz18_2
      try clear hfz26_0
      try clear hfz26_1
      try clear p2
      obtain ⟨kq, x12_26, rfl, HA, HJ26, HO_10, BKaJ, BKaP, BKaE, HB⟩ := hcut
      cases kq with
      | zero => exact absurd HA.out (by simp [irq_mapped.j1])
      | succ kj26 =>
       have H := HA.out; clear HA; simp only [irq_mapped.j1] at H; have H' := Ak H; clear H
       go_wp2
       go_loopg [10] kj26 (fun kq v10 w' => ∃ (x10_3 : List Int) (xcC_3 : Int), Aside0 (irq_mapped.l0 kq a2 x10_3 x12_26 a0_0 l0_1 a0_2 l0_3 l0_4 = some (r1, r2, r3)) ∧ Aside0 (kq ≤ kj26) ∧ Aside0 (Kd.Q (Kd.int .u32) 22 w' w.heap.size (fun _ => True) v10 x10_3) ∧ Aside0 (w'.heap[gbaJ]? = some (.cells #[.int .u32 a0_0, (.slice A0_1 l0_1.length c0_1), .string a0_2, (.slice A0_3 l0_3.length c0_3), (.slice A0_4 l0_4.length c0_4)] 29 (0, 0))) ∧ Aside0 (w'.heap[gbaP]? = some (.cells #[.string a1_0, (.slice A1_1 l1_1.length c1_1), (.slice A1_2 l1_2.length c1_2)] 27 (0, 0))) ∧ Aside0 (w'.heap[gbaE]? = some (.cells #[(.slice none 0 0), .int .u32 xcC_3] 32 (0, 0))) ∧ Aside0 (Below w.heap.size w w'))
       case atStart => exact ⟨(tbt), (0), H', ⟨Nat.le_refl _⟩, ⟨Zq93⟩, ⟨Zq29⟩, ⟨Zq42⟩, ⟨Zq54⟩, ⟨Zq32⟩⟩
       case round =>
        clear H'
        try clear c1
        try clear c2
        try clear p2
        try clear c3
        try clear c5
        try clear c6
        try clear c12
        try clear c13
        try clear c20
        try clear c20b0
        try clear c20b1
        try clear c21
        try clear c21b0
        try clear c21b1
        try clear c23
        try clear c24
        try clear c25
        try clear c28
        try clear hcz14_0
        try clear hcz14_1
        try clear hcz14_2
        try clear hcz18_0
        try clear hcz18_1
        try clear hcz18_2
        try clear hcz26_0
        try clear hcz26_1
        try clear hfz14_0
        try clear hfz14_1
        try clear hfz14_2
        try clear hfz18_0
        try clear hfz18_1
        try clear hfz18_2
        try clear hfz26_0
        try clear hfz26_1
        try clear p2
        obtain ⟨x10_3, xcC_3, HA, HK3, HO_10, BKaJ, BKaP, BKaE, HB⟩ := hrel
        cases gk with
        | zero => exact absurd HA.out (by simp [irq_mapped.l0])
        | succ k3 =>
         have H := HA.out; clear HA; simp only [irq_mapped.l0] at H
         by_cases c29 : (x10_3.length : Int) > 0
         ·rw [if_pos c29] at H; have c29b0 : decide (0 < (x10_3.length : Int)) = true := decide_eq_true c29; have c29b1 : decide (0 < x10_3.length) = true := decide_eq_true Zq1; clear c29
          by_cases c30 : 0 < (x10_3.length : Int)
          ·rw [if_pos c30] at H; have c30b0 : decide (0 < (x10_3.length : Int)) = true := decide_eq_true c30; have c30b1 : decide (0 < x10_3.length) = true := decide_eq_true Zq1; clear c30
           by_cases c31 : (Go.bits .and .u32 (rd x10_3 0) x12_26) = (Go.bits .and .u32 a2 x12_26)
           ·rw [if_pos c31] at H; have c31b0 : ((Go.bits .and .u32 (rd x10_3 0) x12_26) == (Go.bits .and .u32 a2 x12_26)) = true := beq_iff_eq.mpr c31; have c31b1 : ((Go.bits .and .u32 (rd x10_3 0) x12_26) != (Go.bits .and .u32 a2 x12_26)) = false := bne_eq_false_iff_eq.mpr c31; clear c31
            by_cases c32 : 1 < (x10_3.length : Int)
            ·rw [if_pos c32] at H; have c32b0 : decide (1 < (x10_3.length : Int)) = true := decide_eq_true c32; have c32b1 : decide (1 < x10_3.length) = true := decide_eq_true Zq1; clear c32; replace H := Option.bind_eq_some_iff.mp H; obtain ⟨⟨tde, tdq⟩, AaR, H⟩ := H; replace H : (if tdq = 0 then (if 2 < (x10_3.length : Int) then (some (tde, rd x10_3 2, 0)) else (none)) else (some (([] : List Int), 0, tdq))) = some (r1, r2, r3) := H; have A33 := Ak AaR; clear AaR
             by_cases c34 : tdq = 0
             ·rw [if_pos c34] at H; have c34b0 : (tdq == 0) = true := beq_iff_eq.mpr c34; have c34b1 : (tdq != 0) = false := bne_eq_false_iff_eq.mpr c34; clear c34
              by_cases c35 : 2 < (x10_3.length : Int)
              ·rw [if_pos c35] at H; have c35b0 : decide (2 < (x10_3.length : Int)) = true := decide_eq_true c35; have c35b1 : decide (2 < x10_3.length) = true := decide_eq_true Zq1; clear c35; simp only [Option.some.injEq, Prod.mk.injEq] at H; obtain ⟨rfl, rfl, rfl⟩ := H; obtain ⟨Ao36, co36, eo36, _⟩ := Kd.Q_slice HO_10.out; subst eo36; have p255 : 0 ≤ (0 : Int) := Zq1; have q255 : 0 < (x10_3.length : Int) := of_decide_eq_true Zq5; obtain ⟨adcD, e255, hx255_0⟩ := Kd.at_int (Kd.Q_reads' HO_10.out).2.2 0 p255 q255
               cases e255
               have qi255 : (0 < x10_3.length) = True := eq_true Zq1
               (try rw [show ((0 : Int)).toNat = 0 from rfl] at hx255_0)
               (try rw [Addr.add_zero'] at hx255_0)
               replace p255 := eq_true p255; replace q255 := eq_true q255
               try go_wp2
               have n0_ := Ak (Kd.Q_drew HO_10.out); have n1_ := Ak (blk_drew BKaJ.out); have n2_ := Ak (blk_drew BKaP.out); have n3_ := Ak (blk_drew BKaE.out); have n4_ := Zq208; clear HO_10 BKaJ BKaP BKaE HB; have HO_10 := n0_; have BKaJ := n1_; have BKaP := n2_; have BKaE := n3_; have HB := n4_; clear n0_ n1_ n2_ n3_ n4_; have p256 : 0 ≤ (1 : Int) := Zq1; have q256 : 1 < (x10_3.length : Int) := of_decide_eq_true Zq5; obtain ⟨adeJ, e256, hx256_0⟩ := Kd.at_int (Kd.Q_reads' HO_10.out).2.2 1 p256 q256
               obtain rfl : adcD = adeJ := (by injection e256)
               (try simp only [show (1 : Int).toNat = 1 from rfl, Nat.reduceMul, Nat.reduceEqDiff, Go.Addr.add, ↓reduceIte] at hx256_0)
               have qi256 : (1 < x10_3.length) = True := eq_true Zq1
               (try rw [show ((1 : Int)).toNat = 1 from rfl] at hx256_0)
               replace p256 := eq_true p256; replace q256 := eq_true q256; refine start_ (n := 10) (S := fun w' => w'.cell? ⟨gbaJ, 0, none⟩ = some (.int .u32 a0_0) ∧ w'.cell? ⟨gbaJ, 1, none⟩ = some (.slice A0_1 l0_1.length c0_1) ∧ w'.cell? ⟨gbaJ, 2, none⟩ = some (.string a0_2) ∧ w'.cell? ⟨gbaJ, 3, none⟩ = some (.slice A0_3 l0_3.length c0_3) ∧ w'.cell? ⟨gbaJ, 4, none⟩ = some (.slice A0_4 l0_4.length c0_4) ∧ w'.cell? ⟨adcD.block, adcD.off + 1, none⟩ = some (.int .u32 (rd x10_3 1))) (ds := []) #[false, false, false, false, false, false, false, false, false, false] Zq2 rfl rfl ⟨(blk_cell BKaJ.out 0).trans rfl, (blk_cell BKaJ.out 1).trans rfl, (blk_cell BKaJ.out 2).trans rfl, (blk_cell BKaJ.out 3).trans rfl, (blk_cell BKaJ.out 4).trans rfl, hx256_0⟩ (fun hHeld => ?_); refine with_tabW irq_mapped.tab13 irq_mapped.bits13 (fun HT_ HW_ => ?_); generalize wr.drew = w37 at HO_10 BKaJ BKaP BKaE HB hx256_0 hHeld ⊢; refine pure_ (i := 1) (N := some 67) (v := ?_) (a' := ?_) #[false, true, false, false, false, false, false, false, false, false] rfl rfl (any_of HT_.out Zq2) (fun _ _ _ h => h) (Or.inl ⟨Zq3, ?_⟩) ?_ ?_
               rotate_left
               ·intro w'
                go_simp
                with_reducible rfl
               rotate_left
               ·simp only [Sx]
                rfl
               refine pure_ (i := 2) (N := some 68) (v := ?_) (a' := ?_) #[false, true, true, false, false, false, false, false, false, false] rfl rfl (any_of HT_.out Zq2) (fun _ _ _ h => h) (Or.inl ⟨Zq3, ?_⟩) ?_ ?_
               rotate_left
               ·intro w'
                go_simp
                with_reducible rfl
               rotate_left
               ·simp only [Sx]
                rfl
               refine take_ (i := 0) (N := some 66) (v := ?_) (a' := ?_) #[true, true, true, false, false, false, false, false, false, false] rfl rfl (take_ofW HT_.out HW_.out Zq2) (fun _ _ _ h => h) (Or.inl ⟨Zq3, ?_⟩) hHeld ?_ ?_
               rotate_left
               ·rintro w' ⟨s0, s1, s2, s3, s4, s5⟩
                go_simp
                with_reducible rfl
               rotate_left
               ·simp only [Sx]
                rfl
               refine take_ (i := 3) (N := some 69) (v := ?_) (a' := ?_) #[true, true, true, true, false, false, false, false, false, false] rfl rfl (take_ofW HT_.out HW_.out Zq2) (fun _ _ _ h => h) (Or.inl ⟨Zq3, ?_⟩) hHeld ?_ ?_
               rotate_left
               ·rintro w' ⟨s0, s1, s2, s3, s4, s5⟩
                go_simp
                with_reducible rfl
               rotate_left
               ·simp only [Sx]
                rfl
               refine one_ (i := 4) (N := some 70) #[true, true, true, true, true, false, false, false, false, false] rfl rfl (one_of HT_.out Zq2) Zq4 (fun K hK => ?_); refine goes_ Try.func57 Zq2 rfl #[.agg #[.int .u32 a0_0, .slice A0_1 l0_1.length c0_1, .string a0_2, .slice A0_3 l0_3.length c0_3, .slice A0_4 l0_4.length c0_4], .int .u32 (rd x10_3 1)] Zq3 rfl rfl Zq8 ?_; with_reducible refine (handle_Find.calls k3 a0_0 _ _ l0_1 a0_2 _ _ l0_3 _ _ l0_4 (rd x10_3 1) tde tdq _ ?side1 ?side2 ?side3 ?side4 ?side5 ?side6 A33.out).mono ?_
               (case side1 => repeat (first | exact Zq138 | (with_reducible refine Kd.C_alloc ?_ _) | (with_reducible refine Kd.C_drewN ?_ _) | (with_reducible refine Kd.C_drew ?_)))
               (case side2 => exact HC0_1.out)
               (case side3 => repeat (first | exact Zq153 | (with_reducible refine Kd.C_alloc ?_ _) | (with_reducible refine Kd.C_drewN ?_ _) | (with_reducible refine Kd.C_drew ?_)))
               (case side4 => exact HC0_3.out)
               (case side5 => repeat (first | exact Zq154 | (with_reducible refine Kd.C_alloc ?_ _) | (with_reducible refine Kd.C_drewN ?_ _) | (with_reducible refine Kd.C_drew ?_)))
               (case side6 => exact HC0_4.out)
               rintro e w38 ⟨v258, rfl, ho0, hb⟩
               have HS5_ := (hb.cell (World.block_lt_of_cell? _ _ (hHeld.2.2.2.2.2))).trans (hHeld.2.2.2.2.2); refine ⟨_, rfl, ?_⟩; have n0_ := Ak (Kd.Q_below Zq93 hb); have n1_ := Zq262; have n2_ := Zq140; have n3_ := Zq147; have n4_ := Ak (blk_below (g := gbaE) (o := .cells #[.slice none 0 0, .int .u32 xcC_3] 32 (0, 0)) Zq54 hb); have n5_ := Zq272; clear HO_10 BKaJ BKaP BKaE HB; have HO_10 := n0_; have HOeK := n1_; have BKaJ := n2_; have BKaP := n3_; have BKaE := n4_; have HB := n5_; clear n0_ n1_ n2_ n3_ n4_ n5_
               (try clear hb)
               (try clear hb2)
               (try clear hk)
               (try clear hi)
               (try clear ho0)
               refine hK.out _ _ ⟨(blk_cell BKaJ.out 0).trans rfl, (blk_cell BKaJ.out 1).trans rfl, (blk_cell BKaJ.out 2).trans rfl, (blk_cell BKaJ.out 3).trans rfl, (blk_cell BKaJ.out 4).trans rfl, HS5_⟩ (fun hHeld => ?_); clear hK K; refine norm_ (a' := ?_) ?_ ?_
               rotate_left
               ·show Act.put _ (some 70) _ = _
                simp only [Sx]
                rfl
               refine pure_ (i := 5) (N := some 65) (v := ?_) (a' := ?_) #[true, true, true, true, true, true, false, false, false, false] rfl rfl (any_of HT_.out Zq2) (fun _ _ _ h => h) (Or.inl ⟨Zq3, ?_⟩) ?_ ?_
               rotate_left
               ·intro w'
                go_simp
                with_reducible rfl
               rotate_left
               ·simp only [Sx]
                rfl
               refine pure_ (i := 6) (N := some 71) (v := ?_) (a' := ?_) #[true, true, true, true, true, true, true, false, false, false] rfl rfl (any_of HT_.out Zq2) (fun _ _ _ h => h) (Or.inl ⟨Zq3, ?_⟩) ?_ ?_
               rotate_left
               ·intro w'
                go_simp
                with_reducible rfl
               rotate_left
               ·simp only [Sx]
                rfl
               refine pure_ (i := 7) (N := some 72) (v := ?_) (a' := ?_) #[true, true, true, true, true, true, true, true, false, false] rfl rfl (any_of HT_.out Zq2) (fun _ _ _ h => h) (Or.inl ⟨Zq3, ?_⟩) ?_ ?_
               rotate_left
               ·intro w'
                go_simp
                with_reducible rfl
               rotate_left
               ·simp only [Sx]
                rfl
               refine pure_ (i := 8) (N := some 15) (v := ?_) (a' := ?_) #[true, true, true, true, true, true, true, true, true, false] rfl rfl (any_of HT_.out Zq2) (fun _ _ _ h => h) (Or.inl ⟨Zq3, ?_⟩) ?_ ?_
               rotate_left
               ·intro w'
                go_simp
                with_reducible rfl
               rotate_left
               ·simp only [Sx]
                rfl
               refine pure_ (i := 9) (N := some 16) (v := ?_) (a' := ?_) #[true, true, true, true, true, true, true, true, true, true] rfl rfl (any_of HT_.out Zq2) (fun _ _ _ h => h) (Or.inl ⟨Zq3, ?_⟩) ?_ ?_
               rotate_left
               ·intro w'
                go_simp
                with_reducible rfl
               rotate_left
               ·simp only [Sx]
                rfl
               refine done_ (done_of HT_.out Zq2) ?_; have p261 : 0 ≤ (2 : Int) := Zq1; have q261 : 2 < (x10_3.length : Int) := of_decide_eq_true Zq5; obtain ⟨adft, e261, hx261_0⟩ := Kd.at_int (Kd.Q_reads' HO_10.out).2.2 2 p261 q261
               obtain rfl : adcD = adft := (by injection e261)
               (try simp only [show (2 : Int).toNat = 2 from rfl, Nat.reduceMul, Nat.reduceEqDiff, Go.Addr.add, ↓reduceIte] at hx261_0)
               have qi261 : (2 < x10_3.length) = True := eq_true Zq1
               (try rw [show ((2 : Int)).toNat = 2 from rfl] at hx261_0)
               replace p261 := eq_true p261; replace q261 := eq_true q261; obtain ⟨Ao39, co39, eo39⟩ := Kd.R_slice HOeK.out; subst eo39; have hnb40 := NB243_241.out; have hnc40 := NB241_243.out; have hnb41 := NB243_242.out; have hnc41 := NB242_243.out; have hcz42_0 : w38.cell? ⟨gbaE, 0, none⟩ = some (.slice none 0 0) := (blk_cell BKaE.out 0).trans rfl; have hcz42_1 : w38.cell? ⟨gbaE, 1, none⟩ = some (.int .u32 xcC_3) := (blk_cell BKaE.out 1).trans rfl; have hfz42_0 := blk_frozen BKaE.out 0; have hfz42_1 := blk_frozen BKaE.out 1
               try go_wp2
               refine bodyPost_ret (results_ct rfl _ _ gbaE 32 #[.slice Ao39 tde.length co39, .int .u32 (rd x10_3 2)] (0, 0) _ rfl (by (with_reducible repeat (first | refine blk_drewN ?_ _ | refine blk_drew ?_ | refine blk_alloc ?_ _)); refine blk_put (cs := #[.slice Ao39 tde.length co39, .int .u32 xcC_3]) ?_ 1 _ rfl; (with_reducible repeat (first | refine blk_drewN ?_ _ | refine blk_drew ?_ | refine blk_alloc ?_ _)); refine blk_put (cs := #[.slice none 0 0, .int .u32 xcC_3]) ?_ 0 _ rfl; (with_reducible repeat (first | refine blk_drewN ?_ _ | refine blk_drew ?_ | refine blk_alloc ?_ _)); exact BKaE.out) Try.underlying32 rfl Zq2) rfl ?_
               exact ⟨_, Zq13, by (with_reducible repeat (first | apply Kd.R_alloc | apply Kd.R_drewN | apply Kd.R_drew)); exact Kd.R_mono (Kd.R_far (p := ⟨gbaE, 1, none⟩) (Kd.R_far (p := ⟨gbaE, 0, none⟩) (Kd.R_types HOeK.out BKaE.out Zq4) (fun _ hk => hk.2) (.slice Ao39 tde.length co39)) (fun _ hk => hk.2) (.int .u32 (rd x10_3 2))) (fun _ hk => trivial), Zq32⟩
              ·rw [if_neg c35] at H; exact absurd H Zq10
             ·rw [if_neg c34] at H; have c34b0 : (tdq == 0) = false := beq_eq_false_iff_ne.mpr c34; have c34b1 : (tdq != 0) = true := bne_iff_ne.mpr c34; simp only [Option.some.injEq, Prod.mk.injEq] at H; obtain ⟨rfl, rfl, rfl⟩ := H; obtain ⟨Ao43, co43, eo43, _⟩ := Kd.Q_slice HO_10.out; subst eo43; have p255 : 0 ≤ (0 : Int) := Zq1; have q255 : 0 < (x10_3.length : Int) := of_decide_eq_true Zq5; obtain ⟨adcD, e255, hx255_0⟩ := Kd.at_int (Kd.Q_reads' HO_10.out).2.2 0 p255 q255
              cases e255
              have qi255 : (0 < x10_3.length) = True := eq_true Zq1
              (try rw [show ((0 : Int)).toNat = 0 from rfl] at hx255_0)
              (try rw [Addr.add_zero'] at hx255_0)
              replace p255 := eq_true p255; replace q255 := eq_true q255
              try go_wp2
              have n0_ := Ak (Kd.Q_drew HO_10.out); have n1_ := Ak (blk_drew BKaJ.out); have n2_ := Ak (blk_drew BKaP.out); have n3_ := Ak (blk_drew BKaE.out); have n4_ := Zq208; clear HO_10 BKaJ BKaP BKaE HB; have HO_10 := n0_; have BKaJ := n1_; have BKaP := n2_; have BKaE := n3_; have HB := n4_; clear n0_ n1_ n2_ n3_ n4_; have p256 : 0 ≤ (1 : Int) := Zq1; have q256 : 1 < (x10_3.length : Int) := of_decide_eq_true Zq5; obtain ⟨adeJ, e256, hx256_0⟩ := Kd.at_int (Kd.Q_reads' HO_10.out).2.2 1 p256 q256
              obtain rfl : adcD = adeJ := (by injection e256)
              (try simp only [show (1 : Int).toNat = 1 from rfl, Nat.reduceMul, Nat.reduceEqDiff, Go.Addr.add, ↓reduceIte] at hx256_0)
              have qi256 : (1 < x10_3.length) = True := eq_true Zq1
              (try rw [show ((1 : Int)).toNat = 1 from rfl] at hx256_0)
              replace p256 := eq_true p256; replace q256 := eq_true q256; refine start_ (n := 10) (S := fun w' => w'.cell? ⟨gbaJ, 0, none⟩ = some (.int .u32 a0_0) ∧ w'.cell? ⟨gbaJ, 1, none⟩ = some (.slice A0_1 l0_1.length c0_1) ∧ w'.cell? ⟨gbaJ, 2, none⟩ = some (.string a0_2) ∧ w'.cell? ⟨gbaJ, 3, none⟩ = some (.slice A0_3 l0_3.length c0_3) ∧ w'.cell? ⟨gbaJ, 4, none⟩ = some (.slice A0_4 l0_4.length c0_4) ∧ w'.cell? ⟨adcD.block, adcD.off + 1, none⟩ = some (.int .u32 (rd x10_3 1))) (ds := []) #[false, false, false, false, false, false, false, false, false, false] Zq2 rfl rfl ⟨(blk_cell BKaJ.out 0).trans rfl, (blk_cell BKaJ.out 1).trans rfl, (blk_cell BKaJ.out 2).trans rfl, (blk_cell BKaJ.out 3).trans rfl, (blk_cell BKaJ.out 4).trans rfl, hx256_0⟩ (fun hHeld => ?_); refine with_tabW irq_mapped.tab13 irq_mapped.bits13 (fun HT_ HW_ => ?_); generalize wr.drew = w44 at HO_10 BKaJ BKaP BKaE HB hx256_0 hHeld ⊢; refine pure_ (i := 1) (N := some 67) (v := ?_) (a' := ?_) #[false, true, false, false, false, false, false, false, false, false] rfl rfl (any_of HT_.out Zq2) (fun _ _ _ h => h) (Or.inl ⟨Zq3, ?_⟩) ?_ ?_
              rotate_left
              ·intro w'
               go_simp
               with_reducible rfl
              rotate_left
              ·simp only [Sx]
               rfl
              refine pure_ (i := 2) (N := some 68) (v := ?_) (a' := ?_) #[false, true, true, false, false, false, false, false, false, false] rfl rfl (any_of HT_.out Zq2) (fun _ _ _ h => h) (Or.inl ⟨Zq3, ?_⟩) ?_ ?_
              rotate_left
              ·intro w'
               go_simp
               with_reducible rfl
              rotate_left
              ·simp only [Sx]
               rfl
              refine take_ (i := 0) (N := some 66) (v := ?_) (a' := ?_) #[true, true, true, false, false, false, false, false, false, false] rfl rfl (take_ofW HT_.out HW_.out Zq2) (fun _ _ _ h => h) (Or.inl ⟨Zq3, ?_⟩) hHeld ?_ ?_
              rotate_left
              ·rintro w' ⟨s0, s1, s2, s3, s4, s5⟩
               go_simp
               with_reducible rfl
              rotate_left
              ·simp only [Sx]
               rfl
              refine take_ (i := 3) (N := some 69) (v := ?_) (a' := ?_) #[true, true, true, true, false, false, false, false, false, false] rfl rfl (take_ofW HT_.out HW_.out Zq2) (fun _ _ _ h => h) (Or.inl ⟨Zq3, ?_⟩) hHeld ?_ ?_
              rotate_left
              ·rintro w' ⟨s0, s1, s2, s3, s4, s5⟩
               go_simp
               with_reducible rfl
              rotate_left
              ·simp only [Sx]
               rfl
              refine one_ (i := 4) (N := some 70) #[true, true, true, true, true, false, false, false, false, false] rfl rfl (one_of HT_.out Zq2) Zq4 (fun K hK => ?_); refine goes_ Try.func57 Zq2 rfl #[.agg #[.int .u32 a0_0, .slice A0_1 l0_1.length c0_1, .string a0_2, .slice A0_3 l0_3.length c0_3, .slice A0_4 l0_4.length c0_4], .int .u32 (rd x10_3 1)] Zq3 rfl rfl Zq8 ?_; with_reducible refine (handle_Find.calls k3 a0_0 _ _ l0_1 a0_2 _ _ l0_3 _ _ l0_4 (rd x10_3 1) tde tdq _ ?side1 ?side2 ?side3 ?side4 ?side5 ?side6 A33.out).mono ?_
              (case side1 => repeat (first | exact Zq138 | (with_reducible refine Kd.C_alloc ?_ _) | (with_reducible refine Kd.C_drewN ?_ _) | (with_reducible refine Kd.C_drew ?_)))
              (case side2 => exact HC0_1.out)
              (case side3 => repeat (first | exact Zq153 | (with_reducible refine Kd.C_alloc ?_ _) | (with_reducible refine Kd.C_drewN ?_ _) | (with_reducible refine Kd.C_drew ?_)))
              (case side4 => exact HC0_3.out)
              (case side5 => repeat (first | exact Zq154 | (with_reducible refine Kd.C_alloc ?_ _) | (with_reducible refine Kd.C_drewN ?_ _) | (with_reducible refine Kd.C_drew ?_)))
              (case side6 => exact HC0_4.out)
              rintro e w45 ⟨v258, rfl, ho0, hb⟩
              have HS5_ := (hb.cell (World.block_lt_of_cell? _ _ (hHeld.2.2.2.2.2))).trans (hHeld.2.2.2.2.2); refine ⟨_, rfl, ?_⟩; have n0_ := Ak (Kd.Q_below Zq93 hb); have n1_ := Zq262; have n2_ := Zq140; have n3_ := Zq147; have n4_ := Ak (blk_below (g := gbaE) (o := .cells #[.slice none 0 0, .int .u32 xcC_3] 32 (0, 0)) Zq54 hb); have n5_ := Zq272; clear HO_10 BKaJ BKaP BKaE HB; have HO_10 := n0_; have HOeK := n1_; have BKaJ := n2_; have BKaP := n3_; have BKaE := n4_; have HB := n5_; clear n0_ n1_ n2_ n3_ n4_ n5_
              (try clear hb)
              (try clear hb2)
              (try clear hk)
              (try clear hi)
              (try clear ho0)
              refine hK.out _ _ ⟨(blk_cell BKaJ.out 0).trans rfl, (blk_cell BKaJ.out 1).trans rfl, (blk_cell BKaJ.out 2).trans rfl, (blk_cell BKaJ.out 3).trans rfl, (blk_cell BKaJ.out 4).trans rfl, HS5_⟩ (fun hHeld => ?_); clear hK K; refine norm_ (a' := ?_) ?_ ?_
              rotate_left
              ·show Act.put _ (some 70) _ = _
               simp only [Sx]
               rfl
              refine pure_ (i := 5) (N := some 65) (v := ?_) (a' := ?_) #[true, true, true, true, true, true, false, false, false, false] rfl rfl (any_of HT_.out Zq2) (fun _ _ _ h => h) (Or.inl ⟨Zq3, ?_⟩) ?_ ?_
              rotate_left
              ·intro w'
               go_simp
               with_reducible rfl
              rotate_left
              ·simp only [Sx]
               rfl
              refine pure_ (i := 6) (N := some 71) (v := ?_) (a' := ?_) #[true, true, true, true, true, true, true, false, false, false] rfl rfl (any_of HT_.out Zq2) (fun _ _ _ h => h) (Or.inl ⟨Zq3, ?_⟩) ?_ ?_
              rotate_left
              ·intro w'
               go_simp
               with_reducible rfl
              rotate_left
              ·simp only [Sx]
               rfl
              refine pure_ (i := 7) (N := some 72) (v := ?_) (a' := ?_) #[true, true, true, true, true, true, true, true, false, false] rfl rfl (any_of HT_.out Zq2) (fun _ _ _ h => h) (Or.inl ⟨Zq3, ?_⟩) ?_ ?_
              rotate_left
              ·intro w'
               go_simp
               with_reducible rfl
              rotate_left
              ·simp only [Sx]
               rfl
              refine pure_ (i := 8) (N := some 15) (v := ?_) (a' := ?_) #[true, true, true, true, true, true, true, true, true, false] rfl rfl (any_of HT_.out Zq2) (fun _ _ _ h => h) (Or.inl ⟨Zq3, ?_⟩) ?_ ?_
              rotate_left
              ·intro w'
               go_simp
               with_reducible rfl
              rotate_left
              ·simp only [Sx]
               rfl
              refine pure_ (i := 9) (N := some 16) (v := ?_) (a' := ?_) #[true, true, true, true, true, true, true, true, true, true] rfl rfl (any_of HT_.out Zq2) (fun _ _ _ h => h) (Or.inl ⟨Zq3, ?_⟩) ?_ ?_
              rotate_left
              ·intro w'
               go_simp
               with_reducible rfl
              rotate_left
              ·simp only [Sx]
               rfl
              refine done_ (done_of HT_.out Zq2) ?_; have hnb46 := NB243_241.out; have hnc46 := NB241_243.out; have hnb47 := NB243_242.out; have hnc47 := NB242_243.out; have hcz48_0 : w45.cell? ⟨gbaE, 0, none⟩ = some (.slice none 0 0) := (blk_cell BKaE.out 0).trans rfl; have hcz48_1 : w45.cell? ⟨gbaE, 1, none⟩ = some (.int .u32 xcC_3) := (blk_cell BKaE.out 1).trans rfl; have hfz48_0 := blk_frozen BKaE.out 0; have hfz48_1 := blk_frozen BKaE.out 1
              try go_wp2
              refine bodyPost_ret (results_ct rfl _ _ gbaE 32 #[.slice none 0 0, .int .u32 0] (0, 0) _ rfl (by (with_reducible repeat (first | refine blk_drewN ?_ _ | refine blk_drew ?_ | refine blk_alloc ?_ _)); refine blk_put (cs := #[.slice none 0 0, .int .u32 xcC_3]) ?_ 1 _ rfl; (with_reducible repeat (first | refine blk_drewN ?_ _ | refine blk_drew ?_ | refine blk_alloc ?_ _)); refine blk_put (cs := #[.slice none 0 0, .int .u32 xcC_3]) ?_ 0 _ rfl; (with_reducible repeat (first | refine blk_drewN ?_ _ | refine blk_drew ?_ | refine blk_alloc ?_ _)); exact BKaE.out) Try.underlying32 rfl Zq2) rfl ?_
              exact ⟨_, Zq13, Zq34, Zq32⟩
            ·rw [if_neg c32] at H; exact absurd H Zq10
           ·rw [if_neg c31] at H; have c31b0 : ((Go.bits .and .u32 (rd x10_3 0) x12_26) == (Go.bits .and .u32 a2 x12_26)) = false := beq_eq_false_iff_ne.mpr c31; have c31b1 : ((Go.bits .and .u32 (rd x10_3 0) x12_26) != (Go.bits .and .u32 a2 x12_26)) = true := bne_iff_ne.mpr c31
            by_cases c49 : 3 ≤ (x10_3.length : Int)
            ·rw [if_pos c49] at H; have c49b0 := eq_true c49; have c49b1 : decide (3 ≤ (x10_3.length : Int)) = true := decide_eq_true c49; clear c49
             obtain ⟨ycv, hycv⟩ : ∃ y_ : List Int, y_ = (x10_3.drop (3 : Int).toNat) := ⟨_, rfl⟩
             replace H : (irq_mapped.l0 k3 a2 ycv x12_26 a0_0 l0_1 a0_2 l0_3 l0_4) = some (r1, r2, r3) := by first | (rw [hycv]; with_reducible exact H) | (have H2_ := (Option.bind_some _ _).symm.trans H; rw [hycv]; with_reducible exact H2_) | (have H2_ := (Option.bind_some _ _).symm.trans H; with_reducible exact H2_) | with_reducible exact H | (rw [hycv]; exact H) | exact H
             have Nycv := Ak hycv; clear hycv; have H' := Ak H; clear H; obtain ⟨Ao50, co50, eo50, _⟩ := Kd.Q_slice HO_10.out; subst eo50; have p255 : 0 ≤ (0 : Int) := Zq1; have q255 : 0 < (x10_3.length : Int) := of_decide_eq_true Zq5; obtain ⟨adcD, e255, hx255_0⟩ := Kd.at_int (Kd.Q_reads' HO_10.out).2.2 0 p255 q255
             cases e255
             have qi255 : (0 < x10_3.length) = True := eq_true Zq1
             (try rw [show ((0 : Int)).toNat = 0 from rfl] at hx255_0)
             (try rw [Addr.add_zero'] at hx255_0)
             replace p255 := eq_true p255; replace q255 := eq_true q255; have q51 : (3 : Int) ≤ ((x10_3.length : Int) : Int) := of_decide_eq_true Zq5; obtain ⟨i051, hi051, _, hsz51, _⟩ := info_parts info22; have hcut51 := cut_from (P := Try.prog) 113 22 .i64 Try.underlying113 hi051 1 hsz51 (some adcD) x10_3.length co50 3 Zq1 q51; have hr51 := Kd.Q_drop (k := (3 : Int).toNat) HO_10.out Zq1
             obtain ⟨A51, hA51⟩ : ∃ A1, A1 = (if co50 = (3 : Int).toNat then (some adcD) else ((some adcD) : Option Addr).map (·.add ((3 : Int).toNat * 1))) := ⟨_, rfl⟩
             obtain ⟨c51, hc51⟩ : ∃ c1, c1 = co50 - (3 : Int).toNat := ⟨_, rfl⟩
             have hy51 : ycv.length = x10_3.length - (3 : Int).toNat := (by rw [Nycv.out, List.length_drop])
             rw [← Nycv.out] at hr51; rw [← hy51, ← hA51, ← hc51] at hcut51
             replace hr51 : Kd.Q (Kd.int .u32) 22 wr w.heap.size (fun _ => True) (.slice A51 ycv.length c51) ycv := (by rw [hA51, hc51, hy51]; exact hr51)
             have HE51 : Aside0 ((Value.slice A51 ycv.length c51).ownBlock = (.slice (some adcD) x10_3.length co50 : Value).ownBlock) := ⟨by rw [hA51]; split <;> (cases ((some adcD) : Option Addr) <;> first | rfl | (simp only [Option.map_some, Option.map_none, Value.ownBlock]; done) | (simp only [Option.map_some, Value.ownBlock]; unfold Addr.add; split <;> rfl))⟩
             clear hy51 hi051 hsz51 HO_10 hA51 hc51; have HOfu := Ak hr51; clear hr51; replace q51 := eq_true q51
             go_wp2
             go_roundg k3
             case measure => have := HJ7.out; have := HJ26.out; have := HK3.out; omega
             case rel => exact ⟨(ycv), (xcC_3), H', ⟨by have := HJ7.out; have := HJ26.out; have := HK3.out; omega⟩, ⟨by (with_reducible repeat (first | apply Kd.Q_alloc | apply Kd.Q_drewN | apply Kd.Q_drew)); exact HOfu.out⟩, ⟨Zq29⟩, ⟨Zq42⟩, ⟨Zq54⟩, ⟨Zq32⟩⟩
            ·rw [if_neg c49] at H; exact absurd H Zq10
          ·rw [if_neg c30] at H; exact absurd H Zq10
         ·rw [if_neg c29] at H; have c29b0 : decide (0 < (x10_3.length : Int)) = false := decide_eq_false c29; have c29b1 : decide (0 < x10_3.length) = false := decide_eq_false Zq1; clear c29; simp only [Option.some.injEq, Prod.mk.injEq] at H; obtain ⟨rfl, rfl, rfl⟩ := H; obtain ⟨Ao52, co52, eo52, _⟩ := Kd.Q_slice HO_10.out; subst eo52; have hnb53 := NB243_241.out; have hnc53 := NB241_243.out; have hnb54 := NB243_242.out; have hnc54 := NB242_243.out; have hcz55_0 : wr.cell? ⟨gbaE, 0, none⟩ = some (.slice none 0 0) := (blk_cell BKaE.out 0).trans rfl; have hcz55_1 : wr.cell? ⟨gbaE, 1, none⟩ = some (.int .u32 xcC_3) := (blk_cell BKaE.out 1).trans rfl; have hfz55_0 := blk_frozen BKaE.out 0; have hfz55_1 := blk_frozen BKaE.out 1
          go_wp2
          refine bodyPost_ret (results_ct rfl _ _ gbaE 32 #[.slice none 0 0, .int .u32 0] (0, 0) _ rfl (by (with_reducible repeat (first | refine blk_drewN ?_ _ | refine blk_drew ?_ | refine blk_alloc ?_ _)); refine blk_put (cs := #[.slice none 0 0, .int .u32 xcC_3]) ?_ 1 _ rfl; (with_reducible repeat (first | refine blk_drewN ?_ _ | refine blk_drew ?_ | refine blk_alloc ?_ _)); refine blk_put (cs := #[.slice none 0 0, .int .u32 xcC_3]) ?_ 0 _ rfl; (with_reducible repeat (first | refine blk_drewN ?_ _ | refine blk_drew ?_ | refine blk_alloc ?_ _)); exact BKaE.out) Try.underlying32 rfl Zq2) rfl ?_
          exact ⟨_, Zq13, Zq34, Zq32⟩
 ·replace c5 := Bool.eq_false_iff.mpr c5; subst c5
  have H1 : (some (([] : List Int), 0, 8)) = some (r1, r2, r3) := by rw [if_neg (show ¬ (false = true) by decide)] at H; exact H
  clear H; have H := H1; clear H1; simp only [Option.some.injEq, Prod.mk.injEq] at H; obtain ⟨rfl, rfl, rfl⟩ := H
  go_enter Try.func31, Try.ntmps31
  go_wp2_with (first | ((with_reducible refine gate_dst (N := 3) rfl ?_); (try (refine gate_guard Zq3 ?_; dsimp only)); refine box_event ?hg (N := 3) ?hd (cs := #[.int .u32 a0_0, .slice A0_1 l0_1.length c0_1, .string a0_2, .slice A0_3 l0_3.length c0_3, .slice A0_4 l0_4.length c0_4]) (t := 29) ?hr ?_; (case hd | hg => rfl); (case hr => first | (go_simp; done) | (go_simp; rfl)); intro gbaJ hg w56 hbox hb; have n0_ := Zq142; have n1_ := Ak (hbox); have n2_ := Zq248; have n3_ := Zq248; clear HB; have HB := n0_; have BKaJ := n1_; have GWaJ := n2_; have GEaJ := n3_; clear n0_ n1_ n2_ n3_ hb hbox hg) | ((with_reducible refine gate_dst (N := 4) rfl ?_); (try (refine gate_guard Zq3 ?_; dsimp only)); refine box_event ?hg (N := 4) ?hd (cs := #[.string a1_0, .slice A1_1 l1_1.length c1_1, .slice A1_2 l1_2.length c1_2]) (t := 27) ?hr ?_; (case hd | hg => rfl); (case hr => first | (go_simp; done) | (go_simp; rfl)); intro gbaP hg w57 hbox hb; have n0_ := Zq140; have n1_ := Ak (below_step Zq87 hb); have n2_ := Ak (hbox); have n3_ := Zq240; have n4_ := Zq240; have n5_ := Ak ((by rw [hg]; exact Nat.ne_of_lt Zq144 : gbaJ ≠ gbaP)); have n6_ := Ak ((by rw [hg]; exact Nat.ne_of_gt Zq144 : gbaP ≠ gbaJ)); clear BKaJ HB; have BKaJ := n0_; have HB := n1_; have BKaP := n2_; have GWaP := n3_; have GEaP := n4_; have NB241_242 := n5_; have NB242_241 := n6_; clear n0_ n1_ n2_ n3_ n4_ n5_ n6_ hb hbox hg) | ((with_reducible refine gate_dst (N := 6) rfl ?_); (try (refine gate_guard Zq3 ?_; dsimp only)); refine box_event ?hg (N := 6) ?hd (cs := #[.slice none 0 0, .int .u32 0]) (t := 32) ?hr ?_; (case hd | hg => rfl); (case hr => first | (go_simp; done) | (go_simp; rfl)); intro gbaE hg w58 hbox hb; have n0_ := Zq140; have n1_ := Zq147; have n2_ := Ak (below_step Zq88 hb); have n3_ := Ak (hbox); have n4_ := Zq241; have n5_ := Zq241; have n6_ := Ak ((by rw [hg]; exact Nat.ne_of_lt Zq144 : gbaJ ≠ gbaE)); have n7_ := Ak ((by rw [hg]; exact Nat.ne_of_gt Zq144 : gbaE ≠ gbaJ)); have n8_ := Ak ((by rw [hg]; exact Nat.ne_of_lt Zq192 : gbaP ≠ gbaE)); have n9_ := Ak ((by rw [hg]; exact Nat.ne_of_gt Zq192 : gbaE ≠ gbaP)); clear BKaJ BKaP HB; have BKaJ := n0_; have BKaP := n1_; have HB := n2_; have BKaE := n3_; have GWaE := n4_; have GEaE := n5_; have NB241_243 := n6_; have NB243_241 := n7_; have NB242_243 := n8_; have NB243_242 := n9_; clear n0_ n1_ n2_ n3_ n4_ n5_ n6_ n7_ n8_ n9_ hb hbox hg; have hnb59 := NB242_241.out; have hnc59 := NB241_242.out; have hnb60 := NB242_243.out; have hnc60 := NB243_242.out; have hcz61_0 : w58.cell? ⟨gbaP, 0, none⟩ = some (.string a1_0) := (blk_cell BKaP.out 0).trans rfl; have hcz61_1 : w58.cell? ⟨gbaP, 1, none⟩ = some (.slice A1_1 l1_1.length c1_1) := (blk_cell BKaP.out 1).trans rfl; have hcz61_2 : w58.cell? ⟨gbaP, 2, none⟩ = some (.slice A1_2 l1_2.length c1_2) := (blk_cell BKaP.out 2).trans rfl; have hfz61_0 := blk_frozen BKaP.out 0; have hfz61_1 := blk_frozen BKaP.out 1; have hfz61_2 := blk_frozen BKaP.out 2) | ((with_reducible refine gate_callee (f := 59) rfl ?_); refine goesL_ (some 19) rfl rfl Try.func59 Zq2 rfl #[.agg #[.string a1_0, .slice A1_1 l1_1.length c1_1, .slice A1_2 l1_2.length c1_2], .string (⟨#[105, 110, 116, 101, 114, 114, 117, 112, 116, 45, 109, 97, 112]⟩ : ByteArray)] rfl Zq8 ?_; (with_reducible refine (tree_Find.calls k a1_0 _ _ l1_1 _ _ l1_2 (⟨#[105, 110, 116, 101, 114, 114, 117, 112, 116, 45, 109, 97, 112]⟩ : ByteArray) tcP false _ ?side1 ?side2 ?side3 ?side4 A4.out).mono ?_); (case side1 => repeat (first | exact (Kd.C_below HR1_1.out HB.out) | (with_reducible refine Kd.C_alloc ?_ _) | (with_reducible refine Kd.C_drewN ?_ _) | (with_reducible refine Kd.C_drew ?_))); (case side2 => exact HC1_1.out); (case side3 => repeat (first | exact (Kd.C_below HR1_2.out HB.out) | (with_reducible refine Kd.C_alloc ?_ _) | (with_reducible refine Kd.C_drewN ?_ _) | (with_reducible refine Kd.C_drew ?_))); (case side4 => exact HC1_2.out); rintro e w62 ⟨v245, rfl, ho0, hb⟩; refine ⟨_, rfl, ?_⟩; have n0_ := Zq262; have n1_ := Zq140; have n2_ := Zq147; have n3_ := Zq219; have n4_ := Zq272; clear BKaJ BKaP BKaE HB; have HOdp := n0_; have BKaJ := n1_; have BKaP := n2_; have BKaE := n3_; have HB := n4_; clear n0_ n1_ n2_ n3_ n4_; (try clear hb); (try clear hb2); (try clear hk); (try clear hi); (try clear ho0); have hnb63 := NB243_241.out; have hnc63 := NB241_243.out; have hcz64_0 : w62.cell? ⟨gbaE, 0, none⟩ = some (.slice none 0 0) := (blk_cell BKaE.out 0).trans rfl; have hcz64_1 : w62.cell? ⟨gbaE, 1, none⟩ = some (.int .u32 0) := (blk_cell BKaE.out 1).trans rfl; have hfz64_0 := blk_frozen BKaE.out 0; have hfz64_1 := blk_frozen BKaE.out 1))
  refine bodyPost_ret (results_ct rfl _ _ gbaE 32 #[.slice none 0 0, .int .u32 0] (0, 0) _ rfl (by (with_reducible repeat (first | refine blk_drewN ?_ _ | refine blk_drew ?_ | refine blk_alloc ?_ _)); refine blk_put (cs := #[.slice none 0 0, .int .u32 0]) ?_ 1 _ rfl; (with_reducible repeat (first | refine blk_drewN ?_ _ | refine blk_drew ?_ | refine blk_alloc ?_ _)); refine blk_put (cs := #[.slice none 0 0, .int .u32 0]) ?_ 0 _ rfl; (with_reducible repeat (first | refine blk_drewN ?_ _ | refine blk_drew ?_ | refine blk_alloc ?_ _)); exact BKaE.out) Try.underlying32 rfl Zq2) rfl ?_
  exact ⟨_, Zq13, Zq34, Zq32⟩
def irq_Through.l0 : Nat → Int → Int → List (S82) → ByteArray → List (S63) → List (S27) → List Int → Int → Option (List Int × Int × Int)
 | 0, _, _, _, _, _, _, _, _ => none
 | k + 1, x8, xeL, xeM, xeN, xeO, xeP, xaC, xbn => if x8 < 16 then ((path_Get.f k xeL xeM xeN xeO xeP xaC).bind fun btbd => (if btbd.2.2.2 = 0 then ((irq_Controller.f k btbd.1 btbd.2.1 btbd.2.2.1).bind fun tdV => (if tdV = true then ((slices_Clone_int_int.f xaC).bind fun tcK => (some (tcK, xbn, 0))) else ((irq_mapped.f k xeL xeM xeN xeO xeP btbd.1 btbd.2.1 btbd.2.2.1 xbn).bind fun btbS => (if btbS.2.2 = 0 then (irq_Through.l0 k (wrap64 (x8 + 1)) xeL xeM xeN xeO xeP btbS.1 btbS.2.1) else (some (([] : List Int), 0, btbS.2.2)))))) else (some (([] : List Int), 0, btbd.2.2.2)))) else (some (([] : List Int), 0, 14))
def irq_Through.f (k : Nat) (a0_0 : Int) (l0_1 : List (S82)) (a0_2 : ByteArray) (l0_3 : List (S63)) (l0_4 : List (S27)) (l1_0 : List Int) (a1_1 : Int) : Option (List Int × Int × Int) := irq_Through.l0 k 0 a0_0 l0_1 a0_2 l0_3 l0_4 l1_0 a1_1
def irq_Through.T7 : Bool × List (List Nat × List Nat) := (true, [([], []), ([0], [0]), ([1], [1]), ([], []), ([3], [3]), ([2, 4], [2, 4]), ([5, 2, 0, 1, 2, 3, 4, 5], [5]), ([6, 0, 1, 2, 3, 4, 5, 6], [])])
def irq_Through.B7 : List Nat := [0, 1, 3, 0, 8, 31, 63, 127]
theorem irq_Through.tab7 : rtab .any (opsOf Try.f11 7) = irq_Through.T7 := by kernel_rfl
theorem irq_Through.bits7 : waitsOk irq_Through.T7.2 irq_Through.B7 = true := by kernel_rfl
end Go.Proofs.Ytkopmkinlanhoaa.PB

namespace Go.Proofs.Ytkopmkinlanhoaa.PB
open Go.RowKit Go.Proofs.YtkopmkinlanhoaaW.PrintWords Go.Proofs.YtkopmkinlanhoaaW.PrintLast Go.Proofs.YtkopmkinlanhoaaW.PrintMore
attribute [local go_sem] max2_int min2_int max_two min_two max_three min_three max_four min_four
set_option maxHeartbeats 8000000 in
set_option maxRecDepth 100000 in
theorem irq_Through.calls (k : Nat) (a0_0 : Int) (A0_1 : Option Addr) (c0_1 : Nat) (l0_1 : List (S82)) (a0_2 : ByteArray) (A0_3 : Option Addr) (c0_3 : Nat) (l0_3 : List (S63)) (A0_4 : Option Addr) (c0_4 : Nat) (l0_4 : List (S27)) (P1_0_ : Nat → Prop) (A1_0 : Option Addr) (c1_0 : Nat) (l1_0 : List Int) (a1_1 : Int) (r1 : List Int) (r2 : Int) (r3 : Int) (w : World) (hr0_1 : Kd.C k82 w A0_1 l0_1.length l0_1) (hc0_1 : l0_1.length ≤ c0_1) (hr0_3 : Kd.C k63 w A0_3 l0_3.length l0_3) (hc0_3 : l0_3.length ≤ c0_3) (hr0_4 : Kd.C k27 w A0_4 l0_4.length l0_4) (hc0_4 : l0_4.length ≤ c0_4) (hs1_0 : Kd.V (Kd.int .i64) 3 w w.heap.size (fun k_ => P1_0_ k_) (.slice A1_0 l1_0.length c1_0) l1_0) (h : irq_Through.f k a0_0 l0_1 a0_2 l0_3 l0_4 l1_0 a1_1 = some (r1, r2, r3)) :
  Calls Try.prog 11 #[.agg #[.int .u32 a0_0, .slice A0_1 l0_1.length c0_1, .string a0_2, .slice A0_3 l0_3.length c0_3, .slice A0_4 l0_4.length c0_4], .agg #[.slice A1_0 l1_0.length c1_0, .int .u32 a1_1]] w fun e w' => ∃ v0_ : Value, e = .returned (.tuple #[.agg #[v0_, .int .u32 r2], .int .i64 r3]) ∧ Kd.R (Kd.int .i64) 3 w' w.heap.size (fun k_ => (w.heap.size ≤ k_)) v0_ r1 ∧ Below w.heap.size w w' := by
 have hu29 := Try.underlying29; have hu32 := Try.underlying32; have hu27 := Try.underlying27; have HR0_1 := Ak hr0_1; have HC0_1 := Ak hc0_1; clear hr0_1 hc0_1; have HR0_3 := Ak hr0_3; have HC0_3 := Ak hc0_3; clear hr0_3 hc0_3; have HR0_4 := Ak hr0_4; have HC0_4 := Ak hc0_4; clear hr0_4 hc0_4; have HO1_0 := Ak (show Kd.V (Kd.int .i64) 3 w w.heap.size (fun k_ => (P1_0_ k_ ∨ w.heap.size ≤ k_)) (.slice A1_0 l1_0.length c1_0) l1_0 from Kd.V_mono hs1_0 (fun k_ hk => .inl hk)); have HB := Zq151; have H : (irq_Through.l0 k 0 a0_0 l0_1 a0_2 l0_3 l0_4 l1_0 a1_1) = some (r1, r2, r3) := h; clear h; have H' := Ak H; clear H
 go_enter Try.func11, Try.ntmps11
 go_wp2_with (first | ((with_reducible refine gate_dst (N := 2) rfl ?_); refine box_event ?hg (N := 2) ?hd (cs := #[.int .u32 a0_0, .slice A0_1 l0_1.length c0_1, .string a0_2, .slice A0_3 l0_3.length c0_3, .slice A0_4 l0_4.length c0_4]) (t := 29) ?hr ?_; (case hd | hg => rfl); (case hr => first | (go_simp; done) | (go_simp; rfl)); intro gbak hg w3 hbox hb; have n0_ := Ak (Kd.V_below (Kd.V_elderB (by (with_reducible repeat (first | apply Kd.V_alloc | apply Kd.V_drewN | apply Kd.V_drew)); exact HO1_0.out) gbak (Nat.le_of_eq hg.symm)) hb); have n1_ := Zq142; have n2_ := Ak (hbox); have n3_ := Ak ((by rw [hg]; exact (below_size Zq6) : w.heap.size ≤ gbak)); have n4_ := Ak ((by rw [hg]; exact (below_size Zq6) : w.heap.size ≤ gbak)); clear HO1_0 HB; have HO1_0 := n0_; have HB := n1_; have BKak := n2_; have GWak := n3_; have GEak := n4_; clear n0_ n1_ n2_ n3_ n4_ hb hbox hg) | ((with_reducible refine gate_dst (N := 3) rfl ?_); refine box_event ?hg (N := 3) ?hd (cs := #[.slice A1_0 l1_0.length c1_0, .int .u32 a1_1]) (t := 32) ?hr ?_; (case hd | hg => rfl); (case hr => first | (go_simp; done) | (go_simp; rfl)); intro gbao hg w4 hbox hb; have n0_ := Ak (Kd.V_below (Kd.V_elderB (by (with_reducible repeat (first | apply Kd.V_alloc | apply Kd.V_drewN | apply Kd.V_drew)); exact HO1_0.out) gbao (Nat.le_of_eq hg.symm)) hb); have n1_ := Zq136; have n2_ := Ak (below_step (by repeat (first | (with_reducible first | exact HB.out | apply below_alloc | apply pw_below_drewN | apply below_drew1 | refine below_set ?_ GEak.out) | exact HB.out)) hb); have n3_ := Ak (hbox); have n4_ := Ak ((by rw [hg]; exact (below_size (by repeat (first | (with_reducible first | exact HB.out | apply below_alloc | apply pw_below_drewN | apply below_drew1 | refine below_set ?_ GEak.out) | exact HB.out))) : w.heap.size ≤ gbao)); have n5_ := Ak ((by rw [hg]; exact (below_size (by repeat (first | (with_reducible first | exact HB.out | apply below_alloc | apply pw_below_drewN | apply below_drew1 | refine below_set ?_ GEak.out) | exact HB.out))) : w.heap.size ≤ gbao)); have n6_ := Ak ((by rw [hg]; exact Nat.ne_of_lt Zq137 : gbak ≠ gbao)); have n7_ := Ak ((by rw [hg]; exact Nat.ne_of_gt Zq137 : gbao ≠ gbak)); clear HO1_0 BKak HB; have HO1_0 := n0_; have BKak := n1_; have HB := n2_; have BKao := n3_; have GWao := n4_; have GEao := n5_; have NB265_266 := n6_; have NB266_265 := n7_; clear n0_ n1_ n2_ n3_ n4_ n5_ n6_ n7_ hb hbox hg) | ((with_reducible refine gate_dst (N := 4) rfl ?_); refine box_event ?hg (N := 4) ?hd (cs := #[.slice none 0 0, .int .u32 0]) (t := 32) ?hr ?_; (case hd | hg => rfl); (case hr => first | (go_simp; done) | (go_simp; rfl)); intro gbaA hg w5 hbox hb; have n0_ := Ak (Kd.V_below (Kd.V_elderB (by (with_reducible repeat (first | apply Kd.V_alloc | apply Kd.V_drewN | apply Kd.V_drew)); exact HO1_0.out) gbaA (Nat.le_of_eq hg.symm)) hb); have n1_ := Zq136; have n2_ := Ak (blk_below (g := gbao) (o := .cells #[.slice A1_0 l1_0.length c1_0, .int .u32 a1_1] 32 (0, 0)) Zq33 hb); have n3_ := Ak (below_step Zq124 hb); have n4_ := Ak (hbox); have n5_ := Ak ((by rw [hg]; exact (below_size Zq124) : w.heap.size ≤ gbaA)); have n6_ := Ak ((by rw [hg]; exact (below_size Zq124) : w.heap.size ≤ gbaA)); have n7_ := Ak ((by rw [hg]; exact Nat.ne_of_lt Zq137 : gbak ≠ gbaA)); have n8_ := Ak ((by rw [hg]; exact Nat.ne_of_gt Zq137 : gbaA ≠ gbak)); have n9_ := Ak ((by rw [hg]; exact Nat.ne_of_lt (blk_lt (g := gbao) (o := .cells #[.slice A1_0 l1_0.length c1_0, .int .u32 a1_1] 32 (0, 0)) Zq33) : gbao ≠ gbaA)); have n10_ := Ak ((by rw [hg]; exact Nat.ne_of_gt (blk_lt (g := gbao) (o := .cells #[.slice A1_0 l1_0.length c1_0, .int .u32 a1_1] 32 (0, 0)) Zq33) : gbaA ≠ gbao)); clear HO1_0 BKak BKao HB; have HO1_0 := n0_; have BKak := n1_; have BKao := n2_; have HB := n3_; have BKaA := n4_; have GWaA := n5_; have GEaA := n6_; have NB265_267 := n7_; have NB267_265 := n8_; have NB266_267 := n9_; have NB267_266 := n10_; clear n0_ n1_ n2_ n3_ n4_ n5_ n6_ n7_ n8_ n9_ n10_ hb hbox hg))
 go_loopg [8] k (fun kq v8 w' => ∃ (x8_1 : Int) (xaC_1 : List Int) (xbn_1 : Int) (xch_1 : Int) (u267000 : Value), v8 = .int .i64 x8_1 ∧ Aside0 (irq_Through.l0 kq x8_1 a0_0 l0_1 a0_2 l0_3 l0_4 xaC_1 xbn_1 = some (r1, r2, r3)) ∧ Aside0 (kq ≤ k) ∧ Aside0 (Kd.V (Kd.int .i64) 3 w' w.heap.size (fun k_ => (P1_0_ k_ ∨ w.heap.size ≤ k_) ∧ k_ ≠ gbak ∧ k_ ≠ gbao ∧ k_ ≠ gbaA) u267000 xaC_1) ∧ Aside0 (w'.heap[gbak]? = some (.cells #[.int .u32 a0_0, (.slice A0_1 l0_1.length c0_1), .string a0_2, (.slice A0_3 l0_3.length c0_3), (.slice A0_4 l0_4.length c0_4)] 29 (0, 0))) ∧ Aside0 (w'.heap[gbao]? = some (.cells #[u267000, .int .u32 xbn_1] 32 (0, 0))) ∧ Aside0 (w'.heap[gbaA]? = some (.cells #[(.slice none 0 0), .int .u32 xch_1] 32 (0, 0))) ∧ Aside0 (Below w.heap.size w w'))
 case atStart => exact ⟨(0), (l1_0), (a1_1), (0), (.slice A1_0 l1_0.length c1_0), Zq7, H', ⟨Nat.le_refl _⟩, ⟨by (with_reducible repeat (first | apply Kd.V_alloc | apply Kd.V_drewN | apply Kd.V_drew)); exact Kd.V_mono HO1_0.out (fun _ hk => ⟨hk.1.1.1, ⟨hk.1.1.2, ⟨hk.1.2, hk.2⟩⟩⟩)⟩, ⟨Zq26⟩, ⟨Zq33⟩, ⟨Zq35⟩, ⟨Zq17⟩⟩
 case round =>
  clear H'
  try clear c1
  try clear p2
  obtain ⟨x8_1, xaC_1, xbn_1, xch_1, u267000, rfl, HA, HK1, HO_aC, BKak, BKao, BKaA, HB⟩ := hrel
  cases gk with
  | zero => exact absurd HA.out (by simp [irq_Through.l0])
  | succ k1 =>
   have H := HA.out; clear HA; simp only [irq_Through.l0] at H
   by_cases c6 : x8_1 < 16
   ·rw [if_pos c6] at H; have c6b0 : decide (x8_1 < 16) = true := decide_eq_true c6; clear c6; replace H := Option.bind_eq_some_iff.mp H; obtain ⟨⟨tbd, tbi, tbs, tcX⟩, A70, H⟩ := H; replace H : (if tcX = 0 then ((irq_Controller.f k1 tbd tbi tbs).bind fun tdV => (if tdV = true then ((slices_Clone_int_int.f xaC_1).bind fun tcK => (some (tcK, xbn_1, 0))) else ((irq_mapped.f k1 a0_0 l0_1 a0_2 l0_3 l0_4 tbd tbi tbs xbn_1).bind fun btbS => (if btbS.2.2 = 0 then (irq_Through.l0 k1 (wrap64 (x8_1 + 1)) a0_0 l0_1 a0_2 l0_3 l0_4 btbS.1 btbS.2.1) else (some (([] : List Int), 0, btbS.2.2)))))) else (some (([] : List Int), 0, tcX))) = some (r1, r2, r3) := H; have A7 := Ak A70; clear A70
    by_cases c8 : tcX = 0
    ·rw [if_pos c8] at H; have c8b0 : (tcX == 0) = true := beq_iff_eq.mpr c8; have c8b1 : (tcX != 0) = false := bne_eq_false_iff_eq.mpr c8; clear c8; replace H := Option.bind_eq_some_iff.mp H; obtain ⟨tdV, A90, H⟩ := H; replace H : (if tdV = true then ((slices_Clone_int_int.f xaC_1).bind fun tcK => (some (tcK, xbn_1, 0))) else ((irq_mapped.f k1 a0_0 l0_1 a0_2 l0_3 l0_4 tbd tbi tbs xbn_1).bind fun btbS => (if btbS.2.2 = 0 then (irq_Through.l0 k1 (wrap64 (x8_1 + 1)) a0_0 l0_1 a0_2 l0_3 l0_4 btbS.1 btbS.2.1) else (some (([] : List Int), 0, btbS.2.2))))) = some (r1, r2, r3) := H; have A9 := Ak A90; clear A90
     by_cases c10 : tdV = true
     ·subst c10
      have H1 : ((slices_Clone_int_int.f xaC_1).bind fun tcK => (some (tcK, xbn_1, 0))) = some (r1, r2, r3) := by rw [if_pos rfl] at H; exact H
      clear H; have H := H1; clear H1; replace H := Option.bind_eq_some_iff.mp H; obtain ⟨tcK, AaO, H⟩ := H; replace H : (some (tcK, xbn_1, 0)) = some (r1, r2, r3) := H; have A11 := Ak AaO; clear AaO; simp only [Option.some.injEq, Prod.mk.injEq] at H; obtain ⟨rfl, rfl, rfl⟩ := H; have hnb12 := NB265_266.out; have hnc12 := NB266_265.out; have hnb13 := NB265_267.out; have hnc13 := NB267_265.out; have hcz14_0 : wr.cell? ⟨gbak, 0, none⟩ = some (.int .u32 a0_0) := (blk_cell BKak.out 0).trans rfl; have hcz14_1 : wr.cell? ⟨gbak, 1, none⟩ = some (.slice A0_1 l0_1.length c0_1) := (blk_cell BKak.out 1).trans rfl; have hcz14_2 : wr.cell? ⟨gbak, 2, none⟩ = some (.string a0_2) := (blk_cell BKak.out 2).trans rfl; have hcz14_3 : wr.cell? ⟨gbak, 3, none⟩ = some (.slice A0_3 l0_3.length c0_3) := (blk_cell BKak.out 3).trans rfl; have hcz14_4 : wr.cell? ⟨gbak, 4, none⟩ = some (.slice A0_4 l0_4.length c0_4) := (blk_cell BKak.out 4).trans rfl; have hfz14_0 := blk_frozen BKak.out 0; have hfz14_1 := blk_frozen BKak.out 1; have hfz14_2 := blk_frozen BKak.out 2; have hfz14_3 := blk_frozen BKak.out 3; have hfz14_4 := blk_frozen BKak.out 4; have hnb15 := NB266_267.out; have hnc15 := NB267_266.out; have hcz16_0 : wr.cell? ⟨gbao, 0, none⟩ = some (u267000) := (blk_cell BKao.out 0).trans rfl; have hcz16_1 : wr.cell? ⟨gbao, 1, none⟩ = some (.int .u32 xbn_1) := (blk_cell BKao.out 1).trans rfl; have hfz16_0 := blk_frozen BKao.out 0; have hfz16_1 := blk_frozen BKao.out 1; obtain ⟨Ao17, co17, eo17⟩ := Kd.V_slice HO_aC.out; subst eo17
      try go_wp2_with (first | ((with_reducible refine gate_callee (f := 28) rfl ?_); refine goesL_ (some 14) rfl rfl Try.func28 Zq2 rfl #[.agg #[.int .u32 a0_0, .slice A0_1 l0_1.length c0_1, .string a0_2, .slice A0_3 l0_3.length c0_3, .slice A0_4 l0_4.length c0_4], .slice Ao17 xaC_1.length co17] rfl Zq8 ?_; (with_reducible refine (path_Get.calls k1 a0_0 _ _ l0_1 a0_2 (fun k_ => k_ < w.heap.size) _ _ l0_3 (fun k_ => k_ < w.heap.size) _ _ l0_4 _ _ xaC_1 tbd tbi tbs tcX _ ?side1 ?side2 ?side3 ?side4 ?side5 ?side6 A7.out).mono ?_); (case side1 => repeat (first | exact Zq138 | (with_reducible refine Kd.C_alloc ?_ _) | (with_reducible refine Kd.C_drewN ?_ _) | (with_reducible refine Kd.C_drew ?_))); (case side2 => exact HC0_1.out); (case side3 => exact Kd.V_mk HC0_3.out (Kd.F_below (Kd.C_F k63_heap HR0_3.out) Zq17)); (case side4 => exact Kd.V_mk HC0_4.out (Kd.F_below (Kd.C_F k27_heap HR0_4.out) Zq17)); (case side5 => repeat (first | exact (Kd.V_reads' HO_aC.out).2.2 | (with_reducible refine Kd.C_alloc ?_ _) | (with_reducible refine Kd.C_drewN ?_ _) | (with_reducible refine Kd.C_drew ?_))); (case side6 => exact (Kd.V_reads' HO_aC.out).2.1); rintro e w18 ⟨v270, v273, rfl, ho0, ho1, hb⟩; refine ⟨_, rfl, ?_⟩; have n0_ := Zq204; have n1_ := Zq174; have n2_ := Zq162; have n3_ := Zq136; have n4_ := Zq227; have n5_ := Zq145; have n6_ := Zq249; clear HO_aC BKak BKao BKaA HB; have HO_aC := n0_; have HObp := n1_; have HObq := n2_; have BKak := n3_; have BKao := n4_; have BKaA := n5_; have HB := n6_; clear n0_ n1_ n2_ n3_ n4_ n5_ n6_; (try clear hb); (try clear hb2); (try clear hk); (try clear hi); (try clear ho0); (try clear ho1)) | ((with_reducible refine gate_dst (N := 6) rfl ?_); refine box_event ?hg (N := 6) ?hd (cs := #[.string (⟨#[]⟩ : ByteArray), .slice none 0 0, .slice none 0 0]) (t := 27) ?hr ?_; (case hd | hg => rfl); (case hr => first | (go_simp; done) | (go_simp; rfl)); intro gbai hg w19 hbox hb; have n0_ := Zq232; have n1_ := Zq257; have n2_ := Zq233; have n3_ := Zq136; have n4_ := Zq227; have n5_ := Zq145; have n6_ := Zq249; have n7_ := Ak (hbox); have n8_ := Zq180; have n9_ := Zq180; have n10_ := Zq300; have n11_ := Zq301; have n12_ := Ak ((by rw [hg]; exact Nat.ne_of_lt (blk_lt (g := gbao) (o := .cells #[.slice Ao17 xaC_1.length co17, .int .u32 xbn_1] 32 (0, 0)) Zq33) : gbao ≠ gbai)); have n13_ := Ak ((by rw [hg]; exact Nat.ne_of_gt (blk_lt (g := gbao) (o := .cells #[.slice Ao17 xaC_1.length co17, .int .u32 xbn_1] 32 (0, 0)) Zq33) : gbai ≠ gbao)); have n14_ := Zq302; have n15_ := Zq303; clear HO_aC HObp HObq BKak BKao BKaA HB; have HO_aC := n0_; have HObp := n1_; have HObq := n2_; have BKak := n3_; have BKao := n4_; have BKaA := n5_; have HB := n6_; have BKai := n7_; have GWai := n8_; have GEai := n9_; have NB265_276 := n10_; have NB276_265 := n11_; have NB266_276 := n12_; have NB276_266 := n13_; have NB267_276 := n14_; have NB276_267 := n15_; clear n0_ n1_ n2_ n3_ n4_ n5_ n6_ n7_ n8_ n9_ n10_ n11_ n12_ n13_ n14_ n15_ hb hbox hg; have hnb20 := NB276_265.out; have hnc20 := NB265_276.out; have hnb21 := NB276_266.out; have hnc21 := NB266_276.out; have hnb22 := NB276_267.out; have hnc22 := NB267_276.out; have hcz23_0 : w19.cell? ⟨gbai, 0, none⟩ = some (.string (⟨#[]⟩ : ByteArray)) := (blk_cell BKai.out 0).trans rfl; have hcz23_1 : w19.cell? ⟨gbai, 1, none⟩ = some (.slice none 0 0) := (blk_cell BKai.out 1).trans rfl; have hcz23_2 : w19.cell? ⟨gbai, 2, none⟩ = some (.slice none 0 0) := (blk_cell BKai.out 2).trans rfl; have hfz23_0 := blk_frozen BKai.out 0; have hfz23_1 := blk_frozen BKai.out 1; have hfz23_2 := blk_frozen BKai.out 2; obtain ⟨Ao24, co24, eo24⟩ := Kd.S_slice HObp.out; subst eo24; obtain ⟨Ao25, co25, eo25⟩ := Kd.R_slice HObq.out; subst eo25) | ((with_reducible refine gate_callee (f := 29) rfl ?_); refine goesL_ (some 22) rfl rfl Try.func29 Zq2 rfl #[.agg #[.string tbd, .slice Ao24 tbi.length co24, .slice Ao25 tbs.length co25]] rfl Zq8 ?_; (with_reducible refine (irq_Controller.calls k1 tbd _ _ tbi _ _ tbs true _ ?side1 ?side2 ?side3 ?side4 A9.out).mono ?_); (case side1 => refine (Kd.S_reads' (e := 63) (base := w.heap.size) (ok := fun k_ => ((w.heap.size ≤ k_) ∧ True)) (n := tbi.length) (c := co24) ?_).2.2; exact (by (with_reducible repeat (first | apply Kd.S_alloc | apply Kd.S_drewN | apply Kd.S_drew)); exact (Kd.S_mono (Kd.S_far (p := ⟨gbai, 2, none⟩) (Kd.S_far (p := ⟨gbai, 1, none⟩) (Kd.S_far (p := ⟨gbai, 0, none⟩) (Kd.S_types HObp.out BKai.out Zq4) (fun _ hk => hk.2) (.string tbd)) (fun _ hk => hk.2) (.slice Ao24 tbi.length co24)) (fun _ hk => hk.2) (.slice Ao25 tbs.length co25)) (fun _ h_ => h_.1)))); (case side2 => exact (Kd.S_reads' HObp.out).2.1); (case side3 => refine (Kd.R_reads' (e := 27) (base := w.heap.size) (ok := fun k_ => (((w.heap.size ≤ k_) ∧ some k_ ≠ (.slice Ao24 tbi.length co24 : Value).ownBlock) ∧ k_ ≠ gbai)) (n := tbs.length) (c := co25) ?_).2.2; exact (by (with_reducible repeat (first | apply Kd.R_alloc | apply Kd.R_drewN | apply Kd.R_drew)); exact (Kd.R_mono (Kd.R_far (p := ⟨gbai, 2, none⟩) (Kd.R_far (p := ⟨gbai, 1, none⟩) (Kd.R_far (p := ⟨gbai, 0, none⟩) (Kd.R_mono HObq.out (fun k_ hk => (⟨hk, hk.2⟩ : _ ∧ k_ ≠ gbai))) (fun _ hk => hk.2) (.string tbd)) (fun _ hk => hk.2) (.slice Ao24 tbi.length co24)) (fun _ hk => hk.2) (.slice Ao25 tbs.length co25)) (fun _ h_ => h_.1)))); (case side4 => exact (Kd.R_reads' HObq.out).2.1); rintro e w26 ⟨rfl, hb⟩; refine ⟨_, rfl, ?_⟩; have n0_ := Ak (Kd.V_below (by (with_reducible repeat (first | apply Kd.V_alloc | apply Kd.V_drewN | apply Kd.V_drew)); exact (Kd.V_mono (Kd.V_far (p := ⟨gbai, 2, none⟩) (Kd.V_far (p := ⟨gbai, 1, none⟩) (Kd.V_far (p := ⟨gbai, 0, none⟩) (Kd.V_mono HO_aC.out (fun k_ hk => (⟨hk, hk.2⟩ : _ ∧ k_ ≠ gbai))) (fun _ hk => hk.2) (.string tbd)) (fun _ hk => hk.2) (.slice Ao24 tbi.length co24)) (fun _ hk => hk.2) (.slice Ao25 tbs.length co25)) (fun _ h_ => h_.1))) hb); have n1_ := Ak (Kd.S_below (by (with_reducible repeat (first | apply Kd.S_alloc | apply Kd.S_drewN | apply Kd.S_drew)); exact (Kd.S_mono (Kd.S_far (p := ⟨gbai, 2, none⟩) (Kd.S_far (p := ⟨gbai, 1, none⟩) (Kd.S_far (p := ⟨gbai, 0, none⟩) (Kd.S_types HObp.out BKai.out Zq4) (fun _ hk => hk.2) (.string tbd)) (fun _ hk => hk.2) (.slice Ao24 tbi.length co24)) (fun _ hk => hk.2) (.slice Ao25 tbs.length co25)) (fun _ h_ => h_.1))) hb); have n2_ := Ak (Kd.R_below (by (with_reducible repeat (first | apply Kd.R_alloc | apply Kd.R_drewN | apply Kd.R_drew)); exact (Kd.R_mono (Kd.R_far (p := ⟨gbai, 2, none⟩) (Kd.R_far (p := ⟨gbai, 1, none⟩) (Kd.R_far (p := ⟨gbai, 0, none⟩) (Kd.R_mono HObq.out (fun k_ hk => (⟨hk, hk.2⟩ : _ ∧ k_ ≠ gbai))) (fun _ hk => hk.2) (.string tbd)) (fun _ hk => hk.2) (.slice Ao24 tbi.length co24)) (fun _ hk => hk.2) (.slice Ao25 tbs.length co25)) (fun _ h_ => h_.1))) hb); have n3_ := Zq194; have n4_ := Ak (blk_below (g := gbao) (o := .cells #[.slice Ao17 xaC_1.length co17, .int .u32 xbn_1] 32 (0, 0)) Zq126 hb); have n5_ := Zq235; have n6_ := Ak (blk_below (g := gbai) (o := .cells #[.string tbd, .slice Ao24 tbi.length co24, .slice Ao25 tbs.length co25] 27 (0, 0)) (by (with_reducible repeat (first | refine blk_drewN ?_ _ | refine blk_drew ?_ | refine blk_alloc ?_ _)); refine blk_put (cs := #[.string tbd, .slice Ao24 tbi.length co24, .slice none 0 0]) ?_ 2 _ rfl; (with_reducible repeat (first | refine blk_drewN ?_ _ | refine blk_drew ?_ | refine blk_alloc ?_ _)); refine blk_put (cs := #[.string tbd, .slice none 0 0, .slice none 0 0]) ?_ 1 _ rfl; (with_reducible repeat (first | refine blk_drewN ?_ _ | refine blk_drew ?_ | refine blk_alloc ?_ _)); refine blk_put (cs := #[.string (⟨#[]⟩ : ByteArray), .slice none 0 0, .slice none 0 0]) ?_ 0 _ rfl; (with_reducible repeat (first | refine blk_drewN ?_ _ | refine blk_drew ?_ | refine blk_alloc ?_ _)); exact BKai.out) hb); have n7_ := Zq273; clear HO_aC HObp HObq BKak BKao BKaA BKai HB; have HO_aC := n0_; have HObp := n1_; have HObq := n2_; have BKak := n3_; have BKao := n4_; have BKaA := n5_; have BKai := n6_; have HB := n7_; clear n0_ n1_ n2_ n3_ n4_ n5_ n6_ n7_; (try clear hb); (try clear hb2); (try clear hk); (try clear hi)))
      have n0_ := Ak (Kd.V_drew HO_aC.out); have n1_ := Ak (Kd.S_drew HObp.out); have n2_ := Ak (Kd.R_drew HObq.out); have n3_ := Ak (blk_drew BKak.out); have n4_ := Ak (blk_drew BKao.out); have n5_ := Ak (blk_drew BKaA.out); have n6_ := Ak (blk_drew BKai.out); have n7_ := Zq208; clear HO_aC HObp HObq BKak BKao BKaA BKai HB; have HO_aC := n0_; have HObp := n1_; have HObq := n2_; have BKak := n3_; have BKao := n4_; have BKaA := n5_; have BKai := n6_; have HB := n7_; clear n0_ n1_ n2_ n3_ n4_ n5_ n6_ n7_; refine start_ (n := 8) (S := fun w' => w'.cell? ⟨gbao, 0, none⟩ = some (.slice Ao17 xaC_1.length co17) ∧ w'.cell? ⟨gbao, 1, none⟩ = some (.int .u32 xbn_1)) (ds := []) #[false, false, false, false, false, false, false, false] Zq2 rfl rfl ⟨(blk_cell BKao.out 0).trans rfl, (blk_cell BKao.out 1).trans rfl⟩ (fun hHeld => ?_); refine with_tabW irq_Through.tab7 irq_Through.bits7 (fun HT_ HW_ => ?_); generalize w26.drew = w27 at HO_aC HObp HObq BKak BKao BKaA BKai HB hHeld ⊢; refine pure_ (i := 0) (N := some 23) (v := ?_) (a' := ?_) #[true, false, false, false, false, false, false, false] rfl rfl (any_of HT_.out Zq2) (fun _ _ _ h => h) (Or.inl ⟨Zq3, ?_⟩) ?_ ?_
      rotate_left
      ·intro w'
       go_simp
       with_reducible rfl
      rotate_left
      ·simp only [Sx]
       rfl
      refine pure_ (i := 3) (N := some 26) (v := ?_) (a' := ?_) #[true, false, false, true, false, false, false, false] rfl rfl (any_of HT_.out Zq2) (fun _ _ _ h => h) (Or.inl ⟨Zq3, ?_⟩) ?_ ?_
      rotate_left
      ·intro w'
       go_simp
       with_reducible rfl
      rotate_left
      ·simp only [Sx]
       rfl
      refine take_ (i := 1) (N := some 24) (v := ?_) (a' := ?_) #[true, true, false, true, false, false, false, false] rfl rfl (take_ofW HT_.out HW_.out Zq2) (fun _ _ _ h => h) (Or.inl ⟨Zq3, ?_⟩) hHeld ?_ ?_
      rotate_left
      ·rintro w' ⟨s0, s1⟩
       go_simp
       with_reducible rfl
      rotate_left
      ·simp only [Sx]
       rfl
      refine take_ (i := 4) (N := some 27) (v := ?_) (a' := ?_) #[true, true, false, true, true, false, false, false] rfl rfl (take_ofW HT_.out HW_.out Zq2) (fun _ _ _ h => h) (Or.inl ⟨Zq3, ?_⟩) hHeld ?_ ?_
      rotate_left
      ·rintro w' ⟨s0, s1⟩
       go_simp
       with_reducible rfl
      rotate_left
      ·simp only [Sx]
       rfl
      refine one_ (i := 2) (N := some 25) #[true, true, true, true, true, false, false, false] rfl rfl (one_of HT_.out Zq2) Zq4 (fun K hK => ?_); refine goes_ Try.func30 Zq2 rfl #[.slice Ao17 xaC_1.length co17] Zq3 rfl rfl Zq8 ?_; with_reducible refine (slices_Clone_int_int.calls _ _ xaC_1 tcK _ ?side1 ?side2 A11.out).mono ?_
      (case side1 => repeat (first | exact (Kd.V_reads' HO_aC.out).2.2 | (with_reducible refine Kd.C_alloc ?_ _) | (with_reducible refine Kd.C_drewN ?_ _) | (with_reducible refine Kd.C_drew ?_)))
      (case side2 => exact (Kd.V_reads' HO_aC.out).2.1)
      rintro e w28 ⟨v279, rfl, ho0, hb⟩
      refine ⟨_, rfl, ?_⟩; have n0_ := Ak (Kd.V_elder' Zq57 (Kd.R_base ho0) hb); have n1_ := Zq257; have n2_ := Ak (Kd.R_below Zq78 hb); have n3_ := Zq226; have n4_ := Zq136; have n5_ := Zq227; have n6_ := Zq145; have n7_ := Ak (blk_below (g := gbai) (o := .cells #[.string tbd, .slice Ao24 tbi.length co24, .slice Ao25 tbs.length co25] 27 (0, 0)) (by (with_reducible repeat (first | refine blk_drewN ?_ _ | refine blk_drew ?_ | refine blk_alloc ?_ _)); exact BKai.out) hb); have n8_ := Zq273; clear HO_aC HObp HObq BKak BKao BKaA BKai HB; have HO_aC := n0_; have HObp := n1_; have HObq := n2_; have HOfi := n3_; have BKak := n4_; have BKao := n5_; have BKaA := n6_; have BKai := n7_; have HB := n8_; clear n0_ n1_ n2_ n3_ n4_ n5_ n6_ n7_ n8_
      (try clear hb)
      (try clear hb2)
      (try clear hk)
      (try clear hi)
      (try clear ho0)
      obtain ⟨Ao29, co29, eo29⟩ := Kd.R_slice HOfi.out
      (first | subst eo29 | (injection eo29 with f1_ f2_ f3_; have f4_ := f1_.symm; have f5_ := f3_.symm; clear f1_ f2_ f3_; subst f4_; subst f5_))
      refine hK.out _ _ ⟨(blk_cell BKao.out 0).trans rfl, (blk_cell BKao.out 1).trans rfl⟩ (fun hHeld => ?_); clear hK K; refine norm_ (a' := ?_) ?_ ?_
      rotate_left
      ·show Act.put _ (some 25) _ = _
       simp only [Sx]
       rfl
      refine pure_ (i := 5) (N := some 28) (v := ?_) (a' := ?_) #[true, true, true, true, true, true, false, false] rfl rfl (any_of HT_.out Zq2) (fun _ _ _ h => h) (Or.inl ⟨Zq3, ?_⟩) ?_ ?_
      rotate_left
      ·intro w'
       go_simp
       with_reducible rfl
      rotate_left
      ·simp only [Sx]
       rfl
      refine one_ (i := 6) (N := none) #[true, true, true, true, true, true, true, false] rfl rfl (one_of HT_.out Zq2) Zq4 (fun K hK => ?_); have hs30 : w28.cell? ⟨gbaA, 0, none⟩ = some (.slice none 0 0) := (blk_cell BKaA.out 0).trans rfl; have hfs30 := blk_frozen BKaA.out 0; have hns30_0 := NB265_267.out; have hns30_1 := NB266_267.out; have hns30_3 := NB276_267.out; have hms30_0 := NB267_265.out; have hms30_1 := NB267_266.out; have hms30_3 := NB267_276.out; have hs31 : w28.cell? ⟨gbaA, 1, none⟩ = some (.int .u32 xch_1) := (blk_cell BKaA.out 1).trans rfl; have hfs31 := blk_frozen BKaA.out 1; have hns31_0 := NB265_267.out; have hns31_1 := NB266_267.out; have hns31_3 := NB276_267.out; have hms31_0 := NB267_265.out; have hms31_1 := NB267_266.out; have hms31_3 := NB267_276.out; refine skip_ (w1 := ?_) Zq3 rfl ?_ ?_
      rotate_left
      ·go_simp
       rfl
      refine hK.out _ _ ⟨((cell_far (p := ⟨gbaA, _, none⟩) NB266_267.out _).trans (((cell_far (p := ⟨gbaA, _, none⟩) NB266_267.out _).trans (hHeld.1)))), ((cell_far (p := ⟨gbaA, _, none⟩) NB266_267.out _).trans (((cell_far (p := ⟨gbaA, _, none⟩) NB266_267.out _).trans (hHeld.2))))⟩ (fun hHeld => ?_); clear hK K; refine pure_ (i := 7) (N := some 5) (v := ?_) (a' := ?_) #[true, true, true, true, true, true, true, true] rfl rfl (any_of HT_.out Zq2) (fun _ _ _ h => h) (Or.inl ⟨Zq3, ?_⟩) ?_ ?_
      rotate_left
      ·intro w'
       go_simp
       with_reducible rfl
      rotate_left
      ·simp only [Sx]
       rfl
      refine done_ (done_of HT_.out Zq2) ?_
      try go_wp2
      refine bodyPost_ret (results_ct rfl _ _ gbaA 32 #[.slice Ao29 tcK.length co29, .int .u32 xbn_1] (0, 0) _ rfl (by (with_reducible repeat (first | refine blk_drewN ?_ _ | refine blk_drew ?_ | refine blk_alloc ?_ _)); refine blk_put (cs := #[.slice Ao29 tcK.length co29, .int .u32 xch_1]) ?_ 1 _ rfl; (with_reducible repeat (first | refine blk_drewN ?_ _ | refine blk_drew ?_ | refine blk_alloc ?_ _)); refine blk_put (cs := #[.slice none 0 0, .int .u32 xch_1]) ?_ 0 _ rfl; (with_reducible repeat (first | refine blk_drewN ?_ _ | refine blk_drew ?_ | refine blk_alloc ?_ _)); exact BKaA.out) Try.underlying32 rfl Zq2) rfl ?_
      exact ⟨_, Zq13, by (with_reducible repeat (first | apply Kd.R_alloc | apply Kd.R_drewN | apply Kd.R_drew)); exact Kd.R_mono (Kd.R_far (p := ⟨gbaA, 1, none⟩) (Kd.R_far (p := ⟨gbaA, 0, none⟩) (Kd.R_types HOfi.out BKaA.out Zq4) (fun _ hk => hk.2) (.slice Ao29 tcK.length co29)) (fun _ hk => hk.2) (.int .u32 xbn_1)) (fun _ hk => hk.1.1), Zq47⟩
     ·replace c10 := Bool.eq_false_iff.mpr c10; subst c10
      have H1 : ((irq_mapped.f k1 a0_0 l0_1 a0_2 l0_3 l0_4 tbd tbi tbs xbn_1).bind fun btbS => (if btbS.2.2 = 0 then (irq_Through.l0 k1 (wrap64 (x8_1 + 1)) a0_0 l0_1 a0_2 l0_3 l0_4 btbS.1 btbS.2.1) else (some (([] : List Int), 0, btbS.2.2)))) = some (r1, r2, r3) := by rw [if_neg (show ¬ (false = true) by decide)] at H; exact H
      clear H; have H := H1; clear H1; replace H := Option.bind_eq_some_iff.mp H; obtain ⟨⟨tbS, ted, tdr⟩, Ads, H⟩ := H; replace H : (if tdr = 0 then (irq_Through.l0 k1 (wrap64 (x8_1 + 1)) a0_0 l0_1 a0_2 l0_3 l0_4 tbS ted) else (some (([] : List Int), 0, tdr))) = some (r1, r2, r3) := H; have A32 := Ak Ads; clear Ads
      by_cases c33 : tdr = 0
      ·rw [if_pos c33] at H; have c33b0 : (tdr == 0) = true := beq_iff_eq.mpr c33; have c33b1 : (tdr != 0) = false := bne_eq_false_iff_eq.mpr c33; clear c33; have H' := Ak H; clear H; have hnb34 := NB265_266.out; have hnc34 := NB266_265.out; have hnb35 := NB265_267.out; have hnc35 := NB267_265.out; have hcz36_0 : wr.cell? ⟨gbak, 0, none⟩ = some (.int .u32 a0_0) := (blk_cell BKak.out 0).trans rfl; have hcz36_1 : wr.cell? ⟨gbak, 1, none⟩ = some (.slice A0_1 l0_1.length c0_1) := (blk_cell BKak.out 1).trans rfl; have hcz36_2 : wr.cell? ⟨gbak, 2, none⟩ = some (.string a0_2) := (blk_cell BKak.out 2).trans rfl; have hcz36_3 : wr.cell? ⟨gbak, 3, none⟩ = some (.slice A0_3 l0_3.length c0_3) := (blk_cell BKak.out 3).trans rfl; have hcz36_4 : wr.cell? ⟨gbak, 4, none⟩ = some (.slice A0_4 l0_4.length c0_4) := (blk_cell BKak.out 4).trans rfl; have hfz36_0 := blk_frozen BKak.out 0; have hfz36_1 := blk_frozen BKak.out 1; have hfz36_2 := blk_frozen BKak.out 2; have hfz36_3 := blk_frozen BKak.out 3; have hfz36_4 := blk_frozen BKak.out 4; have hnb37 := NB266_267.out; have hnc37 := NB267_266.out; have hcz38_0 : wr.cell? ⟨gbao, 0, none⟩ = some (u267000) := (blk_cell BKao.out 0).trans rfl; have hcz38_1 : wr.cell? ⟨gbao, 1, none⟩ = some (.int .u32 xbn_1) := (blk_cell BKao.out 1).trans rfl; have hfz38_0 := blk_frozen BKao.out 0; have hfz38_1 := blk_frozen BKao.out 1; obtain ⟨Ao39, co39, eo39⟩ := Kd.V_slice HO_aC.out; subst eo39
       go_wp2_with (first | ((with_reducible refine gate_callee (f := 28) rfl ?_); refine goesL_ (some 14) rfl rfl Try.func28 Zq2 rfl #[.agg #[.int .u32 a0_0, .slice A0_1 l0_1.length c0_1, .string a0_2, .slice A0_3 l0_3.length c0_3, .slice A0_4 l0_4.length c0_4], .slice Ao39 xaC_1.length co39] rfl Zq8 ?_; (with_reducible refine (path_Get.calls k1 a0_0 _ _ l0_1 a0_2 (fun k_ => k_ < w.heap.size) _ _ l0_3 (fun k_ => k_ < w.heap.size) _ _ l0_4 _ _ xaC_1 tbd tbi tbs tcX _ ?side1 ?side2 ?side3 ?side4 ?side5 ?side6 A7.out).mono ?_); (case side1 => repeat (first | exact Zq138 | (with_reducible refine Kd.C_alloc ?_ _) | (with_reducible refine Kd.C_drewN ?_ _) | (with_reducible refine Kd.C_drew ?_))); (case side2 => exact HC0_1.out); (case side3 => exact Kd.V_mk HC0_3.out (Kd.F_below (Kd.C_F k63_heap HR0_3.out) Zq17)); (case side4 => exact Kd.V_mk HC0_4.out (Kd.F_below (Kd.C_F k27_heap HR0_4.out) Zq17)); (case side5 => repeat (first | exact (Kd.V_reads' HO_aC.out).2.2 | (with_reducible refine Kd.C_alloc ?_ _) | (with_reducible refine Kd.C_drewN ?_ _) | (with_reducible refine Kd.C_drew ?_))); (case side6 => exact (Kd.V_reads' HO_aC.out).2.1); rintro e w40 ⟨v270, v273, rfl, ho0, ho1, hb⟩; refine ⟨_, rfl, ?_⟩; have n0_ := Zq204; have n1_ := Zq174; have n2_ := Zq162; have n3_ := Zq136; have n4_ := Zq228; have n5_ := Zq145; have n6_ := Zq249; clear HO_aC BKak BKao BKaA HB; have HO_aC := n0_; have HObp := n1_; have HObq := n2_; have BKak := n3_; have BKao := n4_; have BKaA := n5_; have HB := n6_; clear n0_ n1_ n2_ n3_ n4_ n5_ n6_; (try clear hb); (try clear hb2); (try clear hk); (try clear hi); (try clear ho0); (try clear ho1)) | ((with_reducible refine gate_dst (N := 6) rfl ?_); refine box_event ?hg (N := 6) ?hd (cs := #[.string (⟨#[]⟩ : ByteArray), .slice none 0 0, .slice none 0 0]) (t := 27) ?hr ?_; (case hd | hg => rfl); (case hr => first | (go_simp; done) | (go_simp; rfl)); intro gbai hg w41 hbox hb; have n0_ := Zq232; have n1_ := Zq257; have n2_ := Zq233; have n3_ := Zq136; have n4_ := Zq228; have n5_ := Zq145; have n6_ := Zq249; have n7_ := Ak (hbox); have n8_ := Zq180; have n9_ := Zq180; have n10_ := Zq300; have n11_ := Zq301; have n12_ := Ak ((by rw [hg]; exact Nat.ne_of_lt (blk_lt (g := gbao) (o := .cells #[.slice Ao39 xaC_1.length co39, .int .u32 xbn_1] 32 (0, 0)) Zq33) : gbao ≠ gbai)); have n13_ := Ak ((by rw [hg]; exact Nat.ne_of_gt (blk_lt (g := gbao) (o := .cells #[.slice Ao39 xaC_1.length co39, .int .u32 xbn_1] 32 (0, 0)) Zq33) : gbai ≠ gbao)); have n14_ := Zq302; have n15_ := Zq303; clear HO_aC HObp HObq BKak BKao BKaA HB; have HO_aC := n0_; have HObp := n1_; have HObq := n2_; have BKak := n3_; have BKao := n4_; have BKaA := n5_; have HB := n6_; have BKai := n7_; have GWai := n8_; have GEai := n9_; have NB265_276 := n10_; have NB276_265 := n11_; have NB266_276 := n12_; have NB276_266 := n13_; have NB267_276 := n14_; have NB276_267 := n15_; clear n0_ n1_ n2_ n3_ n4_ n5_ n6_ n7_ n8_ n9_ n10_ n11_ n12_ n13_ n14_ n15_ hb hbox hg; have hnb42 := NB276_265.out; have hnc42 := NB265_276.out; have hnb43 := NB276_266.out; have hnc43 := NB266_276.out; have hnb44 := NB276_267.out; have hnc44 := NB267_276.out; have hcz45_0 : w41.cell? ⟨gbai, 0, none⟩ = some (.string (⟨#[]⟩ : ByteArray)) := (blk_cell BKai.out 0).trans rfl; have hcz45_1 : w41.cell? ⟨gbai, 1, none⟩ = some (.slice none 0 0) := (blk_cell BKai.out 1).trans rfl; have hcz45_2 : w41.cell? ⟨gbai, 2, none⟩ = some (.slice none 0 0) := (blk_cell BKai.out 2).trans rfl; have hfz45_0 := blk_frozen BKai.out 0; have hfz45_1 := blk_frozen BKai.out 1; have hfz45_2 := blk_frozen BKai.out 2; obtain ⟨Ao46, co46, eo46⟩ := Kd.S_slice HObp.out; subst eo46; obtain ⟨Ao47, co47, eo47⟩ := Kd.R_slice HObq.out; subst eo47) | ((with_reducible refine gate_callee (f := 29) rfl ?_); refine goesL_ (some 22) rfl rfl Try.func29 Zq2 rfl #[.agg #[.string tbd, .slice Ao46 tbi.length co46, .slice Ao47 tbs.length co47]] rfl Zq8 ?_; (with_reducible refine (irq_Controller.calls k1 tbd _ _ tbi _ _ tbs false _ ?side1 ?side2 ?side3 ?side4 A9.out).mono ?_); (case side1 => refine (Kd.S_reads' (e := 63) (base := w.heap.size) (ok := fun k_ => ((w.heap.size ≤ k_) ∧ True)) (n := tbi.length) (c := co46) ?_).2.2; exact (by (with_reducible repeat (first | apply Kd.S_alloc | apply Kd.S_drewN | apply Kd.S_drew)); exact (Kd.S_mono (Kd.S_far (p := ⟨gbai, 2, none⟩) (Kd.S_far (p := ⟨gbai, 1, none⟩) (Kd.S_far (p := ⟨gbai, 0, none⟩) (Kd.S_types HObp.out BKai.out Zq4) (fun _ hk => hk.2) (.string tbd)) (fun _ hk => hk.2) (.slice Ao46 tbi.length co46)) (fun _ hk => hk.2) (.slice Ao47 tbs.length co47)) (fun _ h_ => h_.1)))); (case side2 => exact (Kd.S_reads' HObp.out).2.1); (case side3 => refine (Kd.R_reads' (e := 27) (base := w.heap.size) (ok := fun k_ => (((w.heap.size ≤ k_) ∧ some k_ ≠ (.slice Ao46 tbi.length co46 : Value).ownBlock) ∧ k_ ≠ gbai)) (n := tbs.length) (c := co47) ?_).2.2; exact (by (with_reducible repeat (first | apply Kd.R_alloc | apply Kd.R_drewN | apply Kd.R_drew)); exact (Kd.R_mono (Kd.R_far (p := ⟨gbai, 2, none⟩) (Kd.R_far (p := ⟨gbai, 1, none⟩) (Kd.R_far (p := ⟨gbai, 0, none⟩) (Kd.R_mono HObq.out (fun k_ hk => (⟨hk, hk.2⟩ : _ ∧ k_ ≠ gbai))) (fun _ hk => hk.2) (.string tbd)) (fun _ hk => hk.2) (.slice Ao46 tbi.length co46)) (fun _ hk => hk.2) (.slice Ao47 tbs.length co47)) (fun _ h_ => h_.1)))); (case side4 => exact (Kd.R_reads' HObq.out).2.1); rintro e w48 ⟨rfl, hb⟩; refine ⟨_, rfl, ?_⟩; have n0_ := Ak (Kd.V_below (by (with_reducible repeat (first | apply Kd.V_alloc | apply Kd.V_drewN | apply Kd.V_drew)); exact (Kd.V_mono (Kd.V_far (p := ⟨gbai, 2, none⟩) (Kd.V_far (p := ⟨gbai, 1, none⟩) (Kd.V_far (p := ⟨gbai, 0, none⟩) (Kd.V_mono HO_aC.out (fun k_ hk => (⟨hk, hk.2⟩ : _ ∧ k_ ≠ gbai))) (fun _ hk => hk.2) (.string tbd)) (fun _ hk => hk.2) (.slice Ao46 tbi.length co46)) (fun _ hk => hk.2) (.slice Ao47 tbs.length co47)) (fun _ h_ => h_.1))) hb); have n1_ := Ak (Kd.S_below (by (with_reducible repeat (first | apply Kd.S_alloc | apply Kd.S_drewN | apply Kd.S_drew)); exact (Kd.S_mono (Kd.S_far (p := ⟨gbai, 2, none⟩) (Kd.S_far (p := ⟨gbai, 1, none⟩) (Kd.S_far (p := ⟨gbai, 0, none⟩) (Kd.S_types HObp.out BKai.out Zq4) (fun _ hk => hk.2) (.string tbd)) (fun _ hk => hk.2) (.slice Ao46 tbi.length co46)) (fun _ hk => hk.2) (.slice Ao47 tbs.length co47)) (fun _ h_ => h_.1))) hb); have n2_ := Ak (Kd.R_below (by (with_reducible repeat (first | apply Kd.R_alloc | apply Kd.R_drewN | apply Kd.R_drew)); exact (Kd.R_mono (Kd.R_far (p := ⟨gbai, 2, none⟩) (Kd.R_far (p := ⟨gbai, 1, none⟩) (Kd.R_far (p := ⟨gbai, 0, none⟩) (Kd.R_mono HObq.out (fun k_ hk => (⟨hk, hk.2⟩ : _ ∧ k_ ≠ gbai))) (fun _ hk => hk.2) (.string tbd)) (fun _ hk => hk.2) (.slice Ao46 tbi.length co46)) (fun _ hk => hk.2) (.slice Ao47 tbs.length co47)) (fun _ h_ => h_.1))) hb); have n3_ := Zq194; have n4_ := Ak (blk_below (g := gbao) (o := .cells #[.slice Ao39 xaC_1.length co39, .int .u32 xbn_1] 32 (0, 0)) Zq126 hb); have n5_ := Zq235; have n6_ := Ak (blk_below (g := gbai) (o := .cells #[.string tbd, .slice Ao46 tbi.length co46, .slice Ao47 tbs.length co47] 27 (0, 0)) (by (with_reducible repeat (first | refine blk_drewN ?_ _ | refine blk_drew ?_ | refine blk_alloc ?_ _)); refine blk_put (cs := #[.string tbd, .slice Ao46 tbi.length co46, .slice none 0 0]) ?_ 2 _ rfl; (with_reducible repeat (first | refine blk_drewN ?_ _ | refine blk_drew ?_ | refine blk_alloc ?_ _)); refine blk_put (cs := #[.string tbd, .slice none 0 0, .slice none 0 0]) ?_ 1 _ rfl; (with_reducible repeat (first | refine blk_drewN ?_ _ | refine blk_drew ?_ | refine blk_alloc ?_ _)); refine blk_put (cs := #[.string (⟨#[]⟩ : ByteArray), .slice none 0 0, .slice none 0 0]) ?_ 0 _ rfl; (with_reducible repeat (first | refine blk_drewN ?_ _ | refine blk_drew ?_ | refine blk_alloc ?_ _)); exact BKai.out) hb); have n7_ := Zq273; clear HO_aC HObp HObq BKak BKao BKaA BKai HB; have HO_aC := n0_; have HObp := n1_; have HObq := n2_; have BKak := n3_; have BKao := n4_; have BKaA := n5_; have BKai := n6_; have HB := n7_; clear n0_ n1_ n2_ n3_ n4_ n5_ n6_ n7_; (try clear hb); (try clear hb2); (try clear hk); (try clear hi); have hcz49_0 : w48.cell? ⟨gbak, 0, none⟩ = some (.int .u32 a0_0) := (blk_cell BKak.out 0).trans rfl; have hcz49_1 : w48.cell? ⟨gbak, 1, none⟩ = some (.slice A0_1 l0_1.length c0_1) := (blk_cell BKak.out 1).trans rfl; have hcz49_2 : w48.cell? ⟨gbak, 2, none⟩ = some (.string a0_2) := (blk_cell BKak.out 2).trans rfl; have hcz49_3 : w48.cell? ⟨gbak, 3, none⟩ = some (.slice A0_3 l0_3.length c0_3) := (blk_cell BKak.out 3).trans rfl; have hcz49_4 : w48.cell? ⟨gbak, 4, none⟩ = some (.slice A0_4 l0_4.length c0_4) := (blk_cell BKak.out 4).trans rfl; have hfz49_0 := blk_frozen BKak.out 0; have hfz49_1 := blk_frozen BKak.out 1; have hfz49_2 := blk_frozen BKak.out 2; have hfz49_3 := blk_frozen BKak.out 3; have hfz49_4 := blk_frozen BKak.out 4; have hcz50_0 : w48.cell? ⟨gbai, 0, none⟩ = some (.string tbd) := (blk_cell BKai.out 0).trans rfl; have hcz50_1 : w48.cell? ⟨gbai, 1, none⟩ = some (.slice Ao46 tbi.length co46) := (blk_cell BKai.out 1).trans rfl; have hcz50_2 : w48.cell? ⟨gbai, 2, none⟩ = some (.slice Ao47 tbs.length co47) := (blk_cell BKai.out 2).trans rfl; have hfz50_0 := blk_frozen BKai.out 0; have hfz50_1 := blk_frozen BKai.out 1; have hfz50_2 := blk_frozen BKai.out 2; have hcz51_0 : w48.cell? ⟨gbao, 0, none⟩ = some (.slice Ao39 xaC_1.length co39) := (blk_cell BKao.out 0).trans rfl; have hcz51_1 : w48.cell? ⟨gbao, 1, none⟩ = some (.int .u32 xbn_1) := (blk_cell BKao.out 1).trans rfl; have hfz51_0 := blk_frozen BKao.out 0; have hfz51_1 := blk_frozen BKao.out 1) | ((with_reducible refine gate_callee (f := 31) rfl ?_); refine goesL_ (some 34) rfl rfl Try.func31 Zq2 rfl #[.agg #[.int .u32 a0_0, .slice A0_1 l0_1.length c0_1, .string a0_2, .slice A0_3 l0_3.length c0_3, .slice A0_4 l0_4.length c0_4], .agg #[.string tbd, .slice Ao46 tbi.length co46, .slice Ao47 tbs.length co47], .int .u32 xbn_1] rfl Zq8 ?_; (with_reducible refine (irq_mapped.calls k1 a0_0 _ _ l0_1 a0_2 _ _ l0_3 _ _ l0_4 tbd _ _ tbi _ _ tbs xbn_1 tbS ted tdr _ ?side1 ?side2 ?side3 ?side4 ?side5 ?side6 ?side7 ?side8 ?side9 ?side10 A32.out).mono ?_); (case side1 => repeat (first | exact Zq138 | (with_reducible refine Kd.C_alloc ?_ _) | (with_reducible refine Kd.C_drewN ?_ _) | (with_reducible refine Kd.C_drew ?_))); (case side2 => exact HC0_1.out); (case side3 => repeat (first | exact Zq153 | (with_reducible refine Kd.C_alloc ?_ _) | (with_reducible refine Kd.C_drewN ?_ _) | (with_reducible refine Kd.C_drew ?_))); (case side4 => exact HC0_3.out); (case side5 => repeat (first | exact Zq154 | (with_reducible refine Kd.C_alloc ?_ _) | (with_reducible refine Kd.C_drewN ?_ _) | (with_reducible refine Kd.C_drew ?_))); (case side6 => exact HC0_4.out); (case side7 => repeat (first | exact (Kd.S_reads' HObp.out).2.2 | (with_reducible refine Kd.C_alloc ?_ _) | (with_reducible refine Kd.C_drewN ?_ _) | (with_reducible refine Kd.C_drew ?_))); (case side8 => exact (Kd.S_reads' HObp.out).2.1); (case side9 => repeat (first | exact (Kd.R_reads' HObq.out).2.2 | (with_reducible refine Kd.C_alloc ?_ _) | (with_reducible refine Kd.C_drewN ?_ _) | (with_reducible refine Kd.C_drew ?_))); (case side10 => exact (Kd.R_reads' HObq.out).2.1); rintro e w52 ⟨v282, rfl, ho0, hb⟩; refine ⟨_, rfl, ?_⟩; have n0_ := Ak (Kd.V_elder' Zq57 (Kd.R_base ho0) hb); have n1_ := Zq257; have n2_ := Ak (Kd.R_below Zq78 hb); have n3_ := Zq226; have n4_ := Zq136; have n5_ := Zq228; have n6_ := Zq145; have n7_ := Ak (blk_below (g := gbai) (o := .cells #[.string tbd, .slice Ao46 tbi.length co46, .slice Ao47 tbs.length co47] 27 (0, 0)) (by (with_reducible repeat (first | refine blk_drewN ?_ _ | refine blk_drew ?_ | refine blk_alloc ?_ _)); exact BKai.out) hb); have n8_ := Zq273; clear HO_aC HObp HObq BKak BKao BKaA BKai HB; have HO_aC := n0_; have HObp := n1_; have HObq := n2_; have HOex := n3_; have BKak := n4_; have BKao := n5_; have BKaA := n6_; have BKai := n7_; have HB := n8_; clear n0_ n1_ n2_ n3_ n4_ n5_ n6_ n7_ n8_; (try clear hb); (try clear hb2); (try clear hk); (try clear hi); (try clear ho0); obtain ⟨Ao53, co53, eo53⟩ := Kd.R_slice HOex.out; subst eo53; have hcz54_0 : w52.cell? ⟨gbao, 0, none⟩ = some (.slice Ao39 xaC_1.length co39) := (blk_cell BKao.out 0).trans rfl; have hcz54_1 : w52.cell? ⟨gbao, 1, none⟩ = some (.int .u32 xbn_1) := (blk_cell BKao.out 1).trans rfl; have hfz54_0 := blk_frozen BKao.out 0; have hfz54_1 := blk_frozen BKao.out 1))
       go_roundg k1
       case measure => have := HK1.out; omega
       case rel => exact ⟨(wrap64 (x8_1 + 1)), (tbS), (ted), (xch_1), (.slice Ao53 tbS.length co53), Zq7, H', ⟨Zq27⟩, ⟨Kd.V_mono (Kd.R_V (Kd.R_far (p := ⟨gbao, 1, none⟩) (Kd.R_far (p := ⟨gbao, 0, none⟩) (Kd.R_types (Kd.R_types (Kd.R_types (Kd.R_types HOex.out BKak.out Zq4) BKao.out Zq4) BKaA.out Zq4) BKao.out Zq4) (fun _ hk => hk.2) (.slice Ao53 tbS.length co53)) (fun _ hk => hk.2) (.int .u32 ted))) (fun k_ hk => ⟨.inr (hk.1.1.1.1.1), ⟨hk.1.1.1.2, ⟨hk.1.1.2, hk.1.2⟩⟩⟩)⟩, ⟨by (with_reducible repeat (first | refine blk_drewN ?_ _ | refine blk_drew ?_ | refine blk_alloc ?_ _)); refine blk_far ?_ NB265_266.out _; (with_reducible repeat (first | refine blk_drewN ?_ _ | refine blk_drew ?_ | refine blk_alloc ?_ _)); refine blk_far ?_ NB265_266.out _; (with_reducible repeat (first | refine blk_drewN ?_ _ | refine blk_drew ?_ | refine blk_alloc ?_ _)); exact BKak.out⟩, ⟨by (with_reducible repeat (first | refine blk_drewN ?_ _ | refine blk_drew ?_ | refine blk_alloc ?_ _)); refine blk_put (cs := #[.slice Ao53 tbS.length co53, .int .u32 xbn_1]) ?_ 1 _ rfl; (with_reducible repeat (first | refine blk_drewN ?_ _ | refine blk_drew ?_ | refine blk_alloc ?_ _)); refine blk_put (cs := #[.slice Ao39 xaC_1.length co39, .int .u32 xbn_1]) ?_ 0 _ rfl; (with_reducible repeat (first | refine blk_drewN ?_ _ | refine blk_drew ?_ | refine blk_alloc ?_ _)); exact BKao.out⟩, ⟨by (with_reducible repeat (first | refine blk_drewN ?_ _ | refine blk_drew ?_ | refine blk_alloc ?_ _)); refine blk_far ?_ NB267_266.out _; (with_reducible repeat (first | refine blk_drewN ?_ _ | refine blk_drew ?_ | refine blk_alloc ?_ _)); refine blk_far ?_ NB267_266.out _; (with_reducible repeat (first | refine blk_drewN ?_ _ | refine blk_drew ?_ | refine blk_alloc ?_ _)); exact BKaA.out⟩, ⟨Zq47⟩⟩
      ·rw [if_neg c33] at H; have c33b0 : (tdr == 0) = false := beq_eq_false_iff_ne.mpr c33; have c33b1 : (tdr != 0) = true := bne_iff_ne.mpr c33; simp only [Option.some.injEq, Prod.mk.injEq] at H; obtain ⟨rfl, rfl, rfl⟩ := H; have hnb55 := NB265_266.out; have hnc55 := NB266_265.out; have hnb56 := NB265_267.out; have hnc56 := NB267_265.out; have hcz57_0 : wr.cell? ⟨gbak, 0, none⟩ = some (.int .u32 a0_0) := (blk_cell BKak.out 0).trans rfl; have hcz57_1 : wr.cell? ⟨gbak, 1, none⟩ = some (.slice A0_1 l0_1.length c0_1) := (blk_cell BKak.out 1).trans rfl; have hcz57_2 : wr.cell? ⟨gbak, 2, none⟩ = some (.string a0_2) := (blk_cell BKak.out 2).trans rfl; have hcz57_3 : wr.cell? ⟨gbak, 3, none⟩ = some (.slice A0_3 l0_3.length c0_3) := (blk_cell BKak.out 3).trans rfl; have hcz57_4 : wr.cell? ⟨gbak, 4, none⟩ = some (.slice A0_4 l0_4.length c0_4) := (blk_cell BKak.out 4).trans rfl; have hfz57_0 := blk_frozen BKak.out 0; have hfz57_1 := blk_frozen BKak.out 1; have hfz57_2 := blk_frozen BKak.out 2; have hfz57_3 := blk_frozen BKak.out 3; have hfz57_4 := blk_frozen BKak.out 4; have hnb58 := NB266_267.out; have hnc58 := NB267_266.out; have hcz59_0 : wr.cell? ⟨gbao, 0, none⟩ = some (u267000) := (blk_cell BKao.out 0).trans rfl; have hcz59_1 : wr.cell? ⟨gbao, 1, none⟩ = some (.int .u32 xbn_1) := (blk_cell BKao.out 1).trans rfl; have hfz59_0 := blk_frozen BKao.out 0; have hfz59_1 := blk_frozen BKao.out 1; obtain ⟨Ao60, co60, eo60⟩ := Kd.V_slice HO_aC.out; subst eo60
       go_wp2_with (first | ((with_reducible refine gate_callee (f := 28) rfl ?_); refine goesL_ (some 14) rfl rfl Try.func28 Zq2 rfl #[.agg #[.int .u32 a0_0, .slice A0_1 l0_1.length c0_1, .string a0_2, .slice A0_3 l0_3.length c0_3, .slice A0_4 l0_4.length c0_4], .slice Ao60 xaC_1.length co60] rfl Zq8 ?_; (with_reducible refine (path_Get.calls k1 a0_0 _ _ l0_1 a0_2 (fun k_ => k_ < w.heap.size) _ _ l0_3 (fun k_ => k_ < w.heap.size) _ _ l0_4 _ _ xaC_1 tbd tbi tbs tcX _ ?side1 ?side2 ?side3 ?side4 ?side5 ?side6 A7.out).mono ?_); (case side1 => repeat (first | exact Zq138 | (with_reducible refine Kd.C_alloc ?_ _) | (with_reducible refine Kd.C_drewN ?_ _) | (with_reducible refine Kd.C_drew ?_))); (case side2 => exact HC0_1.out); (case side3 => exact Kd.V_mk HC0_3.out (Kd.F_below (Kd.C_F k63_heap HR0_3.out) Zq17)); (case side4 => exact Kd.V_mk HC0_4.out (Kd.F_below (Kd.C_F k27_heap HR0_4.out) Zq17)); (case side5 => repeat (first | exact (Kd.V_reads' HO_aC.out).2.2 | (with_reducible refine Kd.C_alloc ?_ _) | (with_reducible refine Kd.C_drewN ?_ _) | (with_reducible refine Kd.C_drew ?_))); (case side6 => exact (Kd.V_reads' HO_aC.out).2.1); rintro e w61 ⟨v270, v273, rfl, ho0, ho1, hb⟩; refine ⟨_, rfl, ?_⟩; have n0_ := Zq204; have n1_ := Zq174; have n2_ := Zq162; have n3_ := Zq136; have n4_ := Zq229; have n5_ := Zq145; have n6_ := Zq249; clear HO_aC BKak BKao BKaA HB; have HO_aC := n0_; have HObp := n1_; have HObq := n2_; have BKak := n3_; have BKao := n4_; have BKaA := n5_; have HB := n6_; clear n0_ n1_ n2_ n3_ n4_ n5_ n6_; (try clear hb); (try clear hb2); (try clear hk); (try clear hi); (try clear ho0); (try clear ho1)) | ((with_reducible refine gate_dst (N := 6) rfl ?_); refine box_event ?hg (N := 6) ?hd (cs := #[.string (⟨#[]⟩ : ByteArray), .slice none 0 0, .slice none 0 0]) (t := 27) ?hr ?_; (case hd | hg => rfl); (case hr => first | (go_simp; done) | (go_simp; rfl)); intro gbai hg w62 hbox hb; have n0_ := Zq232; have n1_ := Zq257; have n2_ := Zq233; have n3_ := Zq136; have n4_ := Zq229; have n5_ := Zq145; have n6_ := Zq249; have n7_ := Ak (hbox); have n8_ := Zq180; have n9_ := Zq180; have n10_ := Zq300; have n11_ := Zq301; have n12_ := Ak ((by rw [hg]; exact Nat.ne_of_lt (blk_lt (g := gbao) (o := .cells #[.slice Ao60 xaC_1.length co60, .int .u32 xbn_1] 32 (0, 0)) Zq33) : gbao ≠ gbai)); have n13_ := Ak ((by rw [hg]; exact Nat.ne_of_gt (blk_lt (g := gbao) (o := .cells #[.slice Ao60 xaC_1.length co60, .int .u32 xbn_1] 32 (0, 0)) Zq33) : gbai ≠ gbao)); have n14_ := Zq302; have n15_ := Zq303; clear HO_aC HObp HObq BKak BKao BKaA HB; have HO_aC := n0_; have HObp := n1_; have HObq := n2_; have BKak := n3_; have BKao := n4_; have BKaA := n5_; have HB := n6_; have BKai := n7_; have GWai := n8_; have GEai := n9_; have NB265_276 := n10_; have NB276_265 := n11_; have NB266_276 := n12_; have NB276_266 := n13_; have NB267_276 := n14_; have NB276_267 := n15_; clear n0_ n1_ n2_ n3_ n4_ n5_ n6_ n7_ n8_ n9_ n10_ n11_ n12_ n13_ n14_ n15_ hb hbox hg; have hnb63 := NB276_265.out; have hnc63 := NB265_276.out; have hnb64 := NB276_266.out; have hnc64 := NB266_276.out; have hnb65 := NB276_267.out; have hnc65 := NB267_276.out; have hcz66_0 : w62.cell? ⟨gbai, 0, none⟩ = some (.string (⟨#[]⟩ : ByteArray)) := (blk_cell BKai.out 0).trans rfl; have hcz66_1 : w62.cell? ⟨gbai, 1, none⟩ = some (.slice none 0 0) := (blk_cell BKai.out 1).trans rfl; have hcz66_2 : w62.cell? ⟨gbai, 2, none⟩ = some (.slice none 0 0) := (blk_cell BKai.out 2).trans rfl; have hfz66_0 := blk_frozen BKai.out 0; have hfz66_1 := blk_frozen BKai.out 1; have hfz66_2 := blk_frozen BKai.out 2; obtain ⟨Ao67, co67, eo67⟩ := Kd.S_slice HObp.out; subst eo67; obtain ⟨Ao68, co68, eo68⟩ := Kd.R_slice HObq.out; subst eo68) | ((with_reducible refine gate_callee (f := 29) rfl ?_); refine goesL_ (some 22) rfl rfl Try.func29 Zq2 rfl #[.agg #[.string tbd, .slice Ao67 tbi.length co67, .slice Ao68 tbs.length co68]] rfl Zq8 ?_; (with_reducible refine (irq_Controller.calls k1 tbd _ _ tbi _ _ tbs false _ ?side1 ?side2 ?side3 ?side4 A9.out).mono ?_); (case side1 => refine (Kd.S_reads' (e := 63) (base := w.heap.size) (ok := fun k_ => ((w.heap.size ≤ k_) ∧ True)) (n := tbi.length) (c := co67) ?_).2.2; exact (by (with_reducible repeat (first | apply Kd.S_alloc | apply Kd.S_drewN | apply Kd.S_drew)); exact (Kd.S_mono (Kd.S_far (p := ⟨gbai, 2, none⟩) (Kd.S_far (p := ⟨gbai, 1, none⟩) (Kd.S_far (p := ⟨gbai, 0, none⟩) (Kd.S_types HObp.out BKai.out Zq4) (fun _ hk => hk.2) (.string tbd)) (fun _ hk => hk.2) (.slice Ao67 tbi.length co67)) (fun _ hk => hk.2) (.slice Ao68 tbs.length co68)) (fun _ h_ => h_.1)))); (case side2 => exact (Kd.S_reads' HObp.out).2.1); (case side3 => refine (Kd.R_reads' (e := 27) (base := w.heap.size) (ok := fun k_ => (((w.heap.size ≤ k_) ∧ some k_ ≠ (.slice Ao67 tbi.length co67 : Value).ownBlock) ∧ k_ ≠ gbai)) (n := tbs.length) (c := co68) ?_).2.2; exact (by (with_reducible repeat (first | apply Kd.R_alloc | apply Kd.R_drewN | apply Kd.R_drew)); exact (Kd.R_mono (Kd.R_far (p := ⟨gbai, 2, none⟩) (Kd.R_far (p := ⟨gbai, 1, none⟩) (Kd.R_far (p := ⟨gbai, 0, none⟩) (Kd.R_mono HObq.out (fun k_ hk => (⟨hk, hk.2⟩ : _ ∧ k_ ≠ gbai))) (fun _ hk => hk.2) (.string tbd)) (fun _ hk => hk.2) (.slice Ao67 tbi.length co67)) (fun _ hk => hk.2) (.slice Ao68 tbs.length co68)) (fun _ h_ => h_.1)))); (case side4 => exact (Kd.R_reads' HObq.out).2.1); rintro e w69 ⟨rfl, hb⟩; refine ⟨_, rfl, ?_⟩; have n0_ := Ak (Kd.V_below (by (with_reducible repeat (first | apply Kd.V_alloc | apply Kd.V_drewN | apply Kd.V_drew)); exact (Kd.V_mono (Kd.V_far (p := ⟨gbai, 2, none⟩) (Kd.V_far (p := ⟨gbai, 1, none⟩) (Kd.V_far (p := ⟨gbai, 0, none⟩) (Kd.V_mono HO_aC.out (fun k_ hk => (⟨hk, hk.2⟩ : _ ∧ k_ ≠ gbai))) (fun _ hk => hk.2) (.string tbd)) (fun _ hk => hk.2) (.slice Ao67 tbi.length co67)) (fun _ hk => hk.2) (.slice Ao68 tbs.length co68)) (fun _ h_ => h_.1))) hb); have n1_ := Ak (Kd.S_below (by (with_reducible repeat (first | apply Kd.S_alloc | apply Kd.S_drewN | apply Kd.S_drew)); exact (Kd.S_mono (Kd.S_far (p := ⟨gbai, 2, none⟩) (Kd.S_far (p := ⟨gbai, 1, none⟩) (Kd.S_far (p := ⟨gbai, 0, none⟩) (Kd.S_types HObp.out BKai.out Zq4) (fun _ hk => hk.2) (.string tbd)) (fun _ hk => hk.2) (.slice Ao67 tbi.length co67)) (fun _ hk => hk.2) (.slice Ao68 tbs.length co68)) (fun _ h_ => h_.1))) hb); have n2_ := Ak (Kd.R_below (by (with_reducible repeat (first | apply Kd.R_alloc | apply Kd.R_drewN | apply Kd.R_drew)); exact (Kd.R_mono (Kd.R_far (p := ⟨gbai, 2, none⟩) (Kd.R_far (p := ⟨gbai, 1, none⟩) (Kd.R_far (p := ⟨gbai, 0, none⟩) (Kd.R_mono HObq.out (fun k_ hk => (⟨hk, hk.2⟩ : _ ∧ k_ ≠ gbai))) (fun _ hk => hk.2) (.string tbd)) (fun _ hk => hk.2) (.slice Ao67 tbi.length co67)) (fun _ hk => hk.2) (.slice Ao68 tbs.length co68)) (fun _ h_ => h_.1))) hb); have n3_ := Zq194; have n4_ := Ak (blk_below (g := gbao) (o := .cells #[.slice Ao60 xaC_1.length co60, .int .u32 xbn_1] 32 (0, 0)) Zq126 hb); have n5_ := Zq235; have n6_ := Ak (blk_below (g := gbai) (o := .cells #[.string tbd, .slice Ao67 tbi.length co67, .slice Ao68 tbs.length co68] 27 (0, 0)) (by (with_reducible repeat (first | refine blk_drewN ?_ _ | refine blk_drew ?_ | refine blk_alloc ?_ _)); refine blk_put (cs := #[.string tbd, .slice Ao67 tbi.length co67, .slice none 0 0]) ?_ 2 _ rfl; (with_reducible repeat (first | refine blk_drewN ?_ _ | refine blk_drew ?_ | refine blk_alloc ?_ _)); refine blk_put (cs := #[.string tbd, .slice none 0 0, .slice none 0 0]) ?_ 1 _ rfl; (with_reducible repeat (first | refine blk_drewN ?_ _ | refine blk_drew ?_ | refine blk_alloc ?_ _)); refine blk_put (cs := #[.string (⟨#[]⟩ : ByteArray), .slice none 0 0, .slice none 0 0]) ?_ 0 _ rfl; (with_reducible repeat (first | refine blk_drewN ?_ _ | refine blk_drew ?_ | refine blk_alloc ?_ _)); exact BKai.out) hb); have n7_ := Zq273; clear HO_aC HObp HObq BKak BKao BKaA BKai HB; have HO_aC := n0_; have HObp := n1_; have HObq := n2_; have BKak := n3_; have BKao := n4_; have BKaA := n5_; have BKai := n6_; have HB := n7_; clear n0_ n1_ n2_ n3_ n4_ n5_ n6_ n7_; (try clear hb); (try clear hb2); (try clear hk); (try clear hi); have hcz70_0 : w69.cell? ⟨gbak, 0, none⟩ = some (.int .u32 a0_0) := (blk_cell BKak.out 0).trans rfl; have hcz70_1 : w69.cell? ⟨gbak, 1, none⟩ = some (.slice A0_1 l0_1.length c0_1) := (blk_cell BKak.out 1).trans rfl; have hcz70_2 : w69.cell? ⟨gbak, 2, none⟩ = some (.string a0_2) := (blk_cell BKak.out 2).trans rfl; have hcz70_3 : w69.cell? ⟨gbak, 3, none⟩ = some (.slice A0_3 l0_3.length c0_3) := (blk_cell BKak.out 3).trans rfl; have hcz70_4 : w69.cell? ⟨gbak, 4, none⟩ = some (.slice A0_4 l0_4.length c0_4) := (blk_cell BKak.out 4).trans rfl; have hfz70_0 := blk_frozen BKak.out 0; have hfz70_1 := blk_frozen BKak.out 1; have hfz70_2 := blk_frozen BKak.out 2; have hfz70_3 := blk_frozen BKak.out 3; have hfz70_4 := blk_frozen BKak.out 4; have hcz71_0 : w69.cell? ⟨gbai, 0, none⟩ = some (.string tbd) := (blk_cell BKai.out 0).trans rfl; have hcz71_1 : w69.cell? ⟨gbai, 1, none⟩ = some (.slice Ao67 tbi.length co67) := (blk_cell BKai.out 1).trans rfl; have hcz71_2 : w69.cell? ⟨gbai, 2, none⟩ = some (.slice Ao68 tbs.length co68) := (blk_cell BKai.out 2).trans rfl; have hfz71_0 := blk_frozen BKai.out 0; have hfz71_1 := blk_frozen BKai.out 1; have hfz71_2 := blk_frozen BKai.out 2; have hcz72_0 : w69.cell? ⟨gbao, 0, none⟩ = some (.slice Ao60 xaC_1.length co60) := (blk_cell BKao.out 0).trans rfl; have hcz72_1 : w69.cell? ⟨gbao, 1, none⟩ = some (.int .u32 xbn_1) := (blk_cell BKao.out 1).trans rfl; have hfz72_0 := blk_frozen BKao.out 0; have hfz72_1 := blk_frozen BKao.out 1) | ((with_reducible refine gate_callee (f := 31) rfl ?_); refine goesL_ (some 34) rfl rfl Try.func31 Zq2 rfl #[.agg #[.int .u32 a0_0, .slice A0_1 l0_1.length c0_1, .string a0_2, .slice A0_3 l0_3.length c0_3, .slice A0_4 l0_4.length c0_4], .agg #[.string tbd, .slice Ao67 tbi.length co67, .slice Ao68 tbs.length co68], .int .u32 xbn_1] rfl Zq8 ?_; (with_reducible refine (irq_mapped.calls k1 a0_0 _ _ l0_1 a0_2 _ _ l0_3 _ _ l0_4 tbd _ _ tbi _ _ tbs xbn_1 tbS ted tdr _ ?side1 ?side2 ?side3 ?side4 ?side5 ?side6 ?side7 ?side8 ?side9 ?side10 A32.out).mono ?_); (case side1 => repeat (first | exact Zq138 | (with_reducible refine Kd.C_alloc ?_ _) | (with_reducible refine Kd.C_drewN ?_ _) | (with_reducible refine Kd.C_drew ?_))); (case side2 => exact HC0_1.out); (case side3 => repeat (first | exact Zq153 | (with_reducible refine Kd.C_alloc ?_ _) | (with_reducible refine Kd.C_drewN ?_ _) | (with_reducible refine Kd.C_drew ?_))); (case side4 => exact HC0_3.out); (case side5 => repeat (first | exact Zq154 | (with_reducible refine Kd.C_alloc ?_ _) | (with_reducible refine Kd.C_drewN ?_ _) | (with_reducible refine Kd.C_drew ?_))); (case side6 => exact HC0_4.out); (case side7 => repeat (first | exact (Kd.S_reads' HObp.out).2.2 | (with_reducible refine Kd.C_alloc ?_ _) | (with_reducible refine Kd.C_drewN ?_ _) | (with_reducible refine Kd.C_drew ?_))); (case side8 => exact (Kd.S_reads' HObp.out).2.1); (case side9 => repeat (first | exact (Kd.R_reads' HObq.out).2.2 | (with_reducible refine Kd.C_alloc ?_ _) | (with_reducible refine Kd.C_drewN ?_ _) | (with_reducible refine Kd.C_drew ?_))); (case side10 => exact (Kd.R_reads' HObq.out).2.1); rintro e w73 ⟨v282, rfl, ho0, hb⟩; refine ⟨_, rfl, ?_⟩; have n0_ := Ak (Kd.V_elder' Zq57 (Kd.R_base ho0) hb); have n1_ := Zq257; have n2_ := Ak (Kd.R_below Zq78 hb); have n3_ := Zq226; have n4_ := Zq136; have n5_ := Zq229; have n6_ := Zq145; have n7_ := Ak (blk_below (g := gbai) (o := .cells #[.string tbd, .slice Ao67 tbi.length co67, .slice Ao68 tbs.length co68] 27 (0, 0)) (by (with_reducible repeat (first | refine blk_drewN ?_ _ | refine blk_drew ?_ | refine blk_alloc ?_ _)); exact BKai.out) hb); have n8_ := Zq273; clear HO_aC HObp HObq BKak BKao BKaA BKai HB; have HO_aC := n0_; have HObp := n1_; have HObq := n2_; have HOex := n3_; have BKak := n4_; have BKao := n5_; have BKaA := n6_; have BKai := n7_; have HB := n8_; clear n0_ n1_ n2_ n3_ n4_ n5_ n6_ n7_ n8_; (try clear hb); (try clear hb2); (try clear hk); (try clear hi); (try clear ho0); obtain ⟨Ao74, co74, eo74⟩ := Kd.R_slice HOex.out; subst eo74; have hcz75_0 : w73.cell? ⟨gbao, 0, none⟩ = some (.slice Ao60 xaC_1.length co60) := (blk_cell BKao.out 0).trans rfl; have hcz75_1 : w73.cell? ⟨gbao, 1, none⟩ = some (.int .u32 xbn_1) := (blk_cell BKao.out 1).trans rfl; have hfz75_0 := blk_frozen BKao.out 0; have hfz75_1 := blk_frozen BKao.out 1; have hcz76_0 : w73.cell? ⟨gbaA, 0, none⟩ = some (.slice none 0 0) := (blk_cell BKaA.out 0).trans rfl; have hcz76_1 : w73.cell? ⟨gbaA, 1, none⟩ = some (.int .u32 xch_1) := (blk_cell BKaA.out 1).trans rfl; have hfz76_0 := blk_frozen BKaA.out 0; have hfz76_1 := blk_frozen BKaA.out 1))
       refine bodyPost_ret (results_ct rfl _ _ gbaA 32 #[.slice none 0 0, .int .u32 0] (0, 0) _ rfl (by (with_reducible repeat (first | refine blk_drewN ?_ _ | refine blk_drew ?_ | refine blk_alloc ?_ _)); refine blk_put (cs := #[.slice none 0 0, .int .u32 xch_1]) ?_ 1 _ rfl; (with_reducible repeat (first | refine blk_drewN ?_ _ | refine blk_drew ?_ | refine blk_alloc ?_ _)); refine blk_put (cs := #[.slice none 0 0, .int .u32 xch_1]) ?_ 0 _ rfl; (with_reducible repeat (first | refine blk_drewN ?_ _ | refine blk_drew ?_ | refine blk_alloc ?_ _)); refine blk_far ?_ NB267_266.out _; (with_reducible repeat (first | refine blk_drewN ?_ _ | refine blk_drew ?_ | refine blk_alloc ?_ _)); refine blk_far ?_ NB267_266.out _; (with_reducible repeat (first | refine blk_drewN ?_ _ | refine blk_drew ?_ | refine blk_alloc ?_ _)); exact BKaA.out) Try.underlying32 rfl Zq2) rfl ?_
       exact ⟨_, Zq13, Zq34, Zq47⟩
    ·rw [if_neg c8] at H; have c8b0 : (tcX == 0) = false := beq_eq_false_iff_ne.mpr c8; have c8b1 : (tcX != 0) = true := bne_iff_ne.mpr c8; simp only [Option.some.injEq, Prod.mk.injEq] at H; obtain ⟨rfl, rfl, rfl⟩ := H; have hnb77 := NB265_266.out; have hnc77 := NB266_265.out; have hnb78 := NB265_267.out; have hnc78 := NB267_265.out; have hcz79_0 : wr.cell? ⟨gbak, 0, none⟩ = some (.int .u32 a0_0) := (blk_cell BKak.out 0).trans rfl; have hcz79_1 : wr.cell? ⟨gbak, 1, none⟩ = some (.slice A0_1 l0_1.length c0_1) := (blk_cell BKak.out 1).trans rfl; have hcz79_2 : wr.cell? ⟨gbak, 2, none⟩ = some (.string a0_2) := (blk_cell BKak.out 2).trans rfl; have hcz79_3 : wr.cell? ⟨gbak, 3, none⟩ = some (.slice A0_3 l0_3.length c0_3) := (blk_cell BKak.out 3).trans rfl; have hcz79_4 : wr.cell? ⟨gbak, 4, none⟩ = some (.slice A0_4 l0_4.length c0_4) := (blk_cell BKak.out 4).trans rfl; have hfz79_0 := blk_frozen BKak.out 0; have hfz79_1 := blk_frozen BKak.out 1; have hfz79_2 := blk_frozen BKak.out 2; have hfz79_3 := blk_frozen BKak.out 3; have hfz79_4 := blk_frozen BKak.out 4; have hnb80 := NB266_267.out; have hnc80 := NB267_266.out; have hcz81_0 : wr.cell? ⟨gbao, 0, none⟩ = some (u267000) := (blk_cell BKao.out 0).trans rfl; have hcz81_1 : wr.cell? ⟨gbao, 1, none⟩ = some (.int .u32 xbn_1) := (blk_cell BKao.out 1).trans rfl; have hfz81_0 := blk_frozen BKao.out 0; have hfz81_1 := blk_frozen BKao.out 1; obtain ⟨Ao82, co82, eo82⟩ := Kd.V_slice HO_aC.out; subst eo82
     go_wp2_with (first | ((with_reducible refine gate_callee (f := 28) rfl ?_); refine goesL_ (some 14) rfl rfl Try.func28 Zq2 rfl #[.agg #[.int .u32 a0_0, .slice A0_1 l0_1.length c0_1, .string a0_2, .slice A0_3 l0_3.length c0_3, .slice A0_4 l0_4.length c0_4], .slice Ao82 xaC_1.length co82] rfl Zq8 ?_; (with_reducible refine (path_Get.calls k1 a0_0 _ _ l0_1 a0_2 (fun k_ => k_ < w.heap.size) _ _ l0_3 (fun k_ => k_ < w.heap.size) _ _ l0_4 _ _ xaC_1 tbd tbi tbs tcX _ ?side1 ?side2 ?side3 ?side4 ?side5 ?side6 A7.out).mono ?_); (case side1 => repeat (first | exact Zq138 | (with_reducible refine Kd.C_alloc ?_ _) | (with_reducible refine Kd.C_drewN ?_ _) | (with_reducible refine Kd.C_drew ?_))); (case side2 => exact HC0_1.out); (case side3 => exact Kd.V_mk HC0_3.out (Kd.F_below (Kd.C_F k63_heap HR0_3.out) Zq17)); (case side4 => exact Kd.V_mk HC0_4.out (Kd.F_below (Kd.C_F k27_heap HR0_4.out) Zq17)); (case side5 => repeat (first | exact (Kd.V_reads' HO_aC.out).2.2 | (with_reducible refine Kd.C_alloc ?_ _) | (with_reducible refine Kd.C_drewN ?_ _) | (with_reducible refine Kd.C_drew ?_))); (case side6 => exact (Kd.V_reads' HO_aC.out).2.1); rintro e w83 ⟨v270, v273, rfl, ho0, ho1, hb⟩; refine ⟨_, rfl, ?_⟩; have n0_ := Zq204; have n1_ := Zq174; have n2_ := Zq162; have n3_ := Zq136; have n4_ := Ak (blk_below (g := gbao) (o := .cells #[.slice Ao82 xaC_1.length co82, .int .u32 xbn_1] 32 (0, 0)) Zq33 hb); have n5_ := Zq145; have n6_ := Zq249; clear HO_aC BKak BKao BKaA HB; have HO_aC := n0_; have HObp := n1_; have HObq := n2_; have BKak := n3_; have BKao := n4_; have BKaA := n5_; have HB := n6_; clear n0_ n1_ n2_ n3_ n4_ n5_ n6_; (try clear hb); (try clear hb2); (try clear hk); (try clear hi); (try clear ho0); (try clear ho1)) | ((with_reducible refine gate_dst (N := 6) rfl ?_); refine box_event ?hg (N := 6) ?hd (cs := #[.string (⟨#[]⟩ : ByteArray), .slice none 0 0, .slice none 0 0]) (t := 27) ?hr ?_; (case hd | hg => rfl); (case hr => first | (go_simp; done) | (go_simp; rfl)); intro gbai hg w84 hbox hb; have n0_ := Zq232; have n1_ := Zq257; have n2_ := Zq233; have n3_ := Zq136; have n4_ := Ak (blk_below (g := gbao) (o := .cells #[.slice Ao82 xaC_1.length co82, .int .u32 xbn_1] 32 (0, 0)) Zq33 hb); have n5_ := Zq145; have n6_ := Zq249; have n7_ := Ak (hbox); have n8_ := Zq180; have n9_ := Zq180; have n10_ := Zq300; have n11_ := Zq301; have n12_ := Ak ((by rw [hg]; exact Nat.ne_of_lt (blk_lt (g := gbao) (o := .cells #[.slice Ao82 xaC_1.length co82, .int .u32 xbn_1] 32 (0, 0)) Zq33) : gbao ≠ gbai)); have n13_ := Ak ((by rw [hg]; exact Nat.ne_of_gt (blk_lt (g := gbao) (o := .cells #[.slice Ao82 xaC_1.length co82, .int .u32 xbn_1] 32 (0, 0)) Zq33) : gbai ≠ gbao)); have n14_ := Zq302; have n15_ := Zq303; clear HO_aC HObp HObq BKak BKao BKaA HB; have HO_aC := n0_; have HObp := n1_; have HObq := n2_; have BKak := n3_; have BKao := n4_; have BKaA := n5_; have HB := n6_; have BKai := n7_; have GWai := n8_; have GEai := n9_; have NB265_276 := n10_; have NB276_265 := n11_; have NB266_276 := n12_; have NB276_266 := n13_; have NB267_276 := n14_; have NB276_267 := n15_; clear n0_ n1_ n2_ n3_ n4_ n5_ n6_ n7_ n8_ n9_ n10_ n11_ n12_ n13_ n14_ n15_ hb hbox hg; have hnb85 := NB276_265.out; have hnc85 := NB265_276.out; have hnb86 := NB276_266.out; have hnc86 := NB266_276.out; have hnb87 := NB276_267.out; have hnc87 := NB267_276.out; have hcz88_0 : w84.cell? ⟨gbai, 0, none⟩ = some (.string (⟨#[]⟩ : ByteArray)) := (blk_cell BKai.out 0).trans rfl; have hcz88_1 : w84.cell? ⟨gbai, 1, none⟩ = some (.slice none 0 0) := (blk_cell BKai.out 1).trans rfl; have hcz88_2 : w84.cell? ⟨gbai, 2, none⟩ = some (.slice none 0 0) := (blk_cell BKai.out 2).trans rfl; have hfz88_0 := blk_frozen BKai.out 0; have hfz88_1 := blk_frozen BKai.out 1; have hfz88_2 := blk_frozen BKai.out 2; obtain ⟨Ao89, co89, eo89⟩ := Kd.S_slice HObp.out; subst eo89; obtain ⟨Ao90, co90, eo90⟩ := Kd.R_slice HObq.out; subst eo90; have hcz91_0 : w84.cell? ⟨gbaA, 0, none⟩ = some (.slice none 0 0) := (blk_cell BKaA.out 0).trans rfl; have hcz91_1 : w84.cell? ⟨gbaA, 1, none⟩ = some (.int .u32 xch_1) := (blk_cell BKaA.out 1).trans rfl; have hfz91_0 := blk_frozen BKaA.out 0; have hfz91_1 := blk_frozen BKaA.out 1))
     refine bodyPost_ret (results_ct rfl _ _ gbaA 32 #[.slice none 0 0, .int .u32 0] (0, 0) _ rfl (by (with_reducible repeat (first | refine blk_drewN ?_ _ | refine blk_drew ?_ | refine blk_alloc ?_ _)); refine blk_put (cs := #[.slice none 0 0, .int .u32 xch_1]) ?_ 1 _ rfl; (with_reducible repeat (first | refine blk_drewN ?_ _ | refine blk_drew ?_ | refine blk_alloc ?_ _)); refine blk_put (cs := #[.slice none 0 0, .int .u32 xch_1]) ?_ 0 _ rfl; (with_reducible repeat (first | refine blk_drewN ?_ _ | refine blk_drew ?_ | refine blk_alloc ?_ _)); refine blk_far ?_ NB267_276.out _; (with_reducible repeat (first | refine blk_drewN ?_ _ | refine blk_drew ?_ | refine blk_alloc ?_ _)); refine blk_far ?_ NB267_276.out _; (with_reducible repeat (first | refine blk_drewN ?_ _ | refine blk_drew ?_ | refine blk_alloc ?_ _)); refine blk_far ?_ NB267_276.out _; (with_reducible repeat (first | refine blk_drewN ?_ _ | refine blk_drew ?_ | refine blk_alloc ?_ _)); exact BKaA.out) Try.underlying32 rfl Zq2) rfl ?_
     exact ⟨_, Zq13, Zq34, Zq47⟩
   ·rw [if_neg c6] at H; have c6b0 : decide (x8_1 < 16) = false := decide_eq_false c6; clear c6; simp only [Option.some.injEq, Prod.mk.injEq] at H; obtain ⟨rfl, rfl, rfl⟩ := H; have hnb92 := NB267_265.out; have hnc92 := NB265_267.out; have hnb93 := NB267_266.out; have hnc93 := NB266_267.out; have hcz94_0 : wr.cell? ⟨gbaA, 0, none⟩ = some (.slice none 0 0) := (blk_cell BKaA.out 0).trans rfl; have hcz94_1 : wr.cell? ⟨gbaA, 1, none⟩ = some (.int .u32 xch_1) := (blk_cell BKaA.out 1).trans rfl; have hfz94_0 := blk_frozen BKaA.out 0; have hfz94_1 := blk_frozen BKaA.out 1
    go_wp2
    refine bodyPost_ret (results_ct rfl _ _ gbaA 32 #[.slice none 0 0, .int .u32 0] (0, 0) _ rfl (by (with_reducible repeat (first | refine blk_drewN ?_ _ | refine blk_drew ?_ | refine blk_alloc ?_ _)); refine blk_put (cs := #[.slice none 0 0, .int .u32 xch_1]) ?_ 1 _ rfl; (with_reducible repeat (first | refine blk_drewN ?_ _ | refine blk_drew ?_ | refine blk_alloc ?_ _)); refine blk_put (cs := #[.slice none 0 0, .int .u32 xch_1]) ?_ 0 _ rfl; (with_reducible repeat (first | refine blk_drewN ?_ _ | refine blk_drew ?_ | refine blk_alloc ?_ _)); exact BKaA.out) Try.underlying32 rfl Zq2) rfl ?_
    exact ⟨_, Zq13, Zq34, Zq17⟩
end Go.Proofs.Ytkopmkinlanhoaa.PB

namespace Go.Proofs.Ytkopmkinlanhoaa.PB
open Go.RowKit Go.Proofs.YtkopmkinlanhoaaW.PrintWords Go.Proofs.YtkopmkinlanhoaaW.PrintLast Go.Proofs.YtkopmkinlanhoaaW.PrintMore
attribute [local go_sem] max2_int min2_int max_two min_two max_three min_three max_four min_four
def arboretref06_Get.l0 : Nat → List Int → Int → Int → ByteArray → List (S63) → List (S27) → Option (ByteArray × (List (S63)) × (List (S27)) × Bool)
 | 0, _, _, _, _, _, _ => none
 | k + 1, x1, x11, x12, xcq, xbQ, xaQ => if x12 < x11 then (if 0 ≤ x12 then (if x12 < (x1.length : Int) then (if (rd x1 x12) < 0 then (some ((⟨#[]⟩ : ByteArray), ([] : List (S63)), ([] : List (S27)), false)) else (if (rd x1 x12) ≥ (xaQ.length : Int) then (some ((⟨#[]⟩ : ByteArray), ([] : List (S63)), ([] : List (S27)), false)) else (if 0 ≤ (rd x1 x12) then (if (rd x1 x12) < (xaQ.length : Int) then (arboretref06_Get.l0 k x1 x11 (wrap64 (x12 + 1)) ((rd_T27 xaQ (rd x1 x12)).f0) ((rd_T27 xaQ (rd x1 x12)).f1) ((rd_T27 xaQ (rd x1 x12)).f2)) else (none)) else (none)))) else (none)) else (none)) else (some (xcq, xbQ, xaQ, true))
def arboretref06_Get.f (k : Nat) (a0_0 : Int) (l0_1 : List (S82)) (a0_2 : ByteArray) (l0_3 : List (S63)) (l0_4 : List (S27)) (l1 : List Int) : Option (ByteArray × (List (S63)) × (List (S27)) × Bool) := arboretref06_Get.l0 k l1 (l1.length : Int) 0 a0_2 l0_3 l0_4
def arboretref06_Get.T5 : Bool × List (List Nat × List Nat) := (true, [([], []), ([], []), ([0, 1], [0, 1]), ([2], [2]), ([3], [3]), ([4], [4]), ([5], [5]), ([5], [5]), ([6, 7, 5], [5, 6, 7]), ([8, 5], [5, 8]), ([5], [5]), ([10, 5], [5, 10]), ([11, 5], [5, 11]), ([9, 12, 5], [5, 9, 12]), ([5, 13], [5, 13])])
def arboretref06_Get.B5 : List Nat := [0, 0, 3, 7, 15, 31, 63, 63, 255, 511, 63, 1087, 3135, 8191, 16383]
theorem arboretref06_Get.tab5 : rtab .any (opsOf Try.f12 5) = arboretref06_Get.T5 := by kernel_rfl
theorem arboretref06_Get.bits5 : waitsOk arboretref06_Get.T5.2 arboretref06_Get.B5 = true := by kernel_rfl
def arboretref06_Get.T7 : Bool × List (List Nat × List Nat) := (true, [([], []), ([0], [0]), ([], []), ([], []), ([2, 3], [2, 3]), ([4], [4]), ([1, 5], [1, 5]), ([6], [6]), ([7, 0, 1, 2, 3, 4, 5, 6, 7], [7])])
def arboretref06_Get.B7 : List Nat := [0, 1, 0, 0, 12, 28, 63, 127, 255]
theorem arboretref06_Get.tab7 : rtab .any (opsOf Try.f12 7) = arboretref06_Get.T7 := by kernel_rfl
theorem arboretref06_Get.bits7 : waitsOk arboretref06_Get.T7.2 arboretref06_Get.B7 = true := by kernel_rfl
end Go.Proofs.Ytkopmkinlanhoaa.PB

namespace Go.Proofs.Ytkopmkinlanhoaa.PB
open Go.RowKit Go.Proofs.YtkopmkinlanhoaaW.PrintWords Go.Proofs.YtkopmkinlanhoaaW.PrintLast Go.Proofs.YtkopmkinlanhoaaW.PrintMore
attribute [local go_sem] max2_int min2_int max_two min_two max_three min_three max_four min_four
set_option maxHeartbeats 8000000 in
set_option maxRecDepth 100000 in
theorem arboretref06_Get.calls (k : Nat) (a0_0 : Int) (A0_1 : Option Addr) (c0_1 : Nat) (l0_1 : List (S82)) (a0_2 : ByteArray) (P0_3_ : Nat → Prop) (A0_3 : Option Addr) (c0_3 : Nat) (l0_3 : List (S63)) (P0_4_ : Nat → Prop) (A0_4 : Option Addr) (c0_4 : Nat) (l0_4 : List (S27)) (A1 : Option Addr) (c1 : Nat) (l1 : List Int) (r1 : ByteArray) (r2 : List (S63)) (r3 : List (S27)) (r4 : Bool) (w : World) (hr0_1 : Kd.C k82 w A0_1 l0_1.length l0_1) (hc0_1 : l0_1.length ≤ c0_1) (hs0_3 : Kd.V k63 63 w w.heap.size (fun k_ => P0_3_ k_) (.slice A0_3 l0_3.length c0_3) l0_3) (hs0_4 : Kd.V k27 27 w w.heap.size (fun k_ => P0_4_ k_) (.slice A0_4 l0_4.length c0_4) l0_4) (hr1 : Kd.C (Kd.int .i64) w A1 l1.length l1) (hc1 : l1.length ≤ c1) (h : arboretref06_Get.f k a0_0 l0_1 a0_2 l0_3 l0_4 l1 = some (r1, r2, r3, r4)) :
  Calls Try.prog 12 #[.agg #[.int .u32 a0_0, .slice A0_1 l0_1.length c0_1, .string a0_2, .slice A0_3 l0_3.length c0_3, .slice A0_4 l0_4.length c0_4], .slice A1 l1.length c1] w fun e w' => ∃ v1_ v2_ : Value, e = .returned (.tuple #[.agg #[.string r1, v1_, v2_], .bool r4]) ∧ Kd.V k63 63 w' w.heap.size (fun k_ => ((P0_3_ k_ ∨ P0_4_ k_) ∨ w.heap.size ≤ k_)) v1_ r2 ∧ Kd.V k27 27 w' w.heap.size (fun k_ => ((P0_3_ k_ ∨ P0_4_ k_) ∨ w.heap.size ≤ k_)) v2_ r3 ∧ Below w.heap.size w w' := by
 have hu29 := Try.underlying29; have hu27 := Try.underlying27; have HR0_1 := Ak hr0_1; have HC0_1 := Ak hc0_1; clear hr0_1 hc0_1; have HO0_3 := Zq253; have HO0_4 := Zq254; have HR1 := Ak hr1; have HC1 := Ak hc1; clear hr1 hc1; have HB := Zq151; have H : (arboretref06_Get.l0 k l1 (l1.length : Int) 0 a0_2 l0_3 l0_4) = some (r1, r2, r3, r4) := h; clear h; have H' := Ak H; clear H
 go_enter Try.func12, Try.ntmps12
 go_wp2_with (first | ((with_reducible refine gate_dst (N := 2) rfl ?_); (try (refine gate_guard Zq3 ?_; dsimp only)); refine box_event ?hg (N := 2) ?hd (cs := #[.int .u32 a0_0, .slice A0_1 l0_1.length c0_1, .string a0_2, .slice A0_3 l0_3.length c0_3, .slice A0_4 l0_4.length c0_4]) (t := 29) ?hr ?_; (case hd | hg => rfl); (case hr => first | (go_simp; done) | (go_simp; rfl)); intro gbaX hg w3 hbox hb; have n0_ := Ak (Kd.V_below (Kd.V_elderB Zq68 gbaX (Nat.le_of_eq hg.symm)) hb); have n1_ := Ak (Kd.V_below (Kd.V_elderB Zq69 gbaX (Nat.le_of_eq hg.symm)) hb); have n2_ := Zq142; have n3_ := Ak (hbox); have n4_ := Ak ((by rw [hg]; exact (below_size Zq6) : w.heap.size ≤ gbaX)); have n5_ := Ak ((by rw [hg]; exact (below_size Zq6) : w.heap.size ≤ gbaX)); clear HO0_3 HO0_4 HB; have HO0_3 := n0_; have HO0_4 := n1_; have HB := n2_; have BKaX := n3_; have GWaX := n4_; have GEaX := n5_; clear n0_ n1_ n2_ n3_ n4_ n5_ hb hbox hg) | ((with_reducible refine gate_dst (N := 4) rfl ?_); (try (refine gate_guard Zq3 ?_; dsimp only)); refine box_event ?hg (N := 4) ?hd (cs := #[.string (⟨#[]⟩ : ByteArray), .slice none 0 0, .slice none 0 0]) (t := 27) ?hr ?_; (case hd | hg => rfl); (case hr => first | (go_simp; done) | (go_simp; rfl)); intro gbaK hg w4 hbox hb; have n0_ := Ak (Kd.V_below (Kd.V_elderB Zq68 gbaK (Nat.le_of_eq hg.symm)) hb); have n1_ := Ak (Kd.V_below (Kd.V_elderB Zq69 gbaK (Nat.le_of_eq hg.symm)) hb); have n2_ := Zq251; have n3_ := Ak (below_step (by repeat (first | (with_reducible first | exact HB.out | apply below_alloc | apply pw_below_drewN | apply below_drew1 | refine below_set ?_ GEaX.out) | exact HB.out)) hb); have n4_ := Ak (hbox); have n5_ := Ak ((by rw [hg]; exact (below_size (by repeat (first | (with_reducible first | exact HB.out | apply below_alloc | apply pw_below_drewN | apply below_drew1 | refine below_set ?_ GEaX.out) | exact HB.out))) : w.heap.size ≤ gbaK)); have n6_ := Ak ((by rw [hg]; exact (below_size (by repeat (first | (with_reducible first | exact HB.out | apply below_alloc | apply pw_below_drewN | apply below_drew1 | refine below_set ?_ GEaX.out) | exact HB.out))) : w.heap.size ≤ gbaK)); have n7_ := Ak ((by rw [hg]; exact Nat.ne_of_lt Zq178 : gbaX ≠ gbaK)); have n8_ := Ak ((by rw [hg]; exact Nat.ne_of_gt Zq178 : gbaK ≠ gbaX)); clear HO0_3 HO0_4 BKaX HB; have HO0_3 := n0_; have HO0_4 := n1_; have BKaX := n2_; have HB := n3_; have BKaK := n4_; have GWaK := n5_; have GEaK := n6_; have NB286_287 := n7_; have NB287_286 := n8_; clear n0_ n1_ n2_ n3_ n4_ n5_ n6_ n7_ n8_ hb hbox hg; have hnb5 := NB286_287.out; have hnc5 := NB287_286.out; have hcz6_0 : w4.cell? ⟨gbaX, 0, none⟩ = some (.int .u32 a0_0) := (blk_cell BKaX.out 0).trans rfl; have hcz6_1 : w4.cell? ⟨gbaX, 1, none⟩ = some (.slice A0_1 l0_1.length c0_1) := (blk_cell BKaX.out 1).trans rfl; have hcz6_2 : w4.cell? ⟨gbaX, 2, none⟩ = some (.string a0_2) := (blk_cell BKaX.out 2).trans rfl; have hcz6_3 : w4.cell? ⟨gbaX, 3, none⟩ = some (.slice A0_3 l0_3.length c0_3) := (blk_cell BKaX.out 3).trans rfl; have hcz6_4 : w4.cell? ⟨gbaX, 4, none⟩ = some (.slice A0_4 l0_4.length c0_4) := (blk_cell BKaX.out 4).trans rfl; have hfz6_0 := blk_frozen BKaX.out 0; have hfz6_1 := blk_frozen BKaX.out 1; have hfz6_2 := blk_frozen BKaX.out 2; have hfz6_3 := blk_frozen BKaX.out 3; have hfz6_4 := blk_frozen BKaX.out 4) | ((with_reducible refine gate_dst (N := 6) rfl ?_); (try (refine gate_guard Zq3 ?_; dsimp only)); refine box_event ?hg (N := 6) ?hd (cs := #[.string (⟨#[]⟩ : ByteArray), .slice none 0 0, .slice none 0 0]) (t := 27) ?hr ?_; (case hd | hg => rfl); (case hr => first | (go_simp; done) | (go_simp; rfl)); intro gbar hg w7 hbox hb; have n0_ := Ak (Kd.V_below (Kd.V_elderB Zq68 gbar (Nat.le_of_eq hg.symm)) hb); have n1_ := Ak (Kd.V_below (Kd.V_elderB Zq69 gbar (Nat.le_of_eq hg.symm)) hb); have n2_ := Zq251; have n3_ := Ak (blk_below (g := gbaK) (o := .cells #[.string (⟨#[]⟩ : ByteArray), .slice none 0 0, .slice none 0 0] 27 (0, 0)) (by (with_reducible repeat (first | refine blk_drewN ?_ _ | refine blk_drew ?_ | refine blk_alloc ?_ _)); exact BKaK.out) hb); have n4_ := Ak (below_step Zq128 hb); have n5_ := Ak (hbox); have n6_ := Ak ((by rw [hg]; exact (below_size Zq128) : w.heap.size ≤ gbar)); have n7_ := Ak ((by rw [hg]; exact (below_size Zq128) : w.heap.size ≤ gbar)); have n8_ := Ak ((by rw [hg]; exact Nat.ne_of_lt Zq178 : gbaX ≠ gbar)); have n9_ := Ak ((by rw [hg]; exact Nat.ne_of_gt Zq178 : gbar ≠ gbaX)); have n10_ := Ak ((by rw [hg]; exact Nat.ne_of_lt (blk_lt (g := gbaK) (o := .cells #[.string (⟨#[]⟩ : ByteArray), .slice none 0 0, .slice none 0 0] 27 (0, 0)) (by (with_reducible repeat (first | refine blk_drewN ?_ _ | refine blk_drew ?_ | refine blk_alloc ?_ _)); exact BKaK.out)) : gbaK ≠ gbar)); have n11_ := Ak ((by rw [hg]; exact Nat.ne_of_gt (blk_lt (g := gbaK) (o := .cells #[.string (⟨#[]⟩ : ByteArray), .slice none 0 0, .slice none 0 0] 27 (0, 0)) (by (with_reducible repeat (first | refine blk_drewN ?_ _ | refine blk_drew ?_ | refine blk_alloc ?_ _)); exact BKaK.out)) : gbar ≠ gbaK)); clear HO0_3 HO0_4 BKaX BKaK HB; have HO0_3 := n0_; have HO0_4 := n1_; have BKaX := n2_; have BKaK := n3_; have HB := n4_; have BKar := n5_; have GWar := n6_; have GEar := n7_; have NB286_288 := n8_; have NB288_286 := n9_; have NB287_288 := n10_; have NB288_287 := n11_; clear n0_ n1_ n2_ n3_ n4_ n5_ n6_ n7_ n8_ n9_ n10_ n11_ hb hbox hg; have hnb8 := NB288_286.out; have hnc8 := NB286_288.out; have hnb9 := NB288_287.out; have hnc9 := NB287_288.out; have hcz10_0 : w7.cell? ⟨gbar, 0, none⟩ = some (.string (⟨#[]⟩ : ByteArray)) := (blk_cell BKar.out 0).trans rfl; have hcz10_1 : w7.cell? ⟨gbar, 1, none⟩ = some (.slice none 0 0) := (blk_cell BKar.out 1).trans rfl; have hcz10_2 : w7.cell? ⟨gbar, 2, none⟩ = some (.slice none 0 0) := (blk_cell BKar.out 2).trans rfl; have hfz10_0 := blk_frozen BKar.out 0; have hfz10_1 := blk_frozen BKar.out 1; have hfz10_2 := blk_frozen BKar.out 2))
 go_loopg [12] k (fun kq v12 w' => ∃ (x12_1 : Int) (xdt_1 : ByteArray) (xcq_1 : ByteArray) (xbQ_1 : List (S63)) (xaQ_1 : List (S27)) (u289001 : Value) (u289002 : Value), v12 = .int .i64 x12_1 ∧ Aside0 (arboretref06_Get.l0 kq l1 (l1.length : Int) x12_1 xcq_1 xbQ_1 xaQ_1 = some (r1, r2, r3, r4)) ∧ Aside0 (kq ≤ k) ∧ Aside0 (Kd.V k63 63 w' w.heap.size (fun k_ => ((P0_3_ k_ ∨ P0_4_ k_) ∨ w.heap.size ≤ k_) ∧ k_ ≠ gbaX ∧ k_ ≠ gbaK ∧ k_ ≠ gbar) (.slice A0_3 l0_3.length c0_3) l0_3) ∧ Aside0 (Kd.V k27 27 w' w.heap.size (fun k_ => ((P0_3_ k_ ∨ P0_4_ k_) ∨ w.heap.size ≤ k_) ∧ k_ ≠ gbaX ∧ k_ ≠ gbaK ∧ k_ ≠ gbar) (.slice A0_4 l0_4.length c0_4) l0_4) ∧ Aside0 (Kd.V k63 63 w' w.heap.size (fun k_ => ((P0_3_ k_ ∨ P0_4_ k_) ∨ w.heap.size ≤ k_) ∧ k_ ≠ gbaX ∧ k_ ≠ gbaK ∧ k_ ≠ gbar) u289001 xbQ_1) ∧ Aside0 (Kd.V k27 27 w' w.heap.size (fun k_ => ((P0_3_ k_ ∨ P0_4_ k_) ∨ w.heap.size ≤ k_) ∧ k_ ≠ gbaX ∧ k_ ≠ gbaK ∧ k_ ≠ gbar) u289002 xaQ_1) ∧ Aside0 (w'.heap[gbaX]? = some (.cells #[.int .u32 a0_0, (.slice A0_1 l0_1.length c0_1), .string a0_2, (.slice A0_3 l0_3.length c0_3), (.slice A0_4 l0_4.length c0_4)] 29 (0, 0))) ∧ Aside0 (w'.heap[gbaK]? = some (.cells #[.string xdt_1, (.slice none 0 0), (.slice none 0 0)] 27 (0, 0))) ∧ Aside0 (w'.heap[gbar]? = some (.cells #[.string xcq_1, u289001, u289002] 27 (0, 0))) ∧ Aside0 (Below w.heap.size w w'))
 case atStart => exact ⟨(0), ((⟨#[]⟩ : ByteArray)), (a0_2), (l0_3), (l0_4), (.slice A0_3 l0_3.length c0_3), (.slice A0_4 l0_4.length c0_4), Zq7, H', ⟨Nat.le_refl _⟩, ⟨by (with_reducible repeat (first | apply Kd.V_alloc | apply Kd.V_drewN | apply Kd.V_drew)); exact Kd.V_mono (Kd.V_far (p := ⟨gbar, 2, none⟩) (Kd.V_far (p := ⟨gbar, 1, none⟩) (Kd.V_far (p := ⟨gbar, 0, none⟩) (Kd.V_mono HO0_3.out (fun k_ hk => (⟨hk, hk.2⟩ : _ ∧ k_ ≠ gbar))) (fun _ hk => hk.2) (.string a0_2)) (fun _ hk => hk.2) (.slice A0_3 l0_3.length c0_3)) (fun _ hk => hk.2) (.slice A0_4 l0_4.length c0_4)) (fun _ hk => ⟨hk.1.1.1.1, ⟨hk.1.1.1.2, ⟨hk.1.1.2, hk.1.2⟩⟩⟩)⟩, ⟨by (with_reducible repeat (first | apply Kd.V_alloc | apply Kd.V_drewN | apply Kd.V_drew)); exact Kd.V_mono (Kd.V_far (p := ⟨gbar, 2, none⟩) (Kd.V_far (p := ⟨gbar, 1, none⟩) (Kd.V_far (p := ⟨gbar, 0, none⟩) (Kd.V_mono HO0_4.out (fun k_ hk => (⟨hk, hk.2⟩ : _ ∧ k_ ≠ gbar))) (fun _ hk => hk.2) (.string a0_2)) (fun _ hk => hk.2) (.slice A0_3 l0_3.length c0_3)) (fun _ hk => hk.2) (.slice A0_4 l0_4.length c0_4)) (fun _ hk => ⟨hk.1.1.1.1, ⟨hk.1.1.1.2, ⟨hk.1.1.2, hk.1.2⟩⟩⟩)⟩, ⟨by (with_reducible repeat (first | apply Kd.V_alloc | apply Kd.V_drewN | apply Kd.V_drew)); exact Kd.V_mono (Kd.V_far (p := ⟨gbar, 2, none⟩) (Kd.V_far (p := ⟨gbar, 1, none⟩) (Kd.V_far (p := ⟨gbar, 0, none⟩) (Kd.V_mono HO0_3.out (fun k_ hk => (⟨hk, hk.2⟩ : _ ∧ k_ ≠ gbar))) (fun _ hk => hk.2) (.string a0_2)) (fun _ hk => hk.2) (.slice A0_3 l0_3.length c0_3)) (fun _ hk => hk.2) (.slice A0_4 l0_4.length c0_4)) (fun _ hk => ⟨hk.1.1.1.1, ⟨hk.1.1.1.2, ⟨hk.1.1.2, hk.1.2⟩⟩⟩)⟩, ⟨by (with_reducible repeat (first | apply Kd.V_alloc | apply Kd.V_drewN | apply Kd.V_drew)); exact Kd.V_mono (Kd.V_far (p := ⟨gbar, 2, none⟩) (Kd.V_far (p := ⟨gbar, 1, none⟩) (Kd.V_far (p := ⟨gbar, 0, none⟩) (Kd.V_mono HO0_4.out (fun k_ hk => (⟨hk, hk.2⟩ : _ ∧ k_ ≠ gbar))) (fun _ hk => hk.2) (.string a0_2)) (fun _ hk => hk.2) (.slice A0_3 l0_3.length c0_3)) (fun _ hk => hk.2) (.slice A0_4 l0_4.length c0_4)) (fun _ hk => ⟨hk.1.1.1.1, ⟨hk.1.1.1.2, ⟨hk.1.1.2, hk.1.2⟩⟩⟩)⟩, ⟨by (with_reducible repeat (first | refine blk_drewN ?_ _ | refine blk_drew ?_ | refine blk_alloc ?_ _)); refine blk_far ?_ NB286_288.out _; (with_reducible repeat (first | refine blk_drewN ?_ _ | refine blk_drew ?_ | refine blk_alloc ?_ _)); refine blk_far ?_ NB286_288.out _; (with_reducible repeat (first | refine blk_drewN ?_ _ | refine blk_drew ?_ | refine blk_alloc ?_ _)); refine blk_far ?_ NB286_288.out _; (with_reducible repeat (first | refine blk_drewN ?_ _ | refine blk_drew ?_ | refine blk_alloc ?_ _)); exact BKaX.out⟩, ⟨by (with_reducible repeat (first | refine blk_drewN ?_ _ | refine blk_drew ?_ | refine blk_alloc ?_ _)); refine blk_far ?_ NB287_288.out _; (with_reducible repeat (first | refine blk_drewN ?_ _ | refine blk_drew ?_ | refine blk_alloc ?_ _)); refine blk_far ?_ NB287_288.out _; (with_reducible repeat (first | refine blk_drewN ?_ _ | refine blk_drew ?_ | refine blk_alloc ?_ _)); refine blk_far ?_ NB287_288.out _; (with_reducible repeat (first | refine blk_drewN ?_ _ | refine blk_drew ?_ | refine blk_alloc ?_ _)); exact BKaK.out⟩, ⟨by (with_reducible repeat (first | refine blk_drewN ?_ _ | refine blk_drew ?_ | refine blk_alloc ?_ _)); refine blk_put (cs := #[.string a0_2, .slice A0_3 l0_3.length c0_3, .slice none 0 0]) ?_ 2 _ rfl; (with_reducible repeat (first | refine blk_drewN ?_ _ | refine blk_drew ?_ | refine blk_alloc ?_ _)); refine blk_put (cs := #[.string a0_2, .slice none 0 0, .slice none 0 0]) ?_ 1 _ rfl; (with_reducible repeat (first | refine blk_drewN ?_ _ | refine blk_drew ?_ | refine blk_alloc ?_ _)); refine blk_put (cs := #[.string (⟨#[]⟩ : ByteArray), .slice none 0 0, .slice none 0 0]) ?_ 0 _ rfl; (with_reducible repeat (first | refine blk_drewN ?_ _ | refine blk_drew ?_ | refine blk_alloc ?_ _)); exact BKar.out⟩, ⟨Zq94⟩⟩
 case round =>
  clear H'
  try clear c1
  try clear p2
  try clear c5
  try clear c8
  try clear c9
  try clear hcz10_0
  try clear hcz10_1
  try clear hcz10_2
  try clear hcz6_0
  try clear hcz6_1
  try clear hcz6_2
  try clear hcz6_3
  try clear hcz6_4
  try clear hfz10_0
  try clear hfz10_1
  try clear hfz10_2
  try clear hfz6_0
  try clear hfz6_1
  try clear hfz6_2
  try clear hfz6_3
  try clear hfz6_4
  obtain ⟨x12_1, xdt_1, xcq_1, xbQ_1, xaQ_1, u289001, u289002, rfl, HA, HK1, HO_cl, HO_cm, HO_bQ, HO_aQ, BKaX, BKaK, BKar, HB⟩ := hrel
  cases gk with
  | zero => exact absurd HA.out (by simp [arboretref06_Get.l0])
  | succ k1 =>
   have H := HA.out; clear HA; simp only [arboretref06_Get.l0] at H
   by_cases c11 : x12_1 < (l1.length : Int)
   ·rw [if_pos c11] at H; have c11b0 : decide (x12_1 < (l1.length : Int)) = true := decide_eq_true c11; clear c11
    by_cases c12 : 0 ≤ x12_1
    ·rw [if_pos c12] at H; have c12b0 : decide (0 ≤ x12_1) = true := decide_eq_true c12; clear c12
     by_cases c13 : x12_1 < (l1.length : Int)
     ·rw [if_pos c13] at H; have c13b0 : decide (x12_1 < (l1.length : Int)) = true := decide_eq_true c13; clear c13
      by_cases c14 : (rd l1 x12_1) < 0
      ·rw [if_pos c14] at H; have c14b0 : decide ((rd l1 x12_1) < 0) = true := decide_eq_true c14; clear c14; simp only [Option.some.injEq, Prod.mk.injEq] at H; obtain ⟨rfl, rfl, rfl, rfl⟩ := H
       try go_wp2
       have n0_ := Ak (Kd.V_drew HO_cl.out); have n1_ := Ak (Kd.V_drew HO_cm.out); have n2_ := Ak (Kd.V_drew HO_bQ.out); have n3_ := Ak (Kd.V_drew HO_aQ.out); have n4_ := Ak (blk_drew BKaX.out); have n5_ := Ak (blk_drew BKaK.out); have n6_ := Ak (blk_drew BKar.out); have n7_ := Zq208; clear HO_cl HO_cm HO_bQ HO_aQ BKaX BKaK BKar HB; have HO_cl := n0_; have HO_cm := n1_; have HO_bQ := n2_; have HO_aQ := n3_; have BKaX := n4_; have BKaK := n5_; have BKar := n6_; have HB := n7_; clear n0_ n1_ n2_ n3_ n4_ n5_ n6_ n7_; have p289 : 0 ≤ (x12_1 : Int) := of_decide_eq_true Zq5; have q289 : x12_1 < (l1.length : Int) := of_decide_eq_true Zq5; obtain ⟨adcY, e289, hx289_0⟩ := Kd.at_int HR1.out x12_1 p289 q289; have hw289_0 := hx289_0
       cases e289
       replace hx289_0 := (HB.out.cell (World.block_lt_of_cell? w _ hx289_0)).trans hx289_0; replace p289 := eq_true p289; replace q289 := eq_true q289; refine start_ (n := 15) (S := fun w' => w'.cell? (adcY.add (x12_1).toNat) = some (.int .i64 (rd l1 x12_1))) (ds := []) #[false, false, false, false, false, false, false, false, false, false, false, false, false, false, false] Zq2 rfl rfl (((HB.out.cell (World.block_lt_of_cell? w _ hw289_0)).trans hw289_0)) (fun hHeld => ?_); refine with_tabW arboretref06_Get.tab5 arboretref06_Get.bits5 (fun HT_ HW_ => ?_); generalize wr.drew = w15 at HO_cl HO_cm HO_bQ HO_aQ BKaX BKaK BKar HB hx289_0 hHeld ⊢; refine pure_ (i := 0) (N := some 15) (v := ?_) (a' := ?_) #[true, false, false, false, false, false, false, false, false, false, false, false, false, false, false] rfl rfl (any_of HT_.out Zq2) (fun _ _ _ h => h) (Or.inl ⟨Zq3, ?_⟩) ?_ ?_
       rotate_left
       ·intro w'
        go_simp
        with_reducible rfl
       rotate_left
       ·simp only [Sx]
        rfl
       refine pure_ (i := 1) (N := some 16) (v := ?_) (a' := ?_) #[true, true, false, false, false, false, false, false, false, false, false, false, false, false, false] rfl rfl (any_of HT_.out Zq2) (fun _ _ _ h => h) (Or.inl ⟨Zq3, ?_⟩) ?_ ?_
       rotate_left
       ·intro w'
        go_simp
        with_reducible rfl
       rotate_left
       ·simp only [Sx]
        rfl
       refine pure_ (i := 2) (N := some 17) (v := ?_) (a' := ?_) #[true, true, true, false, false, false, false, false, false, false, false, false, false, false, false] rfl rfl (any_of HT_.out Zq2) (fun _ _ _ h => h) (Or.inl ⟨Zq3, ?_⟩) ?_ ?_
       rotate_left
       ·intro w'
        go_simp
        with_reducible rfl
       rotate_left
       ·simp only [Sx]
        rfl
       refine take_ (i := 3) (N := some 18) (v := ?_) (a' := ?_) #[true, true, true, true, false, false, false, false, false, false, false, false, false, false, false] rfl rfl (take_ofW HT_.out HW_.out Zq2) (fun _ _ _ h => h) (Or.inl ⟨Zq3, ?_⟩) hHeld ?_ ?_
       rotate_left
       ·intro w' s0
        go_simp
        with_reducible rfl
       rotate_left
       ·simp only [Sx]
        rfl
       refine pure_ (i := 4) (N := some 19) (v := ?_) (a' := ?_) #[true, true, true, true, true, false, false, false, false, false, false, false, false, false, false] rfl rfl (any_of HT_.out Zq2) (fun _ _ _ h => h) (Or.inl ⟨Zq3, ?_⟩) ?_ ?_
       rotate_left
       ·intro w'
        go_simp
        with_reducible rfl
       rotate_left
       ·simp only [Sx]
        rfl
       refine pure_ (i := 5) (N := some 20) (v := ?_) (a' := ?_) #[true, true, true, true, true, true, false, false, false, false, false, false, false, false, false] rfl rfl (any_of HT_.out Zq2) (fun _ _ _ h => h) (Or.inl ⟨Zq3, ?_⟩) ?_ ?_
       rotate_left
       ·intro w'
        go_simp
        with_reducible rfl
       rotate_left
       ·simp only [Sx]
        rfl
       refine pure_ (i := 6) (N := some 21) (v := undef) (a' := ?_) #[true, true, true, true, true, true, true, false, false, false, false, false, false, false, false] rfl rfl (any_of HT_.out Zq2) (fun _ _ _ h => h) (Or.inr ⟨Zq3, rfl⟩) ?_ ?_
       rotate_left
       ·simp only [Sx]
        rfl
       refine pure_ (i := 7) (N := some 22) (v := undef) (a' := ?_) #[true, true, true, true, true, true, true, true, false, false, false, false, false, false, false] rfl rfl (any_of HT_.out Zq2) (fun _ _ _ h => h) (Or.inr ⟨Zq3, rfl⟩) ?_ ?_
       rotate_left
       ·simp only [Sx]
        rfl
       refine pure_ (i := 8) (N := some 23) (v := undef) (a' := ?_) #[true, true, true, true, true, true, true, true, true, false, false, false, false, false, false] rfl rfl (any_of HT_.out Zq2) (fun _ _ _ h => h) (Or.inr ⟨Zq3, rfl⟩) ?_ ?_
       rotate_left
       ·simp only [Sx]
        rfl
       refine pure_ (i := 9) (N := some 24) (v := undef) (a' := ?_) #[true, true, true, true, true, true, true, true, true, true, false, false, false, false, false] rfl rfl (any_of HT_.out Zq2) (fun _ _ _ h => h) (Or.inr ⟨Zq3, rfl⟩) ?_ ?_
       rotate_left
       ·simp only [Sx]
        rfl
       refine pure_ (i := 10) (N := some 25) (v := undef) (a' := ?_) #[true, true, true, true, true, true, true, true, true, true, true, false, false, false, false] rfl rfl (any_of HT_.out Zq2) (fun _ _ _ h => h) (Or.inr ⟨Zq3, rfl⟩) ?_ ?_
       rotate_left
       ·simp only [Sx]
        rfl
       refine pure_ (i := 11) (N := some 26) (v := undef) (a' := ?_) #[true, true, true, true, true, true, true, true, true, true, true, true, false, false, false] rfl rfl (any_of HT_.out Zq2) (fun _ _ _ h => h) (Or.inr ⟨Zq3, rfl⟩) ?_ ?_
       rotate_left
       ·simp only [Sx]
        rfl
       refine pure_ (i := 12) (N := some 27) (v := undef) (a' := ?_) #[true, true, true, true, true, true, true, true, true, true, true, true, true, false, false] rfl rfl (any_of HT_.out Zq2) (fun _ _ _ h => h) (Or.inr ⟨Zq3, rfl⟩) ?_ ?_
       rotate_left
       ·simp only [Sx]
        rfl
       refine pure_ (i := 13) (N := some 28) (v := undef) (a' := ?_) #[true, true, true, true, true, true, true, true, true, true, true, true, true, true, false] rfl rfl (any_of HT_.out Zq2) (fun _ _ _ h => h) (Or.inr ⟨Zq3, rfl⟩) ?_ ?_
       rotate_left
       ·simp only [Sx]
        rfl
       refine pure_ (i := 14) (N := some 29) (v := ?_) (a' := ?_) #[true, true, true, true, true, true, true, true, true, true, true, true, true, true, true] rfl rfl (any_of HT_.out Zq2) (fun _ _ _ h => h) (Or.inl ⟨Zq3, ?_⟩) ?_ ?_
       rotate_left
       ·intro w'
        go_simp
        with_reducible rfl
       rotate_left
       ·simp only [Sx]
        rfl
       refine done_ (done_of HT_.out Zq2) ?_; have hnb16 := NB287_286.out; have hnc16 := NB286_287.out; have hnb17 := NB287_288.out; have hnc17 := NB288_287.out; have hcz18_0 : w15.cell? ⟨gbaK, 0, none⟩ = some (.string xdt_1) := (blk_cell BKaK.out 0).trans rfl; have hcz18_1 : w15.cell? ⟨gbaK, 1, none⟩ = some (.slice none 0 0) := (blk_cell BKaK.out 1).trans rfl; have hcz18_2 : w15.cell? ⟨gbaK, 2, none⟩ = some (.slice none 0 0) := (blk_cell BKaK.out 2).trans rfl; have hfz18_0 := blk_frozen BKaK.out 0; have hfz18_1 := blk_frozen BKaK.out 1; have hfz18_2 := blk_frozen BKaK.out 2
       try go_wp2
       refine bodyPost_ret (results_ct rfl _ _ gbaK 27 #[.string (⟨#[]⟩ : ByteArray), .slice none 0 0, .slice none 0 0] (0, 0) _ rfl (by (with_reducible repeat (first | refine blk_drewN ?_ _ | refine blk_drew ?_ | refine blk_alloc ?_ _)); refine blk_put (cs := #[.string (⟨#[]⟩ : ByteArray), .slice none 0 0, .slice none 0 0]) ?_ 2 _ rfl; (with_reducible repeat (first | refine blk_drewN ?_ _ | refine blk_drew ?_ | refine blk_alloc ?_ _)); refine blk_put (cs := #[.string (⟨#[]⟩ : ByteArray), .slice none 0 0, .slice none 0 0]) ?_ 1 _ rfl; (with_reducible repeat (first | refine blk_drewN ?_ _ | refine blk_drew ?_ | refine blk_alloc ?_ _)); refine blk_put (cs := #[.string xdt_1, .slice none 0 0, .slice none 0 0]) ?_ 0 _ rfl; (with_reducible repeat (first | refine blk_drewN ?_ _ | refine blk_drew ?_ | refine blk_alloc ?_ _)); exact BKaK.out) Try.underlying27 rfl Zq2) rfl ?_
       exact ⟨_, _, Zq13, Kd.V_nil _ _ _ _ _, Kd.V_nil _ _ _ _ _, Zq94⟩
      ·rw [if_neg c14] at H; have c14b0 : decide ((rd l1 x12_1) < 0) = false := decide_eq_false c14; clear c14
       by_cases c19 : (rd l1 x12_1) ≥ (xaQ_1.length : Int)
       ·rw [if_pos c19] at H; have c19b0 : decide ((xaQ_1.length : Int) ≤ (rd l1 x12_1)) = true := decide_eq_true c19; clear c19; simp only [Option.some.injEq, Prod.mk.injEq] at H; obtain ⟨rfl, rfl, rfl, rfl⟩ := H
        try go_wp2
        have n0_ := Ak (Kd.V_drew HO_cl.out); have n1_ := Ak (Kd.V_drew HO_cm.out); have n2_ := Ak (Kd.V_drew HO_bQ.out); have n3_ := Ak (Kd.V_drew HO_aQ.out); have n4_ := Ak (blk_drew BKaX.out); have n5_ := Ak (blk_drew BKaK.out); have n6_ := Ak (blk_drew BKar.out); have n7_ := Zq208; clear HO_cl HO_cm HO_bQ HO_aQ BKaX BKaK BKar HB; have HO_cl := n0_; have HO_cm := n1_; have HO_bQ := n2_; have HO_aQ := n3_; have BKaX := n4_; have BKaK := n5_; have BKar := n6_; have HB := n7_; clear n0_ n1_ n2_ n3_ n4_ n5_ n6_ n7_; have p289 : 0 ≤ (x12_1 : Int) := of_decide_eq_true Zq5; have q289 : x12_1 < (l1.length : Int) := of_decide_eq_true Zq5; obtain ⟨adcY, e289, hx289_0⟩ := Kd.at_int HR1.out x12_1 p289 q289; have hw289_0 := hx289_0
        cases e289
        replace hx289_0 := (HB.out.cell (World.block_lt_of_cell? w _ hx289_0)).trans hx289_0; replace p289 := eq_true p289; replace q289 := eq_true q289; have p290 : 0 ≤ (x12_1 : Int) := of_decide_eq_true Zq5; have q290 : x12_1 < (l1.length : Int) := of_decide_eq_true Zq5; obtain ⟨adeQ, e290, hx290_0⟩ := Kd.at_int HR1.out x12_1 p290 q290; have hw290_0 := hx290_0
        obtain rfl : adcY = adeQ := (by injection e290)
        replace hx290_0 := (HB.out.cell (World.block_lt_of_cell? w _ hx290_0)).trans hx290_0; replace p290 := eq_true p290; replace q290 := eq_true q290; obtain ⟨Ao21, co21, eo21⟩ := Kd.V_slice HO_aQ.out
        (first | subst eo21 | (injection eo21 with f1_ f2_ f3_; have f4_ := f1_.symm; have f5_ := f3_.symm; clear f1_ f2_ f3_; subst f4_; subst f5_))
        refine start_ (n := 15) (S := fun w' => w'.cell? ⟨gbar, 0, none⟩ = some (.string xcq_1) ∧ w'.cell? ⟨gbar, 1, none⟩ = some (u289001) ∧ w'.cell? ⟨gbar, 2, none⟩ = some (.slice Ao21 xaQ_1.length co21) ∧ w'.cell? (adcY.add (x12_1).toNat) = some (.int .i64 (rd l1 x12_1)) ∧ w'.cell? (adcY.add (x12_1).toNat) = some (.int .i64 (rd l1 x12_1))) (ds := []) #[false, false, false, false, false, false, false, false, false, false, false, false, false, false, false] Zq2 rfl rfl ⟨(blk_cell BKar.out 0).trans rfl, (blk_cell BKar.out 1).trans rfl, (blk_cell BKar.out 2).trans rfl, ((HB.out.cell (World.block_lt_of_cell? w _ hw289_0)).trans hw289_0), ((HB.out.cell (World.block_lt_of_cell? w _ hw290_0)).trans hw290_0)⟩ (fun hHeld => ?_); refine with_tabW arboretref06_Get.tab5 arboretref06_Get.bits5 (fun HT_ HW_ => ?_); generalize wr.drew = w20 at HO_cl HO_cm HO_bQ HO_aQ BKaX BKaK BKar HB hx289_0 hx290_0 hHeld ⊢; refine pure_ (i := 0) (N := some 15) (v := ?_) (a' := ?_) #[true, false, false, false, false, false, false, false, false, false, false, false, false, false, false] rfl rfl (any_of HT_.out Zq2) (fun _ _ _ h => h) (Or.inl ⟨Zq3, ?_⟩) ?_ ?_
        rotate_left
        ·intro w'
         go_simp
         with_reducible rfl
        rotate_left
        ·simp only [Sx]
         rfl
        refine pure_ (i := 1) (N := some 16) (v := ?_) (a' := ?_) #[true, true, false, false, false, false, false, false, false, false, false, false, false, false, false] rfl rfl (any_of HT_.out Zq2) (fun _ _ _ h => h) (Or.inl ⟨Zq3, ?_⟩) ?_ ?_
        rotate_left
        ·intro w'
         go_simp
         with_reducible rfl
        rotate_left
        ·simp only [Sx]
         rfl
        refine pure_ (i := 2) (N := some 17) (v := ?_) (a' := ?_) #[true, true, true, false, false, false, false, false, false, false, false, false, false, false, false] rfl rfl (any_of HT_.out Zq2) (fun _ _ _ h => h) (Or.inl ⟨Zq3, ?_⟩) ?_ ?_
        rotate_left
        ·intro w'
         go_simp
         with_reducible rfl
        rotate_left
        ·simp only [Sx]
         rfl
        refine take_ (i := 3) (N := some 18) (v := ?_) (a' := ?_) #[true, true, true, true, false, false, false, false, false, false, false, false, false, false, false] rfl rfl (take_ofW HT_.out HW_.out Zq2) (fun _ _ _ h => h) (Or.inl ⟨Zq3, ?_⟩) hHeld ?_ ?_
        rotate_left
        ·rintro w' ⟨s0, s1, s2, s3, s4⟩
         go_simp
         with_reducible rfl
        rotate_left
        ·simp only [Sx]
         rfl
        refine pure_ (i := 4) (N := some 19) (v := ?_) (a' := ?_) #[true, true, true, true, true, false, false, false, false, false, false, false, false, false, false] rfl rfl (any_of HT_.out Zq2) (fun _ _ _ h => h) (Or.inl ⟨Zq3, ?_⟩) ?_ ?_
        rotate_left
        ·intro w'
         go_simp
         with_reducible rfl
        rotate_left
        ·simp only [Sx]
         rfl
        refine pure_ (i := 5) (N := some 20) (v := ?_) (a' := ?_) #[true, true, true, true, true, true, false, false, false, false, false, false, false, false, false] rfl rfl (any_of HT_.out Zq2) (fun _ _ _ h => h) (Or.inl ⟨Zq3, ?_⟩) ?_ ?_
        rotate_left
        ·intro w'
         go_simp
         with_reducible rfl
        rotate_left
        ·simp only [Sx]
         rfl
        refine pure_ (i := 6) (N := some 21) (v := ?_) (a' := ?_) #[true, true, true, true, true, true, true, false, false, false, false, false, false, false, false] rfl rfl (any_of HT_.out Zq2) (fun _ _ _ h => h) (Or.inl ⟨Zq3, ?_⟩) ?_ ?_
        rotate_left
        ·intro w'
         go_simp
         with_reducible rfl
        rotate_left
        ·simp only [Sx]
         rfl
        refine pure_ (i := 7) (N := some 22) (v := ?_) (a' := ?_) #[true, true, true, true, true, true, true, true, false, false, false, false, false, false, false] rfl rfl (any_of HT_.out Zq2) (fun _ _ _ h => h) (Or.inl ⟨Zq3, ?_⟩) ?_ ?_
        rotate_left
        ·intro w'
         go_simp
         with_reducible rfl
        rotate_left
        ·simp only [Sx]
         rfl
        refine pure_ (i := 8) (N := some 23) (v := ?_) (a' := ?_) #[true, true, true, true, true, true, true, true, true, false, false, false, false, false, false] rfl rfl (any_of HT_.out Zq2) (fun _ _ _ h => h) (Or.inl ⟨Zq3, ?_⟩) ?_ ?_
        rotate_left
        ·intro w'
         go_simp
         with_reducible rfl
        rotate_left
        ·simp only [Sx]
         rfl
        refine pure_ (i := 10) (N := some 25) (v := ?_) (a' := ?_) #[true, true, true, true, true, true, true, true, true, false, true, false, false, false, false] rfl rfl (any_of HT_.out Zq2) (fun _ _ _ h => h) (Or.inl ⟨Zq3, ?_⟩) ?_ ?_
        rotate_left
        ·intro w'
         go_simp
         with_reducible rfl
        rotate_left
        ·simp only [Sx]
         rfl
        refine take_ (i := 9) (N := some 24) (v := ?_) (a' := ?_) #[true, true, true, true, true, true, true, true, true, true, true, false, false, false, false] rfl rfl (take_ofW HT_.out HW_.out Zq2) (fun _ _ _ h => h) (Or.inl ⟨Zq3, ?_⟩) hHeld ?_ ?_
        rotate_left
        ·rintro w' ⟨s0, s1, s2, s3, s4⟩
         go_simp
         with_reducible rfl
        rotate_left
        ·simp only [Sx]
         rfl
        refine take_ (i := 11) (N := some 26) (v := ?_) (a' := ?_) #[true, true, true, true, true, true, true, true, true, true, true, true, false, false, false] rfl rfl (take_ofW HT_.out HW_.out Zq2) (fun _ _ _ h => h) (Or.inl ⟨Zq3, ?_⟩) hHeld ?_ ?_
        rotate_left
        ·rintro w' ⟨s0, s1, s2, s3, s4⟩
         go_simp
         with_reducible rfl
        rotate_left
        ·simp only [Sx]
         rfl
        refine pure_ (i := 12) (N := some 27) (v := ?_) (a' := ?_) #[true, true, true, true, true, true, true, true, true, true, true, true, true, false, false] rfl rfl (any_of HT_.out Zq2) (fun _ _ _ h => h) (Or.inl ⟨Zq3, ?_⟩) ?_ ?_
        rotate_left
        ·intro w'
         go_simp
         with_reducible rfl
        rotate_left
        ·simp only [Sx]
         rfl
        refine pure_ (i := 13) (N := some 28) (v := ?_) (a' := ?_) #[true, true, true, true, true, true, true, true, true, true, true, true, true, true, false] rfl rfl (any_of HT_.out Zq2) (fun _ _ _ h => h) (Or.inl ⟨Zq3, ?_⟩) ?_ ?_
        rotate_left
        ·intro w'
         go_simp
         with_reducible rfl
        rotate_left
        ·simp only [Sx]
         rfl
        refine pure_ (i := 14) (N := some 29) (v := ?_) (a' := ?_) #[true, true, true, true, true, true, true, true, true, true, true, true, true, true, true] rfl rfl (any_of HT_.out Zq2) (fun _ _ _ h => h) (Or.inl ⟨Zq3, ?_⟩) ?_ ?_
        rotate_left
        ·intro w'
         go_simp
         with_reducible rfl
        rotate_left
        ·simp only [Sx]
         rfl
        refine done_ (done_of HT_.out Zq2) ?_; have hnb22 := NB287_286.out; have hnc22 := NB286_287.out; have hnb23 := NB287_288.out; have hnc23 := NB288_287.out; have hcz24_0 : w20.cell? ⟨gbaK, 0, none⟩ = some (.string xdt_1) := (blk_cell BKaK.out 0).trans rfl; have hcz24_1 : w20.cell? ⟨gbaK, 1, none⟩ = some (.slice none 0 0) := (blk_cell BKaK.out 1).trans rfl; have hcz24_2 : w20.cell? ⟨gbaK, 2, none⟩ = some (.slice none 0 0) := (blk_cell BKaK.out 2).trans rfl; have hfz24_0 := blk_frozen BKaK.out 0; have hfz24_1 := blk_frozen BKaK.out 1; have hfz24_2 := blk_frozen BKaK.out 2
        try go_wp2
        refine bodyPost_ret (results_ct rfl _ _ gbaK 27 #[.string (⟨#[]⟩ : ByteArray), .slice none 0 0, .slice none 0 0] (0, 0) _ rfl (by (with_reducible repeat (first | refine blk_drewN ?_ _ | refine blk_drew ?_ | refine blk_alloc ?_ _)); refine blk_put (cs := #[.string (⟨#[]⟩ : ByteArray), .slice none 0 0, .slice none 0 0]) ?_ 2 _ rfl; (with_reducible repeat (first | refine blk_drewN ?_ _ | refine blk_drew ?_ | refine blk_alloc ?_ _)); refine blk_put (cs := #[.string (⟨#[]⟩ : ByteArray), .slice none 0 0, .slice none 0 0]) ?_ 1 _ rfl; (with_reducible repeat (first | refine blk_drewN ?_ _ | refine blk_drew ?_ | refine blk_alloc ?_ _)); refine blk_put (cs := #[.string xdt_1, .slice none 0 0, .slice none 0 0]) ?_ 0 _ rfl; (with_reducible repeat (first | refine blk_drewN ?_ _ | refine blk_drew ?_ | refine blk_alloc ?_ _)); exact BKaK.out) Try.underlying27 rfl Zq2) rfl ?_
        exact ⟨_, _, Zq13, Kd.V_nil _ _ _ _ _, Kd.V_nil _ _ _ _ _, Zq94⟩
       ·rw [if_neg c19] at H; have c19b0 : decide ((xaQ_1.length : Int) ≤ (rd l1 x12_1)) = false := decide_eq_false c19; clear c19
        by_cases c25 : 0 ≤ (rd l1 x12_1)
        ·rw [if_pos c25] at H; have c25b0 : decide (0 ≤ (rd l1 x12_1)) = true := decide_eq_true c25; clear c25
         by_cases c26 : (rd l1 x12_1) < (xaQ_1.length : Int)
         ·rw [if_pos c26] at H; have c26b0 : decide ((rd l1 x12_1) < (xaQ_1.length : Int)) = true := decide_eq_true c26; clear c26; have H' := Ak H; clear H
          try go_wp2
          have n0_ := Ak (Kd.V_drew HO_cl.out); have n1_ := Ak (Kd.V_drew HO_cm.out); have n2_ := Ak (Kd.V_drew HO_bQ.out); have n3_ := Ak (Kd.V_drew HO_aQ.out); have n4_ := Ak (blk_drew BKaX.out); have n5_ := Ak (blk_drew BKaK.out); have n6_ := Ak (blk_drew BKar.out); have n7_ := Zq208; clear HO_cl HO_cm HO_bQ HO_aQ BKaX BKaK BKar HB; have HO_cl := n0_; have HO_cm := n1_; have HO_bQ := n2_; have HO_aQ := n3_; have BKaX := n4_; have BKaK := n5_; have BKar := n6_; have HB := n7_; clear n0_ n1_ n2_ n3_ n4_ n5_ n6_ n7_; have p289 : 0 ≤ (x12_1 : Int) := of_decide_eq_true Zq5; have q289 : x12_1 < (l1.length : Int) := of_decide_eq_true Zq5; obtain ⟨adcY, e289, hx289_0⟩ := Kd.at_int HR1.out x12_1 p289 q289; have hw289_0 := hx289_0
          cases e289
          replace hx289_0 := (HB.out.cell (World.block_lt_of_cell? w _ hx289_0)).trans hx289_0; replace p289 := eq_true p289; replace q289 := eq_true q289; have p290 : 0 ≤ (x12_1 : Int) := of_decide_eq_true Zq5; have q290 : x12_1 < (l1.length : Int) := of_decide_eq_true Zq5; obtain ⟨adeQ, e290, hx290_0⟩ := Kd.at_int HR1.out x12_1 p290 q290; have hw290_0 := hx290_0
          obtain rfl : adcY = adeQ := (by injection e290)
          replace hx290_0 := (HB.out.cell (World.block_lt_of_cell? w _ hx290_0)).trans hx290_0; replace p290 := eq_true p290; replace q290 := eq_true q290; obtain ⟨Ao28, co28, eo28⟩ := Kd.V_slice HO_aQ.out
          (first | subst eo28 | (injection eo28 with f1_ f2_ f3_; have f4_ := f1_.symm; have f5_ := f3_.symm; clear f1_ f2_ f3_; subst f4_; subst f5_))
          refine start_ (n := 15) (S := fun w' => w'.cell? ⟨gbar, 0, none⟩ = some (.string xcq_1) ∧ w'.cell? ⟨gbar, 1, none⟩ = some (u289001) ∧ w'.cell? ⟨gbar, 2, none⟩ = some (.slice Ao28 xaQ_1.length co28) ∧ w'.cell? (adcY.add (x12_1).toNat) = some (.int .i64 (rd l1 x12_1)) ∧ w'.cell? (adcY.add (x12_1).toNat) = some (.int .i64 (rd l1 x12_1))) (ds := []) #[false, false, false, false, false, false, false, false, false, false, false, false, false, false, false] Zq2 rfl rfl ⟨(blk_cell BKar.out 0).trans rfl, (blk_cell BKar.out 1).trans rfl, (blk_cell BKar.out 2).trans rfl, ((HB.out.cell (World.block_lt_of_cell? w _ hw289_0)).trans hw289_0), ((HB.out.cell (World.block_lt_of_cell? w _ hw290_0)).trans hw290_0)⟩ (fun hHeld => ?_); refine with_tabW arboretref06_Get.tab5 arboretref06_Get.bits5 (fun HT_ HW_ => ?_); generalize wr.drew = w27 at HO_cl HO_cm HO_bQ HO_aQ BKaX BKaK BKar HB hx289_0 hx290_0 hHeld ⊢; refine pure_ (i := 0) (N := some 15) (v := ?_) (a' := ?_) #[true, false, false, false, false, false, false, false, false, false, false, false, false, false, false] rfl rfl (any_of HT_.out Zq2) (fun _ _ _ h => h) (Or.inl ⟨Zq3, ?_⟩) ?_ ?_
          rotate_left
          ·intro w'
           go_simp
           with_reducible rfl
          rotate_left
          ·simp only [Sx]
           rfl
          refine pure_ (i := 1) (N := some 16) (v := ?_) (a' := ?_) #[true, true, false, false, false, false, false, false, false, false, false, false, false, false, false] rfl rfl (any_of HT_.out Zq2) (fun _ _ _ h => h) (Or.inl ⟨Zq3, ?_⟩) ?_ ?_
          rotate_left
          ·intro w'
           go_simp
           with_reducible rfl
          rotate_left
          ·simp only [Sx]
           rfl
          refine pure_ (i := 2) (N := some 17) (v := ?_) (a' := ?_) #[true, true, true, false, false, false, false, false, false, false, false, false, false, false, false] rfl rfl (any_of HT_.out Zq2) (fun _ _ _ h => h) (Or.inl ⟨Zq3, ?_⟩) ?_ ?_
          rotate_left
          ·intro w'
           go_simp
           with_reducible rfl
          rotate_left
          ·simp only [Sx]
           rfl
          refine take_ (i := 3) (N := some 18) (v := ?_) (a' := ?_) #[true, true, true, true, false, false, false, false, false, false, false, false, false, false, false] rfl rfl (take_ofW HT_.out HW_.out Zq2) (fun _ _ _ h => h) (Or.inl ⟨Zq3, ?_⟩) hHeld ?_ ?_
          rotate_left
          ·rintro w' ⟨s0, s1, s2, s3, s4⟩
           go_simp
           with_reducible rfl
          rotate_left
          ·simp only [Sx]
           rfl
          refine pure_ (i := 4) (N := some 19) (v := ?_) (a' := ?_) #[true, true, true, true, true, false, false, false, false, false, false, false, false, false, false] rfl rfl (any_of HT_.out Zq2) (fun _ _ _ h => h) (Or.inl ⟨Zq3, ?_⟩) ?_ ?_
          rotate_left
          ·intro w'
           go_simp
           with_reducible rfl
          rotate_left
          ·simp only [Sx]
           rfl
          refine pure_ (i := 5) (N := some 20) (v := ?_) (a' := ?_) #[true, true, true, true, true, true, false, false, false, false, false, false, false, false, false] rfl rfl (any_of HT_.out Zq2) (fun _ _ _ h => h) (Or.inl ⟨Zq3, ?_⟩) ?_ ?_
          rotate_left
          ·intro w'
           go_simp
           with_reducible rfl
          rotate_left
          ·simp only [Sx]
           rfl
          refine pure_ (i := 6) (N := some 21) (v := ?_) (a' := ?_) #[true, true, true, true, true, true, true, false, false, false, false, false, false, false, false] rfl rfl (any_of HT_.out Zq2) (fun _ _ _ h => h) (Or.inl ⟨Zq3, ?_⟩) ?_ ?_
          rotate_left
          ·intro w'
           go_simp
           with_reducible rfl
          rotate_left
          ·simp only [Sx]
           rfl
          refine pure_ (i := 7) (N := some 22) (v := ?_) (a' := ?_) #[true, true, true, true, true, true, true, true, false, false, false, false, false, false, false] rfl rfl (any_of HT_.out Zq2) (fun _ _ _ h => h) (Or.inl ⟨Zq3, ?_⟩) ?_ ?_
          rotate_left
          ·intro w'
           go_simp
           with_reducible rfl
          rotate_left
          ·simp only [Sx]
           rfl
          refine pure_ (i := 8) (N := some 23) (v := ?_) (a' := ?_) #[true, true, true, true, true, true, true, true, true, false, false, false, false, false, false] rfl rfl (any_of HT_.out Zq2) (fun _ _ _ h => h) (Or.inl ⟨Zq3, ?_⟩) ?_ ?_
          rotate_left
          ·intro w'
           go_simp
           with_reducible rfl
          rotate_left
          ·simp only [Sx]
           rfl
          refine pure_ (i := 10) (N := some 25) (v := ?_) (a' := ?_) #[true, true, true, true, true, true, true, true, true, false, true, false, false, false, false] rfl rfl (any_of HT_.out Zq2) (fun _ _ _ h => h) (Or.inl ⟨Zq3, ?_⟩) ?_ ?_
          rotate_left
          ·intro w'
           go_simp
           with_reducible rfl
          rotate_left
          ·simp only [Sx]
           rfl
          refine take_ (i := 9) (N := some 24) (v := ?_) (a' := ?_) #[true, true, true, true, true, true, true, true, true, true, true, false, false, false, false] rfl rfl (take_ofW HT_.out HW_.out Zq2) (fun _ _ _ h => h) (Or.inl ⟨Zq3, ?_⟩) hHeld ?_ ?_
          rotate_left
          ·rintro w' ⟨s0, s1, s2, s3, s4⟩
           go_simp
           with_reducible rfl
          rotate_left
          ·simp only [Sx]
           rfl
          refine take_ (i := 11) (N := some 26) (v := ?_) (a' := ?_) #[true, true, true, true, true, true, true, true, true, true, true, true, false, false, false] rfl rfl (take_ofW HT_.out HW_.out Zq2) (fun _ _ _ h => h) (Or.inl ⟨Zq3, ?_⟩) hHeld ?_ ?_
          rotate_left
          ·rintro w' ⟨s0, s1, s2, s3, s4⟩
           go_simp
           with_reducible rfl
          rotate_left
          ·simp only [Sx]
           rfl
          refine pure_ (i := 12) (N := some 27) (v := ?_) (a' := ?_) #[true, true, true, true, true, true, true, true, true, true, true, true, true, false, false] rfl rfl (any_of HT_.out Zq2) (fun _ _ _ h => h) (Or.inl ⟨Zq3, ?_⟩) ?_ ?_
          rotate_left
          ·intro w'
           go_simp
           with_reducible rfl
          rotate_left
          ·simp only [Sx]
           rfl
          refine pure_ (i := 13) (N := some 28) (v := ?_) (a' := ?_) #[true, true, true, true, true, true, true, true, true, true, true, true, true, true, false] rfl rfl (any_of HT_.out Zq2) (fun _ _ _ h => h) (Or.inl ⟨Zq3, ?_⟩) ?_ ?_
          rotate_left
          ·intro w'
           go_simp
           with_reducible rfl
          rotate_left
          ·simp only [Sx]
           rfl
          refine pure_ (i := 14) (N := some 29) (v := ?_) (a' := ?_) #[true, true, true, true, true, true, true, true, true, true, true, true, true, true, true] rfl rfl (any_of HT_.out Zq2) (fun _ _ _ h => h) (Or.inl ⟨Zq3, ?_⟩) ?_ ?_
          rotate_left
          ·intro w'
           go_simp
           with_reducible rfl
          rotate_left
          ·simp only [Sx]
           rfl
          refine done_ (done_of HT_.out Zq2) ?_
          try go_wp2
          have n0_ := Ak (Kd.V_drew HO_cl.out); have n1_ := Ak (Kd.V_drew HO_cm.out); have n2_ := Ak (Kd.V_drew HO_bQ.out); have n3_ := Ak (Kd.V_drew HO_aQ.out); have n4_ := Ak (blk_drew BKaX.out); have n5_ := Ak (blk_drew BKaK.out); have n6_ := Ak (blk_drew BKar.out); have n7_ := Zq208; clear HO_cl HO_cm HO_bQ HO_aQ BKaX BKaK BKar HB; have HO_cl := n0_; have HO_cm := n1_; have HO_bQ := n2_; have HO_aQ := n3_; have BKaX := n4_; have BKaK := n5_; have BKar := n6_; have HB := n7_; clear n0_ n1_ n2_ n3_ n4_ n5_ n6_ n7_; have p291 : 0 ≤ (x12_1 : Int) := of_decide_eq_true Zq5; have q291 : x12_1 < (l1.length : Int) := of_decide_eq_true Zq5; obtain ⟨adfv, e291, hx291_0⟩ := Kd.at_int HR1.out x12_1 p291 q291; have hw291_0 := hx291_0
          obtain rfl : adcY = adfv := (by injection e291)
          replace hx291_0 := (HB.out.cell (World.block_lt_of_cell? w _ hx291_0)).trans hx291_0; replace p291 := eq_true p291; replace q291 := eq_true q291; have p292 : 0 ≤ ((rd l1 x12_1) : Int) := of_decide_eq_true Zq5; have q292 : (rd l1 x12_1) < (xaQ_1.length : Int) := of_decide_eq_true Zq5; obtain ⟨adbo, Abo_1, cbo_1, Abo_2, cbo_2, e292, hx292_0, hx292_1, hx292_2, hl292_1, hi292_1, hl292_2, hi292_2⟩ := at_T27 (Kd.V_reads' HO_aQ.out).2.2 (rd l1 x12_1) p292 q292
          cases e292
          obtain ⟨ce292, hce292, hMe292, hcc292⟩ := Kd.V_get HO_aQ.out z27 (rd l1 x12_1) p292 (by first | exact q292 | exact of_decide_eq_true Zq5 | (have e_ := (Kd.V_reads' HO_aQ.out).1; omega)); obtain ⟨ua292_1, uc292_1, ua292_2, uc292_2, rfl, ul292_1, ge292_1, ul292_2, ge292_2⟩ := k27_openF hMe292; have hv292_1 := hcc292 1 _ rfl; rw [add_field _ _ 1 Zq1] at hv292_1; replace hv292_1 := Option.some.inj (hv292_1.symm.trans hx292_1); injection hv292_1 with hva_ hvn_ hvc_; rw [hva_] at ge292_1; rw [hvc_] at ul292_1; have HL292_1 := Ak (show Kd.V k63 63 _ w.heap.size _ _ ((rd_T27 xaQ_1 (rd l1 x12_1)).f1) from Kd.V_mk ul292_1 ge292_1); clear hva_ hvn_ hvc_ ge292_1 ul292_1; have hv292_2 := hcc292 2 _ rfl; rw [add_field _ _ 2 Zq1] at hv292_2; replace hv292_2 := Option.some.inj (hv292_2.symm.trans hx292_2); injection hv292_2 with hva_ hvn_ hvc_; rw [hva_] at ge292_2; rw [hvc_] at ul292_2; have HL292_2 := Ak (show Kd.V k27 27 _ w.heap.size _ _ ((rd_T27 xaQ_1 (rd l1 x12_1)).f2) from Kd.V_mk ul292_2 ge292_2); clear hva_ hvn_ hvc_ ge292_2 ul292_2 hcc292 hce292; have HRbo_1 := Ak hi292_1; have HCbo_1 := Ak hl292_1; clear hi292_1 hl292_1; have HRbo_2 := Ak hi292_2; have HCbo_2 := Ak hl292_2; clear hi292_2 hl292_2; replace p292 := eq_true p292; replace q292 := eq_true q292; refine start_ (n := 9) (S := fun w' => w'.cell? ⟨gbar, 0, none⟩ = some (.string xcq_1) ∧ w'.cell? ⟨gbar, 1, none⟩ = some (u289001) ∧ w'.cell? ⟨gbar, 2, none⟩ = some (.slice (some adbo) xaQ_1.length co28) ∧ w'.cell? (adcY.add (x12_1).toNat) = some (.int .i64 (rd l1 x12_1)) ∧ w'.cell? (adbo.add (((rd l1 x12_1)).toNat * 3)) = some (.string ((rd_T27 xaQ_1 (rd l1 x12_1)).f0)) ∧ w'.cell? ⟨(adbo.add (((rd l1 x12_1)).toNat * 3)).block, (adbo.add (((rd l1 x12_1)).toNat * 3)).off + 1, none⟩ = some (.slice Abo_1 ((rd_T27 xaQ_1 (rd l1 x12_1)).f1).length cbo_1) ∧ w'.cell? ⟨(adbo.add (((rd l1 x12_1)).toNat * 3)).block, (adbo.add (((rd l1 x12_1)).toNat * 3)).off + 2, none⟩ = some (.slice Abo_2 ((rd_T27 xaQ_1 (rd l1 x12_1)).f2).length cbo_2)) (ds := [8]) #[false, false, false, false, false, false, false, false, false] Zq2 rfl rfl ⟨(blk_cell BKar.out 0).trans rfl, (blk_cell BKar.out 1).trans rfl, (blk_cell BKar.out 2).trans rfl, ((HB.out.cell (World.block_lt_of_cell? w _ hw291_0)).trans hw291_0), hx292_0, hx292_1, hx292_2⟩ (fun hHeld => ?_); refine with_tabW arboretref06_Get.tab7 arboretref06_Get.bits7 (fun HT_ HW_ => ?_); generalize w27.drew = w29 at HO_cl HO_cm HO_bQ HO_aQ BKaX BKaK BKar HB HL292_1 HL292_2 HRbo_1 HRbo_2 hx291_0 hx292_0 hx292_1 hx292_2 hHeld ⊢; refine pure_ (i := 0) (N := some 31) (v := ?_) (a' := ?_) #[true, false, false, false, false, false, false, false, false] rfl rfl (any_of HT_.out Zq2) (fun _ _ _ h => h) (Or.inl ⟨Zq3, ?_⟩) ?_ ?_
          rotate_left
          ·intro w'
           go_simp
           with_reducible rfl
          rotate_left
          ·simp only [Sx]
           rfl
          refine pure_ (i := 2) (N := some 33) (v := ?_) (a' := ?_) #[true, false, true, false, false, false, false, false, false] rfl rfl (any_of HT_.out Zq2) (fun _ _ _ h => h) (Or.inl ⟨Zq3, ?_⟩) ?_ ?_
          rotate_left
          ·intro w'
           go_simp
           with_reducible rfl
          rotate_left
          ·simp only [Sx]
           rfl
          refine pure_ (i := 3) (N := some 34) (v := ?_) (a' := ?_) #[true, false, true, true, false, false, false, false, false] rfl rfl (any_of HT_.out Zq2) (fun _ _ _ h => h) (Or.inl ⟨Zq3, ?_⟩) ?_ ?_
          rotate_left
          ·intro w'
           go_simp
           with_reducible rfl
          rotate_left
          ·simp only [Sx]
           rfl
          refine pure_ (i := 4) (N := some 35) (v := ?_) (a' := ?_) #[true, false, true, true, true, false, false, false, false] rfl rfl (any_of HT_.out Zq2) (fun _ _ _ h => h) (Or.inl ⟨Zq3, ?_⟩) ?_ ?_
          rotate_left
          ·intro w'
           go_simp
           with_reducible rfl
          rotate_left
          ·simp only [Sx]
           rfl
          refine take_ (i := 1) (N := some 32) (v := ?_) (a' := ?_) #[true, true, true, true, true, false, false, false, false] rfl rfl (take_ofW HT_.out HW_.out Zq2) (fun _ _ _ h => h) (Or.inl ⟨Zq3, ?_⟩) hHeld ?_ ?_
          rotate_left
          ·rintro w' ⟨s0, s1, s2, s3, s4, s5, s6⟩
           go_simp
           with_reducible rfl
          rotate_left
          ·simp only [Sx]
           rfl
          refine take_ (i := 5) (N := some 36) (v := ?_) (a' := ?_) #[true, true, true, true, true, true, false, false, false] rfl rfl (take_ofW HT_.out HW_.out Zq2) (fun _ _ _ h => h) (Or.inl ⟨Zq3, ?_⟩) hHeld ?_ ?_
          rotate_left
          ·rintro w' ⟨s0, s1, s2, s3, s4, s5, s6⟩
           go_simp
           with_reducible rfl
          rotate_left
          ·simp only [Sx]
           rfl
          refine pure_ (i := 6) (N := some 37) (v := ?_) (a' := ?_) #[true, true, true, true, true, true, true, false, false] rfl rfl (any_of HT_.out Zq2) (fun _ _ _ h => h) (Or.inl ⟨Zq3, ?_⟩) ?_ ?_
          rotate_left
          ·intro w'
           go_simp
           with_reducible rfl
          rotate_left
          ·simp only [Sx]
           rfl
          refine take_ (i := 7) (N := some 38) (v := ?_) (a' := ?_) #[true, true, true, true, true, true, true, true, false] rfl rfl (take_ofW HT_.out HW_.out Zq2) (fun _ _ _ h => h) (Or.inl ⟨Zq3, ?_⟩) hHeld ?_ ?_
          rotate_left
          ·rintro w' ⟨s0, s1, s2, s3, s4, s5, s6⟩
           go_simp
           with_reducible rfl
          rotate_left
          ·simp only [Sx]
           rfl
          refine last_ (i := 8) (N := none) #[true, true, true, true, true, true, true, true, true] rfl rfl (one_of HT_.out Zq2) Zq4 (fun K hK => ?_); have hs30 : w29.cell? ⟨gbar, 0, none⟩ = some (.string xcq_1) := (blk_cell BKar.out 0).trans rfl; have hfs30 := blk_frozen BKar.out 0; have hns30_0 := NB286_288.out; have hns30_1 := NB287_288.out; have hms30_0 := NB288_286.out; have hms30_1 := NB288_287.out; have hs31 : w29.cell? ⟨gbar, 1, none⟩ = some (u289001) := (blk_cell BKar.out 1).trans rfl; have hfs31 := blk_frozen BKar.out 1; have hns31_0 := NB286_288.out; have hns31_1 := NB287_288.out; have hms31_0 := NB288_286.out; have hms31_1 := NB288_287.out; have hs32 : w29.cell? ⟨gbar, 2, none⟩ = some (.slice (some adbo) xaQ_1.length co28) := (blk_cell BKar.out 2).trans rfl; have hfs32 := blk_frozen BKar.out 2; have hns32_0 := NB286_288.out; have hns32_1 := NB287_288.out; have hms32_0 := NB288_286.out; have hms32_1 := NB288_287.out; refine skip_ (w1 := ?_) Zq3 rfl ?_ ?_
          rotate_left
          ·go_simp
           rfl
          refine hK.out _ _ ?_; clear hK K; refine done_ (done_of HT_.out Zq2) ?_
          try go_wp2
          go_roundg k1
          case measure => have := HK1.out; omega
          case rel => exact ⟨(wrap64 (x12_1 + 1)), (xdt_1), ((rd_T27 xaQ_1 (rd l1 x12_1)).f0), ((rd_T27 xaQ_1 (rd l1 x12_1)).f1), ((rd_T27 xaQ_1 (rd l1 x12_1)).f2), (.slice Abo_1 ((rd_T27 xaQ_1 (rd l1 x12_1)).f1).length cbo_1), (.slice Abo_2 ((rd_T27 xaQ_1 (rd l1 x12_1)).f2).length cbo_2), Zq7, H', ⟨Zq27⟩, ⟨by (with_reducible repeat (first | apply Kd.V_alloc | apply Kd.V_drewN | apply Kd.V_drew)); exact Kd.V_mono (Kd.V_far (p := ⟨gbar, 2, none⟩) (Kd.V_far (p := ⟨gbar, 1, none⟩) (Kd.V_far (p := ⟨gbar, 0, none⟩) (Kd.V_mono HO_cl.out (fun k_ hk => (⟨hk, hk.2.2.2⟩ : _ ∧ k_ ≠ gbar))) (fun _ hk => hk.2) (.string ((rd_T27 xaQ_1 (rd l1 x12_1)).f0))) (fun _ hk => hk.2) (.slice Abo_1 ((rd_T27 xaQ_1 (rd l1 x12_1)).f1).length cbo_1)) (fun _ hk => hk.2) (.slice Abo_2 ((rd_T27 xaQ_1 (rd l1 x12_1)).f2).length cbo_2)) (fun _ hk => ⟨hk.1.1, ⟨hk.1.2.1, ⟨hk.1.2.2.1, hk.1.2.2.2⟩⟩⟩)⟩, ⟨by (with_reducible repeat (first | apply Kd.V_alloc | apply Kd.V_drewN | apply Kd.V_drew)); exact Kd.V_mono (Kd.V_far (p := ⟨gbar, 2, none⟩) (Kd.V_far (p := ⟨gbar, 1, none⟩) (Kd.V_far (p := ⟨gbar, 0, none⟩) (Kd.V_mono HO_cm.out (fun k_ hk => (⟨hk, hk.2.2.2⟩ : _ ∧ k_ ≠ gbar))) (fun _ hk => hk.2) (.string ((rd_T27 xaQ_1 (rd l1 x12_1)).f0))) (fun _ hk => hk.2) (.slice Abo_1 ((rd_T27 xaQ_1 (rd l1 x12_1)).f1).length cbo_1)) (fun _ hk => hk.2) (.slice Abo_2 ((rd_T27 xaQ_1 (rd l1 x12_1)).f2).length cbo_2)) (fun _ hk => ⟨hk.1.1, ⟨hk.1.2.1, ⟨hk.1.2.2.1, hk.1.2.2.2⟩⟩⟩)⟩, ⟨by (with_reducible repeat (first | apply Kd.V_alloc | apply Kd.V_drewN | apply Kd.V_drew)); exact Kd.V_mono (Kd.V_far (p := ⟨gbar, 2, none⟩) (Kd.V_far (p := ⟨gbar, 1, none⟩) (Kd.V_far (p := ⟨gbar, 0, none⟩) (Kd.V_mono HL292_1.out (fun k_ hk => (⟨hk, hk.2.2.2⟩ : _ ∧ k_ ≠ gbar))) (fun _ hk => hk.2) (.string ((rd_T27 xaQ_1 (rd l1 x12_1)).f0))) (fun _ hk => hk.2) (.slice Abo_1 ((rd_T27 xaQ_1 (rd l1 x12_1)).f1).length cbo_1)) (fun _ hk => hk.2) (.slice Abo_2 ((rd_T27 xaQ_1 (rd l1 x12_1)).f2).length cbo_2)) (fun _ hk => ⟨hk.1.1, ⟨hk.1.2.1, ⟨hk.1.2.2.1, hk.1.2.2.2⟩⟩⟩)⟩, ⟨by (with_reducible repeat (first | apply Kd.V_alloc | apply Kd.V_drewN | apply Kd.V_drew)); exact Kd.V_mono (Kd.V_far (p := ⟨gbar, 2, none⟩) (Kd.V_far (p := ⟨gbar, 1, none⟩) (Kd.V_far (p := ⟨gbar, 0, none⟩) (Kd.V_mono HL292_2.out (fun k_ hk => (⟨hk, hk.2.2.2⟩ : _ ∧ k_ ≠ gbar))) (fun _ hk => hk.2) (.string ((rd_T27 xaQ_1 (rd l1 x12_1)).f0))) (fun _ hk => hk.2) (.slice Abo_1 ((rd_T27 xaQ_1 (rd l1 x12_1)).f1).length cbo_1)) (fun _ hk => hk.2) (.slice Abo_2 ((rd_T27 xaQ_1 (rd l1 x12_1)).f2).length cbo_2)) (fun _ hk => ⟨hk.1.1, ⟨hk.1.2.1, ⟨hk.1.2.2.1, hk.1.2.2.2⟩⟩⟩)⟩, ⟨by (with_reducible repeat (first | refine blk_drewN ?_ _ | refine blk_drew ?_ | refine blk_alloc ?_ _)); refine blk_far ?_ NB286_288.out _; (with_reducible repeat (first | refine blk_drewN ?_ _ | refine blk_drew ?_ | refine blk_alloc ?_ _)); refine blk_far ?_ NB286_288.out _; (with_reducible repeat (first | refine blk_drewN ?_ _ | refine blk_drew ?_ | refine blk_alloc ?_ _)); refine blk_far ?_ NB286_288.out _; (with_reducible repeat (first | refine blk_drewN ?_ _ | refine blk_drew ?_ | refine blk_alloc ?_ _)); exact BKaX.out⟩, ⟨by (with_reducible repeat (first | refine blk_drewN ?_ _ | refine blk_drew ?_ | refine blk_alloc ?_ _)); refine blk_far ?_ NB287_288.out _; (with_reducible repeat (first | refine blk_drewN ?_ _ | refine blk_drew ?_ | refine blk_alloc ?_ _)); refine blk_far ?_ NB287_288.out _; (with_reducible repeat (first | refine blk_drewN ?_ _ | refine blk_drew ?_ | refine blk_alloc ?_ _)); refine blk_far ?_ NB287_288.out _; (with_reducible repeat (first | refine blk_drewN ?_ _ | refine blk_drew ?_ | refine blk_alloc ?_ _)); exact BKaK.out⟩, ⟨by (with_reducible repeat (first | refine blk_drewN ?_ _ | refine blk_drew ?_ | refine blk_alloc ?_ _)); refine blk_put (cs := #[.string ((rd_T27 xaQ_1 (rd l1 x12_1)).f0), .slice Abo_1 ((rd_T27 xaQ_1 (rd l1 x12_1)).f1).length cbo_1, .slice (some adbo) xaQ_1.length co28]) ?_ 2 _ rfl; (with_reducible repeat (first | refine blk_drewN ?_ _ | refine blk_drew ?_ | refine blk_alloc ?_ _)); refine blk_put (cs := #[.string ((rd_T27 xaQ_1 (rd l1 x12_1)).f0), u289001, .slice (some adbo) xaQ_1.length co28]) ?_ 1 _ rfl; (with_reducible repeat (first | refine blk_drewN ?_ _ | refine blk_drew ?_ | refine blk_alloc ?_ _)); refine blk_put (cs := #[.string xcq_1, u289001, .slice (some adbo) xaQ_1.length co28]) ?_ 0 _ rfl; (with_reducible repeat (first | refine blk_drewN ?_ _ | refine blk_drew ?_ | refine blk_alloc ?_ _)); exact BKar.out⟩, ⟨Zq94⟩⟩
         ·rw [if_neg c26] at H; exact absurd H Zq10
        ·rw [if_neg c25] at H; exact absurd H Zq10
     ·rw [if_neg c13] at H; exact absurd H Zq10
    ·rw [if_neg c12] at H; exact absurd H Zq10
   ·rw [if_neg c11] at H; have c11b0 : decide (x12_1 < (l1.length : Int)) = false := decide_eq_false c11; clear c11; simp only [Option.some.injEq, Prod.mk.injEq] at H; obtain ⟨rfl, rfl, rfl, rfl⟩ := H; have hnb33 := NB288_286.out; have hnc33 := NB286_288.out; have hnb34 := NB288_287.out; have hnc34 := NB287_288.out; have hcz35_0 : wr.cell? ⟨gbar, 0, none⟩ = some (.string xcq_1) := (blk_cell BKar.out 0).trans rfl; have hcz35_1 : wr.cell? ⟨gbar, 1, none⟩ = some (u289001) := (blk_cell BKar.out 1).trans rfl; have hcz35_2 : wr.cell? ⟨gbar, 2, none⟩ = some (u289002) := (blk_cell BKar.out 2).trans rfl; have hfz35_0 := blk_frozen BKar.out 0; have hfz35_1 := blk_frozen BKar.out 1; have hfz35_2 := blk_frozen BKar.out 2; have hnb36 := NB287_286.out; have hnc36 := NB286_287.out; have hcz37_0 : wr.cell? ⟨gbaK, 0, none⟩ = some (.string xdt_1) := (blk_cell BKaK.out 0).trans rfl; have hcz37_1 : wr.cell? ⟨gbaK, 1, none⟩ = some (.slice none 0 0) := (blk_cell BKaK.out 1).trans rfl; have hcz37_2 : wr.cell? ⟨gbaK, 2, none⟩ = some (.slice none 0 0) := (blk_cell BKaK.out 2).trans rfl; have hfz37_0 := blk_frozen BKaK.out 0; have hfz37_1 := blk_frozen BKaK.out 1; have hfz37_2 := blk_frozen BKaK.out 2; obtain ⟨Ao38, co38, eo38⟩ := Kd.V_slice HO_bQ.out; subst eo38; obtain ⟨Ao39, co39, eo39⟩ := Kd.V_slice HO_aQ.out; subst eo39
    go_wp2
    refine bodyPost_ret (results_ct rfl _ _ gbaK 27 #[.string xcq_1, .slice Ao38 xbQ_1.length co38, .slice Ao39 xaQ_1.length co39] (0, 0) _ rfl (by (with_reducible repeat (first | refine blk_drewN ?_ _ | refine blk_drew ?_ | refine blk_alloc ?_ _)); refine blk_put (cs := #[.string xcq_1, .slice Ao38 xbQ_1.length co38, .slice none 0 0]) ?_ 2 _ rfl; (with_reducible repeat (first | refine blk_drewN ?_ _ | refine blk_drew ?_ | refine blk_alloc ?_ _)); refine blk_put (cs := #[.string xcq_1, .slice none 0 0, .slice none 0 0]) ?_ 1 _ rfl; (with_reducible repeat (first | refine blk_drewN ?_ _ | refine blk_drew ?_ | refine blk_alloc ?_ _)); refine blk_put (cs := #[.string xdt_1, .slice none 0 0, .slice none 0 0]) ?_ 0 _ rfl; (with_reducible repeat (first | refine blk_drewN ?_ _ | refine blk_drew ?_ | refine blk_alloc ?_ _)); exact BKaK.out) Try.underlying27 rfl Zq2) rfl ?_
    exact ⟨_, _, Zq13, by (with_reducible repeat (first | apply Kd.V_alloc | apply Kd.V_drewN | apply Kd.V_drew)); exact Kd.V_mono (Kd.V_far (p := ⟨gbaK, 2, none⟩) (Kd.V_far (p := ⟨gbaK, 1, none⟩) (Kd.V_far (p := ⟨gbaK, 0, none⟩) (Kd.V_mono HO_bQ.out (fun k_ hk => (⟨hk, hk.2.2.1⟩ : _ ∧ k_ ≠ gbaK))) (fun _ hk => hk.2) (.string xcq_1)) (fun _ hk => hk.2) (.slice Ao38 xbQ_1.length co38)) (fun _ hk => hk.2) (.slice Ao39 xaQ_1.length co39)) (fun _ hk => hk.1.1), by (with_reducible repeat (first | apply Kd.V_alloc | apply Kd.V_drewN | apply Kd.V_drew)); exact Kd.V_mono (Kd.V_far (p := ⟨gbaK, 2, none⟩) (Kd.V_far (p := ⟨gbaK, 1, none⟩) (Kd.V_far (p := ⟨gbaK, 0, none⟩) (Kd.V_mono HO_aQ.out (fun k_ hk => (⟨hk, hk.2.2.1⟩ : _ ∧ k_ ≠ gbaK))) (fun _ hk => hk.2) (.string xcq_1)) (fun _ hk => hk.2) (.slice Ao38 xbQ_1.length co38)) (fun _ hk => hk.2) (.slice Ao39 xaQ_1.length co39)) (fun _ hk => hk.1.1), Zq94⟩
def arboretref01_Find.l0 : Nat → ByteArray → Int → Int → ByteArray → List (S63) → List (S27) → Option (Int)
 | 0, _, _, _, _, _, _ => none
 | k + 1, x1, x8, x9, xfw, xeR, xfx => if x9 < x8 then (if 0 ≤ x9 then (if x9 < (xeR.length : Int) then (if ((rd_T63 xeR x9).f0).toList = x1.toList then (some x9) else (arboretref01_Find.l0 k x1 x8 (wrap64 (x9 + 1)) xfw xeR xfx)) else (none)) else (none)) else (some (-1))
def arboretref01_Find.f (k : Nat) (a0_0 : ByteArray) (l0_1 : List (S63)) (l0_2 : List (S27)) (a1 : ByteArray) : Option (Int) := arboretref01_Find.l0 k a1 (l0_1.length : Int) 0 a0_0 l0_1 l0_2
end Go.Proofs.Ytkopmkinlanhoaa.PB
