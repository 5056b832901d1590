/- IrqSelf: texts of this session's, and what the kit's print laid for this seat, as far as the law's row uses them (PBx0, PBx0, PBx0, Rdr, PBKinds, Aid, Tree, Num, One, HandlesC, Gets, Equal, PBx_strings_IndexByte). -/
import Derived.Test.YtkopmkinlanhoaaZIrqSelf3
set_option linter.unusedVariables false
set_option linter.unusedSimpArgs false
namespace Go.Proofs.Ytkopmkinlanhoaa.PB
open Go.RowKit Go.Proofs.YtkopmkinlanhoaaW.PrintWords Go.Proofs.YtkopmkinlanhoaaW.PrintLast Go.Proofs.YtkopmkinlanhoaaW.PrintMore
attribute [local go_sem] max2_int min2_int max_two min_two max_three min_three max_four min_four
set_option maxHeartbeats 8000000 in
set_option maxRecDepth 100000 in
theorem arboretref01_Find.calls (k : Nat) (a0_0 : ByteArray) (A0_1 : Option Addr) (c0_1 : Nat) (l0_1 : List (S63)) (A0_2 : Option Addr) (c0_2 : Nat) (l0_2 : List (S27)) (a1 : ByteArray) (r : Int) (w : World) (hr0_1 : Kd.C k63 w A0_1 l0_1.length l0_1) (hc0_1 : l0_1.length ≤ c0_1) (hr0_2 : Kd.C k27 w A0_2 l0_2.length l0_2) (hc0_2 : l0_2.length ≤ c0_2) (h : arboretref01_Find.f k a0_0 l0_1 l0_2 a1 = some r) :
  Calls Try.prog 33 #[.agg #[.string a0_0, .slice A0_1 l0_1.length c0_1, .slice A0_2 l0_2.length c0_2], .string a1] w fun e w' => e = .returned (.int .i64 r) ∧ Below w.heap.size w w' := by
 have hu27 := Try.underlying27; have HR0_1 := Ak hr0_1; have HC0_1 := Ak hc0_1; clear hr0_1 hc0_1; have HR0_2 := Ak hr0_2; have HC0_2 := Ak hc0_2; clear hr0_2 hc0_2; have HB := Zq151; have H : (arboretref01_Find.l0 k a1 (l0_1.length : Int) 0 a0_0 l0_1 l0_2) = some r := h; clear h; have H' := Ak H; clear H
 go_enter Try.func33, Try.ntmps33
 go_wp2_with (first | ((with_reducible refine gate_dst (N := 2) rfl ?_); refine box_event ?hg (N := 2) ?hd (cs := #[.string a0_0, .slice A0_1 l0_1.length c0_1, .slice A0_2 l0_2.length c0_2]) (t := 27) ?hr ?_; (case hd | hg => rfl); (case hr => first | (go_simp; done) | (go_simp; rfl)); intro gbbE hg w3 hbox hb; have n0_ := Zq142; have n1_ := Ak (hbox); have n2_ := Ak ((by rw [hg]; exact (below_size Zq6) : w.heap.size ≤ gbbE)); have n3_ := Ak ((by rw [hg]; exact (below_size Zq6) : w.heap.size ≤ gbbE)); clear HB; have HB := n0_; have BKbE := n1_; have GWbE := n2_; have GEbE := n3_; clear n0_ n1_ n2_ n3_ hb hbox hg; have hcz4_0 : w3.cell? ⟨gbbE, 0, none⟩ = some (.string a0_0) := (blk_cell BKbE.out 0).trans rfl; have hcz4_1 : w3.cell? ⟨gbbE, 1, none⟩ = some (.slice A0_1 l0_1.length c0_1) := (blk_cell BKbE.out 1).trans rfl; have hcz4_2 : w3.cell? ⟨gbbE, 2, none⟩ = some (.slice A0_2 l0_2.length c0_2) := (blk_cell BKbE.out 2).trans rfl; have hfz4_0 := blk_frozen BKbE.out 0; have hfz4_1 := blk_frozen BKbE.out 1; have hfz4_2 := blk_frozen BKbE.out 2))
 go_loopg [9] k (fun kq v9 w' => ∃ (x9_1 : Int), v9 = .int .i64 x9_1 ∧ Aside0 (arboretref01_Find.l0 kq a1 (l0_1.length : Int) x9_1 a0_0 l0_1 l0_2 = some r) ∧ Aside0 (kq ≤ k) ∧ Aside0 (w'.heap[gbbE]? = some (.cells #[.string a0_0, (.slice A0_1 l0_1.length c0_1), (.slice A0_2 l0_2.length c0_2)] 27 (0, 0))) ∧ Aside0 (Below w.heap.size w w'))
 case atStart => exact ⟨(0), Zq7, H', ⟨Nat.le_refl _⟩, ⟨by (with_reducible repeat (first | refine blk_drewN ?_ _ | refine blk_drew ?_ | refine blk_alloc ?_ _)); exact BKbE.out⟩, ⟨Zq114⟩⟩
 case round =>
  clear H'
  try clear p2
  try clear c3
  try clear hcz4_0
  try clear hcz4_1
  try clear hcz4_2
  try clear hfz4_0
  try clear hfz4_1
  try clear hfz4_2
  obtain ⟨x9_1, rfl, HA, HK1, BKbE, HB⟩ := hrel
  cases gk with
  | zero => exact absurd HA.out (by simp [arboretref01_Find.l0])
  | succ k1 =>
   have H := HA.out; clear HA; simp only [arboretref01_Find.l0] at H
   by_cases c5 : x9_1 < (l0_1.length : Int)
   ·rw [if_pos c5] at H; have c5b0 : decide (x9_1 < (l0_1.length : Int)) = true := decide_eq_true c5; clear c5
    by_cases c6 : 0 ≤ x9_1
    ·rw [if_pos c6] at H; have c6b0 : decide (0 ≤ x9_1) = true := decide_eq_true c6; clear c6
     by_cases c7 : x9_1 < (l0_1.length : Int)
     ·rw [if_pos c7] at H; have c7b0 : decide (x9_1 < (l0_1.length : Int)) = true := decide_eq_true c7; clear c7
      by_cases c8 : ((rd_T63 l0_1 x9_1).f0).toList = a1.toList
      ·rw [if_pos c8] at H; have c8b0 : (((rd_T63 l0_1 x9_1).f0).toList == a1.toList) = true := beq_iff_eq.mpr c8; have c8b1 : (((rd_T63 l0_1 x9_1).f0).toList != a1.toList) = false := bne_eq_false_iff_eq.mpr c8; clear c8; obtain rfl := Option.some.inj H; have hcz9_0 : wr.cell? ⟨gbbE, 0, none⟩ = some (.string a0_0) := (blk_cell BKbE.out 0).trans rfl; have hcz9_1 : wr.cell? ⟨gbbE, 1, none⟩ = some (.slice A0_1 l0_1.length c0_1) := (blk_cell BKbE.out 1).trans rfl; have hcz9_2 : wr.cell? ⟨gbbE, 2, none⟩ = some (.slice A0_2 l0_2.length c0_2) := (blk_cell BKbE.out 2).trans rfl; have hfz9_0 := blk_frozen BKbE.out 0; have hfz9_1 := blk_frozen BKbE.out 1; have hfz9_2 := blk_frozen BKbE.out 2; have p294 : 0 ≤ (x9_1 : Int) := of_decide_eq_true Zq5; have q294 : x9_1 < (l0_1.length : Int) := of_decide_eq_true Zq5; obtain ⟨addu, Adu_1, cdu_1, e294, hx294_0, hx294_1, hl294_1, hi294_1⟩ := at_T63 HR0_1.out x9_1 p294 q294
       cases e294
       replace hx294_0 := (HB.out.cell (World.block_lt_of_cell? w _ hx294_0)).trans hx294_0; replace hx294_1 := (HB.out.cell (World.block_lt_of_cell? w _ hx294_1)).trans hx294_1; have HRdu_1 := Ak hi294_1; have HCdu_1 := Ak hl294_1; clear hi294_1 hl294_1; replace p294 := eq_true p294; replace q294 := eq_true q294
       go_wp2
       go_ret
       exact ⟨Zq13, Zq114⟩
      ·rw [if_neg c8] at H; have c8b0 : (((rd_T63 l0_1 x9_1).f0).toList == a1.toList) = false := beq_eq_false_iff_ne.mpr c8; have c8b1 : (((rd_T63 l0_1 x9_1).f0).toList != a1.toList) = true := bne_iff_ne.mpr c8; have H' := Ak H; clear H; have hcz10_0 : wr.cell? ⟨gbbE, 0, none⟩ = some (.string a0_0) := (blk_cell BKbE.out 0).trans rfl; have hcz10_1 : wr.cell? ⟨gbbE, 1, none⟩ = some (.slice A0_1 l0_1.length c0_1) := (blk_cell BKbE.out 1).trans rfl; have hcz10_2 : wr.cell? ⟨gbbE, 2, none⟩ = some (.slice A0_2 l0_2.length c0_2) := (blk_cell BKbE.out 2).trans rfl; have hfz10_0 := blk_frozen BKbE.out 0; have hfz10_1 := blk_frozen BKbE.out 1; have hfz10_2 := blk_frozen BKbE.out 2; have p294 : 0 ≤ (x9_1 : Int) := of_decide_eq_true Zq5; have q294 : x9_1 < (l0_1.length : Int) := of_decide_eq_true Zq5; obtain ⟨addu, Adu_1, cdu_1, e294, hx294_0, hx294_1, hl294_1, hi294_1⟩ := at_T63 HR0_1.out x9_1 p294 q294
       cases e294
       replace hx294_0 := (HB.out.cell (World.block_lt_of_cell? w _ hx294_0)).trans hx294_0; replace hx294_1 := (HB.out.cell (World.block_lt_of_cell? w _ hx294_1)).trans hx294_1; have HRdu_1 := Ak hi294_1; have HCdu_1 := Ak hl294_1; clear hi294_1 hl294_1; replace p294 := eq_true p294; replace q294 := eq_true q294
       go_wp2
       go_roundg k1
       case measure => have := HK1.out; omega
       case rel => exact ⟨(wrap64 (x9_1 + 1)), Zq7, H', ⟨Zq27⟩, ⟨by (with_reducible repeat (first | refine blk_drewN ?_ _ | refine blk_drew ?_ | refine blk_alloc ?_ _)); exact BKbE.out⟩, ⟨Zq114⟩⟩
     ·rw [if_neg c7] at H; exact absurd H Zq10
    ·rw [if_neg c6] at H; exact absurd H Zq10
   ·rw [if_neg c5] at H; have c5b0 : decide (x9_1 < (l0_1.length : Int)) = false := decide_eq_false c5; clear c5; obtain rfl := Option.some.inj H
    go_wp2
    go_ret
    exact ⟨Zq13, Zq114⟩
mutual
def arboretref01_Number.j0 : Nat → List Int → Int → Int → Bool → Option (Int × Bool)
 | 0, _, _, _, _ => none
 | k + 1, x0, x1, x2, x25 => if x25 = true then (some (0, false)) else (arboretref01_Number.l0 k x0 x1 0 x2 0)
def arboretref01_Number.l0 : Nat → List Int → Int → Int → Int → Int → Option (Int × Bool)
 | 0, _, _, _, _, _ => none
 | k + 1, x0, x1, x8, x26, x27 => if x27 < x26 then (if 0 ≤ (wrap64 (x1 + x27)) then (if (wrap64 (x1 + x27)) < (x0.length : Int) then (arboretref01_Number.l0 k x0 x1 (IntKind.u64.wrap ((IntKind.u64.wrap (x8 * 256)) + (IntKind.u64.wrap (rd x0 (wrap64 (x1 + x27)))))) x26 (wrap64 (x27 + 1))) else (none)) else (none)) else (some (x8, true))
end
def arboretref01_Number.f (k : Nat) (l0 : List Int) (a1 : Int) (a2 : Int) : Option (Int × Bool) := if a1 < 0 then (arboretref01_Number.j0 k l0 a1 a2 true) else (if a1 > (l0.length : Int) then (arboretref01_Number.j0 k l0 a1 a2 true) else (arboretref01_Number.j0 k l0 a1 a2 (decide ((wrap64 ((l0.length : Int) - a1)) < a2))))
set_option maxHeartbeats 8000000 in
set_option maxRecDepth 100000 in
theorem arboretref01_Number.calls (k : Nat) (A0 : Option Addr) (c0 : Nat) (l0 : List Int) (a1 : Int) (a2 : Int) (r1 : Int) (r2 : Bool) (w : World) (hr0 : Kd.C (Kd.int .u8) w A0 l0.length l0) (hc0 : l0.length ≤ c0) (h : arboretref01_Number.f k l0 a1 a2 = some (r1, r2)) :
  Calls Try.prog 80 #[.slice A0 l0.length c0, .int .i64 a1, .int .i64 a2] w fun e w' => e = .returned (.tuple #[.int .u64 r1, .bool r2]) ∧ Drawn0 w w' := by
 have HR0 := Ak hr0; have HC0 := Ak hc0; clear hr0 hc0; have H : (if a1 < 0 then (arboretref01_Number.j0 k l0 a1 a2 true) else (if a1 > (l0.length : Int) then (arboretref01_Number.j0 k l0 a1 a2 true) else (arboretref01_Number.j0 k l0 a1 a2 (decide ((wrap64 ((l0.length : Int) - a1)) < a2))))) = some (r1, r2) := h; clear h; have HC4 := Ak H; clear H
 go_enter Try.func80, Try.ntmps80
 go_upto_region 1 with (fail)
 go_cut [25] (fun v25 wc => ∃ (kq : Nat) (x25_3 : Bool), v25 = .bool x25_3 ∧ Aside0 (arboretref01_Number.j0 kq l0 a1 a2 x25_3 = some (r1, r2)) ∧ Aside0 (kq ≤ k) ∧ Drawn0 w wc)
 case first =>
  have H := HC4.out; clear HC4
  by_cases c5 : a1 < 0
  ·rw [if_pos c5] at H; have c5b0 : decide (a1 < 0) = true := decide_eq_true c5; clear c5
   (first | rw [c5b0] | (simp only [i64_w, i32_w]; rw [c5b0]) | skip)
   have H' := Ak H; clear H
   go_wp2
   go_meet
   case rel => exact ⟨_, (true), Zq7, H', ⟨Zq43⟩, Zq9⟩
  ·rw [if_neg c5] at H; have c5b0 : decide (a1 < 0) = false := decide_eq_false c5; clear c5
   (first | rw [c5b0] | (simp only [i64_w, i32_w]; rw [c5b0]) | skip)
   by_cases c6 : a1 > (l0.length : Int)
   ·rw [if_pos c6] at H; have c6b0 : decide ((l0.length : Int) < a1) = true := decide_eq_true c6; clear c6; have H' := Ak H; clear H
    go_wp2
    go_meet
    case rel => exact ⟨_, (true), Zq7, H', ⟨Zq43⟩, Zq9⟩
   ·rw [if_neg c6] at H; have c6b0 : decide ((l0.length : Int) < a1) = false := decide_eq_false c6; clear c6; have H' := Ak H; clear H
    go_wp2
    go_meet
    case rel => exact ⟨_, (decide ((wrap64 ((l0.length : Int) - a1)) < a2)), Zq7, H', ⟨Zq43⟩, Zq9⟩
 case rest =>
  clear HC4
  try clear p2
  try clear c5
  try clear c5b0
  try clear c6
  try clear c6b0
  try clear p6
  obtain ⟨kq, x25_3, rfl, HA, HJ3, ⟨mc3, rfl⟩⟩ := hcut
  cases kq with
  | zero => exact absurd HA.out (by simp [arboretref01_Number.j0])
  | succ kj3 =>
   have H := HA.out; clear HA; simp only [arboretref01_Number.j0] at H
   by_cases c7 : x25_3 = true
   ·subst c7
    have H1 : (some (0, false)) = some (r1, r2) := by rw [if_pos rfl] at H; exact H
    clear H; have H := H1; clear H1; simp only [Option.some.injEq, Prod.mk.injEq] at H; obtain ⟨rfl, rfl⟩ := H
    go_wp2
    go_ret2
    exact ⟨Zq7, Zq9⟩
   ·replace c7 := Bool.eq_false_iff.mpr c7; subst c7
    have H1 : (arboretref01_Number.l0 kj3 l0 a1 0 a2 0) = some (r1, r2) := by rw [if_neg (show ¬ (false = true) by decide)] at H; exact H
    clear H; have H := H1; clear H1; have H' := Ak H; clear H
    go_wp2
    go_loopg [8, 27] kj3 (fun kq v8 v27 w' => ∃ (x8_2 : Int) (x27_2 : Int), v8 = .int .u64 x8_2 ∧ v27 = .int .i64 x27_2 ∧ Aside0 (arboretref01_Number.l0 kq l0 a1 x8_2 a2 x27_2 = some (r1, r2)) ∧ Aside0 (kq ≤ kj3) ∧ Drawn0 w w')
    case atStart => exact ⟨(0), (0), Zq7, Zq7, H', ⟨Nat.le_refl _⟩, Zq9⟩
    case round =>
     clear H'
     try clear p2
     try clear c3
     try clear c5
     try clear c5b0
     try clear c6
     try clear c6b0
     try clear p6
     try clear c7
     try clear p2
     try clear p6
     obtain ⟨x8_2, x27_2, rfl, rfl, HA, HK2, ⟨m2, rfl⟩⟩ := hrel
     cases gk with
     | zero => exact absurd HA.out (by simp [arboretref01_Number.l0])
     | succ k2 =>
      have H := HA.out; clear HA; simp only [arboretref01_Number.l0] at H
      by_cases c8 : x27_2 < a2
      ·rw [if_pos c8] at H; have c8b0 : decide (x27_2 < a2) = true := decide_eq_true c8; clear c8
       obtain ⟨ji9, hji9⟩ : ∃ j_ : Int, (wrap64 (a1 + x27_2)) = j_ := ⟨_, rfl⟩
       replace H : (if 0 ≤ (ji9) then (if (ji9) < (l0.length : Int) then (arboretref01_Number.l0 k2 l0 a1 (IntKind.u64.wrap ((IntKind.u64.wrap (x8_2 * 256)) + (IntKind.u64.wrap (rd l0 (ji9))))) a2 (wrap64 (x27_2 + 1))) else (none)) else (none)) = some (r1, r2) := by first | (rw [hji9] at H; exact H) | (simp only [hji9] at H ⊢; exact H)
       have hji9w : (IntKind.i64.wrap (a1 + x27_2)) = ji9 := (i64_w _).trans hji9
       by_cases c10 : 0 ≤ (ji9)
       ·rw [if_pos c10] at H; have c10b0 : decide (0 ≤ (ji9)) = true := decide_eq_true c10; clear c10
        by_cases c11 : (ji9) < (l0.length : Int)
        ·rw [if_pos c11] at H; have c11b0 : decide ((ji9) < (l0.length : Int)) = true := decide_eq_true c11; clear c11; have H' := Ak H; clear H; have p295 : 0 ≤ ((ji9) : Int) := of_decide_eq_true Zq5; have q295 : (ji9) < (l0.length : Int) := of_decide_eq_true Zq5; obtain ⟨adfG, e295, hx295_0⟩ := Kd.at_int HR0.out (ji9) p295 q295
         cases e295
         replace p295 := eq_true p295; replace q295 := eq_true q295
         go_wp2
         first | (go_roundg k2) | ((try subst hji9); go_roundg k2)
         case measure => have := HJ3.out; have := HK2.out; omega
         case rel => exact ⟨(IntKind.u64.wrap ((IntKind.u64.wrap (x8_2 * 256)) + (IntKind.u64.wrap (rd l0 (ji9))))), (wrap64 (x27_2 + 1)), (by first | rfl | (simp; done) | (simp only [← hji9] <;> (first | rfl | simp)) | (simp [*]; done)), Zq7, H', ⟨by have := HJ3.out; have := HK2.out; omega⟩, Zq9⟩
        ·rw [if_neg c11] at H; exact absurd H Zq10
       ·rw [if_neg c10] at H; exact absurd H Zq10
      ·rw [if_neg c8] at H; have c8b0 : decide (x27_2 < a2) = false := decide_eq_false c8; clear c8; simp only [Option.some.injEq, Prod.mk.injEq] at H; obtain ⟨rfl, rfl⟩ := H
       go_wp2
       go_ret2
       exact ⟨Zq7, Zq9⟩
def arboretref06_Cells.l0 : Nat → List Int → List Int → Int → Option (List Int × Int)
 | 0, _, _, _ => none
 | k + 1, x0, x4, x5 => if x5 < (x0.length : Int) then ((arboretref01_Number.f k x0 x5 4).bind fun btdN => (if x4.length < 35184372088832 then (arboretref06_Cells.l0 k x0 (x4 ++ [(btdN.1) % 4294967296]) (wrap64 (x5 + 4))) else (none))) else (some (x4, 0))
def arboretref06_Cells.f (k : Nat) (l0 : List Int) : Option (List Int × Int) := if ((l0.length : Int) % 4) = 0 then (arboretref06_Cells.l0 k l0 ([] : List Int) 0) else (some (([] : List Int), 4))
set_option maxHeartbeats 8000000 in
set_option maxRecDepth 100000 in
theorem arboretref06_Cells.calls (k : Nat) (A0 : Option Addr) (c0 : Nat) (l0 : List Int) (r1 : List Int) (r2 : Int) (w : World) (hr0 : Kd.C (Kd.int .u8) w A0 l0.length l0) (hc0 : l0.length ≤ c0) (h : arboretref06_Cells.f k l0 = some (r1, r2)) :
  Calls Try.prog 61 #[.slice A0 l0.length c0] w fun e w' => ∃ v0_ : Value, e = .returned (.tuple #[v0_, .int .i64 r2]) ∧ Kd.R (Kd.int .u32) 22 w' w.heap.size (fun _ => True) v0_ r1 ∧ Below w.heap.size w w' := by
 have HR0 := Ak hr0; have HC0 := Ak hc0; clear hr0 hc0; have HB := Zq151; have H : (if ((l0.length : Int) % 4) = 0 then (arboretref06_Cells.l0 k l0 ([] : List Int) 0) else (some (([] : List Int), 4))) = some (r1, r2) := h; clear h
 by_cases c2 : ((l0.length : Int) % 4) = 0
 ·rw [if_pos c2] at H; have c2b0 : (((l0.length : Int) % 4) == 0) = true := beq_iff_eq.mpr c2; have c2b1 : (((l0.length : Int) % 4) != 0) = false := bne_eq_false_iff_eq.mpr c2; clear c2; have H' := Ak H; clear H
  go_enter Try.func61, Try.ntmps61
  go_wp2
  go_loopg [4, 5] k (fun kq v4 v5 w' => ∃ (x4_1 : List Int) (x5_1 : Int), v5 = .int .i64 x5_1 ∧ Aside0 (arboretref06_Cells.l0 kq l0 x4_1 x5_1 = some (r1, r2)) ∧ Aside0 (kq ≤ k) ∧ Aside0 (Kd.R (Kd.int .u32) 22 w' w.heap.size (fun _ => True) v4 x4_1) ∧ Aside0 (Below w.heap.size w w'))
  case atStart => exact ⟨(([] : List Int)), (0), Zq7, H', ⟨Nat.le_refl _⟩, ⟨Zq34⟩, ⟨Zq6⟩⟩
  case round =>
   clear H'
   try clear c2
   try clear c2b0
   try clear c2b1
   try clear p2
   obtain ⟨x4_1, x5_1, rfl, HA, HK1, HO_4, HB⟩ := hrel
   cases gk with
   | zero => exact absurd HA.out (by simp [arboretref06_Cells.l0])
   | succ k1 =>
    have H := HA.out; clear HA; simp only [arboretref06_Cells.l0] at H
    by_cases c3 : x5_1 < (l0.length : Int)
    ·rw [if_pos c3] at H; have c3b0 : decide (x5_1 < (l0.length : Int)) = true := decide_eq_true c3; clear c3; replace H := Option.bind_eq_some_iff.mp H; obtain ⟨⟨tdN, tbN⟩, A40, H⟩ := H; replace H : (if x4_1.length < 35184372088832 then (arboretref06_Cells.l0 k1 l0 (x4_1 ++ [(tdN) % 4294967296]) (wrap64 (x5_1 + 4))) else (none)) = some (r1, r2) := H; have A4 := Ak A40; clear A40
     by_cases c5 : x4_1.length < 35184372088832
     ·rw [if_pos c5] at H; have LMc5 := Ak c5; clear c5
      obtain ⟨ydf, hydf⟩ : ∃ y_ : List Int, y_ = (x4_1 ++ [(tdN) % 4294967296]) := ⟨_, rfl⟩
      replace H : (arboretref06_Cells.l0 k1 l0 ydf (wrap64 (x5_1 + 4))) = some (r1, r2) := by first | (rw [hydf]; with_reducible exact H) | (have H2_ := (Option.bind_some _ _).symm.trans H; rw [hydf]; with_reducible exact H2_) | (have H2_ := (Option.bind_some _ _).symm.trans H; with_reducible exact H2_) | with_reducible exact H | (rw [hydf]; exact H) | exact H
      have Nydf := Ak hydf; clear hydf; have H' := Ak H; clear H
      go_wp2_with (first | ((with_reducible refine gate_callee (f := 80) rfl ?_); refine goesL_ (some 21) rfl rfl Try.func80 Zq2 rfl #[.slice A0 l0.length c0, .int .i64 x5_1, .int .i64 4] rfl Zq8 ?_; (with_reducible refine (arboretref01_Number.calls k1 _ _ l0 x5_1 4 tdN tbN _ ?side1 ?side2 A4.out).mono ?_); (case side1 => repeat (first | exact (Kd.C_below HR0.out HB.out) | (with_reducible refine Kd.C_alloc ?_ _) | (with_reducible refine Kd.C_drewN ?_ _) | (with_reducible refine Kd.C_drew ?_))); (case side2 => exact HC0.out); rintro e w' ⟨rfl, ⟨nd, rfl⟩⟩; refine ⟨_, rfl, ?_⟩) | ((with_reducible refine gate_builtin (b := .append) (xs := #[.tmp 24, .tmp 27]) rfl ?_); at_builtin; refine Kd.R_append (Kd.int .u32) (w0 := w) w.heap.size rfl (.tmp 24) (.tmp 27) 113 22 (.int .u32 0) 4 rfl Try.underlying113 info22 rfl Zq4 Zq1 u4 x4_1 ((tdN) % 4294967296) [.int .u32 ((tdN) % 4294967296)] (fun _ => True) (fun _ => False) rfl rfl ?aP (fun _ hk => hk.elim) ?aF ?aO ?aB ?aS ?aL ?_; (case aP => exact rfl); (case aB => exact Zq6); (case aF => exact (fun _ _ => trivial)); (case aO => exact Zq112); (case aS => exact (below_size Zq6)); (case aL => have := LMc5.out; omega); intro v299 w6 ho hb hg hat; rw [← Nydf.out] at ho; have n0_ := Ak (hb); have n1_ := Ak (ho); clear HB HO_4; have HB := n0_; have HObU := n1_; clear n0_ n1_ ho hb hg hat))
      go_roundg k1
      case measure => have := HK1.out; omega
      case rel => exact ⟨(ydf), (wrap64 (x5_1 + 4)), Zq7, H', ⟨Zq27⟩, ⟨by (with_reducible repeat (first | apply Kd.R_alloc | apply Kd.R_drewN | apply Kd.R_drew)); exact HObU.out⟩, ⟨Zq6⟩⟩
     ·rw [if_neg c5] at H; exact absurd H Zq10
    ·rw [if_neg c3] at H; have c3b0 : decide (x5_1 < (l0.length : Int)) = false := decide_eq_false c3; clear c3; simp only [Option.some.injEq, Prod.mk.injEq] at H; obtain ⟨rfl, rfl⟩ := H
     go_wp2
     go_ret2
     exact ⟨_, Zq13, Zq112, Zq6⟩
 ·rw [if_neg c2] at H; have c2b0 : (((l0.length : Int) % 4) == 0) = false := beq_eq_false_iff_ne.mpr c2; have c2b1 : (((l0.length : Int) % 4) != 0) = true := bne_iff_ne.mpr c2; simp only [Option.some.injEq, Prod.mk.injEq] at H; obtain ⟨rfl, rfl⟩ := H
  go_enter Try.func61, Try.ntmps61
  go_wp2
  go_ret2
  exact ⟨_, Zq13, Zq34, Zq6⟩
def arboretref06_One.f (k : Nat) (a0_0 : ByteArray) (l0_1 : List (S63)) (l0_2 : List (S27)) (a1 : ByteArray) : Option (Int × Bool × Int) := (arboretref01_Find.f k a0_0 l0_1 l0_2 a1).bind fun tbv => (if tbv < 0 then (some (0, false, 0)) else (if 0 ≤ tbv then (if tbv < (l0_1.length : Int) then ((arboretref06_Cells.f k ((rd_T63 l0_1 tbv).f1)).bind fun btbL => (if btbL.2 = 0 then (if (btbL.1.length : Int) = 1 then (if 0 < (btbL.1.length : Int) then (some (rd btbL.1 0, true, 0)) else (none)) else (some (0, false, 4))) else (some (0, false, 4)))) else (none)) else (none)))
set_option maxHeartbeats 8000000 in
set_option maxRecDepth 100000 in
theorem arboretref06_One.calls (k : Nat) (a0_0 : ByteArray) (A0_1 : Option Addr) (c0_1 : Nat) (l0_1 : List (S63)) (A0_2 : Option Addr) (c0_2 : Nat) (l0_2 : List (S27)) (a1 : ByteArray) (r1 : Int) (r2 : Bool) (r3 : Int) (w : World) (hr0_1 : Kd.C k63 w A0_1 l0_1.length l0_1) (hc0_1 : l0_1.length ≤ c0_1) (hr0_2 : Kd.C k27 w A0_2 l0_2.length l0_2) (hc0_2 : l0_2.length ≤ c0_2) (h : arboretref06_One.f k a0_0 l0_1 l0_2 a1 = some (r1, r2, r3)) :
  Calls Try.prog 32 #[.agg #[.string a0_0, .slice A0_1 l0_1.length c0_1, .slice A0_2 l0_2.length c0_2], .string a1] w fun e w' => e = .returned (.tuple #[.int .u32 r1, .bool r2, .int .i64 r3]) ∧ Below w.heap.size w w' := by
 have hu27 := Try.underlying27; have HR0_1 := Ak hr0_1; have HC0_1 := Ak hc0_1; clear hr0_1 hc0_1; have HR0_2 := Ak hr0_2; have HC0_2 := Ak hc0_2; clear hr0_2 hc0_2; have HB := Zq151; have H : ((arboretref01_Find.f k a0_0 l0_1 l0_2 a1).bind fun tbv => (if tbv < 0 then (some (0, false, 0)) else (if 0 ≤ tbv then (if tbv < (l0_1.length : Int) then ((arboretref06_Cells.f k ((rd_T63 l0_1 tbv).f1)).bind fun btbL => (if btbL.2 = 0 then (if (btbL.1.length : Int) = 1 then (if 0 < (btbL.1.length : Int) then (some (rd btbL.1 0, true, 0)) else (none)) else (some (0, false, 4))) else (some (0, false, 4)))) else (none)) else (none)))) = some (r1, r2, r3) := h; clear h; replace H := Option.bind_eq_some_iff.mp H; obtain ⟨tbv, A30, H⟩ := H; replace H : (if tbv < 0 then (some (0, false, 0)) else (if 0 ≤ tbv then (if tbv < (l0_1.length : Int) then ((arboretref06_Cells.f k ((rd_T63 l0_1 tbv).f1)).bind fun btbL => (if btbL.2 = 0 then (if (btbL.1.length : Int) = 1 then (if 0 < (btbL.1.length : Int) then (some (rd btbL.1 0, true, 0)) else (none)) else (some (0, false, 4))) else (some (0, false, 4)))) else (none)) else (none))) = some (r1, r2, r3) := H; have A3 := Ak A30; clear A30
 by_cases c4 : tbv < 0
 ·rw [if_pos c4] at H; have c4b0 : decide (tbv < 0) = true := decide_eq_true c4; clear c4; simp only [Option.some.injEq, Prod.mk.injEq] at H; obtain ⟨rfl, rfl, rfl⟩ := H
  go_enter Try.func32, Try.ntmps32
  go_wp2_with (first | ((with_reducible refine gate_dst (N := 2) rfl ?_); (try (refine gate_guard Zq3 ?_; dsimp only)); refine box_event ?hg (N := 2) ?hd (cs := #[.string a0_0, .slice A0_1 l0_1.length c0_1, .slice A0_2 l0_2.length c0_2]) (t := 27) ?hr ?_; (case hd | hg => rfl); (case hr => first | (go_simp; done) | (go_simp; rfl)); intro gbay hg w5 hbox hb; have n0_ := Zq142; have n1_ := Ak (hbox); have n2_ := Zq184; have n3_ := Zq184; clear HB; have HB := n0_; have BKay := n1_; have GWay := n2_; have GEay := n3_; clear n0_ n1_ n2_ n3_ hb hbox hg; have hcz6_0 : w5.cell? ⟨gbay, 0, none⟩ = some (.string a0_0) := (blk_cell BKay.out 0).trans rfl; have hcz6_1 : w5.cell? ⟨gbay, 1, none⟩ = some (.slice A0_1 l0_1.length c0_1) := (blk_cell BKay.out 1).trans rfl; have hcz6_2 : w5.cell? ⟨gbay, 2, none⟩ = some (.slice A0_2 l0_2.length c0_2) := (blk_cell BKay.out 2).trans rfl; have hfz6_0 := blk_frozen BKay.out 0; have hfz6_1 := blk_frozen BKay.out 1; have hfz6_2 := blk_frozen BKay.out 2) | ((with_reducible refine gate_callee (f := 33) rfl ?_); refine goesL_ (some 12) rfl rfl Try.func33 Zq2 rfl #[.agg #[.string a0_0, .slice A0_1 l0_1.length c0_1, .slice A0_2 l0_2.length c0_2], .string a1] rfl Zq8 ?_; (with_reducible refine (arboretref01_Find.calls k a0_0 _ _ l0_1 _ _ l0_2 a1 tbv _ ?side1 ?side2 ?side3 ?side4 A3.out).mono ?_); (case side1 => repeat (first | exact Zq138 | (with_reducible refine Kd.C_alloc ?_ _) | (with_reducible refine Kd.C_drewN ?_ _) | (with_reducible refine Kd.C_drew ?_))); (case side2 => exact HC0_1.out); (case side3 => repeat (first | exact Zq161 | (with_reducible refine Kd.C_alloc ?_ _) | (with_reducible refine Kd.C_drewN ?_ _) | (with_reducible refine Kd.C_drew ?_))); (case side4 => exact HC0_2.out); rintro e w7 ⟨rfl, hb⟩; refine ⟨_, rfl, ?_⟩; have n0_ := Zq188; have n1_ := Zq258; clear BKay HB; have BKay := n0_; have HB := n1_; clear n0_ n1_; (try clear hb); (try clear hb2); (try clear hk); (try clear hi)))
  go_ret3
  exact ⟨Zq13, Zq48⟩
 ·rw [if_neg c4] at H; have c4b0 : decide (tbv < 0) = false := decide_eq_false c4; clear c4
  by_cases c8 : 0 ≤ tbv
  ·rw [if_pos c8] at H; have c8b0 : decide (0 ≤ tbv) = true := decide_eq_true c8; clear c8
   by_cases c9 : tbv < (l0_1.length : Int)
   ·rw [if_pos c9] at H; have c9b0 : decide (tbv < (l0_1.length : Int)) = true := decide_eq_true c9; clear c9; replace H := Option.bind_eq_some_iff.mp H; obtain ⟨⟨tbL, tdv⟩, Adm, H⟩ := H; replace H : (if tdv = 0 then (if (tbL.length : Int) = 1 then (if 0 < (tbL.length : Int) then (some (rd tbL 0, true, 0)) else (none)) else (some (0, false, 4))) else (some (0, false, 4))) = some (r1, r2, r3) := H; have A10 := Ak Adm; clear Adm
    by_cases c11 : tdv = 0
    ·rw [if_pos c11] at H; have c11b0 : (tdv == 0) = true := beq_iff_eq.mpr c11; have c11b1 : (tdv != 0) = false := bne_eq_false_iff_eq.mpr c11; clear c11
     by_cases c12 : (tbL.length : Int) = 1
     ·rw [if_pos c12] at H; have c12b0 : ((tbL.length : Int) == 1) = true := beq_iff_eq.mpr c12; have c12b1 : ((tbL.length : Int) != 1) = false := bne_eq_false_iff_eq.mpr c12; clear c12
      by_cases c13 : 0 < (tbL.length : Int)
      ·rw [if_pos c13] at H; have c13b0 : decide (0 < (tbL.length : Int)) = true := decide_eq_true c13; have c13b1 : decide (0 < tbL.length) = true := decide_eq_true Zq1; clear c13; simp only [Option.some.injEq, Prod.mk.injEq] at H; obtain ⟨rfl, rfl, rfl⟩ := H
       go_enter Try.func32, Try.ntmps32
       go_wp2_with (first | ((with_reducible refine gate_dst (N := 2) rfl ?_); (try (refine gate_guard Zq3 ?_; dsimp only)); refine box_event ?hg (N := 2) ?hd (cs := #[.string a0_0, .slice A0_1 l0_1.length c0_1, .slice A0_2 l0_2.length c0_2]) (t := 27) ?hr ?_; (case hd | hg => rfl); (case hr => first | (go_simp; done) | (go_simp; rfl)); intro gbay hg w14 hbox hb; have n0_ := Zq142; have n1_ := Ak (hbox); have n2_ := Zq184; have n3_ := Zq184; clear HB; have HB := n0_; have BKay := n1_; have GWay := n2_; have GEay := n3_; clear n0_ n1_ n2_ n3_ hb hbox hg; have hcz15_0 : w14.cell? ⟨gbay, 0, none⟩ = some (.string a0_0) := (blk_cell BKay.out 0).trans rfl; have hcz15_1 : w14.cell? ⟨gbay, 1, none⟩ = some (.slice A0_1 l0_1.length c0_1) := (blk_cell BKay.out 1).trans rfl; have hcz15_2 : w14.cell? ⟨gbay, 2, none⟩ = some (.slice A0_2 l0_2.length c0_2) := (blk_cell BKay.out 2).trans rfl; have hfz15_0 := blk_frozen BKay.out 0; have hfz15_1 := blk_frozen BKay.out 1; have hfz15_2 := blk_frozen BKay.out 2) | ((with_reducible refine gate_callee (f := 33) rfl ?_); refine goesL_ (some 12) rfl rfl Try.func33 Zq2 rfl #[.agg #[.string a0_0, .slice A0_1 l0_1.length c0_1, .slice A0_2 l0_2.length c0_2], .string a1] rfl Zq8 ?_; (with_reducible refine (arboretref01_Find.calls k a0_0 _ _ l0_1 _ _ l0_2 a1 tbv _ ?side1 ?side2 ?side3 ?side4 A3.out).mono ?_); (case side1 => repeat (first | exact Zq138 | (with_reducible refine Kd.C_alloc ?_ _) | (with_reducible refine Kd.C_drewN ?_ _) | (with_reducible refine Kd.C_drew ?_))); (case side2 => exact HC0_1.out); (case side3 => repeat (first | exact Zq161 | (with_reducible refine Kd.C_alloc ?_ _) | (with_reducible refine Kd.C_drewN ?_ _) | (with_reducible refine Kd.C_drew ?_))); (case side4 => exact HC0_2.out); rintro e w16 ⟨rfl, hb⟩; refine ⟨_, rfl, ?_⟩; have n0_ := Zq188; have n1_ := Zq258; clear BKay HB; have BKay := n0_; have HB := n1_; clear n0_ n1_; (try clear hb); (try clear hb2); (try clear hk); (try clear hi); have hcz17_0 : w16.cell? ⟨gbay, 0, none⟩ = some (.string a0_0) := (blk_cell BKay.out 0).trans rfl; have hcz17_1 : w16.cell? ⟨gbay, 1, none⟩ = some (.slice A0_1 l0_1.length c0_1) := (blk_cell BKay.out 1).trans rfl; have hcz17_2 : w16.cell? ⟨gbay, 2, none⟩ = some (.slice A0_2 l0_2.length c0_2) := (blk_cell BKay.out 2).trans rfl; have hfz17_0 := blk_frozen BKay.out 0; have hfz17_1 := blk_frozen BKay.out 1; have hfz17_2 := blk_frozen BKay.out 2; have p303 : 0 ≤ (tbv : Int) := of_decide_eq_true Zq5; have q303 : tbv < (l0_1.length : Int) := of_decide_eq_true Zq5; obtain ⟨adbD, AbD_1, cbD_1, e303, hx303_0, hx303_1, hl303_1, hi303_1⟩ := at_T63 HR0_1.out tbv p303 q303; cases e303; replace hx303_0 := (HB.out.cell (World.block_lt_of_cell? w _ hx303_0)).trans hx303_0; replace hx303_1 := (HB.out.cell (World.block_lt_of_cell? w _ hx303_1)).trans hx303_1; have HRbD_1 := Ak hi303_1; have HCbD_1 := Ak hl303_1; clear hi303_1 hl303_1; replace p303 := eq_true p303; replace q303 := eq_true q303) | ((with_reducible refine gate_callee (f := 61) rfl ?_); refine goesL_ (some 22) rfl rfl Try.func61 Zq2 rfl #[.slice AbD_1 ((rd_T63 l0_1 tbv).f1).length cbD_1] rfl Zq8 ?_; (with_reducible refine (arboretref06_Cells.calls k _ _ ((rd_T63 l0_1 tbv).f1) tbL tdv _ ?side1 ?side2 A10.out).mono ?_); (case side1 => repeat (first | exact (Kd.C_below HRbD_1.out HB.out) | (with_reducible refine Kd.C_alloc ?_ _) | (with_reducible refine Kd.C_drewN ?_ _) | (with_reducible refine Kd.C_drew ?_))); (case side2 => exact HCbD_1.out); rintro e w18 ⟨v306, rfl, ho0, hb⟩; refine ⟨_, rfl, ?_⟩; have n0_ := Ak (Kd.R_lower ho0 (below_size Zq48)); have n1_ := Zq214; have n2_ := Zq258; clear BKay HB; have HOee := n0_; have BKay := n1_; have HB := n2_; clear n0_ n1_ n2_; (try clear hb); (try clear hb2); (try clear hk); (try clear hi); (try clear ho0); obtain ⟨Ao19, co19, eo19⟩ := Kd.R_slice HOee.out; subst eo19; have p308 : 0 ≤ (0 : Int) := Zq1; have q308 : 0 < (tbL.length : Int) := of_decide_eq_true Zq5; obtain ⟨adfH, e308, hx308_0⟩ := Kd.at_int (Kd.R_reads' HOee.out).2.2 0 p308 q308; cases e308; have qi308 : (0 < tbL.length) = True := eq_true Zq1; (try rw [show ((0 : Int)).toNat = 0 from rfl] at hx308_0); (try rw [Addr.add_zero'] at hx308_0); replace p308 := eq_true p308; replace q308 := eq_true q308))
       go_ret3
       exact ⟨Zq13, Zq48⟩
      ·rw [if_neg c13] at H; exact absurd H Zq10
     ·rw [if_neg c12] at H; have c12b0 : ((tbL.length : Int) == 1) = false := beq_eq_false_iff_ne.mpr c12; have c12b1 : ((tbL.length : Int) != 1) = true := bne_iff_ne.mpr c12; simp only [Option.some.injEq, Prod.mk.injEq] at H; obtain ⟨rfl, rfl, rfl⟩ := H
      go_enter Try.func32, Try.ntmps32
      go_wp2_with (first | ((with_reducible refine gate_dst (N := 2) rfl ?_); (try (refine gate_guard Zq3 ?_; dsimp only)); refine box_event ?hg (N := 2) ?hd (cs := #[.string a0_0, .slice A0_1 l0_1.length c0_1, .slice A0_2 l0_2.length c0_2]) (t := 27) ?hr ?_; (case hd | hg => rfl); (case hr => first | (go_simp; done) | (go_simp; rfl)); intro gbay hg w20 hbox hb; have n0_ := Zq142; have n1_ := Ak (hbox); have n2_ := Zq184; have n3_ := Zq184; clear HB; have HB := n0_; have BKay := n1_; have GWay := n2_; have GEay := n3_; clear n0_ n1_ n2_ n3_ hb hbox hg; have hcz21_0 : w20.cell? ⟨gbay, 0, none⟩ = some (.string a0_0) := (blk_cell BKay.out 0).trans rfl; have hcz21_1 : w20.cell? ⟨gbay, 1, none⟩ = some (.slice A0_1 l0_1.length c0_1) := (blk_cell BKay.out 1).trans rfl; have hcz21_2 : w20.cell? ⟨gbay, 2, none⟩ = some (.slice A0_2 l0_2.length c0_2) := (blk_cell BKay.out 2).trans rfl; have hfz21_0 := blk_frozen BKay.out 0; have hfz21_1 := blk_frozen BKay.out 1; have hfz21_2 := blk_frozen BKay.out 2) | ((with_reducible refine gate_callee (f := 33) rfl ?_); refine goesL_ (some 12) rfl rfl Try.func33 Zq2 rfl #[.agg #[.string a0_0, .slice A0_1 l0_1.length c0_1, .slice A0_2 l0_2.length c0_2], .string a1] rfl Zq8 ?_; (with_reducible refine (arboretref01_Find.calls k a0_0 _ _ l0_1 _ _ l0_2 a1 tbv _ ?side1 ?side2 ?side3 ?side4 A3.out).mono ?_); (case side1 => repeat (first | exact Zq138 | (with_reducible refine Kd.C_alloc ?_ _) | (with_reducible refine Kd.C_drewN ?_ _) | (with_reducible refine Kd.C_drew ?_))); (case side2 => exact HC0_1.out); (case side3 => repeat (first | exact Zq161 | (with_reducible refine Kd.C_alloc ?_ _) | (with_reducible refine Kd.C_drewN ?_ _) | (with_reducible refine Kd.C_drew ?_))); (case side4 => exact HC0_2.out); rintro e w22 ⟨rfl, hb⟩; refine ⟨_, rfl, ?_⟩; have n0_ := Zq188; have n1_ := Zq258; clear BKay HB; have BKay := n0_; have HB := n1_; clear n0_ n1_; (try clear hb); (try clear hb2); (try clear hk); (try clear hi); have hcz23_0 : w22.cell? ⟨gbay, 0, none⟩ = some (.string a0_0) := (blk_cell BKay.out 0).trans rfl; have hcz23_1 : w22.cell? ⟨gbay, 1, none⟩ = some (.slice A0_1 l0_1.length c0_1) := (blk_cell BKay.out 1).trans rfl; have hcz23_2 : w22.cell? ⟨gbay, 2, none⟩ = some (.slice A0_2 l0_2.length c0_2) := (blk_cell BKay.out 2).trans rfl; have hfz23_0 := blk_frozen BKay.out 0; have hfz23_1 := blk_frozen BKay.out 1; have hfz23_2 := blk_frozen BKay.out 2; have p303 : 0 ≤ (tbv : Int) := of_decide_eq_true Zq5; have q303 : tbv < (l0_1.length : Int) := of_decide_eq_true Zq5; obtain ⟨adbD, AbD_1, cbD_1, e303, hx303_0, hx303_1, hl303_1, hi303_1⟩ := at_T63 HR0_1.out tbv p303 q303; cases e303; replace hx303_0 := (HB.out.cell (World.block_lt_of_cell? w _ hx303_0)).trans hx303_0; replace hx303_1 := (HB.out.cell (World.block_lt_of_cell? w _ hx303_1)).trans hx303_1; have HRbD_1 := Ak hi303_1; have HCbD_1 := Ak hl303_1; clear hi303_1 hl303_1; replace p303 := eq_true p303; replace q303 := eq_true q303) | ((with_reducible refine gate_callee (f := 61) rfl ?_); refine goesL_ (some 22) rfl rfl Try.func61 Zq2 rfl #[.slice AbD_1 ((rd_T63 l0_1 tbv).f1).length cbD_1] rfl Zq8 ?_; (with_reducible refine (arboretref06_Cells.calls k _ _ ((rd_T63 l0_1 tbv).f1) tbL tdv _ ?side1 ?side2 A10.out).mono ?_); (case side1 => repeat (first | exact (Kd.C_below HRbD_1.out HB.out) | (with_reducible refine Kd.C_alloc ?_ _) | (with_reducible refine Kd.C_drewN ?_ _) | (with_reducible refine Kd.C_drew ?_))); (case side2 => exact HCbD_1.out); rintro e w24 ⟨v306, rfl, ho0, hb⟩; refine ⟨_, rfl, ?_⟩; have n0_ := Ak (Kd.R_lower ho0 (below_size Zq48)); have n1_ := Zq214; have n2_ := Zq258; clear BKay HB; have HOee := n0_; have BKay := n1_; have HB := n2_; clear n0_ n1_ n2_; (try clear hb); (try clear hb2); (try clear hk); (try clear hi); (try clear ho0); obtain ⟨Ao25, co25, eo25⟩ := Kd.R_slice HOee.out; subst eo25))
      go_ret3
      exact ⟨Zq13, Zq48⟩
    ·rw [if_neg c11] at H; have c11b0 : (tdv == 0) = false := beq_eq_false_iff_ne.mpr c11; have c11b1 : (tdv != 0) = true := bne_iff_ne.mpr c11; simp only [Option.some.injEq, Prod.mk.injEq] at H; obtain ⟨rfl, rfl, rfl⟩ := H
     go_enter Try.func32, Try.ntmps32
     go_wp2_with (first | ((with_reducible refine gate_dst (N := 2) rfl ?_); (try (refine gate_guard Zq3 ?_; dsimp only)); refine box_event ?hg (N := 2) ?hd (cs := #[.string a0_0, .slice A0_1 l0_1.length c0_1, .slice A0_2 l0_2.length c0_2]) (t := 27) ?hr ?_; (case hd | hg => rfl); (case hr => first | (go_simp; done) | (go_simp; rfl)); intro gbay hg w26 hbox hb; have n0_ := Zq142; have n1_ := Ak (hbox); have n2_ := Zq184; have n3_ := Zq184; clear HB; have HB := n0_; have BKay := n1_; have GWay := n2_; have GEay := n3_; clear n0_ n1_ n2_ n3_ hb hbox hg; have hcz27_0 : w26.cell? ⟨gbay, 0, none⟩ = some (.string a0_0) := (blk_cell BKay.out 0).trans rfl; have hcz27_1 : w26.cell? ⟨gbay, 1, none⟩ = some (.slice A0_1 l0_1.length c0_1) := (blk_cell BKay.out 1).trans rfl; have hcz27_2 : w26.cell? ⟨gbay, 2, none⟩ = some (.slice A0_2 l0_2.length c0_2) := (blk_cell BKay.out 2).trans rfl; have hfz27_0 := blk_frozen BKay.out 0; have hfz27_1 := blk_frozen BKay.out 1; have hfz27_2 := blk_frozen BKay.out 2) | ((with_reducible refine gate_callee (f := 33) rfl ?_); refine goesL_ (some 12) rfl rfl Try.func33 Zq2 rfl #[.agg #[.string a0_0, .slice A0_1 l0_1.length c0_1, .slice A0_2 l0_2.length c0_2], .string a1] rfl Zq8 ?_; (with_reducible refine (arboretref01_Find.calls k a0_0 _ _ l0_1 _ _ l0_2 a1 tbv _ ?side1 ?side2 ?side3 ?side4 A3.out).mono ?_); (case side1 => repeat (first | exact Zq138 | (with_reducible refine Kd.C_alloc ?_ _) | (with_reducible refine Kd.C_drewN ?_ _) | (with_reducible refine Kd.C_drew ?_))); (case side2 => exact HC0_1.out); (case side3 => repeat (first | exact Zq161 | (with_reducible refine Kd.C_alloc ?_ _) | (with_reducible refine Kd.C_drewN ?_ _) | (with_reducible refine Kd.C_drew ?_))); (case side4 => exact HC0_2.out); rintro e w28 ⟨rfl, hb⟩; refine ⟨_, rfl, ?_⟩; have n0_ := Zq188; have n1_ := Zq258; clear BKay HB; have BKay := n0_; have HB := n1_; clear n0_ n1_; (try clear hb); (try clear hb2); (try clear hk); (try clear hi); have hcz29_0 : w28.cell? ⟨gbay, 0, none⟩ = some (.string a0_0) := (blk_cell BKay.out 0).trans rfl; have hcz29_1 : w28.cell? ⟨gbay, 1, none⟩ = some (.slice A0_1 l0_1.length c0_1) := (blk_cell BKay.out 1).trans rfl; have hcz29_2 : w28.cell? ⟨gbay, 2, none⟩ = some (.slice A0_2 l0_2.length c0_2) := (blk_cell BKay.out 2).trans rfl; have hfz29_0 := blk_frozen BKay.out 0; have hfz29_1 := blk_frozen BKay.out 1; have hfz29_2 := blk_frozen BKay.out 2; have p303 : 0 ≤ (tbv : Int) := of_decide_eq_true Zq5; have q303 : tbv < (l0_1.length : Int) := of_decide_eq_true Zq5; obtain ⟨adbD, AbD_1, cbD_1, e303, hx303_0, hx303_1, hl303_1, hi303_1⟩ := at_T63 HR0_1.out tbv p303 q303; cases e303; replace hx303_0 := (HB.out.cell (World.block_lt_of_cell? w _ hx303_0)).trans hx303_0; replace hx303_1 := (HB.out.cell (World.block_lt_of_cell? w _ hx303_1)).trans hx303_1; have HRbD_1 := Ak hi303_1; have HCbD_1 := Ak hl303_1; clear hi303_1 hl303_1; replace p303 := eq_true p303; replace q303 := eq_true q303) | ((with_reducible refine gate_callee (f := 61) rfl ?_); refine goesL_ (some 22) rfl rfl Try.func61 Zq2 rfl #[.slice AbD_1 ((rd_T63 l0_1 tbv).f1).length cbD_1] rfl Zq8 ?_; (with_reducible refine (arboretref06_Cells.calls k _ _ ((rd_T63 l0_1 tbv).f1) tbL tdv _ ?side1 ?side2 A10.out).mono ?_); (case side1 => repeat (first | exact (Kd.C_below HRbD_1.out HB.out) | (with_reducible refine Kd.C_alloc ?_ _) | (with_reducible refine Kd.C_drewN ?_ _) | (with_reducible refine Kd.C_drew ?_))); (case side2 => exact HCbD_1.out); rintro e w30 ⟨v306, rfl, ho0, hb⟩; refine ⟨_, rfl, ?_⟩; have n0_ := Ak (Kd.R_lower ho0 (below_size Zq48)); have n1_ := Zq214; have n2_ := Zq258; clear BKay HB; have HOee := n0_; have BKay := n1_; have HB := n2_; clear n0_ n1_ n2_; (try clear hb); (try clear hb2); (try clear hk); (try clear hi); (try clear ho0)))
     go_ret3
     exact ⟨Zq13, Zq48⟩
   ·rw [if_neg c9] at H; exact absurd H Zq10
  ·rw [if_neg c8] at H; exact absurd H Zq10
def arboretref12_Controller.f (k : Nat) (a0_0 : ByteArray) (l0_1 : List (S63)) (l0_2 : List (S27)) : Option (Bool) := (arboretref06_One.f k a0_0 l0_1 l0_2 (⟨#[35, 105, 110, 116, 101, 114, 114, 117, 112, 116, 45, 99, 101, 108, 108, 115]⟩ : ByteArray)).bind fun btcw => ((arboretref01_Find.f k a0_0 l0_1 l0_2 (⟨#[105, 110, 116, 101, 114, 114, 117, 112, 116, 45, 99, 111, 110, 116, 114, 111, 108, 108, 101, 114]⟩ : ByteArray)).bind fun tcE => (if tcE ≥ 0 then (if btcw.2.1 = true then (if btcw.2.2 = 0 then (some (btcw.1 == 1)) else (some false)) else (some false)) else (some false)))
set_option maxHeartbeats 8000000 in
set_option maxRecDepth 100000 in
theorem arboretref12_Controller.calls (k : Nat) (a0_0 : ByteArray) (A0_1 : Option Addr) (c0_1 : Nat) (l0_1 : List (S63)) (A0_2 : Option Addr) (c0_2 : Nat) (l0_2 : List (S27)) (r : Bool) (w : World) (hr0_1 : Kd.C k63 w A0_1 l0_1.length l0_1) (hc0_1 : l0_1.length ≤ c0_1) (hr0_2 : Kd.C k27 w A0_2 l0_2.length l0_2) (hc0_2 : l0_2.length ≤ c0_2) (h : arboretref12_Controller.f k a0_0 l0_1 l0_2 = some r) :
  Calls Try.prog 13 #[.agg #[.string a0_0, .slice A0_1 l0_1.length c0_1, .slice A0_2 l0_2.length c0_2]] w fun e w' => e = .returned (.bool r) ∧ Below w.heap.size w w' := by
 have hu27 := Try.underlying27; have HR0_1 := Ak hr0_1; have HC0_1 := Ak hc0_1; clear hr0_1 hc0_1; have HR0_2 := Ak hr0_2; have HC0_2 := Ak hc0_2; clear hr0_2 hc0_2; have HB := Zq151; have H : ((arboretref06_One.f k a0_0 l0_1 l0_2 (⟨#[35, 105, 110, 116, 101, 114, 114, 117, 112, 116, 45, 99, 101, 108, 108, 115]⟩ : ByteArray)).bind fun btcw => ((arboretref01_Find.f k a0_0 l0_1 l0_2 (⟨#[105, 110, 116, 101, 114, 114, 117, 112, 116, 45, 99, 111, 110, 116, 114, 111, 108, 108, 101, 114]⟩ : ByteArray)).bind fun tcE => (if tcE ≥ 0 then (if btcw.2.1 = true then (if btcw.2.2 = 0 then (some (btcw.1 == 1)) else (some false)) else (some false)) else (some false)))) = some r := h; clear h; replace H := Option.bind_eq_some_iff.mp H; obtain ⟨⟨tcw, tey, tcQ⟩, A20, H⟩ := H; replace H : ((arboretref01_Find.f k a0_0 l0_1 l0_2 (⟨#[105, 110, 116, 101, 114, 114, 117, 112, 116, 45, 99, 111, 110, 116, 114, 111, 108, 108, 101, 114]⟩ : ByteArray)).bind fun tcE => (if tcE ≥ 0 then (if tey = true then (if tcQ = 0 then (some (tcw == 1)) else (some false)) else (some false)) else (some false))) = some r := H; have A2 := Ak A20; clear A20; replace H := Option.bind_eq_some_iff.mp H; obtain ⟨tcE, A30, H⟩ := H; replace H : (if tcE ≥ 0 then (if tey = true then (if tcQ = 0 then (some (tcw == 1)) else (some false)) else (some false)) else (some false)) = some r := H; have A3 := Ak A30; clear A30
 by_cases c4 : tcE ≥ 0
 ·rw [if_pos c4] at H; have c4b0 : decide (0 ≤ tcE) = true := decide_eq_true c4; clear c4
  by_cases c5 : tey = true
  ·subst c5
   have H1 : (if tcQ = 0 then (some (tcw == 1)) else (some false)) = some r := by rw [if_pos rfl] at H; exact H
   clear H; have H := H1; clear H1
   by_cases c6 : tcQ = 0
   ·rw [if_pos c6] at H; have c6b0 : (tcQ == 0) = true := beq_iff_eq.mpr c6; have c6b1 : (tcQ != 0) = false := bne_eq_false_iff_eq.mpr c6; clear c6; obtain rfl := Option.some.inj H
    go_enter Try.func13, Try.ntmps13
    go_wp2_with (first | ((with_reducible refine gate_dst (N := 1) rfl ?_); refine box_event ?hg (N := 1) ?hd (cs := #[.string a0_0, .slice A0_1 l0_1.length c0_1, .slice A0_2 l0_2.length c0_2]) (t := 27) ?hr ?_; (case hd | hg => rfl); (case hr => first | (go_simp; done) | (go_simp; rfl)); intro gbav hg w7 hbox hb; have n0_ := Zq142; have n1_ := Ak (hbox); have n2_ := Zq185; have n3_ := Zq185; clear HB; have HB := n0_; have BKav := n1_; have GWav := n2_; have GEav := n3_; clear n0_ n1_ n2_ n3_ hb hbox hg; have hcz8_0 : w7.cell? ⟨gbav, 0, none⟩ = some (.string a0_0) := (blk_cell BKav.out 0).trans rfl; have hcz8_1 : w7.cell? ⟨gbav, 1, none⟩ = some (.slice A0_1 l0_1.length c0_1) := (blk_cell BKav.out 1).trans rfl; have hcz8_2 : w7.cell? ⟨gbav, 2, none⟩ = some (.slice A0_2 l0_2.length c0_2) := (blk_cell BKav.out 2).trans rfl; have hfz8_0 := blk_frozen BKav.out 0; have hfz8_1 := blk_frozen BKav.out 1; have hfz8_2 := blk_frozen BKav.out 2) | ((with_reducible refine gate_callee (f := 32) rfl ?_); refine goesL_ (some 8) rfl rfl Try.func32 Zq2 rfl #[.agg #[.string a0_0, .slice A0_1 l0_1.length c0_1, .slice A0_2 l0_2.length c0_2], .string (⟨#[35, 105, 110, 116, 101, 114, 114, 117, 112, 116, 45, 99, 101, 108, 108, 115]⟩ : ByteArray)] rfl Zq8 ?_; (with_reducible refine (arboretref06_One.calls k a0_0 _ _ l0_1 _ _ l0_2 (⟨#[35, 105, 110, 116, 101, 114, 114, 117, 112, 116, 45, 99, 101, 108, 108, 115]⟩ : ByteArray) tcw true tcQ _ ?side1 ?side2 ?side3 ?side4 A2.out).mono ?_); (case side1 => repeat (first | exact Zq138 | (with_reducible refine Kd.C_alloc ?_ _) | (with_reducible refine Kd.C_drewN ?_ _) | (with_reducible refine Kd.C_drew ?_))); (case side2 => exact HC0_1.out); (case side3 => repeat (first | exact Zq161 | (with_reducible refine Kd.C_alloc ?_ _) | (with_reducible refine Kd.C_drewN ?_ _) | (with_reducible refine Kd.C_drew ?_))); (case side4 => exact HC0_2.out); rintro e w9 ⟨rfl, hb⟩; refine ⟨_, rfl, ?_⟩; have n0_ := Zq148; have n1_ := Zq250; clear BKav HB; have BKav := n0_; have HB := n1_; clear n0_ n1_; (try clear hb); (try clear hb2); (try clear hk); (try clear hi); have hcz10_0 : w9.cell? ⟨gbav, 0, none⟩ = some (.string a0_0) := (blk_cell BKav.out 0).trans rfl; have hcz10_1 : w9.cell? ⟨gbav, 1, none⟩ = some (.slice A0_1 l0_1.length c0_1) := (blk_cell BKav.out 1).trans rfl; have hcz10_2 : w9.cell? ⟨gbav, 2, none⟩ = some (.slice A0_2 l0_2.length c0_2) := (blk_cell BKav.out 2).trans rfl; have hfz10_0 := blk_frozen BKav.out 0; have hfz10_1 := blk_frozen BKav.out 1; have hfz10_2 := blk_frozen BKav.out 2) | ((with_reducible refine gate_callee (f := 33) rfl ?_); refine goesL_ (some 13) rfl rfl Try.func33 Zq2 rfl #[.agg #[.string a0_0, .slice A0_1 l0_1.length c0_1, .slice A0_2 l0_2.length c0_2], .string (⟨#[105, 110, 116, 101, 114, 114, 117, 112, 116, 45, 99, 111, 110, 116, 114, 111, 108, 108, 101, 114]⟩ : ByteArray)] rfl Zq8 ?_; (with_reducible refine (arboretref01_Find.calls k a0_0 _ _ l0_1 _ _ l0_2 (⟨#[105, 110, 116, 101, 114, 114, 117, 112, 116, 45, 99, 111, 110, 116, 114, 111, 108, 108, 101, 114]⟩ : ByteArray) tcE _ ?side1 ?side2 ?side3 ?side4 A3.out).mono ?_); (case side1 => repeat (first | exact Zq138 | (with_reducible refine Kd.C_alloc ?_ _) | (with_reducible refine Kd.C_drewN ?_ _) | (with_reducible refine Kd.C_drew ?_))); (case side2 => exact HC0_1.out); (case side3 => repeat (first | exact Zq161 | (with_reducible refine Kd.C_alloc ?_ _) | (with_reducible refine Kd.C_drewN ?_ _) | (with_reducible refine Kd.C_drew ?_))); (case side4 => exact HC0_2.out); rintro e w11 ⟨rfl, hb⟩; refine ⟨_, rfl, ?_⟩; have n0_ := Zq148; have n1_ := Zq250; clear BKav HB; have BKav := n0_; have HB := n1_; clear n0_ n1_; (try clear hb); (try clear hb2); (try clear hk); (try clear hi)))
    go_ret
    exact ⟨Zq13, Zq56⟩
   ·rw [if_neg c6] at H; have c6b0 : (tcQ == 0) = false := beq_eq_false_iff_ne.mpr c6; have c6b1 : (tcQ != 0) = true := bne_iff_ne.mpr c6; obtain rfl := Option.some.inj H
    go_enter Try.func13, Try.ntmps13
    go_wp2_with (first | ((with_reducible refine gate_dst (N := 1) rfl ?_); refine box_event ?hg (N := 1) ?hd (cs := #[.string a0_0, .slice A0_1 l0_1.length c0_1, .slice A0_2 l0_2.length c0_2]) (t := 27) ?hr ?_; (case hd | hg => rfl); (case hr => first | (go_simp; done) | (go_simp; rfl)); intro gbav hg w12 hbox hb; have n0_ := Zq142; have n1_ := Ak (hbox); have n2_ := Zq185; have n3_ := Zq185; clear HB; have HB := n0_; have BKav := n1_; have GWav := n2_; have GEav := n3_; clear n0_ n1_ n2_ n3_ hb hbox hg; have hcz13_0 : w12.cell? ⟨gbav, 0, none⟩ = some (.string a0_0) := (blk_cell BKav.out 0).trans rfl; have hcz13_1 : w12.cell? ⟨gbav, 1, none⟩ = some (.slice A0_1 l0_1.length c0_1) := (blk_cell BKav.out 1).trans rfl; have hcz13_2 : w12.cell? ⟨gbav, 2, none⟩ = some (.slice A0_2 l0_2.length c0_2) := (blk_cell BKav.out 2).trans rfl; have hfz13_0 := blk_frozen BKav.out 0; have hfz13_1 := blk_frozen BKav.out 1; have hfz13_2 := blk_frozen BKav.out 2) | ((with_reducible refine gate_callee (f := 32) rfl ?_); refine goesL_ (some 8) rfl rfl Try.func32 Zq2 rfl #[.agg #[.string a0_0, .slice A0_1 l0_1.length c0_1, .slice A0_2 l0_2.length c0_2], .string (⟨#[35, 105, 110, 116, 101, 114, 114, 117, 112, 116, 45, 99, 101, 108, 108, 115]⟩ : ByteArray)] rfl Zq8 ?_; (with_reducible refine (arboretref06_One.calls k a0_0 _ _ l0_1 _ _ l0_2 (⟨#[35, 105, 110, 116, 101, 114, 114, 117, 112, 116, 45, 99, 101, 108, 108, 115]⟩ : ByteArray) tcw true tcQ _ ?side1 ?side2 ?side3 ?side4 A2.out).mono ?_); (case side1 => repeat (first | exact Zq138 | (with_reducible refine Kd.C_alloc ?_ _) | (with_reducible refine Kd.C_drewN ?_ _) | (with_reducible refine Kd.C_drew ?_))); (case side2 => exact HC0_1.out); (case side3 => repeat (first | exact Zq161 | (with_reducible refine Kd.C_alloc ?_ _) | (with_reducible refine Kd.C_drewN ?_ _) | (with_reducible refine Kd.C_drew ?_))); (case side4 => exact HC0_2.out); rintro e w14 ⟨rfl, hb⟩; refine ⟨_, rfl, ?_⟩; have n0_ := Zq148; have n1_ := Zq250; clear BKav HB; have BKav := n0_; have HB := n1_; clear n0_ n1_; (try clear hb); (try clear hb2); (try clear hk); (try clear hi); have hcz15_0 : w14.cell? ⟨gbav, 0, none⟩ = some (.string a0_0) := (blk_cell BKav.out 0).trans rfl; have hcz15_1 : w14.cell? ⟨gbav, 1, none⟩ = some (.slice A0_1 l0_1.length c0_1) := (blk_cell BKav.out 1).trans rfl; have hcz15_2 : w14.cell? ⟨gbav, 2, none⟩ = some (.slice A0_2 l0_2.length c0_2) := (blk_cell BKav.out 2).trans rfl; have hfz15_0 := blk_frozen BKav.out 0; have hfz15_1 := blk_frozen BKav.out 1; have hfz15_2 := blk_frozen BKav.out 2) | ((with_reducible refine gate_callee (f := 33) rfl ?_); refine goesL_ (some 13) rfl rfl Try.func33 Zq2 rfl #[.agg #[.string a0_0, .slice A0_1 l0_1.length c0_1, .slice A0_2 l0_2.length c0_2], .string (⟨#[105, 110, 116, 101, 114, 114, 117, 112, 116, 45, 99, 111, 110, 116, 114, 111, 108, 108, 101, 114]⟩ : ByteArray)] rfl Zq8 ?_; (with_reducible refine (arboretref01_Find.calls k a0_0 _ _ l0_1 _ _ l0_2 (⟨#[105, 110, 116, 101, 114, 114, 117, 112, 116, 45, 99, 111, 110, 116, 114, 111, 108, 108, 101, 114]⟩ : ByteArray) tcE _ ?side1 ?side2 ?side3 ?side4 A3.out).mono ?_); (case side1 => repeat (first | exact Zq138 | (with_reducible refine Kd.C_alloc ?_ _) | (with_reducible refine Kd.C_drewN ?_ _) | (with_reducible refine Kd.C_drew ?_))); (case side2 => exact HC0_1.out); (case side3 => repeat (first | exact Zq161 | (with_reducible refine Kd.C_alloc ?_ _) | (with_reducible refine Kd.C_drewN ?_ _) | (with_reducible refine Kd.C_drew ?_))); (case side4 => exact HC0_2.out); rintro e w16 ⟨rfl, hb⟩; refine ⟨_, rfl, ?_⟩; have n0_ := Zq148; have n1_ := Zq250; clear BKav HB; have BKav := n0_; have HB := n1_; clear n0_ n1_; (try clear hb); (try clear hb2); (try clear hk); (try clear hi)))
    go_ret
    exact ⟨Zq13, Zq56⟩
  ·replace c5 := Bool.eq_false_iff.mpr c5; subst c5
   have H1 : (some false) = some r := by rw [if_neg (show ¬ (false = true) by decide)] at H; exact H
   clear H; have H := H1; clear H1; obtain rfl := Option.some.inj H
   go_enter Try.func13, Try.ntmps13
   go_wp2_with (first | ((with_reducible refine gate_dst (N := 1) rfl ?_); refine box_event ?hg (N := 1) ?hd (cs := #[.string a0_0, .slice A0_1 l0_1.length c0_1, .slice A0_2 l0_2.length c0_2]) (t := 27) ?hr ?_; (case hd | hg => rfl); (case hr => first | (go_simp; done) | (go_simp; rfl)); intro gbav hg w17 hbox hb; have n0_ := Zq142; have n1_ := Ak (hbox); have n2_ := Zq185; have n3_ := Zq185; clear HB; have HB := n0_; have BKav := n1_; have GWav := n2_; have GEav := n3_; clear n0_ n1_ n2_ n3_ hb hbox hg; have hcz18_0 : w17.cell? ⟨gbav, 0, none⟩ = some (.string a0_0) := (blk_cell BKav.out 0).trans rfl; have hcz18_1 : w17.cell? ⟨gbav, 1, none⟩ = some (.slice A0_1 l0_1.length c0_1) := (blk_cell BKav.out 1).trans rfl; have hcz18_2 : w17.cell? ⟨gbav, 2, none⟩ = some (.slice A0_2 l0_2.length c0_2) := (blk_cell BKav.out 2).trans rfl; have hfz18_0 := blk_frozen BKav.out 0; have hfz18_1 := blk_frozen BKav.out 1; have hfz18_2 := blk_frozen BKav.out 2) | ((with_reducible refine gate_callee (f := 32) rfl ?_); refine goesL_ (some 8) rfl rfl Try.func32 Zq2 rfl #[.agg #[.string a0_0, .slice A0_1 l0_1.length c0_1, .slice A0_2 l0_2.length c0_2], .string (⟨#[35, 105, 110, 116, 101, 114, 114, 117, 112, 116, 45, 99, 101, 108, 108, 115]⟩ : ByteArray)] rfl Zq8 ?_; (with_reducible refine (arboretref06_One.calls k a0_0 _ _ l0_1 _ _ l0_2 (⟨#[35, 105, 110, 116, 101, 114, 114, 117, 112, 116, 45, 99, 101, 108, 108, 115]⟩ : ByteArray) tcw false tcQ _ ?side1 ?side2 ?side3 ?side4 A2.out).mono ?_); (case side1 => repeat (first | exact Zq138 | (with_reducible refine Kd.C_alloc ?_ _) | (with_reducible refine Kd.C_drewN ?_ _) | (with_reducible refine Kd.C_drew ?_))); (case side2 => exact HC0_1.out); (case side3 => repeat (first | exact Zq161 | (with_reducible refine Kd.C_alloc ?_ _) | (with_reducible refine Kd.C_drewN ?_ _) | (with_reducible refine Kd.C_drew ?_))); (case side4 => exact HC0_2.out); rintro e w19 ⟨rfl, hb⟩; refine ⟨_, rfl, ?_⟩; have n0_ := Zq148; have n1_ := Zq250; clear BKav HB; have BKav := n0_; have HB := n1_; clear n0_ n1_; (try clear hb); (try clear hb2); (try clear hk); (try clear hi); have hcz20_0 : w19.cell? ⟨gbav, 0, none⟩ = some (.string a0_0) := (blk_cell BKav.out 0).trans rfl; have hcz20_1 : w19.cell? ⟨gbav, 1, none⟩ = some (.slice A0_1 l0_1.length c0_1) := (blk_cell BKav.out 1).trans rfl; have hcz20_2 : w19.cell? ⟨gbav, 2, none⟩ = some (.slice A0_2 l0_2.length c0_2) := (blk_cell BKav.out 2).trans rfl; have hfz20_0 := blk_frozen BKav.out 0; have hfz20_1 := blk_frozen BKav.out 1; have hfz20_2 := blk_frozen BKav.out 2) | ((with_reducible refine gate_callee (f := 33) rfl ?_); refine goesL_ (some 13) rfl rfl Try.func33 Zq2 rfl #[.agg #[.string a0_0, .slice A0_1 l0_1.length c0_1, .slice A0_2 l0_2.length c0_2], .string (⟨#[105, 110, 116, 101, 114, 114, 117, 112, 116, 45, 99, 111, 110, 116, 114, 111, 108, 108, 101, 114]⟩ : ByteArray)] rfl Zq8 ?_; (with_reducible refine (arboretref01_Find.calls k a0_0 _ _ l0_1 _ _ l0_2 (⟨#[105, 110, 116, 101, 114, 114, 117, 112, 116, 45, 99, 111, 110, 116, 114, 111, 108, 108, 101, 114]⟩ : ByteArray) tcE _ ?side1 ?side2 ?side3 ?side4 A3.out).mono ?_); (case side1 => repeat (first | exact Zq138 | (with_reducible refine Kd.C_alloc ?_ _) | (with_reducible refine Kd.C_drewN ?_ _) | (with_reducible refine Kd.C_drew ?_))); (case side2 => exact HC0_1.out); (case side3 => repeat (first | exact Zq161 | (with_reducible refine Kd.C_alloc ?_ _) | (with_reducible refine Kd.C_drewN ?_ _) | (with_reducible refine Kd.C_drew ?_))); (case side4 => exact HC0_2.out); rintro e w21 ⟨rfl, hb⟩; refine ⟨_, rfl, ?_⟩; have n0_ := Zq148; have n1_ := Zq250; clear BKav HB; have BKav := n0_; have HB := n1_; clear n0_ n1_; (try clear hb); (try clear hb2); (try clear hk); (try clear hi)))
   go_ret
   exact ⟨Zq13, Zq56⟩
 ·rw [if_neg c4] at H; have c4b0 : decide (0 ≤ tcE) = false := decide_eq_false c4; clear c4; obtain rfl := Option.some.inj H
  go_enter Try.func13, Try.ntmps13
  go_wp2_with (first | ((with_reducible refine gate_dst (N := 1) rfl ?_); refine box_event ?hg (N := 1) ?hd (cs := #[.string a0_0, .slice A0_1 l0_1.length c0_1, .slice A0_2 l0_2.length c0_2]) (t := 27) ?hr ?_; (case hd | hg => rfl); (case hr => first | (go_simp; done) | (go_simp; rfl)); intro gbav hg w22 hbox hb; have n0_ := Zq142; have n1_ := Ak (hbox); have n2_ := Zq185; have n3_ := Zq185; clear HB; have HB := n0_; have BKav := n1_; have GWav := n2_; have GEav := n3_; clear n0_ n1_ n2_ n3_ hb hbox hg; have hcz23_0 : w22.cell? ⟨gbav, 0, none⟩ = some (.string a0_0) := (blk_cell BKav.out 0).trans rfl; have hcz23_1 : w22.cell? ⟨gbav, 1, none⟩ = some (.slice A0_1 l0_1.length c0_1) := (blk_cell BKav.out 1).trans rfl; have hcz23_2 : w22.cell? ⟨gbav, 2, none⟩ = some (.slice A0_2 l0_2.length c0_2) := (blk_cell BKav.out 2).trans rfl; have hfz23_0 := blk_frozen BKav.out 0; have hfz23_1 := blk_frozen BKav.out 1; have hfz23_2 := blk_frozen BKav.out 2) | ((with_reducible refine gate_callee (f := 32) rfl ?_); refine goesL_ (some 8) rfl rfl Try.func32 Zq2 rfl #[.agg #[.string a0_0, .slice A0_1 l0_1.length c0_1, .slice A0_2 l0_2.length c0_2], .string (⟨#[35, 105, 110, 116, 101, 114, 114, 117, 112, 116, 45, 99, 101, 108, 108, 115]⟩ : ByteArray)] rfl Zq8 ?_; (with_reducible refine (arboretref06_One.calls k a0_0 _ _ l0_1 _ _ l0_2 (⟨#[35, 105, 110, 116, 101, 114, 114, 117, 112, 116, 45, 99, 101, 108, 108, 115]⟩ : ByteArray) tcw tey tcQ _ ?side1 ?side2 ?side3 ?side4 A2.out).mono ?_); (case side1 => repeat (first | exact Zq138 | (with_reducible refine Kd.C_alloc ?_ _) | (with_reducible refine Kd.C_drewN ?_ _) | (with_reducible refine Kd.C_drew ?_))); (case side2 => exact HC0_1.out); (case side3 => repeat (first | exact Zq161 | (with_reducible refine Kd.C_alloc ?_ _) | (with_reducible refine Kd.C_drewN ?_ _) | (with_reducible refine Kd.C_drew ?_))); (case side4 => exact HC0_2.out); rintro e w24 ⟨rfl, hb⟩; refine ⟨_, rfl, ?_⟩; have n0_ := Zq148; have n1_ := Zq250; clear BKav HB; have BKav := n0_; have HB := n1_; clear n0_ n1_; (try clear hb); (try clear hb2); (try clear hk); (try clear hi); have hcz25_0 : w24.cell? ⟨gbav, 0, none⟩ = some (.string a0_0) := (blk_cell BKav.out 0).trans rfl; have hcz25_1 : w24.cell? ⟨gbav, 1, none⟩ = some (.slice A0_1 l0_1.length c0_1) := (blk_cell BKav.out 1).trans rfl; have hcz25_2 : w24.cell? ⟨gbav, 2, none⟩ = some (.slice A0_2 l0_2.length c0_2) := (blk_cell BKav.out 2).trans rfl; have hfz25_0 := blk_frozen BKav.out 0; have hfz25_1 := blk_frozen BKav.out 1; have hfz25_2 := blk_frozen BKav.out 2) | ((with_reducible refine gate_callee (f := 33) rfl ?_); refine goesL_ (some 13) rfl rfl Try.func33 Zq2 rfl #[.agg #[.string a0_0, .slice A0_1 l0_1.length c0_1, .slice A0_2 l0_2.length c0_2], .string (⟨#[105, 110, 116, 101, 114, 114, 117, 112, 116, 45, 99, 111, 110, 116, 114, 111, 108, 108, 101, 114]⟩ : ByteArray)] rfl Zq8 ?_; (with_reducible refine (arboretref01_Find.calls k a0_0 _ _ l0_1 _ _ l0_2 (⟨#[105, 110, 116, 101, 114, 114, 117, 112, 116, 45, 99, 111, 110, 116, 114, 111, 108, 108, 101, 114]⟩ : ByteArray) tcE _ ?side1 ?side2 ?side3 ?side4 A3.out).mono ?_); (case side1 => repeat (first | exact Zq138 | (with_reducible refine Kd.C_alloc ?_ _) | (with_reducible refine Kd.C_drewN ?_ _) | (with_reducible refine Kd.C_drew ?_))); (case side2 => exact HC0_1.out); (case side3 => repeat (first | exact Zq161 | (with_reducible refine Kd.C_alloc ?_ _) | (with_reducible refine Kd.C_drewN ?_ _) | (with_reducible refine Kd.C_drew ?_))); (case side4 => exact HC0_2.out); rintro e w26 ⟨rfl, hb⟩; refine ⟨_, rfl, ?_⟩; have n0_ := Zq148; have n1_ := Zq250; clear BKav HB; have BKav := n0_; have HB := n1_; clear n0_ n1_; (try clear hb); (try clear hb2); (try clear hk); (try clear hi)))
  go_ret
  exact ⟨Zq13, Zq56⟩
def arboretref12_Equal.l0 : Nat → List Int → List Int → Int → Int → Option (Bool)
 | 0, _, _, _, _ => none
 | k + 1, x0, x1, x12, x13 => if x13 < x12 then (if 0 ≤ x13 then (if x13 < (x0.length : Int) then (if x13 < (x1.length : Int) then (if (rd x0 x13) = (rd x1 x13) then (arboretref12_Equal.l0 k x0 x1 x12 (wrap64 (x13 + 1))) else (some false)) else (none)) else (none)) else (none)) else (some true)
def arboretref12_Equal.f (k : Nat) (l0 : List Int) (l1 : List Int) : Option (Bool) := if (l0.length : Int) = (l1.length : Int) then (arboretref12_Equal.l0 k l0 l1 (l0.length : Int) 0) else (some false)
end Go.Proofs.Ytkopmkinlanhoaa.PB

namespace Go.Proofs.Ytkopmkinlanhoaa.PB
open Go.RowKit Go.Proofs.YtkopmkinlanhoaaW.PrintWords Go.Proofs.YtkopmkinlanhoaaW.PrintLast Go.Proofs.YtkopmkinlanhoaaW.PrintMore
attribute [local go_sem] max2_int min2_int max_two min_two max_three min_three max_four min_four
set_option maxHeartbeats 8000000 in
set_option maxRecDepth 100000 in
theorem arboretref12_Equal.calls (k : Nat) (A0 : Option Addr) (c0 : Nat) (l0 : List Int) (A1 : Option Addr) (c1 : Nat) (l1 : List Int) (r : Bool) (w : World) (hr0 : Kd.C (Kd.int .i64) w A0 l0.length l0) (hc0 : l0.length ≤ c0) (hr1 : Kd.C (Kd.int .i64) w A1 l1.length l1) (hc1 : l1.length ≤ c1) (h : arboretref12_Equal.f k l0 l1 = some r) :
  Calls Try.prog 14 #[.slice A0 l0.length c0, .slice A1 l1.length c1] w fun e w' => e = .returned (.bool r) ∧ Drawn0 w w' := by
 have HR0 := Ak hr0; have HC0 := Ak hc0; clear hr0 hc0; have HR1 := Ak hr1; have HC1 := Ak hc1; clear hr1 hc1; have H : (if (l0.length : Int) = (l1.length : Int) then (arboretref12_Equal.l0 k l0 l1 (l0.length : Int) 0) else (some false)) = some r := h; clear h
 by_cases c3 : (l0.length : Int) = (l1.length : Int)
 ·rw [if_pos c3] at H; have c3b0 : ((l0.length : Int) == (l1.length : Int)) = true := beq_iff_eq.mpr c3; have c3b1 : ((l0.length : Int) != (l1.length : Int)) = false := bne_eq_false_iff_eq.mpr c3
  have c3b2 : (l0.length == l1.length) = true := by first | simpa using c3 | (simp at c3 ⊢; omega)
  clear c3; have H' := Ak H; clear H
  go_enter Try.func14, Try.ntmps14
  go_wp2
  repeat (go_quiet (fail); try go_wp2)
  go_loopg [13] k (fun kq v13 w' => ∃ (x13_1 : Int), v13 = .int .i64 x13_1 ∧ Aside0 (arboretref12_Equal.l0 kq l0 l1 (l0.length : Int) x13_1 = some r) ∧ Aside0 (kq ≤ k) ∧ Drawn0 w w')
  case atStart => exact ⟨(0), Zq7, H', ⟨Nat.le_refl _⟩, Zq9⟩
  case round =>
   clear H'
   try clear c1
   try clear p2
   try clear c3
   try clear c3b0
   try clear c3b1
   try clear c3b2
   obtain ⟨x13_1, rfl, HA, HK1, ⟨m1, rfl⟩⟩ := hrel
   cases gk with
   | zero => exact absurd HA.out (by simp [arboretref12_Equal.l0])
   | succ k1 =>
    have H := HA.out; clear HA; simp only [arboretref12_Equal.l0] at H
    by_cases c4 : x13_1 < (l0.length : Int)
    ·rw [if_pos c4] at H; have c4b0 : decide (x13_1 < (l0.length : Int)) = true := decide_eq_true c4; clear c4
     by_cases c5 : 0 ≤ x13_1
     ·rw [if_pos c5] at H; have c5b0 : decide (0 ≤ x13_1) = true := decide_eq_true c5; clear c5
      by_cases c6 : x13_1 < (l0.length : Int)
      ·rw [if_pos c6] at H; have c6b0 : decide (x13_1 < (l0.length : Int)) = true := decide_eq_true c6; clear c6
       by_cases c7 : x13_1 < (l1.length : Int)
       ·rw [if_pos c7] at H; have c7b0 : decide (x13_1 < (l1.length : Int)) = true := decide_eq_true c7; clear c7
        by_cases c8 : (rd l0 x13_1) = (rd l1 x13_1)
        ·rw [if_pos c8] at H; have c8b0 : ((rd l0 x13_1) == (rd l1 x13_1)) = true := beq_iff_eq.mpr c8; have c8b1 : ((rd l0 x13_1) != (rd l1 x13_1)) = false := bne_eq_false_iff_eq.mpr c8; clear c8; have H' := Ak H; clear H; have p314 : 0 ≤ (x13_1 : Int) := of_decide_eq_true Zq5; have q314 : x13_1 < (l0.length : Int) := of_decide_eq_true Zq5; obtain ⟨adfy, e314, hx314_0⟩ := Kd.at_int HR0.out x13_1 p314 q314
         cases e314
         replace p314 := eq_true p314; replace q314 := eq_true q314; have p315 : 0 ≤ (x13_1 : Int) := of_decide_eq_true Zq5; have q315 : x13_1 < (l1.length : Int) := of_decide_eq_true Zq5; obtain ⟨adfz, e315, hx315_0⟩ := Kd.at_int HR1.out x13_1 p315 q315
         cases e315
         replace p315 := eq_true p315; replace q315 := eq_true q315
         go_wp2
         repeat (go_quiet (fail); try go_wp2)
         go_roundg k1
         case measure => have := HK1.out; omega
         case rel => exact ⟨(wrap64 (x13_1 + 1)), Zq7, H', ⟨Zq27⟩, Zq9⟩
        ·rw [if_neg c8] at H; have c8b0 : ((rd l0 x13_1) == (rd l1 x13_1)) = false := beq_eq_false_iff_ne.mpr c8; have c8b1 : ((rd l0 x13_1) != (rd l1 x13_1)) = true := bne_iff_ne.mpr c8; obtain rfl := Option.some.inj H; have p314 : 0 ≤ (x13_1 : Int) := of_decide_eq_true Zq5; have q314 : x13_1 < (l0.length : Int) := of_decide_eq_true Zq5; obtain ⟨adfy, e314, hx314_0⟩ := Kd.at_int HR0.out x13_1 p314 q314
         cases e314
         replace p314 := eq_true p314; replace q314 := eq_true q314; have p315 : 0 ≤ (x13_1 : Int) := of_decide_eq_true Zq5; have q315 : x13_1 < (l1.length : Int) := of_decide_eq_true Zq5; obtain ⟨adfz, e315, hx315_0⟩ := Kd.at_int HR1.out x13_1 p315 q315
         cases e315
         replace p315 := eq_true p315; replace q315 := eq_true q315
         go_wp2
         repeat (go_quiet (fail); try go_wp2)
         go_ret
         exact ⟨Zq7, Zq9⟩
       ·rw [if_neg c7] at H; exact absurd H Zq10
      ·rw [if_neg c6] at H; exact absurd H Zq10
     ·rw [if_neg c5] at H; exact absurd H Zq10
    ·rw [if_neg c4] at H; have c4b0 : decide (x13_1 < (l0.length : Int)) = false := decide_eq_false c4; clear c4; obtain rfl := Option.some.inj H
     go_wp2
     repeat (go_quiet (fail); try go_wp2)
     go_ret
     exact ⟨Zq7, Zq9⟩
 ·rw [if_neg c3] at H; have c3b0 : ((l0.length : Int) == (l1.length : Int)) = false := beq_eq_false_iff_ne.mpr c3; have c3b1 : ((l0.length : Int) != (l1.length : Int)) = true := bne_iff_ne.mpr c3
  have c3b2 : (l0.length == l1.length) = false := by first | simpa using c3 | (simp at c3 ⊢; omega)
  obtain rfl := Option.some.inj H
  go_enter Try.func14, Try.ntmps14
  go_wp2
  repeat (go_quiet (fail); try go_wp2)
  go_ret
  exact ⟨Zq7, Zq9⟩
def arboretlaw14_IrqSelf.j0 : Nat → Bool → Int → List (S82) → ByteArray → List (S63) → List (S27) → List Int → Int → Option (Bool)
 | 0, _, _, _, _, _, _, _, _ => none
 | k + 1, x19, xeS, xeT, xeU, xeV, xeW, xfA, xfB => if x19 = true then ((arboretlaw14_awake.f k).bind fun tds => (some tds)) else ((irq_Through.f k xeS xeT xeU xeV xeW xfA xfB).bind fun btaj => (if btaj.2.2 = 0 then ((irq_Through.f k xeS xeT xeU xeV xeW btaj.1 btaj.2.1).bind fun btaq => ((arboretref06_Get.f k xeS xeT xeU xeV xeW btaj.1).bind fun btaT => (if btaT.2.2.2 = true then ((arboretref12_Controller.f k btaT.1 btaT.2.1 btaT.2.2.1).bind fun tcF => (if tcF = true then (if btaq.2.2 = 0 then (if btaq.2.1 = btaj.2.1 then ((arboretref12_Equal.f k btaj.1 btaq.1).bind fun tci => (some tci)) else (some false)) else (some false)) else (some false))) else (some false)))) else (some true)))
def arboretlaw14_IrqSelf.f (k : Nat) (a0_0 : Int) (l0_1 : List (S82)) (a0_2 : ByteArray) (l0_3 : List (S63)) (l0_4 : List (S27)) (l1_0 : List Int) (a1_1 : Int) : Option (Bool) := (arboretlaw14_awake.f k).bind fun tdW => (if tdW = true then ((arboretlaw14_few.f k a0_0 l0_1 a0_2 l0_3 l0_4 l1_0).bind fun tcZ => (arboretlaw14_IrqSelf.j0 k (!tcZ) a0_0 l0_1 a0_2 l0_3 l0_4 l1_0 a1_1)) else (arboretlaw14_IrqSelf.j0 k true a0_0 l0_1 a0_2 l0_3 l0_4 l1_0 a1_1))
end Go.Proofs.Ytkopmkinlanhoaa.PB

namespace Go.Proofs.Ytkopmkinlanhoaa.PB
open Go.RowKit Go.Proofs.YtkopmkinlanhoaaW.PrintWords Go.Proofs.YtkopmkinlanhoaaW.PrintLast Go.Proofs.YtkopmkinlanhoaaW.PrintMore
attribute [local go_sem] max2_int min2_int max_two min_two max_three min_three max_four min_four
set_option maxHeartbeats 8000000 in
set_option maxRecDepth 100000 in
theorem arboretlaw14_IrqSelf.calls (k : Nat) (a0_0 : Int) (A0_1 : Option Addr) (c0_1 : Nat) (l0_1 : List (S82)) (a0_2 : ByteArray) (A0_3 : Option Addr) (c0_3 : Nat) (l0_3 : List (S63)) (A0_4 : Option Addr) (c0_4 : Nat) (l0_4 : List (S27)) (A1_0 : Option Addr) (c1_0 : Nat) (l1_0 : List Int) (a1_1 : Int) (r : Bool) (w : World) (hr0_1 : Kd.C k82 w A0_1 l0_1.length l0_1) (hc0_1 : l0_1.length ≤ c0_1) (hr0_3 : Kd.C k63 w A0_3 l0_3.length l0_3) (hc0_3 : l0_3.length ≤ c0_3) (hr0_4 : Kd.C k27 w A0_4 l0_4.length l0_4) (hc0_4 : l0_4.length ≤ c0_4) (hr1_0 : Kd.C (Kd.int .i64) w A1_0 l1_0.length l1_0) (hc1_0 : l1_0.length ≤ c1_0) (h : arboretlaw14_IrqSelf.f k a0_0 l0_1 a0_2 l0_3 l0_4 l1_0 a1_1 = some r) :
  Calls Try.prog 3 #[.agg #[.int .u32 a0_0, .slice A0_1 l0_1.length c0_1, .string a0_2, .slice A0_3 l0_3.length c0_3, .slice A0_4 l0_4.length c0_4], .agg #[.slice A1_0 l1_0.length c1_0, .int .u32 a1_1]] w fun e w' => e = .returned (.bool r) ∧ Below w.heap.size w w' := by
 have hu29 := Try.underlying29; have hu32 := Try.underlying32; have hu27 := Try.underlying27; have HR0_1 := Ak hr0_1; have HC0_1 := Ak hc0_1; clear hr0_1 hc0_1; have HR0_3 := Ak hr0_3; have HC0_3 := Ak hc0_3; clear hr0_3 hc0_3; have HR0_4 := Ak hr0_4; have HC0_4 := Ak hc0_4; clear hr0_4 hc0_4; have HR1_0 := Ak hr1_0; have HC1_0 := Ak hc1_0; clear hr1_0 hc1_0; have HB := Zq151; have H : ((arboretlaw14_awake.f k).bind fun tdW => (if tdW = true then ((arboretlaw14_few.f k a0_0 l0_1 a0_2 l0_3 l0_4 l1_0).bind fun tcZ => (arboretlaw14_IrqSelf.j0 k (!tcZ) a0_0 l0_1 a0_2 l0_3 l0_4 l1_0 a1_1)) else (arboretlaw14_IrqSelf.j0 k true a0_0 l0_1 a0_2 l0_3 l0_4 l1_0 a1_1))) = some r := h; clear h; have HC3 := Ak H; clear H
 go_enter Try.func3, Try.ntmps3
 go_upto_region 1 with (first | ((with_reducible refine gate_dst (N := 2) rfl ?_); refine box_event ?hg (N := 2) ?hd (cs := #[.int .u32 a0_0, .slice A0_1 l0_1.length c0_1, .string a0_2, .slice A0_3 l0_3.length c0_3, .slice A0_4 l0_4.length c0_4]) (t := 29) ?hr ?_; (case hd | hg => rfl); (case hr => first | (go_simp; done) | (go_simp; rfl)); intro gbaa hg w4 hbox hb; have n0_ := Zq142; have n1_ := Ak (hbox); have n2_ := Ak ((by rw [hg]; exact (below_size Zq6) : w.heap.size ≤ gbaa)); have n3_ := Ak ((by rw [hg]; exact (below_size Zq6) : w.heap.size ≤ gbaa)); clear HB; have HB := n0_; have BKaa := n1_; have GWaa := n2_; have GEaa := n3_; clear n0_ n1_ n2_ n3_ hb hbox hg) | ((with_reducible refine gate_dst (N := 3) rfl ?_); refine box_event ?hg (N := 3) ?hd (cs := #[.slice A1_0 l1_0.length c1_0, .int .u32 a1_1]) (t := 32) ?hr ?_; (case hd | hg => rfl); (case hr => first | (go_simp; done) | (go_simp; rfl)); intro gbag hg w5 hbox hb; have n0_ := Zq130; have n1_ := Ak (below_step (by repeat (first | (with_reducible first | exact HB.out | apply below_alloc | apply pw_below_drewN | apply below_drew1 | refine below_set ?_ GEaa.out) | exact HB.out)) hb); have n2_ := Ak (hbox); have n3_ := Ak ((by rw [hg]; exact (below_size (by repeat (first | (with_reducible first | exact HB.out | apply below_alloc | apply pw_below_drewN | apply below_drew1 | refine below_set ?_ GEaa.out) | exact HB.out))) : w.heap.size ≤ gbag)); have n4_ := Ak ((by rw [hg]; exact (below_size (by repeat (first | (with_reducible first | exact HB.out | apply below_alloc | apply pw_below_drewN | apply below_drew1 | refine below_set ?_ GEaa.out) | exact HB.out))) : w.heap.size ≤ gbag)); have n5_ := Ak ((by rw [hg]; exact Nat.ne_of_lt Zq131 : gbaa ≠ gbag)); have n6_ := Ak ((by rw [hg]; exact Nat.ne_of_gt Zq131 : gbag ≠ gbaa)); clear BKaa HB; have BKaa := n0_; have HB := n1_; have BKag := n2_; have GWag := n3_; have GEag := n4_; have NB316_317 := n5_; have NB317_316 := n6_; clear n0_ n1_ n2_ n3_ n4_ n5_ n6_ hb hbox hg))
 (try simp only [Act.put, List.setIfInBounds_toArray, List.set_cons_zero, List.set_cons_succ])
 go_cut [19] (fun v19 wc => ∃ (kq : Nat) (x19_2 : Bool), v19 = .bool x19_2 ∧ Aside0 (arboretlaw14_IrqSelf.j0 kq x19_2 a0_0 l0_1 a0_2 l0_3 l0_4 l1_0 a1_1 = some r) ∧ Aside0 (kq ≤ k) ∧ Aside0 (wc.heap[gbaa]? = some (.cells #[.int .u32 a0_0, (.slice A0_1 l0_1.length c0_1), .string a0_2, (.slice A0_3 l0_3.length c0_3), (.slice A0_4 l0_4.length c0_4)] 29 (0, 0))) ∧ Aside0 (wc.heap[gbag]? = some (.cells #[(.slice A1_0 l1_0.length c1_0), .int .u32 a1_1] 32 (0, 0))) ∧ Aside0 (Below w.heap.size w wc))
 case first =>
  have H := HC3.out; clear HC3; replace H := Option.bind_eq_some_iff.mp H; obtain ⟨tdW, A60, H⟩ := H; replace H : (if tdW = true then ((arboretlaw14_few.f k a0_0 l0_1 a0_2 l0_3 l0_4 l1_0).bind fun tcZ => (arboretlaw14_IrqSelf.j0 k (!tcZ) a0_0 l0_1 a0_2 l0_3 l0_4 l1_0 a1_1)) else (arboretlaw14_IrqSelf.j0 k true a0_0 l0_1 a0_2 l0_3 l0_4 l1_0 a1_1)) = some r := H; have A6 := Ak A60; clear A60
  by_cases c7 : tdW = true
  ·subst c7
   have H1 : ((arboretlaw14_few.f k a0_0 l0_1 a0_2 l0_3 l0_4 l1_0).bind fun tcZ => (arboretlaw14_IrqSelf.j0 k (!tcZ) a0_0 l0_1 a0_2 l0_3 l0_4 l1_0 a1_1)) = some r := by rw [if_pos rfl] at H; exact H
   clear H; have H := H1; clear H1; replace H := Option.bind_eq_some_iff.mp H; obtain ⟨tcZ, A80, H⟩ := H; replace H : (arboretlaw14_IrqSelf.j0 k (!tcZ) a0_0 l0_1 a0_2 l0_3 l0_4 l1_0 a1_1) = some r := H; have A8 := Ak A80; clear A80; have H' := Ak H; clear H
   go_wp2_with (first | ((with_reducible refine gate_callee (f := 9) rfl ?_); refine goesL_ (some 11) rfl rfl Try.func9 Zq2 rfl #[] rfl Zq8 ?_; (with_reducible refine (arboretlaw14_awake.calls k  true _ A6.out).mono ?_); rintro e w9 ⟨rfl, hb⟩; refine ⟨_, rfl, ?_⟩; have n0_ := Zq130; have n1_ := Zq132; have n2_ := Zq186; clear BKaa BKag HB; have BKaa := n0_; have BKag := n1_; have HB := n2_; clear n0_ n1_ n2_; (try clear hb); (try clear hb2); (try clear hk); (try clear hi); have hnb10 := NB316_317.out; have hnc10 := NB317_316.out; have hcz11_0 : w9.cell? ⟨gbaa, 0, none⟩ = some (.int .u32 a0_0) := (blk_cell BKaa.out 0).trans rfl; have hcz11_1 : w9.cell? ⟨gbaa, 1, none⟩ = some (.slice A0_1 l0_1.length c0_1) := (blk_cell BKaa.out 1).trans rfl; have hcz11_2 : w9.cell? ⟨gbaa, 2, none⟩ = some (.string a0_2) := (blk_cell BKaa.out 2).trans rfl; have hcz11_3 : w9.cell? ⟨gbaa, 3, none⟩ = some (.slice A0_3 l0_3.length c0_3) := (blk_cell BKaa.out 3).trans rfl; have hcz11_4 : w9.cell? ⟨gbaa, 4, none⟩ = some (.slice A0_4 l0_4.length c0_4) := (blk_cell BKaa.out 4).trans rfl; have hfz11_0 := blk_frozen BKaa.out 0; have hfz11_1 := blk_frozen BKaa.out 1; have hfz11_2 := blk_frozen BKaa.out 2; have hfz11_3 := blk_frozen BKaa.out 3; have hfz11_4 := blk_frozen BKaa.out 4; have hcz12_0 : w9.cell? ⟨gbag, 0, none⟩ = some (.slice A1_0 l1_0.length c1_0) := (blk_cell BKag.out 0).trans rfl; have hcz12_1 : w9.cell? ⟨gbag, 1, none⟩ = some (.int .u32 a1_1) := (blk_cell BKag.out 1).trans rfl; have hfz12_0 := blk_frozen BKag.out 0; have hfz12_1 := blk_frozen BKag.out 1) | (go_at_call 10; (with_reducible refine (arboretlaw14_few.calls k a0_0 _ _ l0_1 a0_2 _ _ l0_3 _ _ l0_4 _ _ l1_0 tcZ _ ?side1 ?side2 ?side3 ?side4 ?side5 ?side6 ?side7 ?side8 A8.out).mono ?_); (case side1 => repeat (first | exact Zq138 | (with_reducible refine Kd.C_alloc ?_ _) | (with_reducible refine Kd.C_drewN ?_ _) | (with_reducible refine Kd.C_drew ?_))); (case side2 => exact HC0_1.out); (case side3 => repeat (first | exact Zq153 | (with_reducible refine Kd.C_alloc ?_ _) | (with_reducible refine Kd.C_drewN ?_ _) | (with_reducible refine Kd.C_drew ?_))); (case side4 => exact HC0_3.out); (case side5 => repeat (first | exact Zq154 | (with_reducible refine Kd.C_alloc ?_ _) | (with_reducible refine Kd.C_drewN ?_ _) | (with_reducible refine Kd.C_drew ?_))); (case side6 => exact HC0_4.out); (case side7 => repeat (first | exact (Kd.C_below HR1_0.out HB.out) | (with_reducible refine Kd.C_alloc ?_ _) | (with_reducible refine Kd.C_drewN ?_ _) | (with_reducible refine Kd.C_drew ?_))); (case side8 => exact HC1_0.out); rintro e w13 ⟨rfl, hb⟩; have n0_ := Zq130; have n1_ := Zq132; have n2_ := Zq186; clear BKaa BKag HB; have BKaa := n0_; have BKag := n1_; have HB := n2_; clear n0_ n1_ n2_; (try clear hb); (try clear hb2); (try clear hk); (try clear hi)))
   go_meet
   case rel => exact ⟨_, (!tcZ), Zq7, H', ⟨Zq43⟩, ⟨Zq11⟩, ⟨Zq12⟩, ⟨Zq16⟩⟩
  ·replace c7 := Bool.eq_false_iff.mpr c7; subst c7
   have H1 : (arboretlaw14_IrqSelf.j0 k true a0_0 l0_1 a0_2 l0_3 l0_4 l1_0 a1_1) = some r := by rw [if_neg (show ¬ (false = true) by decide)] at H; exact H
   clear H; have H := H1; clear H1; have H' := Ak H; clear H
   go_wp2_with (first | ((with_reducible refine gate_callee (f := 9) rfl ?_); refine goesL_ (some 11) rfl rfl Try.func9 Zq2 rfl #[] rfl Zq8 ?_; (with_reducible refine (arboretlaw14_awake.calls k  false _ A6.out).mono ?_); rintro e w14 ⟨rfl, hb⟩; refine ⟨_, rfl, ?_⟩; have n0_ := Zq130; have n1_ := Zq132; have n2_ := Zq186; clear BKaa BKag HB; have BKaa := n0_; have BKag := n1_; have HB := n2_; clear n0_ n1_ n2_; (try clear hb); (try clear hb2); (try clear hk); (try clear hi)))
   go_meet
   case rel => exact ⟨_, (true), Zq7, H', ⟨Zq43⟩, ⟨Zq11⟩, ⟨Zq12⟩, ⟨Zq16⟩⟩
 case rest =>
  clear HC3
  try clear c1
  try clear p2
  try clear c3
  try clear c7
  try clear c9
  try clear c10
  try clear hcz11_0
  try clear hcz11_1
  try clear hcz11_2
  try clear hcz11_3
  try clear hcz11_4
  try clear hcz12_0
  try clear hcz12_1
  try clear hfz11_0
  try clear hfz11_1
  try clear hfz11_2
  try clear hfz11_3
  try clear hfz11_4
  try clear hfz12_0
  try clear hfz12_1
  obtain ⟨kq, x19_2, rfl, HA, HJ2, BKaa, BKag, HB⟩ := hcut
  cases kq with
  | zero => exact absurd HA.out (by simp [arboretlaw14_IrqSelf.j0])
  | succ kj2 =>
   have H := HA.out; clear HA; simp only [arboretlaw14_IrqSelf.j0] at H
   by_cases c15 : x19_2 = true
   ·subst c15
    have H1 : ((arboretlaw14_awake.f kj2).bind fun tds => (some tds)) = some r := by rw [if_pos rfl] at H; exact H
    clear H; have H := H1; clear H1; replace H := Option.bind_eq_some_iff.mp H; obtain ⟨tds, Acs, H⟩ := H; replace H : (some tds) = some r := H; have A16 := Ak Acs; clear Acs; obtain rfl := Option.some.inj H
    go_wp2_with (first | ((with_reducible refine gate_callee (f := 9) rfl ?_); refine goesL_ (some 20) rfl rfl Try.func9 Zq2 rfl #[] rfl Zq8 ?_; (with_reducible refine (arboretlaw14_awake.calls kj2  tds _ A16.out).mono ?_); rintro e w17 ⟨rfl, hb⟩; refine ⟨_, rfl, ?_⟩; have n0_ := Zq130; have n1_ := Zq132; have n2_ := Zq186; clear BKaa BKag HB; have BKaa := n0_; have BKag := n1_; have HB := n2_; clear n0_ n1_ n2_; (try clear hb); (try clear hb2); (try clear hk); (try clear hi)))
    go_ret
    exact ⟨Zq13, Zq16⟩
   ·replace c15 := Bool.eq_false_iff.mpr c15; subst c15
    have H1 : ((irq_Through.f kj2 a0_0 l0_1 a0_2 l0_3 l0_4 l1_0 a1_1).bind fun btaj => (if btaj.2.2 = 0 then ((irq_Through.f kj2 a0_0 l0_1 a0_2 l0_3 l0_4 btaj.1 btaj.2.1).bind fun btaq => ((arboretref06_Get.f kj2 a0_0 l0_1 a0_2 l0_3 l0_4 btaj.1).bind fun btaT => (if btaT.2.2.2 = true then ((arboretref12_Controller.f kj2 btaT.1 btaT.2.1 btaT.2.2.1).bind fun tcF => (if tcF = true then (if btaq.2.2 = 0 then (if btaq.2.1 = btaj.2.1 then ((arboretref12_Equal.f kj2 btaj.1 btaq.1).bind fun tci => (some tci)) else (some false)) else (some false)) else (some false))) else (some false)))) else (some true))) = some r := by rw [if_neg (show ¬ (false = true) by decide)] at H; exact H
    clear H; have H := H1; clear H1; replace H := Option.bind_eq_some_iff.mp H; obtain ⟨⟨taj, taL, tcR⟩, AbA, H⟩ := H; replace H : (if tcR = 0 then ((irq_Through.f kj2 a0_0 l0_1 a0_2 l0_3 l0_4 taj taL).bind fun btaq => ((arboretref06_Get.f kj2 a0_0 l0_1 a0_2 l0_3 l0_4 taj).bind fun btaT => (if btaT.2.2.2 = true then ((arboretref12_Controller.f kj2 btaT.1 btaT.2.1 btaT.2.2.1).bind fun tcF => (if tcF = true then (if btaq.2.2 = 0 then (if btaq.2.1 = taL then ((arboretref12_Equal.f kj2 taj btaq.1).bind fun tci => (some tci)) else (some false)) else (some false)) else (some false))) else (some false)))) else (some true)) = some r := H; have A18 := Ak AbA; clear AbA
    by_cases c19 : tcR = 0
    ·rw [if_pos c19] at H; have c19b0 : (tcR == 0) = true := beq_iff_eq.mpr c19; have c19b1 : (tcR != 0) = false := bne_eq_false_iff_eq.mpr c19; clear c19; replace H := Option.bind_eq_some_iff.mp H; obtain ⟨⟨taq, taR, tcx⟩, Aco, H⟩ := H; replace H : ((arboretref06_Get.f kj2 a0_0 l0_1 a0_2 l0_3 l0_4 taj).bind fun btaT => (if btaT.2.2.2 = true then ((arboretref12_Controller.f kj2 btaT.1 btaT.2.1 btaT.2.2.1).bind fun tcF => (if tcF = true then (if tcx = 0 then (if taR = taL then ((arboretref12_Equal.f kj2 taj taq).bind fun tci => (some tci)) else (some false)) else (some false)) else (some false))) else (some false))) = some r := H; have A20 := Ak Aco; clear Aco; replace H := Option.bind_eq_some_iff.mp H; obtain ⟨⟨taT, tbl, tbu, tdY⟩, AcA, H⟩ := H; replace H : (if tdY = true then ((arboretref12_Controller.f kj2 taT tbl tbu).bind fun tcF => (if tcF = true then (if tcx = 0 then (if taR = taL then ((arboretref12_Equal.f kj2 taj taq).bind fun tci => (some tci)) else (some false)) else (some false)) else (some false))) else (some false)) = some r := H; have A21 := Ak AcA; clear AcA
     by_cases c22 : tdY = true
     ·subst c22
      have H1 : ((arboretref12_Controller.f kj2 taT tbl tbu).bind fun tcF => (if tcF = true then (if tcx = 0 then (if taR = taL then ((arboretref12_Equal.f kj2 taj taq).bind fun tci => (some tci)) else (some false)) else (some false)) else (some false))) = some r := by rw [if_pos rfl] at H; exact H
      clear H; have H := H1; clear H1; replace H := Option.bind_eq_some_iff.mp H; obtain ⟨tcF, Afj, H⟩ := H; replace H : (if tcF = true then (if tcx = 0 then (if taR = taL then ((arboretref12_Equal.f kj2 taj taq).bind fun tci => (some tci)) else (some false)) else (some false)) else (some false)) = some r := H; have A23 := Ak Afj; clear Afj
      by_cases c24 : tcF = true
      ·subst c24
       have H1 : (if tcx = 0 then (if taR = taL then ((arboretref12_Equal.f kj2 taj taq).bind fun tci => (some tci)) else (some false)) else (some false)) = some r := by rw [if_pos rfl] at H; exact H
       clear H; have H := H1; clear H1
       by_cases c25 : tcx = 0
       ·rw [if_pos c25] at H; have c25b0 : (tcx == 0) = true := beq_iff_eq.mpr c25; have c25b1 : (tcx != 0) = false := bne_eq_false_iff_eq.mpr c25; clear c25
        by_cases c26 : taR = taL
        ·rw [if_pos c26] at H; have c26b0 : (taR == taL) = true := beq_iff_eq.mpr c26; have c26b1 : (taR != taL) = false := bne_eq_false_iff_eq.mpr c26; clear c26; replace H := Option.bind_eq_some_iff.mp H; obtain ⟨tci, Afk, H⟩ := H; replace H : (some tci) = some r := H; have A27 := Ak Afk; clear Afk; obtain rfl := Option.some.inj H; have hnb28 := NB316_317.out; have hnc28 := NB317_316.out; have hcz29_0 : wc.cell? ⟨gbaa, 0, none⟩ = some (.int .u32 a0_0) := (blk_cell BKaa.out 0).trans rfl; have hcz29_1 : wc.cell? ⟨gbaa, 1, none⟩ = some (.slice A0_1 l0_1.length c0_1) := (blk_cell BKaa.out 1).trans rfl; have hcz29_2 : wc.cell? ⟨gbaa, 2, none⟩ = some (.string a0_2) := (blk_cell BKaa.out 2).trans rfl; have hcz29_3 : wc.cell? ⟨gbaa, 3, none⟩ = some (.slice A0_3 l0_3.length c0_3) := (blk_cell BKaa.out 3).trans rfl; have hcz29_4 : wc.cell? ⟨gbaa, 4, none⟩ = some (.slice A0_4 l0_4.length c0_4) := (blk_cell BKaa.out 4).trans rfl; have hfz29_0 := blk_frozen BKaa.out 0; have hfz29_1 := blk_frozen BKaa.out 1; have hfz29_2 := blk_frozen BKaa.out 2; have hfz29_3 := blk_frozen BKaa.out 3; have hfz29_4 := blk_frozen BKaa.out 4; have hcz30_0 : wc.cell? ⟨gbag, 0, none⟩ = some (.slice A1_0 l1_0.length c1_0) := (blk_cell BKag.out 0).trans rfl; have hcz30_1 : wc.cell? ⟨gbag, 1, none⟩ = some (.int .u32 a1_1) := (blk_cell BKag.out 1).trans rfl; have hfz30_0 := blk_frozen BKag.out 0; have hfz30_1 := blk_frozen BKag.out 1
         go_wp2_with (first | ((with_reducible refine gate_callee (f := 11) rfl ?_); refine goesL_ (some 24) rfl rfl Try.func11 Zq2 rfl #[.agg #[.int .u32 a0_0, .slice A0_1 l0_1.length c0_1, .string a0_2, .slice A0_3 l0_3.length c0_3, .slice A0_4 l0_4.length c0_4], .agg #[.slice A1_0 l1_0.length c1_0, .int .u32 a1_1]] rfl Zq8 ?_; (with_reducible refine (irq_Through.calls kj2 a0_0 _ _ l0_1 a0_2 _ _ l0_3 _ _ l0_4 (fun k_ => k_ < w.heap.size) _ _ l1_0 a1_1 taj taL tcR _ ?side1 ?side2 ?side3 ?side4 ?side5 ?side6 ?side7 A18.out).mono ?_); (case side1 => repeat (first | exact Zq138 | (with_reducible refine Kd.C_alloc ?_ _) | (with_reducible refine Kd.C_drewN ?_ _) | (with_reducible refine Kd.C_drew ?_))); (case side2 => exact HC0_1.out); (case side3 => repeat (first | exact Zq153 | (with_reducible refine Kd.C_alloc ?_ _) | (with_reducible refine Kd.C_drewN ?_ _) | (with_reducible refine Kd.C_drew ?_))); (case side4 => exact HC0_3.out); (case side5 => repeat (first | exact Zq154 | (with_reducible refine Kd.C_alloc ?_ _) | (with_reducible refine Kd.C_drewN ?_ _) | (with_reducible refine Kd.C_drew ?_))); (case side6 => exact HC0_4.out); (case side7 => exact Kd.V_mk HC1_0.out (Kd.F_below (Kd.C_F (Kd.heap_int .i64) HR1_0.out) Zq16)); rintro e w31 ⟨v322, rfl, ho0, hb⟩; refine ⟨_, rfl, ?_⟩; have n0_ := Zq179; have n1_ := Zq130; have n2_ := Zq132; have n3_ := Zq186; clear BKaa BKag HB; have HOal := n0_; have BKaa := n1_; have BKag := n2_; have HB := n3_; clear n0_ n1_ n2_ n3_; (try clear hb); (try clear hb2); (try clear hk); (try clear hi); (try clear ho0)) | ((with_reducible refine gate_dst (N := 5) rfl ?_); refine box_event ?hg (N := 5) ?hd (cs := #[.slice none 0 0, .int .u32 0]) (t := 32) ?hr ?_; (case hd | hg => rfl); (case hr => first | (go_simp; done) | (go_simp; rfl)); intro gbab hg w32 hbox hb; have n0_ := Zq167; have n1_ := Zq130; have n2_ := Zq132; have n3_ := Zq186; have n4_ := Ak (hbox); have n5_ := Zq156; have n6_ := Zq156; have n7_ := Zq288; have n8_ := Zq289; have n9_ := Zq290; have n10_ := Zq291; clear HOal BKaa BKag HB; have HOal := n0_; have BKaa := n1_; have BKag := n2_; have HB := n3_; have BKab := n4_; have GWab := n5_; have GEab := n6_; have NB316_326 := n7_; have NB326_316 := n8_; have NB317_326 := n9_; have NB326_317 := n10_; clear n0_ n1_ n2_ n3_ n4_ n5_ n6_ n7_ n8_ n9_ n10_ hb hbox hg; obtain ⟨Ao33, co33, eo33⟩ := Kd.R_slice HOal.out; subst eo33; have hnb34 := NB326_316.out; have hnc34 := NB316_326.out; have hnb35 := NB326_317.out; have hnc35 := NB317_326.out; have hcz36_0 : w32.cell? ⟨gbab, 0, none⟩ = some (.slice none 0 0) := (blk_cell BKab.out 0).trans rfl; have hcz36_1 : w32.cell? ⟨gbab, 1, none⟩ = some (.int .u32 0) := (blk_cell BKab.out 1).trans rfl; have hfz36_0 := blk_frozen BKab.out 0; have hfz36_1 := blk_frozen BKab.out 1) | ((with_reducible refine gate_store (t := 32) (p := 5) rfl ?_); refine store_event (t := 32) (p := 5) (v := ?vo_w37) (w1 := ((w32.setCell ⟨gbab, 0, none⟩ (.slice Ao33 taj.length co33)).setCell ⟨gbab, 1, none⟩ (.int .u32 taL))) ?hg ?ho ?hn ?hr ?_; (case ho => rfl); (case hg => rfl); (case hn => rfl); (case hr => first | (go_simp; done) | (go_simp; rfl)); intro w37 hw; have n0_ : Aside0 (Kd.R (Kd.int .i64) 3 w37 w.heap.size (fun _ => True) (.slice Ao33 taj.length co33) taj) := ⟨(by rw [hw]; exact (by (with_reducible repeat (first | apply Kd.R_alloc | apply Kd.R_drewN | apply Kd.R_drew)); exact Kd.R_mono (Kd.R_far (p := ⟨gbab, 1, none⟩) (Kd.R_far (p := ⟨gbab, 0, none⟩) (Kd.R_types HOal.out BKab.out Zq4) (fun _ hk => hk.2) (.slice Ao33 taj.length co33)) (fun _ hk => hk.2) (.int .u32 taL)) (fun _ hk => trivial)))⟩; have n1_ : Aside0 (w37.heap[gbaa]? = some (.cells #[.int .u32 a0_0, .slice A0_1 l0_1.length c0_1, .string a0_2, .slice A0_3 l0_3.length c0_3, .slice A0_4 l0_4.length c0_4] 29 (0, 0))) := ⟨(by rw [hw]; exact Zq95)⟩; have n2_ : Aside0 (w37.heap[gbag]? = some (.cells #[.slice A1_0 l1_0.length c1_0, .int .u32 a1_1] 32 (0, 0))) := ⟨(by rw [hw]; exact Zq96)⟩; have n3_ : Aside0 (w37.heap[gbab]? = some (.cells #[.slice Ao33 taj.length co33, .int .u32 taL] 32 (0, 0))) := ⟨(by rw [hw]; exact (by (with_reducible repeat (first | refine blk_drewN ?_ _ | refine blk_drew ?_ | refine blk_alloc ?_ _)); refine blk_put (cs := #[.slice Ao33 taj.length co33, .int .u32 0]) ?_ 1 _ rfl; (with_reducible repeat (first | refine blk_drewN ?_ _ | refine blk_drew ?_ | refine blk_alloc ?_ _)); refine blk_put (cs := #[.slice none 0 0, .int .u32 0]) ?_ 0 _ rfl; (with_reducible repeat (first | refine blk_drewN ?_ _ | refine blk_drew ?_ | refine blk_alloc ?_ _)); exact BKab.out))⟩; have n4_ : Aside0 (Below w.heap.size w w37) := ⟨(by rw [hw]; exact Zq22)⟩; clear hw HOal BKaa BKag BKab HB; have HOal := n0_; have BKaa := n1_; have BKag := n2_; have BKab := n3_; have HB := n4_; clear n0_ n1_ n2_ n3_ n4_; have hcz38_0 : w37.cell? ⟨gbaa, 0, none⟩ = some (.int .u32 a0_0) := (blk_cell BKaa.out 0).trans rfl; have hcz38_1 : w37.cell? ⟨gbaa, 1, none⟩ = some (.slice A0_1 l0_1.length c0_1) := (blk_cell BKaa.out 1).trans rfl; have hcz38_2 : w37.cell? ⟨gbaa, 2, none⟩ = some (.string a0_2) := (blk_cell BKaa.out 2).trans rfl; have hcz38_3 : w37.cell? ⟨gbaa, 3, none⟩ = some (.slice A0_3 l0_3.length c0_3) := (blk_cell BKaa.out 3).trans rfl; have hcz38_4 : w37.cell? ⟨gbaa, 4, none⟩ = some (.slice A0_4 l0_4.length c0_4) := (blk_cell BKaa.out 4).trans rfl; have hfz38_0 := blk_frozen BKaa.out 0; have hfz38_1 := blk_frozen BKaa.out 1; have hfz38_2 := blk_frozen BKaa.out 2; have hfz38_3 := blk_frozen BKaa.out 3; have hfz38_4 := blk_frozen BKaa.out 4; have hcz39_0 : w37.cell? ⟨gbab, 0, none⟩ = some (.slice Ao33 taj.length co33) := (blk_cell BKab.out 0).trans rfl; have hcz39_1 : w37.cell? ⟨gbab, 1, none⟩ = some (.int .u32 taL) := (blk_cell BKab.out 1).trans rfl; have hfz39_0 := blk_frozen BKab.out 0; have hfz39_1 := blk_frozen BKab.out 1) | ((with_reducible refine gate_callee (f := 11) rfl ?_); refine goesL_ (some 32) rfl rfl Try.func11 Zq2 rfl #[.agg #[.int .u32 a0_0, .slice A0_1 l0_1.length c0_1, .string a0_2, .slice A0_3 l0_3.length c0_3, .slice A0_4 l0_4.length c0_4], .agg #[.slice Ao33 taj.length co33, .int .u32 taL]] rfl Zq8 ?_; (with_reducible refine (irq_Through.calls kj2 a0_0 _ _ l0_1 a0_2 _ _ l0_3 _ _ l0_4 (fun k_ => some k_ = (.slice Ao33 taj.length co33 : Value).ownBlock) _ _ taj taL taq taR tcx _ ?side1 ?side2 ?side3 ?side4 ?side5 ?side6 ?side7 A20.out).mono ?_); (case side1 => repeat (first | exact Zq138 | (with_reducible refine Kd.C_alloc ?_ _) | (with_reducible refine Kd.C_drewN ?_ _) | (with_reducible refine Kd.C_drew ?_))); (case side2 => exact HC0_1.out); (case side3 => repeat (first | exact Zq153 | (with_reducible refine Kd.C_alloc ?_ _) | (with_reducible refine Kd.C_drewN ?_ _) | (with_reducible refine Kd.C_drew ?_))); (case side4 => exact HC0_3.out); (case side5 => repeat (first | exact Zq154 | (with_reducible refine Kd.C_alloc ?_ _) | (with_reducible refine Kd.C_drewN ?_ _) | (with_reducible refine Kd.C_drew ?_))); (case side6 => exact HC0_4.out); (case side7 => exact Kd.R_V (Kd.R_tight rfl (Kd.R_types (Kd.R_types (Kd.R_types (HOal.out) BKaa.out Zq4) BKag.out Zq4) BKab.out Zq4))); rintro e w40 ⟨v328, rfl, ho0, hb⟩; refine ⟨_, rfl, ?_⟩; have n0_ := Zq252; have n1_ := Zq176; have n2_ := Zq130; have n3_ := Zq132; have n4_ := Zq206; have n5_ := Zq221; clear HOal BKaa BKag BKab HB; have HOal := n0_; have HOaG := n1_; have BKaa := n2_; have BKag := n3_; have BKab := n4_; have HB := n5_; clear n0_ n1_ n2_ n3_ n4_ n5_; (try clear hb); (try clear hb2); (try clear hk); (try clear hi); (try clear ho0)) | ((with_reducible refine gate_dst (N := 7) rfl ?_); refine box_event ?hg (N := 7) ?hd (cs := #[.slice none 0 0, .int .u32 0]) (t := 32) ?hr ?_; (case hd | hg => rfl); (case hr => first | (go_simp; done) | (go_simp; rfl)); intro gbae hg w41 hbox hb; have n0_ := Zq167; have n1_ := Zq189; have n2_ := Zq130; have n3_ := Zq132; have n4_ := Zq206; have n5_ := Zq221; have n6_ := Ak (hbox); have n7_ := Zq163; have n8_ := Zq163; have n9_ := Zq292; have n10_ := Zq293; have n11_ := Zq294; have n12_ := Zq295; have n13_ := Ak ((by rw [hg]; exact Nat.ne_of_lt Zq217 : gbab ≠ gbae)); have n14_ := Ak ((by rw [hg]; exact Nat.ne_of_gt Zq217 : gbae ≠ gbab)); clear HOal HOaG BKaa BKag BKab HB; have HOal := n0_; have HOaG := n1_; have BKaa := n2_; have BKag := n3_; have BKab := n4_; have HB := n5_; have BKae := n6_; have GWae := n7_; have GEae := n8_; have NB316_332 := n9_; have NB332_316 := n10_; have NB317_332 := n11_; have NB332_317 := n12_; have NB326_332 := n13_; have NB332_326 := n14_; clear n0_ n1_ n2_ n3_ n4_ n5_ n6_ n7_ n8_ n9_ n10_ n11_ n12_ n13_ n14_ hb hbox hg; obtain ⟨Ao42, co42, eo42⟩ := Kd.R_slice HOaG.out; subst eo42; have hnb43 := NB332_316.out; have hnc43 := NB316_332.out; have hnb44 := NB332_317.out; have hnc44 := NB317_332.out; have hnb45 := NB332_326.out; have hnc45 := NB326_332.out; have hcz46_0 : w41.cell? ⟨gbae, 0, none⟩ = some (.slice none 0 0) := (blk_cell BKae.out 0).trans rfl; have hcz46_1 : w41.cell? ⟨gbae, 1, none⟩ = some (.int .u32 0) := (blk_cell BKae.out 1).trans rfl; have hfz46_0 := blk_frozen BKae.out 0; have hfz46_1 := blk_frozen BKae.out 1) | ((with_reducible refine gate_store (t := 32) (p := 7) rfl ?_); refine store_event (t := 32) (p := 7) (v := ?vo_w47) (w1 := ((w41.setCell ⟨gbae, 0, none⟩ (.slice Ao42 taq.length co42)).setCell ⟨gbae, 1, none⟩ (.int .u32 taR))) ?hg ?ho ?hn ?hr ?_; (case ho => rfl); (case hg => rfl); (case hn => rfl); (case hr => first | (go_simp; done) | (go_simp; rfl)); intro w47 hw; have n0_ : Aside0 (Kd.R (Kd.int .i64) 3 w47 w.heap.size (fun k_ => some k_ ≠ (.slice Ao42 taq.length co42 : Value).ownBlock) (.slice Ao33 taj.length co33) taj) := ⟨(by rw [hw]; exact (by (with_reducible repeat (first | apply Kd.R_alloc | apply Kd.R_drewN | apply Kd.R_drew)); exact Kd.R_mono (Kd.R_far (p := ⟨gbae, 1, none⟩) (Kd.R_far (p := ⟨gbae, 0, none⟩) (Kd.R_types HOal.out BKae.out Zq4) (fun _ hk => hk.2) (.slice Ao42 taq.length co42)) (fun _ hk => hk.2) (.int .u32 taR)) (fun _ hk => hk.1.2)))⟩; have n1_ : Aside0 (Kd.R (Kd.int .i64) 3 w47 w.heap.size (fun k_ => some k_ ≠ (.slice Ao33 taj.length co33 : Value).ownBlock) (.slice Ao42 taq.length co42) taq) := ⟨(by rw [hw]; exact (by (with_reducible repeat (first | apply Kd.R_alloc | apply Kd.R_drewN | apply Kd.R_drew)); exact Kd.R_mono (Kd.R_far (p := ⟨gbae, 1, none⟩) (Kd.R_far (p := ⟨gbae, 0, none⟩) (Kd.R_types HOaG.out BKae.out Zq4) (fun _ hk => hk.2) (.slice Ao42 taq.length co42)) (fun _ hk => hk.2) (.int .u32 taR)) (fun _ hk => hk.1.2)))⟩; have n2_ : Aside0 (w47.heap[gbaa]? = some (.cells #[.int .u32 a0_0, .slice A0_1 l0_1.length c0_1, .string a0_2, .slice A0_3 l0_3.length c0_3, .slice A0_4 l0_4.length c0_4] 29 (0, 0))) := ⟨(by rw [hw]; exact Zq97)⟩; have n3_ : Aside0 (w47.heap[gbag]? = some (.cells #[.slice A1_0 l1_0.length c1_0, .int .u32 a1_1] 32 (0, 0))) := ⟨(by rw [hw]; exact Zq98)⟩; have n4_ : Aside0 (w47.heap[gbab]? = some (.cells #[.slice Ao33 taj.length co33, .int .u32 taL] 32 (0, 0))) := ⟨(by rw [hw]; exact Zq99)⟩; have n5_ : Aside0 (w47.heap[gbae]? = some (.cells #[.slice Ao42 taq.length co42, .int .u32 taR] 32 (0, 0))) := ⟨(by rw [hw]; exact (by (with_reducible repeat (first | refine blk_drewN ?_ _ | refine blk_drew ?_ | refine blk_alloc ?_ _)); refine blk_put (cs := #[.slice Ao42 taq.length co42, .int .u32 0]) ?_ 1 _ rfl; (with_reducible repeat (first | refine blk_drewN ?_ _ | refine blk_drew ?_ | refine blk_alloc ?_ _)); refine blk_put (cs := #[.slice none 0 0, .int .u32 0]) ?_ 0 _ rfl; (with_reducible repeat (first | refine blk_drewN ?_ _ | refine blk_drew ?_ | refine blk_alloc ?_ _)); exact BKae.out))⟩; have n6_ : Aside0 (Below w.heap.size w w47) := ⟨(by rw [hw]; exact Zq15)⟩; clear hw HOal HOaG BKaa BKag BKab BKae HB; have HOal := n0_; have HOaG := n1_; have BKaa := n2_; have BKag := n3_; have BKab := n4_; have BKae := n5_; have HB := n6_; clear n0_ n1_ n2_ n3_ n4_ n5_ n6_; have hcz48_0 : w47.cell? ⟨gbaa, 0, none⟩ = some (.int .u32 a0_0) := (blk_cell BKaa.out 0).trans rfl; have hcz48_1 : w47.cell? ⟨gbaa, 1, none⟩ = some (.slice A0_1 l0_1.length c0_1) := (blk_cell BKaa.out 1).trans rfl; have hcz48_2 : w47.cell? ⟨gbaa, 2, none⟩ = some (.string a0_2) := (blk_cell BKaa.out 2).trans rfl; have hcz48_3 : w47.cell? ⟨gbaa, 3, none⟩ = some (.slice A0_3 l0_3.length c0_3) := (blk_cell BKaa.out 3).trans rfl; have hcz48_4 : w47.cell? ⟨gbaa, 4, none⟩ = some (.slice A0_4 l0_4.length c0_4) := (blk_cell BKaa.out 4).trans rfl; have hfz48_0 := blk_frozen BKaa.out 0; have hfz48_1 := blk_frozen BKaa.out 1; have hfz48_2 := blk_frozen BKaa.out 2; have hfz48_3 := blk_frozen BKaa.out 3; have hfz48_4 := blk_frozen BKaa.out 4; have hcz49_0 : w47.cell? ⟨gbab, 0, none⟩ = some (.slice Ao33 taj.length co33) := (blk_cell BKab.out 0).trans rfl; have hcz49_1 : w47.cell? ⟨gbab, 1, none⟩ = some (.int .u32 taL) := (blk_cell BKab.out 1).trans rfl; have hfz49_0 := blk_frozen BKab.out 0; have hfz49_1 := blk_frozen BKab.out 1) | ((with_reducible refine gate_callee (f := 12) rfl ?_); refine goesL_ (some 39) rfl rfl Try.func12 Zq2 rfl #[.agg #[.int .u32 a0_0, .slice A0_1 l0_1.length c0_1, .string a0_2, .slice A0_3 l0_3.length c0_3, .slice A0_4 l0_4.length c0_4], .slice Ao33 taj.length co33] rfl Zq8 ?_; (with_reducible refine (arboretref06_Get.calls kj2 a0_0 _ _ l0_1 a0_2 (fun k_ => k_ < w.heap.size) _ _ l0_3 (fun k_ => k_ < w.heap.size) _ _ l0_4 _ _ taj taT tbl tbu true _ ?side1 ?side2 ?side3 ?side4 ?side5 ?side6 A21.out).mono ?_); (case side1 => repeat (first | exact Zq138 | (with_reducible refine Kd.C_alloc ?_ _) | (with_reducible refine Kd.C_drewN ?_ _) | (with_reducible refine Kd.C_drew ?_))); (case side2 => exact HC0_1.out); (case side3 => exact Kd.V_mk HC0_3.out (Kd.F_below (Kd.C_F k63_heap HR0_3.out) Zq15)); (case side4 => exact Kd.V_mk HC0_4.out (Kd.F_below (Kd.C_F k27_heap HR0_4.out) Zq15)); (case side5 => repeat (first | exact (Kd.R_reads' HOal.out).2.2 | (with_reducible refine Kd.C_alloc ?_ _) | (with_reducible refine Kd.C_drewN ?_ _) | (with_reducible refine Kd.C_drew ?_))); (case side6 => exact (Kd.R_reads' HOal.out).2.1); rintro e w50 ⟨v335, v338, rfl, ho0, ho1, hb⟩; refine ⟨_, rfl, ?_⟩; have n0_ := Zq167; have n1_ := Zq189; have n2_ := Ak (Kd.V_lower (Kd.V_mono (ok' := fun k_ => some k_ ≠ (.slice Ao33 taj.length co33 : Value).ownBlock ∧ some k_ ≠ (.slice Ao42 taq.length co42 : Value).ownBlock ∧ k_ ≠ gbaa ∧ k_ ≠ gbag ∧ k_ ≠ gbab ∧ k_ ≠ gbae) ho0 (fun k_ hk_ => ⟨Or.elim hk_ (fun hs_ => Or.elim hs_ (fun hs_ => fun e_ => Nat.not_le.2 hs_ (Kd.R_base HOal.out k_ e_.symm)) (fun hs_ => fun e_ => Nat.not_le.2 hs_ (Kd.R_base HOal.out k_ e_.symm))) (fun hn_ => (Kd.fresh' (Kd.R_lt Zq18) k_ hn_)), Or.elim hk_ (fun hs_ => Or.elim hs_ (fun hs_ => fun e_ => Nat.not_le.2 hs_ (Kd.R_base HOaG.out k_ e_.symm)) (fun hs_ => fun e_ => Nat.not_le.2 hs_ (Kd.R_base HOaG.out k_ e_.symm))) (fun hn_ => (Kd.fresh' (Kd.R_lt Zq30) k_ hn_)), Or.elim hk_ (fun hs_ => Or.elim hs_ (fun hs_ => fun e_ => Nat.not_le.2 hs_ Zq36) (fun hs_ => fun e_ => Nat.not_le.2 hs_ Zq36)) (fun hn_ => Zq141), Or.elim hk_ (fun hs_ => Or.elim hs_ (fun hs_ => fun e_ => Nat.not_le.2 hs_ Zq37) (fun hs_ => fun e_ => Nat.not_le.2 hs_ Zq37)) (fun hn_ => Zq149), Or.elim hk_ (fun hs_ => Or.elim hs_ (fun hs_ => fun e_ => Nat.not_le.2 hs_ Zq38) (fun hs_ => fun e_ => Nat.not_le.2 hs_ Zq38)) (fun hn_ => (Kd.freshB (g := gbab) (o := .cells #[.slice Ao33 taj.length co33, .int .u32 taL] 32 (0, 0)) Zq14 k_ hn_)), Or.elim hk_ (fun hs_ => Or.elim hs_ (fun hs_ => fun e_ => Nat.not_le.2 hs_ Zq39) (fun hs_ => fun e_ => Nat.not_le.2 hs_ Zq39)) (fun hn_ => (Kd.freshB (g := gbae) (o := .cells #[.slice Ao42 taq.length co42, .int .u32 taR] 32 (0, 0)) Zq24 k_ hn_))⟩)) (below_size Zq15)); have n3_ := Ak (Kd.V_lower (Kd.V_mono (ok' := fun k_ => some k_ ≠ (.slice Ao33 taj.length co33 : Value).ownBlock ∧ some k_ ≠ (.slice Ao42 taq.length co42 : Value).ownBlock ∧ k_ ≠ gbaa ∧ k_ ≠ gbag ∧ k_ ≠ gbab ∧ k_ ≠ gbae) ho1 (fun k_ hk_ => ⟨Or.elim hk_ (fun hs_ => Or.elim hs_ (fun hs_ => fun e_ => Nat.not_le.2 hs_ (Kd.R_base HOal.out k_ e_.symm)) (fun hs_ => fun e_ => Nat.not_le.2 hs_ (Kd.R_base HOal.out k_ e_.symm))) (fun hn_ => (Kd.fresh' (Kd.R_lt Zq18) k_ hn_)), Or.elim hk_ (fun hs_ => Or.elim hs_ (fun hs_ => fun e_ => Nat.not_le.2 hs_ (Kd.R_base HOaG.out k_ e_.symm)) (fun hs_ => fun e_ => Nat.not_le.2 hs_ (Kd.R_base HOaG.out k_ e_.symm))) (fun hn_ => (Kd.fresh' (Kd.R_lt Zq30) k_ hn_)), Or.elim hk_ (fun hs_ => Or.elim hs_ (fun hs_ => fun e_ => Nat.not_le.2 hs_ Zq36) (fun hs_ => fun e_ => Nat.not_le.2 hs_ Zq36)) (fun hn_ => Zq141), Or.elim hk_ (fun hs_ => Or.elim hs_ (fun hs_ => fun e_ => Nat.not_le.2 hs_ Zq37) (fun hs_ => fun e_ => Nat.not_le.2 hs_ Zq37)) (fun hn_ => Zq149), Or.elim hk_ (fun hs_ => Or.elim hs_ (fun hs_ => fun e_ => Nat.not_le.2 hs_ Zq38) (fun hs_ => fun e_ => Nat.not_le.2 hs_ Zq38)) (fun hn_ => (Kd.freshB (g := gbab) (o := .cells #[.slice Ao33 taj.length co33, .int .u32 taL] 32 (0, 0)) Zq14 k_ hn_)), Or.elim hk_ (fun hs_ => Or.elim hs_ (fun hs_ => fun e_ => Nat.not_le.2 hs_ Zq39) (fun hs_ => fun e_ => Nat.not_le.2 hs_ Zq39)) (fun hn_ => (Kd.freshB (g := gbae) (o := .cells #[.slice Ao42 taq.length co42, .int .u32 taR] 32 (0, 0)) Zq24 k_ hn_))⟩)) (below_size Zq15)); have n4_ := Zq130; have n5_ := Zq132; have n6_ := Zq206; have n7_ := Ak (blk_below (g := gbae) (o := .cells #[.slice Ao42 taq.length co42, .int .u32 taR] 32 (0, 0)) Zq24 hb); have n8_ := Zq222; clear HOal HOaG BKaa BKag BKab BKae HB; have HOal := n0_; have HOaG := n1_; have HObw := n2_; have HObx := n3_; have BKaa := n4_; have BKag := n5_; have BKab := n6_; have BKae := n7_; have HB := n8_; clear n0_ n1_ n2_ n3_ n4_ n5_ n6_ n7_ n8_; (try clear hb); (try clear hb2); (try clear hk); (try clear hi); (try clear ho0); (try clear ho1)) | ((with_reducible refine gate_dst (N := 9) rfl ?_); refine box_event ?hg (N := 9) ?hd (cs := #[.string (⟨#[]⟩ : ByteArray), .slice none 0 0, .slice none 0 0]) (t := 27) ?hr ?_; (case hd | hg => rfl); (case hr => first | (go_simp; done) | (go_simp; rfl)); intro gbaf hg w51 hbox hb; have n0_ := Zq167; have n1_ := Zq189; have n2_ := Zq215; have n3_ := Zq216; have n4_ := Zq130; have n5_ := Zq132; have n6_ := Zq206; have n7_ := Ak (blk_below (g := gbae) (o := .cells #[.slice Ao42 taq.length co42, .int .u32 taR] 32 (0, 0)) Zq24 hb); have n8_ := Zq222; have n9_ := Ak (hbox); have n10_ := Zq164; have n11_ := Zq164; have n12_ := Zq296; have n13_ := Zq297; have n14_ := Zq298; have n15_ := Zq299; have n16_ := Ak ((by rw [hg]; exact Nat.ne_of_lt Zq217 : gbab ≠ gbaf)); have n17_ := Ak ((by rw [hg]; exact Nat.ne_of_gt Zq217 : gbaf ≠ gbab)); have n18_ := Ak ((by rw [hg]; exact Nat.ne_of_lt (blk_lt (g := gbae) (o := .cells #[.slice Ao42 taq.length co42, .int .u32 taR] 32 (0, 0)) Zq24) : gbae ≠ gbaf)); have n19_ := Ak ((by rw [hg]; exact Nat.ne_of_gt (blk_lt (g := gbae) (o := .cells #[.slice Ao42 taq.length co42, .int .u32 taR] 32 (0, 0)) Zq24) : gbaf ≠ gbae)); clear HOal HOaG HObw HObx BKaa BKag BKab BKae HB; have HOal := n0_; have HOaG := n1_; have HObw := n2_; have HObx := n3_; have BKaa := n4_; have BKag := n5_; have BKab := n6_; have BKae := n7_; have HB := n8_; have BKaf := n9_; have GWaf := n10_; have GEaf := n11_; have NB316_341 := n12_; have NB341_316 := n13_; have NB317_341 := n14_; have NB341_317 := n15_; have NB326_341 := n16_; have NB341_326 := n17_; have NB332_341 := n18_; have NB341_332 := n19_; clear n0_ n1_ n2_ n3_ n4_ n5_ n6_ n7_ n8_ n9_ n10_ n11_ n12_ n13_ n14_ n15_ n16_ n17_ n18_ n19_ hb hbox hg; have hnb52 := NB341_316.out; have hnc52 := NB316_341.out; have hnb53 := NB341_317.out; have hnc53 := NB317_341.out; have hnb54 := NB341_326.out; have hnc54 := NB326_341.out; have hnb55 := NB341_332.out; have hnc55 := NB332_341.out; have hcz56_0 : w51.cell? ⟨gbaf, 0, none⟩ = some (.string (⟨#[]⟩ : ByteArray)) := (blk_cell BKaf.out 0).trans rfl; have hcz56_1 : w51.cell? ⟨gbaf, 1, none⟩ = some (.slice none 0 0) := (blk_cell BKaf.out 1).trans rfl; have hcz56_2 : w51.cell? ⟨gbaf, 2, none⟩ = some (.slice none 0 0) := (blk_cell BKaf.out 2).trans rfl; have hfz56_0 := blk_frozen BKaf.out 0; have hfz56_1 := blk_frozen BKaf.out 1; have hfz56_2 := blk_frozen BKaf.out 2; obtain ⟨Ao57, co57, eo57⟩ := Kd.V_slice HObw.out; subst eo57; obtain ⟨Ao58, co58, eo58⟩ := Kd.V_slice HObx.out; subst eo58) | (go_at_call 13; (with_reducible refine (arboretref12_Controller.calls kj2 taT _ _ tbl _ _ tbu true _ ?side1 ?side2 ?side3 ?side4 A23.out).mono ?_); (case side1 => refine (Kd.V_reads' (e := 63) (base := w.heap.size) (ok := fun k_ => ((some k_ ≠ (.slice Ao33 taj.length co33 : Value).ownBlock ∧ (some k_ ≠ (.slice Ao42 taq.length co42 : Value).ownBlock ∧ (k_ ≠ gbaa ∧ (k_ ≠ gbag ∧ (k_ ≠ gbab ∧ k_ ≠ gbae))))) ∧ k_ ≠ gbaf)) (n := tbl.length) (c := co57) ?_).2.2; exact (by (with_reducible repeat (first | apply Kd.V_alloc | apply Kd.V_drewN | apply Kd.V_drew)); exact (Kd.V_mono (Kd.V_far (p := ⟨gbaf, 2, none⟩) (Kd.V_far (p := ⟨gbaf, 1, none⟩) (Kd.V_far (p := ⟨gbaf, 0, none⟩) (Kd.V_mono HObw.out (fun k_ hk => (⟨hk, hk.2⟩ : _ ∧ k_ ≠ gbaf))) (fun _ hk => hk.2) (.string taT)) (fun _ hk => hk.2) (.slice Ao57 tbl.length co57)) (fun _ hk => hk.2) (.slice Ao58 tbu.length co58)) (fun _ h_ => h_.1)))); (case side2 => exact (Kd.V_reads' HObw.out).2.1); (case side3 => refine (Kd.V_reads' (e := 27) (base := w.heap.size) (ok := fun k_ => ((some k_ ≠ (.slice Ao33 taj.length co33 : Value).ownBlock ∧ (some k_ ≠ (.slice Ao42 taq.length co42 : Value).ownBlock ∧ (k_ ≠ gbaa ∧ (k_ ≠ gbag ∧ (k_ ≠ gbab ∧ k_ ≠ gbae))))) ∧ k_ ≠ gbaf)) (n := tbu.length) (c := co58) ?_).2.2; exact (by (with_reducible repeat (first | apply Kd.V_alloc | apply Kd.V_drewN | apply Kd.V_drew)); exact (Kd.V_mono (Kd.V_far (p := ⟨gbaf, 2, none⟩) (Kd.V_far (p := ⟨gbaf, 1, none⟩) (Kd.V_far (p := ⟨gbaf, 0, none⟩) (Kd.V_mono HObx.out (fun k_ hk => (⟨hk, hk.2⟩ : _ ∧ k_ ≠ gbaf))) (fun _ hk => hk.2) (.string taT)) (fun _ hk => hk.2) (.slice Ao57 tbl.length co57)) (fun _ hk => hk.2) (.slice Ao58 tbu.length co58)) (fun _ h_ => h_.1)))); (case side4 => exact (Kd.V_reads' HObx.out).2.1); rintro e w59 ⟨rfl, hb⟩; have n0_ := Ak (Kd.R_below (by (with_reducible repeat (first | apply Kd.R_alloc | apply Kd.R_drewN | apply Kd.R_drew)); exact (Kd.R_mono (Kd.R_far (p := ⟨gbaf, 2, none⟩) (Kd.R_far (p := ⟨gbaf, 1, none⟩) (Kd.R_far (p := ⟨gbaf, 0, none⟩) (Kd.R_types HOal.out BKaf.out Zq4) (fun _ hk => hk.2) (.string taT)) (fun _ hk => hk.2) (.slice Ao57 tbl.length co57)) (fun _ hk => hk.2) (.slice Ao58 tbu.length co58)) (fun _ h_ => h_.1))) hb); have n1_ := Ak (Kd.R_below (by (with_reducible repeat (first | apply Kd.R_alloc | apply Kd.R_drewN | apply Kd.R_drew)); exact (Kd.R_mono (Kd.R_far (p := ⟨gbaf, 2, none⟩) (Kd.R_far (p := ⟨gbaf, 1, none⟩) (Kd.R_far (p := ⟨gbaf, 0, none⟩) (Kd.R_types HOaG.out BKaf.out Zq4) (fun _ hk => hk.2) (.string taT)) (fun _ hk => hk.2) (.slice Ao57 tbl.length co57)) (fun _ hk => hk.2) (.slice Ao58 tbu.length co58)) (fun _ h_ => h_.1))) hb); have n2_ := Ak (Kd.V_below (by (with_reducible repeat (first | apply Kd.V_alloc | apply Kd.V_drewN | apply Kd.V_drew)); exact (Kd.V_mono (Kd.V_far (p := ⟨gbaf, 2, none⟩) (Kd.V_far (p := ⟨gbaf, 1, none⟩) (Kd.V_far (p := ⟨gbaf, 0, none⟩) (Kd.V_mono HObw.out (fun k_ hk => (⟨hk, hk.2⟩ : _ ∧ k_ ≠ gbaf))) (fun _ hk => hk.2) (.string taT)) (fun _ hk => hk.2) (.slice Ao57 tbl.length co57)) (fun _ hk => hk.2) (.slice Ao58 tbu.length co58)) (fun _ h_ => h_.1))) hb); have n3_ := Ak (Kd.V_below (by (with_reducible repeat (first | apply Kd.V_alloc | apply Kd.V_drewN | apply Kd.V_drew)); exact (Kd.V_mono (Kd.V_far (p := ⟨gbaf, 2, none⟩) (Kd.V_far (p := ⟨gbaf, 1, none⟩) (Kd.V_far (p := ⟨gbaf, 0, none⟩) (Kd.V_mono HObx.out (fun k_ hk => (⟨hk, hk.2⟩ : _ ∧ k_ ≠ gbaf))) (fun _ hk => hk.2) (.string taT)) (fun _ hk => hk.2) (.slice Ao57 tbl.length co57)) (fun _ hk => hk.2) (.slice Ao58 tbu.length co58)) (fun _ h_ => h_.1))) hb); have n4_ := Zq171; have n5_ := Zq205; have n6_ := Ak (blk_below (g := gbab) (o := .cells #[.slice Ao33 taj.length co33, .int .u32 taL] 32 (0, 0)) Zq117 hb); have n7_ := Ak (blk_below (g := gbae) (o := .cells #[.slice Ao42 taq.length co42, .int .u32 taR] 32 (0, 0)) Zq118 hb); have n8_ := Ak (blk_below (g := gbaf) (o := .cells #[.string taT, .slice Ao57 tbl.length co57, .slice Ao58 tbu.length co58] 27 (0, 0)) (by (with_reducible repeat (first | refine blk_drewN ?_ _ | refine blk_drew ?_ | refine blk_alloc ?_ _)); refine blk_put (cs := #[.string taT, .slice Ao57 tbl.length co57, .slice none 0 0]) ?_ 2 _ rfl; (with_reducible repeat (first | refine blk_drewN ?_ _ | refine blk_drew ?_ | refine blk_alloc ?_ _)); refine blk_put (cs := #[.string taT, .slice none 0 0, .slice none 0 0]) ?_ 1 _ rfl; (with_reducible repeat (first | refine blk_drewN ?_ _ | refine blk_drew ?_ | refine blk_alloc ?_ _)); refine blk_put (cs := #[.string (⟨#[]⟩ : ByteArray), .slice none 0 0, .slice none 0 0]) ?_ 0 _ rfl; (with_reducible repeat (first | refine blk_drewN ?_ _ | refine blk_drew ?_ | refine blk_alloc ?_ _)); exact BKaf.out) hb); have n9_ := Ak (below_step Zq67 hb); clear HOal HOaG HObw HObx BKaa BKag BKab BKae BKaf HB; have HOal := n0_; have HOaG := n1_; have HObw := n2_; have HObx := n3_; have BKaa := n4_; have BKag := n5_; have BKab := n6_; have BKae := n7_; have BKaf := n8_; have HB := n9_; clear n0_ n1_ n2_ n3_ n4_ n5_ n6_ n7_ n8_ n9_; (try clear hb); (try clear hb2); (try clear hk); (try clear hi); have hcz60_0 : w59.cell? ⟨gbae, 0, none⟩ = some (.slice Ao42 taq.length co42) := (blk_cell BKae.out 0).trans rfl; have hcz60_1 : w59.cell? ⟨gbae, 1, none⟩ = some (.int .u32 taR) := (blk_cell BKae.out 1).trans rfl; have hfz60_0 := blk_frozen BKae.out 0; have hfz60_1 := blk_frozen BKae.out 1; have hcz61_0 : w59.cell? ⟨gbab, 0, none⟩ = some (.slice Ao33 taj.length co33) := (blk_cell BKab.out 0).trans rfl; have hcz61_1 : w59.cell? ⟨gbab, 1, none⟩ = some (.int .u32 taL) := (blk_cell BKab.out 1).trans rfl; have hfz61_0 := blk_frozen BKab.out 0; have hfz61_1 := blk_frozen BKab.out 1) | (go_at_call 14; (with_reducible refine (arboretref12_Equal.calls kj2 _ _ taj _ _ taq tci _ ?side1 ?side2 ?side3 ?side4 A27.out).mono ?_); (case side1 => repeat (first | exact (Kd.R_reads' HOal.out).2.2 | (with_reducible refine Kd.C_alloc ?_ _) | (with_reducible refine Kd.C_drewN ?_ _) | (with_reducible refine Kd.C_drew ?_))); (case side2 => exact (Kd.R_reads' HOal.out).2.1); (case side3 => repeat (first | exact (Kd.R_reads' HOaG.out).2.2 | (with_reducible refine Kd.C_alloc ?_ _) | (with_reducible refine Kd.C_drewN ?_ _) | (with_reducible refine Kd.C_drew ?_))); (case side4 => exact (Kd.R_reads' HOaG.out).2.1); rintro e w' ⟨rfl, ⟨nd, rfl⟩⟩))
         go_ret
         exact ⟨Zq13, Zq67⟩
        ·rw [if_neg c26] at H; have c26b0 : (taR == taL) = false := beq_eq_false_iff_ne.mpr c26; have c26b1 : (taR != taL) = true := bne_iff_ne.mpr c26; obtain rfl := Option.some.inj H; have hnb62 := NB316_317.out; have hnc62 := NB317_316.out; have hcz63_0 : wc.cell? ⟨gbaa, 0, none⟩ = some (.int .u32 a0_0) := (blk_cell BKaa.out 0).trans rfl; have hcz63_1 : wc.cell? ⟨gbaa, 1, none⟩ = some (.slice A0_1 l0_1.length c0_1) := (blk_cell BKaa.out 1).trans rfl; have hcz63_2 : wc.cell? ⟨gbaa, 2, none⟩ = some (.string a0_2) := (blk_cell BKaa.out 2).trans rfl; have hcz63_3 : wc.cell? ⟨gbaa, 3, none⟩ = some (.slice A0_3 l0_3.length c0_3) := (blk_cell BKaa.out 3).trans rfl; have hcz63_4 : wc.cell? ⟨gbaa, 4, none⟩ = some (.slice A0_4 l0_4.length c0_4) := (blk_cell BKaa.out 4).trans rfl; have hfz63_0 := blk_frozen BKaa.out 0; have hfz63_1 := blk_frozen BKaa.out 1; have hfz63_2 := blk_frozen BKaa.out 2; have hfz63_3 := blk_frozen BKaa.out 3; have hfz63_4 := blk_frozen BKaa.out 4; have hcz64_0 : wc.cell? ⟨gbag, 0, none⟩ = some (.slice A1_0 l1_0.length c1_0) := (blk_cell BKag.out 0).trans rfl; have hcz64_1 : wc.cell? ⟨gbag, 1, none⟩ = some (.int .u32 a1_1) := (blk_cell BKag.out 1).trans rfl; have hfz64_0 := blk_frozen BKag.out 0; have hfz64_1 := blk_frozen BKag.out 1
         go_wp2_with (first | ((with_reducible refine gate_callee (f := 11) rfl ?_); refine goesL_ (some 24) rfl rfl Try.func11 Zq2 rfl #[.agg #[.int .u32 a0_0, .slice A0_1 l0_1.length c0_1, .string a0_2, .slice A0_3 l0_3.length c0_3, .slice A0_4 l0_4.length c0_4], .agg #[.slice A1_0 l1_0.length c1_0, .int .u32 a1_1]] rfl Zq8 ?_; (with_reducible refine (irq_Through.calls kj2 a0_0 _ _ l0_1 a0_2 _ _ l0_3 _ _ l0_4 (fun k_ => k_ < w.heap.size) _ _ l1_0 a1_1 taj taL tcR _ ?side1 ?side2 ?side3 ?side4 ?side5 ?side6 ?side7 A18.out).mono ?_); (case side1 => repeat (first | exact Zq138 | (with_reducible refine Kd.C_alloc ?_ _) | (with_reducible refine Kd.C_drewN ?_ _) | (with_reducible refine Kd.C_drew ?_))); (case side2 => exact HC0_1.out); (case side3 => repeat (first | exact Zq153 | (with_reducible refine Kd.C_alloc ?_ _) | (with_reducible refine Kd.C_drewN ?_ _) | (with_reducible refine Kd.C_drew ?_))); (case side4 => exact HC0_3.out); (case side5 => repeat (first | exact Zq154 | (with_reducible refine Kd.C_alloc ?_ _) | (with_reducible refine Kd.C_drewN ?_ _) | (with_reducible refine Kd.C_drew ?_))); (case side6 => exact HC0_4.out); (case side7 => exact Kd.V_mk HC1_0.out (Kd.F_below (Kd.C_F (Kd.heap_int .i64) HR1_0.out) Zq16)); rintro e w65 ⟨v322, rfl, ho0, hb⟩; refine ⟨_, rfl, ?_⟩; have n0_ := Zq179; have n1_ := Zq130; have n2_ := Zq132; have n3_ := Zq186; clear BKaa BKag HB; have HOal := n0_; have BKaa := n1_; have BKag := n2_; have HB := n3_; clear n0_ n1_ n2_ n3_; (try clear hb); (try clear hb2); (try clear hk); (try clear hi); (try clear ho0)) | ((with_reducible refine gate_dst (N := 5) rfl ?_); refine box_event ?hg (N := 5) ?hd (cs := #[.slice none 0 0, .int .u32 0]) (t := 32) ?hr ?_; (case hd | hg => rfl); (case hr => first | (go_simp; done) | (go_simp; rfl)); intro gbab hg w66 hbox hb; have n0_ := Zq167; have n1_ := Zq130; have n2_ := Zq132; have n3_ := Zq186; have n4_ := Ak (hbox); have n5_ := Zq156; have n6_ := Zq156; have n7_ := Zq288; have n8_ := Zq289; have n9_ := Zq290; have n10_ := Zq291; clear HOal BKaa BKag HB; have HOal := n0_; have BKaa := n1_; have BKag := n2_; have HB := n3_; have BKab := n4_; have GWab := n5_; have GEab := n6_; have NB316_326 := n7_; have NB326_316 := n8_; have NB317_326 := n9_; have NB326_317 := n10_; clear n0_ n1_ n2_ n3_ n4_ n5_ n6_ n7_ n8_ n9_ n10_ hb hbox hg; obtain ⟨Ao67, co67, eo67⟩ := Kd.R_slice HOal.out; subst eo67; have hnb68 := NB326_316.out; have hnc68 := NB316_326.out; have hnb69 := NB326_317.out; have hnc69 := NB317_326.out; have hcz70_0 : w66.cell? ⟨gbab, 0, none⟩ = some (.slice none 0 0) := (blk_cell BKab.out 0).trans rfl; have hcz70_1 : w66.cell? ⟨gbab, 1, none⟩ = some (.int .u32 0) := (blk_cell BKab.out 1).trans rfl; have hfz70_0 := blk_frozen BKab.out 0; have hfz70_1 := blk_frozen BKab.out 1) | ((with_reducible refine gate_store (t := 32) (p := 5) rfl ?_); refine store_event (t := 32) (p := 5) (v := ?vo_w71) (w1 := ((w66.setCell ⟨gbab, 0, none⟩ (.slice Ao67 taj.length co67)).setCell ⟨gbab, 1, none⟩ (.int .u32 taL))) ?hg ?ho ?hn ?hr ?_; (case ho => rfl); (case hg => rfl); (case hn => rfl); (case hr => first | (go_simp; done) | (go_simp; rfl)); intro w71 hw; have n0_ : Aside0 (Kd.R (Kd.int .i64) 3 w71 w.heap.size (fun _ => True) (.slice Ao67 taj.length co67) taj) := ⟨(by rw [hw]; exact (by (with_reducible repeat (first | apply Kd.R_alloc | apply Kd.R_drewN | apply Kd.R_drew)); exact Kd.R_mono (Kd.R_far (p := ⟨gbab, 1, none⟩) (Kd.R_far (p := ⟨gbab, 0, none⟩) (Kd.R_types HOal.out BKab.out Zq4) (fun _ hk => hk.2) (.slice Ao67 taj.length co67)) (fun _ hk => hk.2) (.int .u32 taL)) (fun _ hk => trivial)))⟩; have n1_ : Aside0 (w71.heap[gbaa]? = some (.cells #[.int .u32 a0_0, .slice A0_1 l0_1.length c0_1, .string a0_2, .slice A0_3 l0_3.length c0_3, .slice A0_4 l0_4.length c0_4] 29 (0, 0))) := ⟨(by rw [hw]; exact Zq95)⟩; have n2_ : Aside0 (w71.heap[gbag]? = some (.cells #[.slice A1_0 l1_0.length c1_0, .int .u32 a1_1] 32 (0, 0))) := ⟨(by rw [hw]; exact Zq96)⟩; have n3_ : Aside0 (w71.heap[gbab]? = some (.cells #[.slice Ao67 taj.length co67, .int .u32 taL] 32 (0, 0))) := ⟨(by rw [hw]; exact (by (with_reducible repeat (first | refine blk_drewN ?_ _ | refine blk_drew ?_ | refine blk_alloc ?_ _)); refine blk_put (cs := #[.slice Ao67 taj.length co67, .int .u32 0]) ?_ 1 _ rfl; (with_reducible repeat (first | refine blk_drewN ?_ _ | refine blk_drew ?_ | refine blk_alloc ?_ _)); refine blk_put (cs := #[.slice none 0 0, .int .u32 0]) ?_ 0 _ rfl; (with_reducible repeat (first | refine blk_drewN ?_ _ | refine blk_drew ?_ | refine blk_alloc ?_ _)); exact BKab.out))⟩; have n4_ : Aside0 (Below w.heap.size w w71) := ⟨(by rw [hw]; exact Zq22)⟩; clear hw HOal BKaa BKag BKab HB; have HOal := n0_; have BKaa := n1_; have BKag := n2_; have BKab := n3_; have HB := n4_; clear n0_ n1_ n2_ n3_ n4_; have hcz72_0 : w71.cell? ⟨gbaa, 0, none⟩ = some (.int .u32 a0_0) := (blk_cell BKaa.out 0).trans rfl; have hcz72_1 : w71.cell? ⟨gbaa, 1, none⟩ = some (.slice A0_1 l0_1.length c0_1) := (blk_cell BKaa.out 1).trans rfl; have hcz72_2 : w71.cell? ⟨gbaa, 2, none⟩ = some (.string a0_2) := (blk_cell BKaa.out 2).trans rfl; have hcz72_3 : w71.cell? ⟨gbaa, 3, none⟩ = some (.slice A0_3 l0_3.length c0_3) := (blk_cell BKaa.out 3).trans rfl; have hcz72_4 : w71.cell? ⟨gbaa, 4, none⟩ = some (.slice A0_4 l0_4.length c0_4) := (blk_cell BKaa.out 4).trans rfl; have hfz72_0 := blk_frozen BKaa.out 0; have hfz72_1 := blk_frozen BKaa.out 1; have hfz72_2 := blk_frozen BKaa.out 2; have hfz72_3 := blk_frozen BKaa.out 3; have hfz72_4 := blk_frozen BKaa.out 4; have hcz73_0 : w71.cell? ⟨gbab, 0, none⟩ = some (.slice Ao67 taj.length co67) := (blk_cell BKab.out 0).trans rfl; have hcz73_1 : w71.cell? ⟨gbab, 1, none⟩ = some (.int .u32 taL) := (blk_cell BKab.out 1).trans rfl; have hfz73_0 := blk_frozen BKab.out 0; have hfz73_1 := blk_frozen BKab.out 1) | ((with_reducible refine gate_callee (f := 11) rfl ?_); refine goesL_ (some 32) rfl rfl Try.func11 Zq2 rfl #[.agg #[.int .u32 a0_0, .slice A0_1 l0_1.length c0_1, .string a0_2, .slice A0_3 l0_3.length c0_3, .slice A0_4 l0_4.length c0_4], .agg #[.slice Ao67 taj.length co67, .int .u32 taL]] rfl Zq8 ?_; (with_reducible refine (irq_Through.calls kj2 a0_0 _ _ l0_1 a0_2 _ _ l0_3 _ _ l0_4 (fun k_ => some k_ = (.slice Ao67 taj.length co67 : Value).ownBlock) _ _ taj taL taq taR tcx _ ?side1 ?side2 ?side3 ?side4 ?side5 ?side6 ?side7 A20.out).mono ?_); (case side1 => repeat (first | exact Zq138 | (with_reducible refine Kd.C_alloc ?_ _) | (with_reducible refine Kd.C_drewN ?_ _) | (with_reducible refine Kd.C_drew ?_))); (case side2 => exact HC0_1.out); (case side3 => repeat (first | exact Zq153 | (with_reducible refine Kd.C_alloc ?_ _) | (with_reducible refine Kd.C_drewN ?_ _) | (with_reducible refine Kd.C_drew ?_))); (case side4 => exact HC0_3.out); (case side5 => repeat (first | exact Zq154 | (with_reducible refine Kd.C_alloc ?_ _) | (with_reducible refine Kd.C_drewN ?_ _) | (with_reducible refine Kd.C_drew ?_))); (case side6 => exact HC0_4.out); (case side7 => exact Kd.R_V (Kd.R_tight rfl (Kd.R_types (Kd.R_types (Kd.R_types (HOal.out) BKaa.out Zq4) BKag.out Zq4) BKab.out Zq4))); rintro e w74 ⟨v328, rfl, ho0, hb⟩; refine ⟨_, rfl, ?_⟩; have n0_ := Zq252; have n1_ := Zq176; have n2_ := Zq130; have n3_ := Zq132; have n4_ := Zq207; have n5_ := Zq221; clear HOal BKaa BKag BKab HB; have HOal := n0_; have HOaG := n1_; have BKaa := n2_; have BKag := n3_; have BKab := n4_; have HB := n5_; clear n0_ n1_ n2_ n3_ n4_ n5_; (try clear hb); (try clear hb2); (try clear hk); (try clear hi); (try clear ho0)) | ((with_reducible refine gate_dst (N := 7) rfl ?_); refine box_event ?hg (N := 7) ?hd (cs := #[.slice none 0 0, .int .u32 0]) (t := 32) ?hr ?_; (case hd | hg => rfl); (case hr => first | (go_simp; done) | (go_simp; rfl)); intro gbae hg w75 hbox hb; have n0_ := Zq167; have n1_ := Zq189; have n2_ := Zq130; have n3_ := Zq132; have n4_ := Zq207; have n5_ := Zq221; have n6_ := Ak (hbox); have n7_ := Zq163; have n8_ := Zq163; have n9_ := Zq292; have n10_ := Zq293; have n11_ := Zq294; have n12_ := Zq295; have n13_ := Ak ((by rw [hg]; exact Nat.ne_of_lt Zq218 : gbab ≠ gbae)); have n14_ := Ak ((by rw [hg]; exact Nat.ne_of_gt Zq218 : gbae ≠ gbab)); clear HOal HOaG BKaa BKag BKab HB; have HOal := n0_; have HOaG := n1_; have BKaa := n2_; have BKag := n3_; have BKab := n4_; have HB := n5_; have BKae := n6_; have GWae := n7_; have GEae := n8_; have NB316_332 := n9_; have NB332_316 := n10_; have NB317_332 := n11_; have NB332_317 := n12_; have NB326_332 := n13_; have NB332_326 := n14_; clear n0_ n1_ n2_ n3_ n4_ n5_ n6_ n7_ n8_ n9_ n10_ n11_ n12_ n13_ n14_ hb hbox hg; obtain ⟨Ao76, co76, eo76⟩ := Kd.R_slice HOaG.out; subst eo76; have hnb77 := NB332_316.out; have hnc77 := NB316_332.out; have hnb78 := NB332_317.out; have hnc78 := NB317_332.out; have hnb79 := NB332_326.out; have hnc79 := NB326_332.out; have hcz80_0 : w75.cell? ⟨gbae, 0, none⟩ = some (.slice none 0 0) := (blk_cell BKae.out 0).trans rfl; have hcz80_1 : w75.cell? ⟨gbae, 1, none⟩ = some (.int .u32 0) := (blk_cell BKae.out 1).trans rfl; have hfz80_0 := blk_frozen BKae.out 0; have hfz80_1 := blk_frozen BKae.out 1) | ((with_reducible refine gate_store (t := 32) (p := 7) rfl ?_); refine store_event (t := 32) (p := 7) (v := ?vo_w81) (w1 := ((w75.setCell ⟨gbae, 0, none⟩ (.slice Ao76 taq.length co76)).setCell ⟨gbae, 1, none⟩ (.int .u32 taR))) ?hg ?ho ?hn ?hr ?_; (case ho => rfl); (case hg => rfl); (case hn => rfl); (case hr => first | (go_simp; done) | (go_simp; rfl)); intro w81 hw; have n0_ : Aside0 (Kd.R (Kd.int .i64) 3 w81 w.heap.size (fun k_ => some k_ ≠ (.slice Ao76 taq.length co76 : Value).ownBlock) (.slice Ao67 taj.length co67) taj) := ⟨(by rw [hw]; exact (by (with_reducible repeat (first | apply Kd.R_alloc | apply Kd.R_drewN | apply Kd.R_drew)); exact Kd.R_mono (Kd.R_far (p := ⟨gbae, 1, none⟩) (Kd.R_far (p := ⟨gbae, 0, none⟩) (Kd.R_types HOal.out BKae.out Zq4) (fun _ hk => hk.2) (.slice Ao76 taq.length co76)) (fun _ hk => hk.2) (.int .u32 taR)) (fun _ hk => hk.1.2)))⟩; have n1_ : Aside0 (Kd.R (Kd.int .i64) 3 w81 w.heap.size (fun k_ => some k_ ≠ (.slice Ao67 taj.length co67 : Value).ownBlock) (.slice Ao76 taq.length co76) taq) := ⟨(by rw [hw]; exact (by (with_reducible repeat (first | apply Kd.R_alloc | apply Kd.R_drewN | apply Kd.R_drew)); exact Kd.R_mono (Kd.R_far (p := ⟨gbae, 1, none⟩) (Kd.R_far (p := ⟨gbae, 0, none⟩) (Kd.R_types HOaG.out BKae.out Zq4) (fun _ hk => hk.2) (.slice Ao76 taq.length co76)) (fun _ hk => hk.2) (.int .u32 taR)) (fun _ hk => hk.1.2)))⟩; have n2_ : Aside0 (w81.heap[gbaa]? = some (.cells #[.int .u32 a0_0, .slice A0_1 l0_1.length c0_1, .string a0_2, .slice A0_3 l0_3.length c0_3, .slice A0_4 l0_4.length c0_4] 29 (0, 0))) := ⟨(by rw [hw]; exact Zq97)⟩; have n3_ : Aside0 (w81.heap[gbag]? = some (.cells #[.slice A1_0 l1_0.length c1_0, .int .u32 a1_1] 32 (0, 0))) := ⟨(by rw [hw]; exact Zq98)⟩; have n4_ : Aside0 (w81.heap[gbab]? = some (.cells #[.slice Ao67 taj.length co67, .int .u32 taL] 32 (0, 0))) := ⟨(by rw [hw]; exact Zq99)⟩; have n5_ : Aside0 (w81.heap[gbae]? = some (.cells #[.slice Ao76 taq.length co76, .int .u32 taR] 32 (0, 0))) := ⟨(by rw [hw]; exact (by (with_reducible repeat (first | refine blk_drewN ?_ _ | refine blk_drew ?_ | refine blk_alloc ?_ _)); refine blk_put (cs := #[.slice Ao76 taq.length co76, .int .u32 0]) ?_ 1 _ rfl; (with_reducible repeat (first | refine blk_drewN ?_ _ | refine blk_drew ?_ | refine blk_alloc ?_ _)); refine blk_put (cs := #[.slice none 0 0, .int .u32 0]) ?_ 0 _ rfl; (with_reducible repeat (first | refine blk_drewN ?_ _ | refine blk_drew ?_ | refine blk_alloc ?_ _)); exact BKae.out))⟩; have n6_ : Aside0 (Below w.heap.size w w81) := ⟨(by rw [hw]; exact Zq15)⟩; clear hw HOal HOaG BKaa BKag BKab BKae HB; have HOal := n0_; have HOaG := n1_; have BKaa := n2_; have BKag := n3_; have BKab := n4_; have BKae := n5_; have HB := n6_; clear n0_ n1_ n2_ n3_ n4_ n5_ n6_; have hcz82_0 : w81.cell? ⟨gbaa, 0, none⟩ = some (.int .u32 a0_0) := (blk_cell BKaa.out 0).trans rfl; have hcz82_1 : w81.cell? ⟨gbaa, 1, none⟩ = some (.slice A0_1 l0_1.length c0_1) := (blk_cell BKaa.out 1).trans rfl; have hcz82_2 : w81.cell? ⟨gbaa, 2, none⟩ = some (.string a0_2) := (blk_cell BKaa.out 2).trans rfl; have hcz82_3 : w81.cell? ⟨gbaa, 3, none⟩ = some (.slice A0_3 l0_3.length c0_3) := (blk_cell BKaa.out 3).trans rfl; have hcz82_4 : w81.cell? ⟨gbaa, 4, none⟩ = some (.slice A0_4 l0_4.length c0_4) := (blk_cell BKaa.out 4).trans rfl; have hfz82_0 := blk_frozen BKaa.out 0; have hfz82_1 := blk_frozen BKaa.out 1; have hfz82_2 := blk_frozen BKaa.out 2; have hfz82_3 := blk_frozen BKaa.out 3; have hfz82_4 := blk_frozen BKaa.out 4; have hcz83_0 : w81.cell? ⟨gbab, 0, none⟩ = some (.slice Ao67 taj.length co67) := (blk_cell BKab.out 0).trans rfl; have hcz83_1 : w81.cell? ⟨gbab, 1, none⟩ = some (.int .u32 taL) := (blk_cell BKab.out 1).trans rfl; have hfz83_0 := blk_frozen BKab.out 0; have hfz83_1 := blk_frozen BKab.out 1) | ((with_reducible refine gate_callee (f := 12) rfl ?_); refine goesL_ (some 39) rfl rfl Try.func12 Zq2 rfl #[.agg #[.int .u32 a0_0, .slice A0_1 l0_1.length c0_1, .string a0_2, .slice A0_3 l0_3.length c0_3, .slice A0_4 l0_4.length c0_4], .slice Ao67 taj.length co67] rfl Zq8 ?_; (with_reducible refine (arboretref06_Get.calls kj2 a0_0 _ _ l0_1 a0_2 (fun k_ => k_ < w.heap.size) _ _ l0_3 (fun k_ => k_ < w.heap.size) _ _ l0_4 _ _ taj taT tbl tbu true _ ?side1 ?side2 ?side3 ?side4 ?side5 ?side6 A21.out).mono ?_); (case side1 => repeat (first | exact Zq138 | (with_reducible refine Kd.C_alloc ?_ _) | (with_reducible refine Kd.C_drewN ?_ _) | (with_reducible refine Kd.C_drew ?_))); (case side2 => exact HC0_1.out); (case side3 => exact Kd.V_mk HC0_3.out (Kd.F_below (Kd.C_F k63_heap HR0_3.out) Zq15)); (case side4 => exact Kd.V_mk HC0_4.out (Kd.F_below (Kd.C_F k27_heap HR0_4.out) Zq15)); (case side5 => repeat (first | exact (Kd.R_reads' HOal.out).2.2 | (with_reducible refine Kd.C_alloc ?_ _) | (with_reducible refine Kd.C_drewN ?_ _) | (with_reducible refine Kd.C_drew ?_))); (case side6 => exact (Kd.R_reads' HOal.out).2.1); rintro e w84 ⟨v335, v338, rfl, ho0, ho1, hb⟩; refine ⟨_, rfl, ?_⟩; have n0_ := Zq167; have n1_ := Zq189; have n2_ := Ak (Kd.V_lower (Kd.V_mono (ok' := fun k_ => some k_ ≠ (.slice Ao67 taj.length co67 : Value).ownBlock ∧ some k_ ≠ (.slice Ao76 taq.length co76 : Value).ownBlock ∧ k_ ≠ gbaa ∧ k_ ≠ gbag ∧ k_ ≠ gbab ∧ k_ ≠ gbae) ho0 (fun k_ hk_ => ⟨Or.elim hk_ (fun hs_ => Or.elim hs_ (fun hs_ => fun e_ => Nat.not_le.2 hs_ (Kd.R_base HOal.out k_ e_.symm)) (fun hs_ => fun e_ => Nat.not_le.2 hs_ (Kd.R_base HOal.out k_ e_.symm))) (fun hn_ => (Kd.fresh' (Kd.R_lt Zq18) k_ hn_)), Or.elim hk_ (fun hs_ => Or.elim hs_ (fun hs_ => fun e_ => Nat.not_le.2 hs_ (Kd.R_base HOaG.out k_ e_.symm)) (fun hs_ => fun e_ => Nat.not_le.2 hs_ (Kd.R_base HOaG.out k_ e_.symm))) (fun hn_ => (Kd.fresh' (Kd.R_lt Zq30) k_ hn_)), Or.elim hk_ (fun hs_ => Or.elim hs_ (fun hs_ => fun e_ => Nat.not_le.2 hs_ Zq36) (fun hs_ => fun e_ => Nat.not_le.2 hs_ Zq36)) (fun hn_ => Zq141), Or.elim hk_ (fun hs_ => Or.elim hs_ (fun hs_ => fun e_ => Nat.not_le.2 hs_ Zq37) (fun hs_ => fun e_ => Nat.not_le.2 hs_ Zq37)) (fun hn_ => Zq149), Or.elim hk_ (fun hs_ => Or.elim hs_ (fun hs_ => fun e_ => Nat.not_le.2 hs_ Zq38) (fun hs_ => fun e_ => Nat.not_le.2 hs_ Zq38)) (fun hn_ => (Kd.freshB (g := gbab) (o := .cells #[.slice Ao67 taj.length co67, .int .u32 taL] 32 (0, 0)) Zq14 k_ hn_)), Or.elim hk_ (fun hs_ => Or.elim hs_ (fun hs_ => fun e_ => Nat.not_le.2 hs_ Zq39) (fun hs_ => fun e_ => Nat.not_le.2 hs_ Zq39)) (fun hn_ => (Kd.freshB (g := gbae) (o := .cells #[.slice Ao76 taq.length co76, .int .u32 taR] 32 (0, 0)) Zq24 k_ hn_))⟩)) (below_size Zq15)); have n3_ := Ak (Kd.V_lower (Kd.V_mono (ok' := fun k_ => some k_ ≠ (.slice Ao67 taj.length co67 : Value).ownBlock ∧ some k_ ≠ (.slice Ao76 taq.length co76 : Value).ownBlock ∧ k_ ≠ gbaa ∧ k_ ≠ gbag ∧ k_ ≠ gbab ∧ k_ ≠ gbae) ho1 (fun k_ hk_ => ⟨Or.elim hk_ (fun hs_ => Or.elim hs_ (fun hs_ => fun e_ => Nat.not_le.2 hs_ (Kd.R_base HOal.out k_ e_.symm)) (fun hs_ => fun e_ => Nat.not_le.2 hs_ (Kd.R_base HOal.out k_ e_.symm))) (fun hn_ => (Kd.fresh' (Kd.R_lt Zq18) k_ hn_)), Or.elim hk_ (fun hs_ => Or.elim hs_ (fun hs_ => fun e_ => Nat.not_le.2 hs_ (Kd.R_base HOaG.out k_ e_.symm)) (fun hs_ => fun e_ => Nat.not_le.2 hs_ (Kd.R_base HOaG.out k_ e_.symm))) (fun hn_ => (Kd.fresh' (Kd.R_lt Zq30) k_ hn_)), Or.elim hk_ (fun hs_ => Or.elim hs_ (fun hs_ => fun e_ => Nat.not_le.2 hs_ Zq36) (fun hs_ => fun e_ => Nat.not_le.2 hs_ Zq36)) (fun hn_ => Zq141), Or.elim hk_ (fun hs_ => Or.elim hs_ (fun hs_ => fun e_ => Nat.not_le.2 hs_ Zq37) (fun hs_ => fun e_ => Nat.not_le.2 hs_ Zq37)) (fun hn_ => Zq149), Or.elim hk_ (fun hs_ => Or.elim hs_ (fun hs_ => fun e_ => Nat.not_le.2 hs_ Zq38) (fun hs_ => fun e_ => Nat.not_le.2 hs_ Zq38)) (fun hn_ => (Kd.freshB (g := gbab) (o := .cells #[.slice Ao67 taj.length co67, .int .u32 taL] 32 (0, 0)) Zq14 k_ hn_)), Or.elim hk_ (fun hs_ => Or.elim hs_ (fun hs_ => fun e_ => Nat.not_le.2 hs_ Zq39) (fun hs_ => fun e_ => Nat.not_le.2 hs_ Zq39)) (fun hn_ => (Kd.freshB (g := gbae) (o := .cells #[.slice Ao76 taq.length co76, .int .u32 taR] 32 (0, 0)) Zq24 k_ hn_))⟩)) (below_size Zq15)); have n4_ := Zq130; have n5_ := Zq132; have n6_ := Zq207; have n7_ := Ak (blk_below (g := gbae) (o := .cells #[.slice Ao76 taq.length co76, .int .u32 taR] 32 (0, 0)) Zq24 hb); have n8_ := Zq222; clear HOal HOaG BKaa BKag BKab BKae HB; have HOal := n0_; have HOaG := n1_; have HObw := n2_; have HObx := n3_; have BKaa := n4_; have BKag := n5_; have BKab := n6_; have BKae := n7_; have HB := n8_; clear n0_ n1_ n2_ n3_ n4_ n5_ n6_ n7_ n8_; (try clear hb); (try clear hb2); (try clear hk); (try clear hi); (try clear ho0); (try clear ho1)) | ((with_reducible refine gate_dst (N := 9) rfl ?_); refine box_event ?hg (N := 9) ?hd (cs := #[.string (⟨#[]⟩ : ByteArray), .slice none 0 0, .slice none 0 0]) (t := 27) ?hr ?_; (case hd | hg => rfl); (case hr => first | (go_simp; done) | (go_simp; rfl)); intro gbaf hg w85 hbox hb; have n0_ := Zq167; have n1_ := Zq189; have n2_ := Zq215; have n3_ := Zq216; have n4_ := Zq130; have n5_ := Zq132; have n6_ := Zq207; have n7_ := Ak (blk_below (g := gbae) (o := .cells #[.slice Ao76 taq.length co76, .int .u32 taR] 32 (0, 0)) Zq24 hb); have n8_ := Zq222; have n9_ := Ak (hbox); have n10_ := Zq164; have n11_ := Zq164; have n12_ := Zq296; have n13_ := Zq297; have n14_ := Zq298; have n15_ := Zq299; have n16_ := Ak ((by rw [hg]; exact Nat.ne_of_lt Zq218 : gbab ≠ gbaf)); have n17_ := Ak ((by rw [hg]; exact Nat.ne_of_gt Zq218 : gbaf ≠ gbab)); have n18_ := Ak ((by rw [hg]; exact Nat.ne_of_lt (blk_lt (g := gbae) (o := .cells #[.slice Ao76 taq.length co76, .int .u32 taR] 32 (0, 0)) Zq24) : gbae ≠ gbaf)); have n19_ := Ak ((by rw [hg]; exact Nat.ne_of_gt (blk_lt (g := gbae) (o := .cells #[.slice Ao76 taq.length co76, .int .u32 taR] 32 (0, 0)) Zq24) : gbaf ≠ gbae)); clear HOal HOaG HObw HObx BKaa BKag BKab BKae HB; have HOal := n0_; have HOaG := n1_; have HObw := n2_; have HObx := n3_; have BKaa := n4_; have BKag := n5_; have BKab := n6_; have BKae := n7_; have HB := n8_; have BKaf := n9_; have GWaf := n10_; have GEaf := n11_; have NB316_341 := n12_; have NB341_316 := n13_; have NB317_341 := n14_; have NB341_317 := n15_; have NB326_341 := n16_; have NB341_326 := n17_; have NB332_341 := n18_; have NB341_332 := n19_; clear n0_ n1_ n2_ n3_ n4_ n5_ n6_ n7_ n8_ n9_ n10_ n11_ n12_ n13_ n14_ n15_ n16_ n17_ n18_ n19_ hb hbox hg; have hnb86 := NB341_316.out; have hnc86 := NB316_341.out; have hnb87 := NB341_317.out; have hnc87 := NB317_341.out; have hnb88 := NB341_326.out; have hnc88 := NB326_341.out; have hnb89 := NB341_332.out; have hnc89 := NB332_341.out; have hcz90_0 : w85.cell? ⟨gbaf, 0, none⟩ = some (.string (⟨#[]⟩ : ByteArray)) := (blk_cell BKaf.out 0).trans rfl; have hcz90_1 : w85.cell? ⟨gbaf, 1, none⟩ = some (.slice none 0 0) := (blk_cell BKaf.out 1).trans rfl; have hcz90_2 : w85.cell? ⟨gbaf, 2, none⟩ = some (.slice none 0 0) := (blk_cell BKaf.out 2).trans rfl; have hfz90_0 := blk_frozen BKaf.out 0; have hfz90_1 := blk_frozen BKaf.out 1; have hfz90_2 := blk_frozen BKaf.out 2; obtain ⟨Ao91, co91, eo91⟩ := Kd.V_slice HObw.out; subst eo91; obtain ⟨Ao92, co92, eo92⟩ := Kd.V_slice HObx.out; subst eo92) | (go_at_call 13; (with_reducible refine (arboretref12_Controller.calls kj2 taT _ _ tbl _ _ tbu true _ ?side1 ?side2 ?side3 ?side4 A23.out).mono ?_); (case side1 => refine (Kd.V_reads' (e := 63) (base := w.heap.size) (ok := fun k_ => ((some k_ ≠ (.slice Ao67 taj.length co67 : Value).ownBlock ∧ (some k_ ≠ (.slice Ao76 taq.length co76 : Value).ownBlock ∧ (k_ ≠ gbaa ∧ (k_ ≠ gbag ∧ (k_ ≠ gbab ∧ k_ ≠ gbae))))) ∧ k_ ≠ gbaf)) (n := tbl.length) (c := co91) ?_).2.2; exact (by (with_reducible repeat (first | apply Kd.V_alloc | apply Kd.V_drewN | apply Kd.V_drew)); exact (Kd.V_mono (Kd.V_far (p := ⟨gbaf, 2, none⟩) (Kd.V_far (p := ⟨gbaf, 1, none⟩) (Kd.V_far (p := ⟨gbaf, 0, none⟩) (Kd.V_mono HObw.out (fun k_ hk => (⟨hk, hk.2⟩ : _ ∧ k_ ≠ gbaf))) (fun _ hk => hk.2) (.string taT)) (fun _ hk => hk.2) (.slice Ao91 tbl.length co91)) (fun _ hk => hk.2) (.slice Ao92 tbu.length co92)) (fun _ h_ => h_.1)))); (case side2 => exact (Kd.V_reads' HObw.out).2.1); (case side3 => refine (Kd.V_reads' (e := 27) (base := w.heap.size) (ok := fun k_ => ((some k_ ≠ (.slice Ao67 taj.length co67 : Value).ownBlock ∧ (some k_ ≠ (.slice Ao76 taq.length co76 : Value).ownBlock ∧ (k_ ≠ gbaa ∧ (k_ ≠ gbag ∧ (k_ ≠ gbab ∧ k_ ≠ gbae))))) ∧ k_ ≠ gbaf)) (n := tbu.length) (c := co92) ?_).2.2; exact (by (with_reducible repeat (first | apply Kd.V_alloc | apply Kd.V_drewN | apply Kd.V_drew)); exact (Kd.V_mono (Kd.V_far (p := ⟨gbaf, 2, none⟩) (Kd.V_far (p := ⟨gbaf, 1, none⟩) (Kd.V_far (p := ⟨gbaf, 0, none⟩) (Kd.V_mono HObx.out (fun k_ hk => (⟨hk, hk.2⟩ : _ ∧ k_ ≠ gbaf))) (fun _ hk => hk.2) (.string taT)) (fun _ hk => hk.2) (.slice Ao91 tbl.length co91)) (fun _ hk => hk.2) (.slice Ao92 tbu.length co92)) (fun _ h_ => h_.1)))); (case side4 => exact (Kd.V_reads' HObx.out).2.1); rintro e w93 ⟨rfl, hb⟩; have n0_ := Ak (Kd.R_below (by (with_reducible repeat (first | apply Kd.R_alloc | apply Kd.R_drewN | apply Kd.R_drew)); exact (Kd.R_mono (Kd.R_far (p := ⟨gbaf, 2, none⟩) (Kd.R_far (p := ⟨gbaf, 1, none⟩) (Kd.R_far (p := ⟨gbaf, 0, none⟩) (Kd.R_types HOal.out BKaf.out Zq4) (fun _ hk => hk.2) (.string taT)) (fun _ hk => hk.2) (.slice Ao91 tbl.length co91)) (fun _ hk => hk.2) (.slice Ao92 tbu.length co92)) (fun _ h_ => h_.1))) hb); have n1_ := Ak (Kd.R_below (by (with_reducible repeat (first | apply Kd.R_alloc | apply Kd.R_drewN | apply Kd.R_drew)); exact (Kd.R_mono (Kd.R_far (p := ⟨gbaf, 2, none⟩) (Kd.R_far (p := ⟨gbaf, 1, none⟩) (Kd.R_far (p := ⟨gbaf, 0, none⟩) (Kd.R_types HOaG.out BKaf.out Zq4) (fun _ hk => hk.2) (.string taT)) (fun _ hk => hk.2) (.slice Ao91 tbl.length co91)) (fun _ hk => hk.2) (.slice Ao92 tbu.length co92)) (fun _ h_ => h_.1))) hb); have n2_ := Ak (Kd.V_below (by (with_reducible repeat (first | apply Kd.V_alloc | apply Kd.V_drewN | apply Kd.V_drew)); exact (Kd.V_mono (Kd.V_far (p := ⟨gbaf, 2, none⟩) (Kd.V_far (p := ⟨gbaf, 1, none⟩) (Kd.V_far (p := ⟨gbaf, 0, none⟩) (Kd.V_mono HObw.out (fun k_ hk => (⟨hk, hk.2⟩ : _ ∧ k_ ≠ gbaf))) (fun _ hk => hk.2) (.string taT)) (fun _ hk => hk.2) (.slice Ao91 tbl.length co91)) (fun _ hk => hk.2) (.slice Ao92 tbu.length co92)) (fun _ h_ => h_.1))) hb); have n3_ := Ak (Kd.V_below (by (with_reducible repeat (first | apply Kd.V_alloc | apply Kd.V_drewN | apply Kd.V_drew)); exact (Kd.V_mono (Kd.V_far (p := ⟨gbaf, 2, none⟩) (Kd.V_far (p := ⟨gbaf, 1, none⟩) (Kd.V_far (p := ⟨gbaf, 0, none⟩) (Kd.V_mono HObx.out (fun k_ hk => (⟨hk, hk.2⟩ : _ ∧ k_ ≠ gbaf))) (fun _ hk => hk.2) (.string taT)) (fun _ hk => hk.2) (.slice Ao91 tbl.length co91)) (fun _ hk => hk.2) (.slice Ao92 tbu.length co92)) (fun _ h_ => h_.1))) hb); have n4_ := Zq171; have n5_ := Zq205; have n6_ := Ak (blk_below (g := gbab) (o := .cells #[.slice Ao67 taj.length co67, .int .u32 taL] 32 (0, 0)) Zq117 hb); have n7_ := Ak (blk_below (g := gbae) (o := .cells #[.slice Ao76 taq.length co76, .int .u32 taR] 32 (0, 0)) Zq118 hb); have n8_ := Ak (blk_below (g := gbaf) (o := .cells #[.string taT, .slice Ao91 tbl.length co91, .slice Ao92 tbu.length co92] 27 (0, 0)) (by (with_reducible repeat (first | refine blk_drewN ?_ _ | refine blk_drew ?_ | refine blk_alloc ?_ _)); refine blk_put (cs := #[.string taT, .slice Ao91 tbl.length co91, .slice none 0 0]) ?_ 2 _ rfl; (with_reducible repeat (first | refine blk_drewN ?_ _ | refine blk_drew ?_ | refine blk_alloc ?_ _)); refine blk_put (cs := #[.string taT, .slice none 0 0, .slice none 0 0]) ?_ 1 _ rfl; (with_reducible repeat (first | refine blk_drewN ?_ _ | refine blk_drew ?_ | refine blk_alloc ?_ _)); refine blk_put (cs := #[.string (⟨#[]⟩ : ByteArray), .slice none 0 0, .slice none 0 0]) ?_ 0 _ rfl; (with_reducible repeat (first | refine blk_drewN ?_ _ | refine blk_drew ?_ | refine blk_alloc ?_ _)); exact BKaf.out) hb); have n9_ := Ak (below_step Zq67 hb); clear HOal HOaG HObw HObx BKaa BKag BKab BKae BKaf HB; have HOal := n0_; have HOaG := n1_; have HObw := n2_; have HObx := n3_; have BKaa := n4_; have BKag := n5_; have BKab := n6_; have BKae := n7_; have BKaf := n8_; have HB := n9_; clear n0_ n1_ n2_ n3_ n4_ n5_ n6_ n7_ n8_ n9_; (try clear hb); (try clear hb2); (try clear hk); (try clear hi); have hcz94_0 : w93.cell? ⟨gbae, 0, none⟩ = some (.slice Ao76 taq.length co76) := (blk_cell BKae.out 0).trans rfl; have hcz94_1 : w93.cell? ⟨gbae, 1, none⟩ = some (.int .u32 taR) := (blk_cell BKae.out 1).trans rfl; have hfz94_0 := blk_frozen BKae.out 0; have hfz94_1 := blk_frozen BKae.out 1; have hcz95_0 : w93.cell? ⟨gbab, 0, none⟩ = some (.slice Ao67 taj.length co67) := (blk_cell BKab.out 0).trans rfl; have hcz95_1 : w93.cell? ⟨gbab, 1, none⟩ = some (.int .u32 taL) := (blk_cell BKab.out 1).trans rfl; have hfz95_0 := blk_frozen BKab.out 0; have hfz95_1 := blk_frozen BKab.out 1))
         go_ret
         exact ⟨Zq13, Zq67⟩
       ·rw [if_neg c25] at H; have c25b0 : (tcx == 0) = false := beq_eq_false_iff_ne.mpr c25; have c25b1 : (tcx != 0) = true := bne_iff_ne.mpr c25; obtain rfl := Option.some.inj H; have hnb96 := NB316_317.out; have hnc96 := NB317_316.out; have hcz97_0 : wc.cell? ⟨gbaa, 0, none⟩ = some (.int .u32 a0_0) := (blk_cell BKaa.out 0).trans rfl; have hcz97_1 : wc.cell? ⟨gbaa, 1, none⟩ = some (.slice A0_1 l0_1.length c0_1) := (blk_cell BKaa.out 1).trans rfl; have hcz97_2 : wc.cell? ⟨gbaa, 2, none⟩ = some (.string a0_2) := (blk_cell BKaa.out 2).trans rfl; have hcz97_3 : wc.cell? ⟨gbaa, 3, none⟩ = some (.slice A0_3 l0_3.length c0_3) := (blk_cell BKaa.out 3).trans rfl; have hcz97_4 : wc.cell? ⟨gbaa, 4, none⟩ = some (.slice A0_4 l0_4.length c0_4) := (blk_cell BKaa.out 4).trans rfl; have hfz97_0 := blk_frozen BKaa.out 0; have hfz97_1 := blk_frozen BKaa.out 1; have hfz97_2 := blk_frozen BKaa.out 2; have hfz97_3 := blk_frozen BKaa.out 3; have hfz97_4 := blk_frozen BKaa.out 4; have hcz98_0 : wc.cell? ⟨gbag, 0, none⟩ = some (.slice A1_0 l1_0.length c1_0) := (blk_cell BKag.out 0).trans rfl; have hcz98_1 : wc.cell? ⟨gbag, 1, none⟩ = some (.int .u32 a1_1) := (blk_cell BKag.out 1).trans rfl; have hfz98_0 := blk_frozen BKag.out 0; have hfz98_1 := blk_frozen BKag.out 1
        go_wp2_with (first | ((with_reducible refine gate_callee (f := 11) rfl ?_); refine goesL_ (some 24) rfl rfl Try.func11 Zq2 rfl #[.agg #[.int .u32 a0_0, .slice A0_1 l0_1.length c0_1, .string a0_2, .slice A0_3 l0_3.length c0_3, .slice A0_4 l0_4.length c0_4], .agg #[.slice A1_0 l1_0.length c1_0, .int .u32 a1_1]] rfl Zq8 ?_; (with_reducible refine (irq_Through.calls kj2 a0_0 _ _ l0_1 a0_2 _ _ l0_3 _ _ l0_4 (fun k_ => k_ < w.heap.size) _ _ l1_0 a1_1 taj taL tcR _ ?side1 ?side2 ?side3 ?side4 ?side5 ?side6 ?side7 A18.out).mono ?_); (case side1 => repeat (first | exact Zq138 | (with_reducible refine Kd.C_alloc ?_ _) | (with_reducible refine Kd.C_drewN ?_ _) | (with_reducible refine Kd.C_drew ?_))); (case side2 => exact HC0_1.out); (case side3 => repeat (first | exact Zq153 | (with_reducible refine Kd.C_alloc ?_ _) | (with_reducible refine Kd.C_drewN ?_ _) | (with_reducible refine Kd.C_drew ?_))); (case side4 => exact HC0_3.out); (case side5 => repeat (first | exact Zq154 | (with_reducible refine Kd.C_alloc ?_ _) | (with_reducible refine Kd.C_drewN ?_ _) | (with_reducible refine Kd.C_drew ?_))); (case side6 => exact HC0_4.out); (case side7 => exact Kd.V_mk HC1_0.out (Kd.F_below (Kd.C_F (Kd.heap_int .i64) HR1_0.out) Zq16)); rintro e w99 ⟨v322, rfl, ho0, hb⟩; refine ⟨_, rfl, ?_⟩; have n0_ := Zq179; have n1_ := Zq130; have n2_ := Zq132; have n3_ := Zq186; clear BKaa BKag HB; have HOal := n0_; have BKaa := n1_; have BKag := n2_; have HB := n3_; clear n0_ n1_ n2_ n3_; (try clear hb); (try clear hb2); (try clear hk); (try clear hi); (try clear ho0)) | ((with_reducible refine gate_dst (N := 5) rfl ?_); refine box_event ?hg (N := 5) ?hd (cs := #[.slice none 0 0, .int .u32 0]) (t := 32) ?hr ?_; (case hd | hg => rfl); (case hr => first | (go_simp; done) | (go_simp; rfl)); intro gbab hg wdm hbox hb; have n0_ := Zq167; have n1_ := Zq130; have n2_ := Zq132; have n3_ := Zq186; have n4_ := Ak (hbox); have n5_ := Zq156; have n6_ := Zq156; have n7_ := Zq288; have n8_ := Zq289; have n9_ := Zq290; have n10_ := Zq291; clear HOal BKaa BKag HB; have HOal := n0_; have BKaa := n1_; have BKag := n2_; have HB := n3_; have BKab := n4_; have GWab := n5_; have GEab := n6_; have NB316_326 := n7_; have NB326_316 := n8_; have NB317_326 := n9_; have NB326_317 := n10_; clear n0_ n1_ n2_ n3_ n4_ n5_ n6_ n7_ n8_ n9_ n10_ hb hbox hg; obtain ⟨Aobm, cobm, eo101⟩ := Kd.R_slice HOal.out; subst eo101; have hnb102 := NB326_316.out; have hnc102 := NB316_326.out; have hnb103 := NB326_317.out; have hnc103 := NB317_326.out; have hcz104_0 : wdm.cell? ⟨gbab, 0, none⟩ = some (.slice none 0 0) := (blk_cell BKab.out 0).trans rfl; have hcz104_1 : wdm.cell? ⟨gbab, 1, none⟩ = some (.int .u32 0) := (blk_cell BKab.out 1).trans rfl; have hfz104_0 := blk_frozen BKab.out 0; have hfz104_1 := blk_frozen BKab.out 1) | ((with_reducible refine gate_store (t := 32) (p := 5) rfl ?_); refine store_event (t := 32) (p := 5) (v := ?vo_w105) (w1 := ((wdm.setCell ⟨gbab, 0, none⟩ (.slice Aobm taj.length cobm)).setCell ⟨gbab, 1, none⟩ (.int .u32 taL))) ?hg ?ho ?hn ?hr ?_; (case ho => rfl); (case hg => rfl); (case hn => rfl); (case hr => first | (go_simp; done) | (go_simp; rfl)); intro wcG hw; have n0_ : Aside0 (Kd.R (Kd.int .i64) 3 wcG w.heap.size (fun _ => True) (.slice Aobm taj.length cobm) taj) := ⟨(by rw [hw]; exact (by (with_reducible repeat (first | apply Kd.R_alloc | apply Kd.R_drewN | apply Kd.R_drew)); exact Kd.R_mono (Kd.R_far (p := ⟨gbab, 1, none⟩) (Kd.R_far (p := ⟨gbab, 0, none⟩) (Kd.R_types HOal.out BKab.out Zq4) (fun _ hk => hk.2) (.slice Aobm taj.length cobm)) (fun _ hk => hk.2) (.int .u32 taL)) (fun _ hk => trivial)))⟩; have n1_ : Aside0 (wcG.heap[gbaa]? = some (.cells #[.int .u32 a0_0, .slice A0_1 l0_1.length c0_1, .string a0_2, .slice A0_3 l0_3.length c0_3, .slice A0_4 l0_4.length c0_4] 29 (0, 0))) := ⟨(by rw [hw]; exact Zq95)⟩; have n2_ : Aside0 (wcG.heap[gbag]? = some (.cells #[.slice A1_0 l1_0.length c1_0, .int .u32 a1_1] 32 (0, 0))) := ⟨(by rw [hw]; exact Zq96)⟩; have n3_ : Aside0 (wcG.heap[gbab]? = some (.cells #[.slice Aobm taj.length cobm, .int .u32 taL] 32 (0, 0))) := ⟨(by rw [hw]; exact (by (with_reducible repeat (first | refine blk_drewN ?_ _ | refine blk_drew ?_ | refine blk_alloc ?_ _)); refine blk_put (cs := #[.slice Aobm taj.length cobm, .int .u32 0]) ?_ 1 _ rfl; (with_reducible repeat (first | refine blk_drewN ?_ _ | refine blk_drew ?_ | refine blk_alloc ?_ _)); refine blk_put (cs := #[.slice none 0 0, .int .u32 0]) ?_ 0 _ rfl; (with_reducible repeat (first | refine blk_drewN ?_ _ | refine blk_drew ?_ | refine blk_alloc ?_ _)); exact BKab.out))⟩; have n4_ : Aside0 (Below w.heap.size w wcG) := ⟨(by rw [hw]; exact Zq22)⟩; clear hw HOal BKaa BKag BKab HB; have HOal := n0_; have BKaa := n1_; have BKag := n2_; have BKab := n3_; have HB := n4_; clear n0_ n1_ n2_ n3_ n4_; have hcz106_0 : wcG.cell? ⟨gbaa, 0, none⟩ = some (.int .u32 a0_0) := (blk_cell BKaa.out 0).trans rfl; have hcz106_1 : wcG.cell? ⟨gbaa, 1, none⟩ = some (.slice A0_1 l0_1.length c0_1) := (blk_cell BKaa.out 1).trans rfl; have hcz106_2 : wcG.cell? ⟨gbaa, 2, none⟩ = some (.string a0_2) := (blk_cell BKaa.out 2).trans rfl; have hcz106_3 : wcG.cell? ⟨gbaa, 3, none⟩ = some (.slice A0_3 l0_3.length c0_3) := (blk_cell BKaa.out 3).trans rfl; have hcz106_4 : wcG.cell? ⟨gbaa, 4, none⟩ = some (.slice A0_4 l0_4.length c0_4) := (blk_cell BKaa.out 4).trans rfl; have hfz106_0 := blk_frozen BKaa.out 0; have hfz106_1 := blk_frozen BKaa.out 1; have hfz106_2 := blk_frozen BKaa.out 2; have hfz106_3 := blk_frozen BKaa.out 3; have hfz106_4 := blk_frozen BKaa.out 4; have hcz107_0 : wcG.cell? ⟨gbab, 0, none⟩ = some (.slice Aobm taj.length cobm) := (blk_cell BKab.out 0).trans rfl; have hcz107_1 : wcG.cell? ⟨gbab, 1, none⟩ = some (.int .u32 taL) := (blk_cell BKab.out 1).trans rfl; have hfz107_0 := blk_frozen BKab.out 0; have hfz107_1 := blk_frozen BKab.out 1) | ((with_reducible refine gate_callee (f := 11) rfl ?_); refine goesL_ (some 32) rfl rfl Try.func11 Zq2 rfl #[.agg #[.int .u32 a0_0, .slice A0_1 l0_1.length c0_1, .string a0_2, .slice A0_3 l0_3.length c0_3, .slice A0_4 l0_4.length c0_4], .agg #[.slice Aobm taj.length cobm, .int .u32 taL]] rfl Zq8 ?_; (with_reducible refine (irq_Through.calls kj2 a0_0 _ _ l0_1 a0_2 _ _ l0_3 _ _ l0_4 (fun k_ => some k_ = (.slice Aobm taj.length cobm : Value).ownBlock) _ _ taj taL taq taR tcx _ ?side1 ?side2 ?side3 ?side4 ?side5 ?side6 ?side7 A20.out).mono ?_); (case side1 => repeat (first | exact Zq138 | (with_reducible refine Kd.C_alloc ?_ _) | (with_reducible refine Kd.C_drewN ?_ _) | (with_reducible refine Kd.C_drew ?_))); (case side2 => exact HC0_1.out); (case side3 => repeat (first | exact Zq153 | (with_reducible refine Kd.C_alloc ?_ _) | (with_reducible refine Kd.C_drewN ?_ _) | (with_reducible refine Kd.C_drew ?_))); (case side4 => exact HC0_3.out); (case side5 => repeat (first | exact Zq154 | (with_reducible refine Kd.C_alloc ?_ _) | (with_reducible refine Kd.C_drewN ?_ _) | (with_reducible refine Kd.C_drew ?_))); (case side6 => exact HC0_4.out); (case side7 => exact Kd.R_V (Kd.R_tight rfl (Kd.R_types (Kd.R_types (Kd.R_types (HOal.out) BKaa.out Zq4) BKag.out Zq4) BKab.out Zq4))); rintro e waH ⟨v328, rfl, ho0, hb⟩; refine ⟨_, rfl, ?_⟩; have n0_ := Zq252; have n1_ := Zq176; have n2_ := Zq130; have n3_ := Zq132; have n4_ := Zq201; have n5_ := Zq221; clear HOal BKaa BKag BKab HB; have HOal := n0_; have HOaG := n1_; have BKaa := n2_; have BKag := n3_; have BKab := n4_; have HB := n5_; clear n0_ n1_ n2_ n3_ n4_ n5_; (try clear hb); (try clear hb2); (try clear hk); (try clear hi); (try clear ho0)) | ((with_reducible refine gate_dst (N := 7) rfl ?_); refine box_event ?hg (N := 7) ?hd (cs := #[.slice none 0 0, .int .u32 0]) (t := 32) ?hr ?_; (case hd | hg => rfl); (case hr => first | (go_simp; done) | (go_simp; rfl)); intro gbae hg wap hbox hb; have n0_ := Zq167; have n1_ := Zq189; have n2_ := Zq130; have n3_ := Zq132; have n4_ := Zq201; have n5_ := Zq221; have n6_ := Ak (hbox); have n7_ := Zq163; have n8_ := Zq163; have n9_ := Zq292; have n10_ := Zq293; have n11_ := Zq294; have n12_ := Zq295; have n13_ := Ak ((by rw [hg]; exact Nat.ne_of_lt Zq209 : gbab ≠ gbae)); have n14_ := Ak ((by rw [hg]; exact Nat.ne_of_gt Zq209 : gbae ≠ gbab)); clear HOal HOaG BKaa BKag BKab HB; have HOal := n0_; have HOaG := n1_; have BKaa := n2_; have BKag := n3_; have BKab := n4_; have HB := n5_; have BKae := n6_; have GWae := n7_; have GEae := n8_; have NB316_332 := n9_; have NB332_316 := n10_; have NB317_332 := n11_; have NB332_317 := n12_; have NB326_332 := n13_; have NB332_326 := n14_; clear n0_ n1_ n2_ n3_ n4_ n5_ n6_ n7_ n8_ n9_ n10_ n11_ n12_ n13_ n14_ hb hbox hg; obtain ⟨AoaO, coaO, eo110⟩ := Kd.R_slice HOaG.out; subst eo110; have hnb111 := NB332_316.out; have hnc111 := NB316_332.out; have hnb112 := NB332_317.out; have hnc112 := NB317_332.out; have hnb113 := NB332_326.out; have hnc113 := NB326_332.out; have hcz114_0 : wap.cell? ⟨gbae, 0, none⟩ = some (.slice none 0 0) := (blk_cell BKae.out 0).trans rfl; have hcz114_1 : wap.cell? ⟨gbae, 1, none⟩ = some (.int .u32 0) := (blk_cell BKae.out 1).trans rfl; have hfz114_0 := blk_frozen BKae.out 0; have hfz114_1 := blk_frozen BKae.out 1) | ((with_reducible refine gate_store (t := 32) (p := 7) rfl ?_); refine store_event (t := 32) (p := 7) (v := ?vo_w115) (w1 := ((wap.setCell ⟨gbae, 0, none⟩ (.slice AoaO taq.length coaO)).setCell ⟨gbae, 1, none⟩ (.int .u32 taR))) ?hg ?ho ?hn ?hr ?_; (case ho => rfl); (case hg => rfl); (case hn => rfl); (case hr => first | (go_simp; done) | (go_simp; rfl)); intro wbR hw; have n0_ : Aside0 (Kd.R (Kd.int .i64) 3 wbR w.heap.size (fun k_ => some k_ ≠ (.slice AoaO taq.length coaO : Value).ownBlock) (.slice Aobm taj.length cobm) taj) := ⟨(by rw [hw]; exact (by (with_reducible repeat (first | apply Kd.R_alloc | apply Kd.R_drewN | apply Kd.R_drew)); exact Kd.R_mono (Kd.R_far (p := ⟨gbae, 1, none⟩) (Kd.R_far (p := ⟨gbae, 0, none⟩) (Kd.R_types HOal.out BKae.out Zq4) (fun _ hk => hk.2) (.slice AoaO taq.length coaO)) (fun _ hk => hk.2) (.int .u32 taR)) (fun _ hk => hk.1.2)))⟩; have n1_ : Aside0 (Kd.R (Kd.int .i64) 3 wbR w.heap.size (fun k_ => some k_ ≠ (.slice Aobm taj.length cobm : Value).ownBlock) (.slice AoaO taq.length coaO) taq) := ⟨(by rw [hw]; exact (by (with_reducible repeat (first | apply Kd.R_alloc | apply Kd.R_drewN | apply Kd.R_drew)); exact Kd.R_mono (Kd.R_far (p := ⟨gbae, 1, none⟩) (Kd.R_far (p := ⟨gbae, 0, none⟩) (Kd.R_types HOaG.out BKae.out Zq4) (fun _ hk => hk.2) (.slice AoaO taq.length coaO)) (fun _ hk => hk.2) (.int .u32 taR)) (fun _ hk => hk.1.2)))⟩; have n2_ : Aside0 (wbR.heap[gbaa]? = some (.cells #[.int .u32 a0_0, .slice A0_1 l0_1.length c0_1, .string a0_2, .slice A0_3 l0_3.length c0_3, .slice A0_4 l0_4.length c0_4] 29 (0, 0))) := ⟨(by rw [hw]; exact Zq97)⟩; have n3_ : Aside0 (wbR.heap[gbag]? = some (.cells #[.slice A1_0 l1_0.length c1_0, .int .u32 a1_1] 32 (0, 0))) := ⟨(by rw [hw]; exact Zq98)⟩; have n4_ : Aside0 (wbR.heap[gbab]? = some (.cells #[.slice Aobm taj.length cobm, .int .u32 taL] 32 (0, 0))) := ⟨(by rw [hw]; exact Zq99)⟩; have n5_ : Aside0 (wbR.heap[gbae]? = some (.cells #[.slice AoaO taq.length coaO, .int .u32 taR] 32 (0, 0))) := ⟨(by rw [hw]; exact (by (with_reducible repeat (first | refine blk_drewN ?_ _ | refine blk_drew ?_ | refine blk_alloc ?_ _)); refine blk_put (cs := #[.slice AoaO taq.length coaO, .int .u32 0]) ?_ 1 _ rfl; (with_reducible repeat (first | refine blk_drewN ?_ _ | refine blk_drew ?_ | refine blk_alloc ?_ _)); refine blk_put (cs := #[.slice none 0 0, .int .u32 0]) ?_ 0 _ rfl; (with_reducible repeat (first | refine blk_drewN ?_ _ | refine blk_drew ?_ | refine blk_alloc ?_ _)); exact BKae.out))⟩; have n6_ : Aside0 (Below w.heap.size w wbR) := ⟨(by rw [hw]; exact Zq15)⟩; clear hw HOal HOaG BKaa BKag BKab BKae HB; have HOal := n0_; have HOaG := n1_; have BKaa := n2_; have BKag := n3_; have BKab := n4_; have BKae := n5_; have HB := n6_; clear n0_ n1_ n2_ n3_ n4_ n5_ n6_; have hcz116_0 : wbR.cell? ⟨gbaa, 0, none⟩ = some (.int .u32 a0_0) := (blk_cell BKaa.out 0).trans rfl; have hcz116_1 : wbR.cell? ⟨gbaa, 1, none⟩ = some (.slice A0_1 l0_1.length c0_1) := (blk_cell BKaa.out 1).trans rfl; have hcz116_2 : wbR.cell? ⟨gbaa, 2, none⟩ = some (.string a0_2) := (blk_cell BKaa.out 2).trans rfl; have hcz116_3 : wbR.cell? ⟨gbaa, 3, none⟩ = some (.slice A0_3 l0_3.length c0_3) := (blk_cell BKaa.out 3).trans rfl; have hcz116_4 : wbR.cell? ⟨gbaa, 4, none⟩ = some (.slice A0_4 l0_4.length c0_4) := (blk_cell BKaa.out 4).trans rfl; have hfz116_0 := blk_frozen BKaa.out 0; have hfz116_1 := blk_frozen BKaa.out 1; have hfz116_2 := blk_frozen BKaa.out 2; have hfz116_3 := blk_frozen BKaa.out 3; have hfz116_4 := blk_frozen BKaa.out 4; have hcz117_0 : wbR.cell? ⟨gbab, 0, none⟩ = some (.slice Aobm taj.length cobm) := (blk_cell BKab.out 0).trans rfl; have hcz117_1 : wbR.cell? ⟨gbab, 1, none⟩ = some (.int .u32 taL) := (blk_cell BKab.out 1).trans rfl; have hfz117_0 := blk_frozen BKab.out 0; have hfz117_1 := blk_frozen BKab.out 1) | ((with_reducible refine gate_callee (f := 12) rfl ?_); refine goesL_ (some 39) rfl rfl Try.func12 Zq2 rfl #[.agg #[.int .u32 a0_0, .slice A0_1 l0_1.length c0_1, .string a0_2, .slice A0_3 l0_3.length c0_3, .slice A0_4 l0_4.length c0_4], .slice Aobm taj.length cobm] rfl Zq8 ?_; (with_reducible refine (arboretref06_Get.calls kj2 a0_0 _ _ l0_1 a0_2 (fun k_ => k_ < w.heap.size) _ _ l0_3 (fun k_ => k_ < w.heap.size) _ _ l0_4 _ _ taj taT tbl tbu true _ ?side1 ?side2 ?side3 ?side4 ?side5 ?side6 A21.out).mono ?_); (case side1 => repeat (first | exact Zq138 | (with_reducible refine Kd.C_alloc ?_ _) | (with_reducible refine Kd.C_drewN ?_ _) | (with_reducible refine Kd.C_drew ?_))); (case side2 => exact HC0_1.out); (case side3 => exact Kd.V_mk HC0_3.out (Kd.F_below (Kd.C_F k63_heap HR0_3.out) Zq15)); (case side4 => exact Kd.V_mk HC0_4.out (Kd.F_below (Kd.C_F k27_heap HR0_4.out) Zq15)); (case side5 => repeat (first | exact (Kd.R_reads' HOal.out).2.2 | (with_reducible refine Kd.C_alloc ?_ _) | (with_reducible refine Kd.C_drewN ?_ _) | (with_reducible refine Kd.C_drew ?_))); (case side6 => exact (Kd.R_reads' HOal.out).2.1); rintro e waF ⟨v335, v338, rfl, ho0, ho1, hb⟩; refine ⟨_, rfl, ?_⟩; have n0_ := Zq167; have n1_ := Zq189; have n2_ := Ak (Kd.V_lower (Kd.V_mono (ok' := fun k_ => some k_ ≠ (.slice Aobm taj.length cobm : Value).ownBlock ∧ some k_ ≠ (.slice AoaO taq.length coaO : Value).ownBlock ∧ k_ ≠ gbaa ∧ k_ ≠ gbag ∧ k_ ≠ gbab ∧ k_ ≠ gbae) ho0 (fun k_ hk_ => ⟨Or.elim hk_ (fun hs_ => Or.elim hs_ (fun hs_ => fun e_ => Nat.not_le.2 hs_ (Kd.R_base HOal.out k_ e_.symm)) (fun hs_ => fun e_ => Nat.not_le.2 hs_ (Kd.R_base HOal.out k_ e_.symm))) (fun hn_ => (Kd.fresh' (Kd.R_lt Zq18) k_ hn_)), Or.elim hk_ (fun hs_ => Or.elim hs_ (fun hs_ => fun e_ => Nat.not_le.2 hs_ (Kd.R_base HOaG.out k_ e_.symm)) (fun hs_ => fun e_ => Nat.not_le.2 hs_ (Kd.R_base HOaG.out k_ e_.symm))) (fun hn_ => (Kd.fresh' (Kd.R_lt Zq30) k_ hn_)), Or.elim hk_ (fun hs_ => Or.elim hs_ (fun hs_ => fun e_ => Nat.not_le.2 hs_ Zq36) (fun hs_ => fun e_ => Nat.not_le.2 hs_ Zq36)) (fun hn_ => Zq141), Or.elim hk_ (fun hs_ => Or.elim hs_ (fun hs_ => fun e_ => Nat.not_le.2 hs_ Zq37) (fun hs_ => fun e_ => Nat.not_le.2 hs_ Zq37)) (fun hn_ => Zq149), Or.elim hk_ (fun hs_ => Or.elim hs_ (fun hs_ => fun e_ => Nat.not_le.2 hs_ Zq38) (fun hs_ => fun e_ => Nat.not_le.2 hs_ Zq38)) (fun hn_ => (Kd.freshB (g := gbab) (o := .cells #[.slice Aobm taj.length cobm, .int .u32 taL] 32 (0, 0)) Zq14 k_ hn_)), Or.elim hk_ (fun hs_ => Or.elim hs_ (fun hs_ => fun e_ => Nat.not_le.2 hs_ Zq39) (fun hs_ => fun e_ => Nat.not_le.2 hs_ Zq39)) (fun hn_ => (Kd.freshB (g := gbae) (o := .cells #[.slice AoaO taq.length coaO, .int .u32 taR] 32 (0, 0)) Zq24 k_ hn_))⟩)) (below_size Zq15)); have n3_ := Ak (Kd.V_lower (Kd.V_mono (ok' := fun k_ => some k_ ≠ (.slice Aobm taj.length cobm : Value).ownBlock ∧ some k_ ≠ (.slice AoaO taq.length coaO : Value).ownBlock ∧ k_ ≠ gbaa ∧ k_ ≠ gbag ∧ k_ ≠ gbab ∧ k_ ≠ gbae) ho1 (fun k_ hk_ => ⟨Or.elim hk_ (fun hs_ => Or.elim hs_ (fun hs_ => fun e_ => Nat.not_le.2 hs_ (Kd.R_base HOal.out k_ e_.symm)) (fun hs_ => fun e_ => Nat.not_le.2 hs_ (Kd.R_base HOal.out k_ e_.symm))) (fun hn_ => (Kd.fresh' (Kd.R_lt Zq18) k_ hn_)), Or.elim hk_ (fun hs_ => Or.elim hs_ (fun hs_ => fun e_ => Nat.not_le.2 hs_ (Kd.R_base HOaG.out k_ e_.symm)) (fun hs_ => fun e_ => Nat.not_le.2 hs_ (Kd.R_base HOaG.out k_ e_.symm))) (fun hn_ => (Kd.fresh' (Kd.R_lt Zq30) k_ hn_)), Or.elim hk_ (fun hs_ => Or.elim hs_ (fun hs_ => fun e_ => Nat.not_le.2 hs_ Zq36) (fun hs_ => fun e_ => Nat.not_le.2 hs_ Zq36)) (fun hn_ => Zq141), Or.elim hk_ (fun hs_ => Or.elim hs_ (fun hs_ => fun e_ => Nat.not_le.2 hs_ Zq37) (fun hs_ => fun e_ => Nat.not_le.2 hs_ Zq37)) (fun hn_ => Zq149), Or.elim hk_ (fun hs_ => Or.elim hs_ (fun hs_ => fun e_ => Nat.not_le.2 hs_ Zq38) (fun hs_ => fun e_ => Nat.not_le.2 hs_ Zq38)) (fun hn_ => (Kd.freshB (g := gbab) (o := .cells #[.slice Aobm taj.length cobm, .int .u32 taL] 32 (0, 0)) Zq14 k_ hn_)), Or.elim hk_ (fun hs_ => Or.elim hs_ (fun hs_ => fun e_ => Nat.not_le.2 hs_ Zq39) (fun hs_ => fun e_ => Nat.not_le.2 hs_ Zq39)) (fun hn_ => (Kd.freshB (g := gbae) (o := .cells #[.slice AoaO taq.length coaO, .int .u32 taR] 32 (0, 0)) Zq24 k_ hn_))⟩)) (below_size Zq15)); have n4_ := Zq130; have n5_ := Zq132; have n6_ := Zq201; have n7_ := Ak (blk_below (g := gbae) (o := .cells #[.slice AoaO taq.length coaO, .int .u32 taR] 32 (0, 0)) Zq24 hb); have n8_ := Zq222; clear HOal HOaG BKaa BKag BKab BKae HB; have HOal := n0_; have HOaG := n1_; have HObw := n2_; have HObx := n3_; have BKaa := n4_; have BKag := n5_; have BKab := n6_; have BKae := n7_; have HB := n8_; clear n0_ n1_ n2_ n3_ n4_ n5_ n6_ n7_ n8_; (try clear hb); (try clear hb2); (try clear hk); (try clear hi); (try clear ho0); (try clear ho1)) | ((with_reducible refine gate_dst (N := 9) rfl ?_); refine box_event ?hg (N := 9) ?hd (cs := #[.string (⟨#[]⟩ : ByteArray), .slice none 0 0, .slice none 0 0]) (t := 27) ?hr ?_; (case hd | hg => rfl); (case hr => first | (go_simp; done) | (go_simp; rfl)); intro gbaf hg waB hbox hb; have n0_ := Zq167; have n1_ := Zq189; have n2_ := Zq215; have n3_ := Zq216; have n4_ := Zq130; have n5_ := Zq132; have n6_ := Zq201; have n7_ := Ak (blk_below (g := gbae) (o := .cells #[.slice AoaO taq.length coaO, .int .u32 taR] 32 (0, 0)) Zq24 hb); have n8_ := Zq222; have n9_ := Ak (hbox); have n10_ := Zq164; have n11_ := Zq164; have n12_ := Zq296; have n13_ := Zq297; have n14_ := Zq298; have n15_ := Zq299; have n16_ := Ak ((by rw [hg]; exact Nat.ne_of_lt Zq209 : gbab ≠ gbaf)); have n17_ := Ak ((by rw [hg]; exact Nat.ne_of_gt Zq209 : gbaf ≠ gbab)); have n18_ := Ak ((by rw [hg]; exact Nat.ne_of_lt (blk_lt (g := gbae) (o := .cells #[.slice AoaO taq.length coaO, .int .u32 taR] 32 (0, 0)) Zq24) : gbae ≠ gbaf)); have n19_ := Ak ((by rw [hg]; exact Nat.ne_of_gt (blk_lt (g := gbae) (o := .cells #[.slice AoaO taq.length coaO, .int .u32 taR] 32 (0, 0)) Zq24) : gbaf ≠ gbae)); clear HOal HOaG HObw HObx BKaa BKag BKab BKae HB; have HOal := n0_; have HOaG := n1_; have HObw := n2_; have HObx := n3_; have BKaa := n4_; have BKag := n5_; have BKab := n6_; have BKae := n7_; have HB := n8_; have BKaf := n9_; have GWaf := n10_; have GEaf := n11_; have NB316_341 := n12_; have NB341_316 := n13_; have NB317_341 := n14_; have NB341_317 := n15_; have NB326_341 := n16_; have NB341_326 := n17_; have NB332_341 := n18_; have NB341_332 := n19_; clear n0_ n1_ n2_ n3_ n4_ n5_ n6_ n7_ n8_ n9_ n10_ n11_ n12_ n13_ n14_ n15_ n16_ n17_ n18_ n19_ hb hbox hg; have hnb120 := NB341_316.out; have hnc120 := NB316_341.out; have hnb121 := NB341_317.out; have hnc121 := NB317_341.out; have hnb122 := NB341_326.out; have hnc122 := NB326_341.out; have hnb123 := NB341_332.out; have hnc123 := NB332_341.out; have hcz124_0 : waB.cell? ⟨gbaf, 0, none⟩ = some (.string (⟨#[]⟩ : ByteArray)) := (blk_cell BKaf.out 0).trans rfl; have hcz124_1 : waB.cell? ⟨gbaf, 1, none⟩ = some (.slice none 0 0) := (blk_cell BKaf.out 1).trans rfl; have hcz124_2 : waB.cell? ⟨gbaf, 2, none⟩ = some (.slice none 0 0) := (blk_cell BKaf.out 2).trans rfl; have hfz124_0 := blk_frozen BKaf.out 0; have hfz124_1 := blk_frozen BKaf.out 1; have hfz124_2 := blk_frozen BKaf.out 2; obtain ⟨Aocj, cocj, eo125⟩ := Kd.V_slice HObw.out; subst eo125; obtain ⟨AobZ, cobZ, eo126⟩ := Kd.V_slice HObx.out; subst eo126) | (go_at_call 13; (with_reducible refine (arboretref12_Controller.calls kj2 taT _ _ tbl _ _ tbu true _ ?side1 ?side2 ?side3 ?side4 A23.out).mono ?_); (case side1 => refine (Kd.V_reads' (e := 63) (base := w.heap.size) (ok := fun k_ => ((some k_ ≠ (.slice Aobm taj.length cobm : Value).ownBlock ∧ (some k_ ≠ (.slice AoaO taq.length coaO : Value).ownBlock ∧ (k_ ≠ gbaa ∧ (k_ ≠ gbag ∧ (k_ ≠ gbab ∧ k_ ≠ gbae))))) ∧ k_ ≠ gbaf)) (n := tbl.length) (c := cocj) ?_).2.2; exact (by (with_reducible repeat (first | apply Kd.V_alloc | apply Kd.V_drewN | apply Kd.V_drew)); exact (Kd.V_mono (Kd.V_far (p := ⟨gbaf, 2, none⟩) (Kd.V_far (p := ⟨gbaf, 1, none⟩) (Kd.V_far (p := ⟨gbaf, 0, none⟩) (Kd.V_mono HObw.out (fun k_ hk => (⟨hk, hk.2⟩ : _ ∧ k_ ≠ gbaf))) (fun _ hk => hk.2) (.string taT)) (fun _ hk => hk.2) (.slice Aocj tbl.length cocj)) (fun _ hk => hk.2) (.slice AobZ tbu.length cobZ)) (fun _ h_ => h_.1)))); (case side2 => exact (Kd.V_reads' HObw.out).2.1); (case side3 => refine (Kd.V_reads' (e := 27) (base := w.heap.size) (ok := fun k_ => ((some k_ ≠ (.slice Aobm taj.length cobm : Value).ownBlock ∧ (some k_ ≠ (.slice AoaO taq.length coaO : Value).ownBlock ∧ (k_ ≠ gbaa ∧ (k_ ≠ gbag ∧ (k_ ≠ gbab ∧ k_ ≠ gbae))))) ∧ k_ ≠ gbaf)) (n := tbu.length) (c := cobZ) ?_).2.2; exact (by (with_reducible repeat (first | apply Kd.V_alloc | apply Kd.V_drewN | apply Kd.V_drew)); exact (Kd.V_mono (Kd.V_far (p := ⟨gbaf, 2, none⟩) (Kd.V_far (p := ⟨gbaf, 1, none⟩) (Kd.V_far (p := ⟨gbaf, 0, none⟩) (Kd.V_mono HObx.out (fun k_ hk => (⟨hk, hk.2⟩ : _ ∧ k_ ≠ gbaf))) (fun _ hk => hk.2) (.string taT)) (fun _ hk => hk.2) (.slice Aocj tbl.length cocj)) (fun _ hk => hk.2) (.slice AobZ tbu.length cobZ)) (fun _ h_ => h_.1)))); (case side4 => exact (Kd.V_reads' HObx.out).2.1); rintro e wcy ⟨rfl, hb⟩; have n0_ := Ak (Kd.R_below (by (with_reducible repeat (first | apply Kd.R_alloc | apply Kd.R_drewN | apply Kd.R_drew)); exact (Kd.R_mono (Kd.R_far (p := ⟨gbaf, 2, none⟩) (Kd.R_far (p := ⟨gbaf, 1, none⟩) (Kd.R_far (p := ⟨gbaf, 0, none⟩) (Kd.R_types HOal.out BKaf.out Zq4) (fun _ hk => hk.2) (.string taT)) (fun _ hk => hk.2) (.slice Aocj tbl.length cocj)) (fun _ hk => hk.2) (.slice AobZ tbu.length cobZ)) (fun _ h_ => h_.1))) hb); have n1_ := Ak (Kd.R_below (by (with_reducible repeat (first | apply Kd.R_alloc | apply Kd.R_drewN | apply Kd.R_drew)); exact (Kd.R_mono (Kd.R_far (p := ⟨gbaf, 2, none⟩) (Kd.R_far (p := ⟨gbaf, 1, none⟩) (Kd.R_far (p := ⟨gbaf, 0, none⟩) (Kd.R_types HOaG.out BKaf.out Zq4) (fun _ hk => hk.2) (.string taT)) (fun _ hk => hk.2) (.slice Aocj tbl.length cocj)) (fun _ hk => hk.2) (.slice AobZ tbu.length cobZ)) (fun _ h_ => h_.1))) hb); have n2_ := Ak (Kd.V_below (by (with_reducible repeat (first | apply Kd.V_alloc | apply Kd.V_drewN | apply Kd.V_drew)); exact (Kd.V_mono (Kd.V_far (p := ⟨gbaf, 2, none⟩) (Kd.V_far (p := ⟨gbaf, 1, none⟩) (Kd.V_far (p := ⟨gbaf, 0, none⟩) (Kd.V_mono HObw.out (fun k_ hk => (⟨hk, hk.2⟩ : _ ∧ k_ ≠ gbaf))) (fun _ hk => hk.2) (.string taT)) (fun _ hk => hk.2) (.slice Aocj tbl.length cocj)) (fun _ hk => hk.2) (.slice AobZ tbu.length cobZ)) (fun _ h_ => h_.1))) hb); have n3_ := Ak (Kd.V_below (by (with_reducible repeat (first | apply Kd.V_alloc | apply Kd.V_drewN | apply Kd.V_drew)); exact (Kd.V_mono (Kd.V_far (p := ⟨gbaf, 2, none⟩) (Kd.V_far (p := ⟨gbaf, 1, none⟩) (Kd.V_far (p := ⟨gbaf, 0, none⟩) (Kd.V_mono HObx.out (fun k_ hk => (⟨hk, hk.2⟩ : _ ∧ k_ ≠ gbaf))) (fun _ hk => hk.2) (.string taT)) (fun _ hk => hk.2) (.slice Aocj tbl.length cocj)) (fun _ hk => hk.2) (.slice AobZ tbu.length cobZ)) (fun _ h_ => h_.1))) hb); have n4_ := Zq171; have n5_ := Zq205; have n6_ := Ak (blk_below (g := gbab) (o := .cells #[.slice Aobm taj.length cobm, .int .u32 taL] 32 (0, 0)) Zq117 hb); have n7_ := Ak (blk_below (g := gbae) (o := .cells #[.slice AoaO taq.length coaO, .int .u32 taR] 32 (0, 0)) Zq118 hb); have n8_ := Ak (blk_below (g := gbaf) (o := .cells #[.string taT, .slice Aocj tbl.length cocj, .slice AobZ tbu.length cobZ] 27 (0, 0)) (by (with_reducible repeat (first | refine blk_drewN ?_ _ | refine blk_drew ?_ | refine blk_alloc ?_ _)); refine blk_put (cs := #[.string taT, .slice Aocj tbl.length cocj, .slice none 0 0]) ?_ 2 _ rfl; (with_reducible repeat (first | refine blk_drewN ?_ _ | refine blk_drew ?_ | refine blk_alloc ?_ _)); refine blk_put (cs := #[.string taT, .slice none 0 0, .slice none 0 0]) ?_ 1 _ rfl; (with_reducible repeat (first | refine blk_drewN ?_ _ | refine blk_drew ?_ | refine blk_alloc ?_ _)); refine blk_put (cs := #[.string (⟨#[]⟩ : ByteArray), .slice none 0 0, .slice none 0 0]) ?_ 0 _ rfl; (with_reducible repeat (first | refine blk_drewN ?_ _ | refine blk_drew ?_ | refine blk_alloc ?_ _)); exact BKaf.out) hb); have n9_ := Ak (below_step Zq67 hb); clear HOal HOaG HObw HObx BKaa BKag BKab BKae BKaf HB; have HOal := n0_; have HOaG := n1_; have HObw := n2_; have HObx := n3_; have BKaa := n4_; have BKag := n5_; have BKab := n6_; have BKae := n7_; have BKaf := n8_; have HB := n9_; clear n0_ n1_ n2_ n3_ n4_ n5_ n6_ n7_ n8_ n9_; (try clear hb); (try clear hb2); (try clear hk); (try clear hi)))
        go_ret
        exact ⟨Zq13, Zq67⟩
      ·replace c24 := Bool.eq_false_iff.mpr c24; subst c24
       have H1 : (some false) = some r := by rw [if_neg (show ¬ (false = true) by decide)] at H; exact H
       clear H; have H := H1; clear H1; obtain rfl := Option.some.inj H; have hnb128 := NB316_317.out; have hnc128 := NB317_316.out; have hcz129_0 : wc.cell? ⟨gbaa, 0, none⟩ = some (.int .u32 a0_0) := (blk_cell BKaa.out 0).trans rfl; have hcz129_1 : wc.cell? ⟨gbaa, 1, none⟩ = some (.slice A0_1 l0_1.length c0_1) := (blk_cell BKaa.out 1).trans rfl; have hcz129_2 : wc.cell? ⟨gbaa, 2, none⟩ = some (.string a0_2) := (blk_cell BKaa.out 2).trans rfl; have hcz129_3 : wc.cell? ⟨gbaa, 3, none⟩ = some (.slice A0_3 l0_3.length c0_3) := (blk_cell BKaa.out 3).trans rfl; have hcz129_4 : wc.cell? ⟨gbaa, 4, none⟩ = some (.slice A0_4 l0_4.length c0_4) := (blk_cell BKaa.out 4).trans rfl; have hfz129_0 := blk_frozen BKaa.out 0; have hfz129_1 := blk_frozen BKaa.out 1; have hfz129_2 := blk_frozen BKaa.out 2; have hfz129_3 := blk_frozen BKaa.out 3; have hfz129_4 := blk_frozen BKaa.out 4; have hcz130_0 : wc.cell? ⟨gbag, 0, none⟩ = some (.slice A1_0 l1_0.length c1_0) := (blk_cell BKag.out 0).trans rfl; have hcz130_1 : wc.cell? ⟨gbag, 1, none⟩ = some (.int .u32 a1_1) := (blk_cell BKag.out 1).trans rfl; have hfz130_0 := blk_frozen BKag.out 0; have hfz130_1 := blk_frozen BKag.out 1
       go_wp2_with (first | ((with_reducible refine gate_callee (f := 11) rfl ?_); refine goesL_ (some 24) rfl rfl Try.func11 Zq2 rfl #[.agg #[.int .u32 a0_0, .slice A0_1 l0_1.length c0_1, .string a0_2, .slice A0_3 l0_3.length c0_3, .slice A0_4 l0_4.length c0_4], .agg #[.slice A1_0 l1_0.length c1_0, .int .u32 a1_1]] rfl Zq8 ?_; (with_reducible refine (irq_Through.calls kj2 a0_0 _ _ l0_1 a0_2 _ _ l0_3 _ _ l0_4 (fun k_ => k_ < w.heap.size) _ _ l1_0 a1_1 taj taL tcR _ ?side1 ?side2 ?side3 ?side4 ?side5 ?side6 ?side7 A18.out).mono ?_); (case side1 => repeat (first | exact Zq138 | (with_reducible refine Kd.C_alloc ?_ _) | (with_reducible refine Kd.C_drewN ?_ _) | (with_reducible refine Kd.C_drew ?_))); (case side2 => exact HC0_1.out); (case side3 => repeat (first | exact Zq153 | (with_reducible refine Kd.C_alloc ?_ _) | (with_reducible refine Kd.C_drewN ?_ _) | (with_reducible refine Kd.C_drew ?_))); (case side4 => exact HC0_3.out); (case side5 => repeat (first | exact Zq154 | (with_reducible refine Kd.C_alloc ?_ _) | (with_reducible refine Kd.C_drewN ?_ _) | (with_reducible refine Kd.C_drew ?_))); (case side6 => exact HC0_4.out); (case side7 => exact Kd.V_mk HC1_0.out (Kd.F_below (Kd.C_F (Kd.heap_int .i64) HR1_0.out) Zq16)); rintro e waD ⟨v322, rfl, ho0, hb⟩; refine ⟨_, rfl, ?_⟩; have n0_ := Zq179; have n1_ := Zq130; have n2_ := Zq132; have n3_ := Zq186; clear BKaa BKag HB; have HOal := n0_; have BKaa := n1_; have BKag := n2_; have HB := n3_; clear n0_ n1_ n2_ n3_; (try clear hb); (try clear hb2); (try clear hk); (try clear hi); (try clear ho0)) | ((with_reducible refine gate_dst (N := 5) rfl ?_); refine box_event ?hg (N := 5) ?hd (cs := #[.slice none 0 0, .int .u32 0]) (t := 32) ?hr ?_; (case hd | hg => rfl); (case hr => first | (go_simp; done) | (go_simp; rfl)); intro gbab hg wax hbox hb; have n0_ := Zq167; have n1_ := Zq130; have n2_ := Zq132; have n3_ := Zq186; have n4_ := Ak (hbox); have n5_ := Zq156; have n6_ := Zq156; have n7_ := Zq288; have n8_ := Zq289; have n9_ := Zq290; have n10_ := Zq291; clear HOal BKaa BKag HB; have HOal := n0_; have BKaa := n1_; have BKag := n2_; have HB := n3_; have BKab := n4_; have GWab := n5_; have GEab := n6_; have NB316_326 := n7_; have NB326_316 := n8_; have NB317_326 := n9_; have NB326_317 := n10_; clear n0_ n1_ n2_ n3_ n4_ n5_ n6_ n7_ n8_ n9_ n10_ hb hbox hg; obtain ⟨Aobj, cobj, eo133⟩ := Kd.R_slice HOal.out; subst eo133; have hnb134 := NB326_316.out; have hnc134 := NB316_326.out; have hnb135 := NB326_317.out; have hnc135 := NB317_326.out; have hcz136_0 : wax.cell? ⟨gbab, 0, none⟩ = some (.slice none 0 0) := (blk_cell BKab.out 0).trans rfl; have hcz136_1 : wax.cell? ⟨gbab, 1, none⟩ = some (.int .u32 0) := (blk_cell BKab.out 1).trans rfl; have hfz136_0 := blk_frozen BKab.out 0; have hfz136_1 := blk_frozen BKab.out 1) | ((with_reducible refine gate_store (t := 32) (p := 5) rfl ?_); refine store_event (t := 32) (p := 5) (v := ?vo_w137) (w1 := ((wax.setCell ⟨gbab, 0, none⟩ (.slice Aobj taj.length cobj)).setCell ⟨gbab, 1, none⟩ (.int .u32 taL))) ?hg ?ho ?hn ?hr ?_; (case ho => rfl); (case hg => rfl); (case hn => rfl); (case hr => first | (go_simp; done) | (go_simp; rfl)); intro wcS hw; have n0_ : Aside0 (Kd.R (Kd.int .i64) 3 wcS w.heap.size (fun _ => True) (.slice Aobj taj.length cobj) taj) := ⟨(by rw [hw]; exact (by (with_reducible repeat (first | apply Kd.R_alloc | apply Kd.R_drewN | apply Kd.R_drew)); exact Kd.R_mono (Kd.R_far (p := ⟨gbab, 1, none⟩) (Kd.R_far (p := ⟨gbab, 0, none⟩) (Kd.R_types HOal.out BKab.out Zq4) (fun _ hk => hk.2) (.slice Aobj taj.length cobj)) (fun _ hk => hk.2) (.int .u32 taL)) (fun _ hk => trivial)))⟩; have n1_ : Aside0 (wcS.heap[gbaa]? = some (.cells #[.int .u32 a0_0, .slice A0_1 l0_1.length c0_1, .string a0_2, .slice A0_3 l0_3.length c0_3, .slice A0_4 l0_4.length c0_4] 29 (0, 0))) := ⟨(by rw [hw]; exact Zq95)⟩; have n2_ : Aside0 (wcS.heap[gbag]? = some (.cells #[.slice A1_0 l1_0.length c1_0, .int .u32 a1_1] 32 (0, 0))) := ⟨(by rw [hw]; exact Zq96)⟩; have n3_ : Aside0 (wcS.heap[gbab]? = some (.cells #[.slice Aobj taj.length cobj, .int .u32 taL] 32 (0, 0))) := ⟨(by rw [hw]; exact (by (with_reducible repeat (first | refine blk_drewN ?_ _ | refine blk_drew ?_ | refine blk_alloc ?_ _)); refine blk_put (cs := #[.slice Aobj taj.length cobj, .int .u32 0]) ?_ 1 _ rfl; (with_reducible repeat (first | refine blk_drewN ?_ _ | refine blk_drew ?_ | refine blk_alloc ?_ _)); refine blk_put (cs := #[.slice none 0 0, .int .u32 0]) ?_ 0 _ rfl; (with_reducible repeat (first | refine blk_drewN ?_ _ | refine blk_drew ?_ | refine blk_alloc ?_ _)); exact BKab.out))⟩; have n4_ : Aside0 (Below w.heap.size w wcS) := ⟨(by rw [hw]; exact Zq22)⟩; clear hw HOal BKaa BKag BKab HB; have HOal := n0_; have BKaa := n1_; have BKag := n2_; have BKab := n3_; have HB := n4_; clear n0_ n1_ n2_ n3_ n4_; have hcz138_0 : wcS.cell? ⟨gbaa, 0, none⟩ = some (.int .u32 a0_0) := (blk_cell BKaa.out 0).trans rfl; have hcz138_1 : wcS.cell? ⟨gbaa, 1, none⟩ = some (.slice A0_1 l0_1.length c0_1) := (blk_cell BKaa.out 1).trans rfl; have hcz138_2 : wcS.cell? ⟨gbaa, 2, none⟩ = some (.string a0_2) := (blk_cell BKaa.out 2).trans rfl; have hcz138_3 : wcS.cell? ⟨gbaa, 3, none⟩ = some (.slice A0_3 l0_3.length c0_3) := (blk_cell BKaa.out 3).trans rfl; have hcz138_4 : wcS.cell? ⟨gbaa, 4, none⟩ = some (.slice A0_4 l0_4.length c0_4) := (blk_cell BKaa.out 4).trans rfl; have hfz138_0 := blk_frozen BKaa.out 0; have hfz138_1 := blk_frozen BKaa.out 1; have hfz138_2 := blk_frozen BKaa.out 2; have hfz138_3 := blk_frozen BKaa.out 3; have hfz138_4 := blk_frozen BKaa.out 4; have hcz139_0 : wcS.cell? ⟨gbab, 0, none⟩ = some (.slice Aobj taj.length cobj) := (blk_cell BKab.out 0).trans rfl; have hcz139_1 : wcS.cell? ⟨gbab, 1, none⟩ = some (.int .u32 taL) := (blk_cell BKab.out 1).trans rfl; have hfz139_0 := blk_frozen BKab.out 0; have hfz139_1 := blk_frozen BKab.out 1) | ((with_reducible refine gate_callee (f := 11) rfl ?_); refine goesL_ (some 32) rfl rfl Try.func11 Zq2 rfl #[.agg #[.int .u32 a0_0, .slice A0_1 l0_1.length c0_1, .string a0_2, .slice A0_3 l0_3.length c0_3, .slice A0_4 l0_4.length c0_4], .agg #[.slice Aobj taj.length cobj, .int .u32 taL]] rfl Zq8 ?_; (with_reducible refine (irq_Through.calls kj2 a0_0 _ _ l0_1 a0_2 _ _ l0_3 _ _ l0_4 (fun k_ => some k_ = (.slice Aobj taj.length cobj : Value).ownBlock) _ _ taj taL taq taR tcx _ ?side1 ?side2 ?side3 ?side4 ?side5 ?side6 ?side7 A20.out).mono ?_); (case side1 => repeat (first | exact Zq138 | (with_reducible refine Kd.C_alloc ?_ _) | (with_reducible refine Kd.C_drewN ?_ _) | (with_reducible refine Kd.C_drew ?_))); (case side2 => exact HC0_1.out); (case side3 => repeat (first | exact Zq153 | (with_reducible refine Kd.C_alloc ?_ _) | (with_reducible refine Kd.C_drewN ?_ _) | (with_reducible refine Kd.C_drew ?_))); (case side4 => exact HC0_3.out); (case side5 => repeat (first | exact Zq154 | (with_reducible refine Kd.C_alloc ?_ _) | (with_reducible refine Kd.C_drewN ?_ _) | (with_reducible refine Kd.C_drew ?_))); (case side6 => exact HC0_4.out); (case side7 => exact Kd.R_V (Kd.R_tight rfl (Kd.R_types (Kd.R_types (Kd.R_types (HOal.out) BKaa.out Zq4) BKag.out Zq4) BKab.out Zq4))); rintro e wdP ⟨v328, rfl, ho0, hb⟩; refine ⟨_, rfl, ?_⟩; have n0_ := Zq252; have n1_ := Zq176; have n2_ := Zq130; have n3_ := Zq132; have n4_ := Zq202; have n5_ := Zq221; clear HOal BKaa BKag BKab HB; have HOal := n0_; have HOaG := n1_; have BKaa := n2_; have BKag := n3_; have BKab := n4_; have HB := n5_; clear n0_ n1_ n2_ n3_ n4_ n5_; (try clear hb); (try clear hb2); (try clear hk); (try clear hi); (try clear ho0)) | ((with_reducible refine gate_dst (N := 7) rfl ?_); refine box_event ?hg (N := 7) ?hd (cs := #[.slice none 0 0, .int .u32 0]) (t := 32) ?hr ?_; (case hd | hg => rfl); (case hr => first | (go_simp; done) | (go_simp; rfl)); intro gbae hg wdT hbox hb; have n0_ := Zq167; have n1_ := Zq189; have n2_ := Zq130; have n3_ := Zq132; have n4_ := Zq202; have n5_ := Zq221; have n6_ := Ak (hbox); have n7_ := Zq163; have n8_ := Zq163; have n9_ := Zq292; have n10_ := Zq293; have n11_ := Zq294; have n12_ := Zq295; have n13_ := Ak ((by rw [hg]; exact Nat.ne_of_lt Zq210 : gbab ≠ gbae)); have n14_ := Ak ((by rw [hg]; exact Nat.ne_of_gt Zq210 : gbae ≠ gbab)); clear HOal HOaG BKaa BKag BKab HB; have HOal := n0_; have HOaG := n1_; have BKaa := n2_; have BKag := n3_; have BKab := n4_; have HB := n5_; have BKae := n6_; have GWae := n7_; have GEae := n8_; have NB316_332 := n9_; have NB332_316 := n10_; have NB317_332 := n11_; have NB332_317 := n12_; have NB326_332 := n13_; have NB332_326 := n14_; clear n0_ n1_ n2_ n3_ n4_ n5_ n6_ n7_ n8_ n9_ n10_ n11_ n12_ n13_ n14_ hb hbox hg; obtain ⟨AobC, cobC, eo142⟩ := Kd.R_slice HOaG.out; subst eo142; have hnb143 := NB332_316.out; have hnc143 := NB316_332.out; have hnb144 := NB332_317.out; have hnc144 := NB317_332.out; have hnb145 := NB332_326.out; have hnc145 := NB326_332.out; have hcz146_0 : wdT.cell? ⟨gbae, 0, none⟩ = some (.slice none 0 0) := (blk_cell BKae.out 0).trans rfl; have hcz146_1 : wdT.cell? ⟨gbae, 1, none⟩ = some (.int .u32 0) := (blk_cell BKae.out 1).trans rfl; have hfz146_0 := blk_frozen BKae.out 0; have hfz146_1 := blk_frozen BKae.out 1) | ((with_reducible refine gate_store (t := 32) (p := 7) rfl ?_); refine store_event (t := 32) (p := 7) (v := ?vo_w147) (w1 := ((wdT.setCell ⟨gbae, 0, none⟩ (.slice AobC taq.length cobC)).setCell ⟨gbae, 1, none⟩ (.int .u32 taR))) ?hg ?ho ?hn ?hr ?_; (case ho => rfl); (case hg => rfl); (case hn => rfl); (case hr => first | (go_simp; done) | (go_simp; rfl)); intro wcH hw; have n0_ : Aside0 (Kd.R (Kd.int .i64) 3 wcH w.heap.size (fun k_ => some k_ ≠ (.slice AobC taq.length cobC : Value).ownBlock) (.slice Aobj taj.length cobj) taj) := ⟨(by rw [hw]; exact (by (with_reducible repeat (first | apply Kd.R_alloc | apply Kd.R_drewN | apply Kd.R_drew)); exact Kd.R_mono (Kd.R_far (p := ⟨gbae, 1, none⟩) (Kd.R_far (p := ⟨gbae, 0, none⟩) (Kd.R_types HOal.out BKae.out Zq4) (fun _ hk => hk.2) (.slice AobC taq.length cobC)) (fun _ hk => hk.2) (.int .u32 taR)) (fun _ hk => hk.1.2)))⟩; have n1_ : Aside0 (Kd.R (Kd.int .i64) 3 wcH w.heap.size (fun k_ => some k_ ≠ (.slice Aobj taj.length cobj : Value).ownBlock) (.slice AobC taq.length cobC) taq) := ⟨(by rw [hw]; exact (by (with_reducible repeat (first | apply Kd.R_alloc | apply Kd.R_drewN | apply Kd.R_drew)); exact Kd.R_mono (Kd.R_far (p := ⟨gbae, 1, none⟩) (Kd.R_far (p := ⟨gbae, 0, none⟩) (Kd.R_types HOaG.out BKae.out Zq4) (fun _ hk => hk.2) (.slice AobC taq.length cobC)) (fun _ hk => hk.2) (.int .u32 taR)) (fun _ hk => hk.1.2)))⟩; have n2_ : Aside0 (wcH.heap[gbaa]? = some (.cells #[.int .u32 a0_0, .slice A0_1 l0_1.length c0_1, .string a0_2, .slice A0_3 l0_3.length c0_3, .slice A0_4 l0_4.length c0_4] 29 (0, 0))) := ⟨(by rw [hw]; exact Zq97)⟩; have n3_ : Aside0 (wcH.heap[gbag]? = some (.cells #[.slice A1_0 l1_0.length c1_0, .int .u32 a1_1] 32 (0, 0))) := ⟨(by rw [hw]; exact Zq98)⟩; have n4_ : Aside0 (wcH.heap[gbab]? = some (.cells #[.slice Aobj taj.length cobj, .int .u32 taL] 32 (0, 0))) := ⟨(by rw [hw]; exact Zq99)⟩; have n5_ : Aside0 (wcH.heap[gbae]? = some (.cells #[.slice AobC taq.length cobC, .int .u32 taR] 32 (0, 0))) := ⟨(by rw [hw]; exact (by (with_reducible repeat (first | refine blk_drewN ?_ _ | refine blk_drew ?_ | refine blk_alloc ?_ _)); refine blk_put (cs := #[.slice AobC taq.length cobC, .int .u32 0]) ?_ 1 _ rfl; (with_reducible repeat (first | refine blk_drewN ?_ _ | refine blk_drew ?_ | refine blk_alloc ?_ _)); refine blk_put (cs := #[.slice none 0 0, .int .u32 0]) ?_ 0 _ rfl; (with_reducible repeat (first | refine blk_drewN ?_ _ | refine blk_drew ?_ | refine blk_alloc ?_ _)); exact BKae.out))⟩; have n6_ : Aside0 (Below w.heap.size w wcH) := ⟨(by rw [hw]; exact Zq15)⟩; clear hw HOal HOaG BKaa BKag BKab BKae HB; have HOal := n0_; have HOaG := n1_; have BKaa := n2_; have BKag := n3_; have BKab := n4_; have BKae := n5_; have HB := n6_; clear n0_ n1_ n2_ n3_ n4_ n5_ n6_; have hcz148_0 : wcH.cell? ⟨gbaa, 0, none⟩ = some (.int .u32 a0_0) := (blk_cell BKaa.out 0).trans rfl; have hcz148_1 : wcH.cell? ⟨gbaa, 1, none⟩ = some (.slice A0_1 l0_1.length c0_1) := (blk_cell BKaa.out 1).trans rfl; have hcz148_2 : wcH.cell? ⟨gbaa, 2, none⟩ = some (.string a0_2) := (blk_cell BKaa.out 2).trans rfl; have hcz148_3 : wcH.cell? ⟨gbaa, 3, none⟩ = some (.slice A0_3 l0_3.length c0_3) := (blk_cell BKaa.out 3).trans rfl; have hcz148_4 : wcH.cell? ⟨gbaa, 4, none⟩ = some (.slice A0_4 l0_4.length c0_4) := (blk_cell BKaa.out 4).trans rfl; have hfz148_0 := blk_frozen BKaa.out 0; have hfz148_1 := blk_frozen BKaa.out 1; have hfz148_2 := blk_frozen BKaa.out 2; have hfz148_3 := blk_frozen BKaa.out 3; have hfz148_4 := blk_frozen BKaa.out 4; have hcz149_0 : wcH.cell? ⟨gbab, 0, none⟩ = some (.slice Aobj taj.length cobj) := (blk_cell BKab.out 0).trans rfl; have hcz149_1 : wcH.cell? ⟨gbab, 1, none⟩ = some (.int .u32 taL) := (blk_cell BKab.out 1).trans rfl; have hfz149_0 := blk_frozen BKab.out 0; have hfz149_1 := blk_frozen BKab.out 1) | ((with_reducible refine gate_callee (f := 12) rfl ?_); refine goesL_ (some 39) rfl rfl Try.func12 Zq2 rfl #[.agg #[.int .u32 a0_0, .slice A0_1 l0_1.length c0_1, .string a0_2, .slice A0_3 l0_3.length c0_3, .slice A0_4 l0_4.length c0_4], .slice Aobj taj.length cobj] rfl Zq8 ?_; (with_reducible refine (arboretref06_Get.calls kj2 a0_0 _ _ l0_1 a0_2 (fun k_ => k_ < w.heap.size) _ _ l0_3 (fun k_ => k_ < w.heap.size) _ _ l0_4 _ _ taj taT tbl tbu true _ ?side1 ?side2 ?side3 ?side4 ?side5 ?side6 A21.out).mono ?_); (case side1 => repeat (first | exact Zq138 | (with_reducible refine Kd.C_alloc ?_ _) | (with_reducible refine Kd.C_drewN ?_ _) | (with_reducible refine Kd.C_drew ?_))); (case side2 => exact HC0_1.out); (case side3 => exact Kd.V_mk HC0_3.out (Kd.F_below (Kd.C_F k63_heap HR0_3.out) Zq15)); (case side4 => exact Kd.V_mk HC0_4.out (Kd.F_below (Kd.C_F k27_heap HR0_4.out) Zq15)); (case side5 => repeat (first | exact (Kd.R_reads' HOal.out).2.2 | (with_reducible refine Kd.C_alloc ?_ _) | (with_reducible refine Kd.C_drewN ?_ _) | (with_reducible refine Kd.C_drew ?_))); (case side6 => exact (Kd.R_reads' HOal.out).2.1); rintro e wbF ⟨v335, v338, rfl, ho0, ho1, hb⟩; refine ⟨_, rfl, ?_⟩; have n0_ := Zq167; have n1_ := Zq189; have n2_ := Ak (Kd.V_lower (Kd.V_mono (ok' := fun k_ => some k_ ≠ (.slice Aobj taj.length cobj : Value).ownBlock ∧ some k_ ≠ (.slice AobC taq.length cobC : Value).ownBlock ∧ k_ ≠ gbaa ∧ k_ ≠ gbag ∧ k_ ≠ gbab ∧ k_ ≠ gbae) ho0 (fun k_ hk_ => ⟨Or.elim hk_ (fun hs_ => Or.elim hs_ (fun hs_ => fun e_ => Nat.not_le.2 hs_ (Kd.R_base HOal.out k_ e_.symm)) (fun hs_ => fun e_ => Nat.not_le.2 hs_ (Kd.R_base HOal.out k_ e_.symm))) (fun hn_ => (Kd.fresh' (Kd.R_lt Zq18) k_ hn_)), Or.elim hk_ (fun hs_ => Or.elim hs_ (fun hs_ => fun e_ => Nat.not_le.2 hs_ (Kd.R_base HOaG.out k_ e_.symm)) (fun hs_ => fun e_ => Nat.not_le.2 hs_ (Kd.R_base HOaG.out k_ e_.symm))) (fun hn_ => (Kd.fresh' (Kd.R_lt Zq30) k_ hn_)), Or.elim hk_ (fun hs_ => Or.elim hs_ (fun hs_ => fun e_ => Nat.not_le.2 hs_ Zq36) (fun hs_ => fun e_ => Nat.not_le.2 hs_ Zq36)) (fun hn_ => Zq141), Or.elim hk_ (fun hs_ => Or.elim hs_ (fun hs_ => fun e_ => Nat.not_le.2 hs_ Zq37) (fun hs_ => fun e_ => Nat.not_le.2 hs_ Zq37)) (fun hn_ => Zq149), Or.elim hk_ (fun hs_ => Or.elim hs_ (fun hs_ => fun e_ => Nat.not_le.2 hs_ Zq38) (fun hs_ => fun e_ => Nat.not_le.2 hs_ Zq38)) (fun hn_ => (Kd.freshB (g := gbab) (o := .cells #[.slice Aobj taj.length cobj, .int .u32 taL] 32 (0, 0)) Zq14 k_ hn_)), Or.elim hk_ (fun hs_ => Or.elim hs_ (fun hs_ => fun e_ => Nat.not_le.2 hs_ Zq39) (fun hs_ => fun e_ => Nat.not_le.2 hs_ Zq39)) (fun hn_ => (Kd.freshB (g := gbae) (o := .cells #[.slice AobC taq.length cobC, .int .u32 taR] 32 (0, 0)) Zq24 k_ hn_))⟩)) (below_size Zq15)); have n3_ := Ak (Kd.V_lower (Kd.V_mono (ok' := fun k_ => some k_ ≠ (.slice Aobj taj.length cobj : Value).ownBlock ∧ some k_ ≠ (.slice AobC taq.length cobC : Value).ownBlock ∧ k_ ≠ gbaa ∧ k_ ≠ gbag ∧ k_ ≠ gbab ∧ k_ ≠ gbae) ho1 (fun k_ hk_ => ⟨Or.elim hk_ (fun hs_ => Or.elim hs_ (fun hs_ => fun e_ => Nat.not_le.2 hs_ (Kd.R_base HOal.out k_ e_.symm)) (fun hs_ => fun e_ => Nat.not_le.2 hs_ (Kd.R_base HOal.out k_ e_.symm))) (fun hn_ => (Kd.fresh' (Kd.R_lt Zq18) k_ hn_)), Or.elim hk_ (fun hs_ => Or.elim hs_ (fun hs_ => fun e_ => Nat.not_le.2 hs_ (Kd.R_base HOaG.out k_ e_.symm)) (fun hs_ => fun e_ => Nat.not_le.2 hs_ (Kd.R_base HOaG.out k_ e_.symm))) (fun hn_ => (Kd.fresh' (Kd.R_lt Zq30) k_ hn_)), Or.elim hk_ (fun hs_ => Or.elim hs_ (fun hs_ => fun e_ => Nat.not_le.2 hs_ Zq36) (fun hs_ => fun e_ => Nat.not_le.2 hs_ Zq36)) (fun hn_ => Zq141), Or.elim hk_ (fun hs_ => Or.elim hs_ (fun hs_ => fun e_ => Nat.not_le.2 hs_ Zq37) (fun hs_ => fun e_ => Nat.not_le.2 hs_ Zq37)) (fun hn_ => Zq149), Or.elim hk_ (fun hs_ => Or.elim hs_ (fun hs_ => fun e_ => Nat.not_le.2 hs_ Zq38) (fun hs_ => fun e_ => Nat.not_le.2 hs_ Zq38)) (fun hn_ => (Kd.freshB (g := gbab) (o := .cells #[.slice Aobj taj.length cobj, .int .u32 taL] 32 (0, 0)) Zq14 k_ hn_)), Or.elim hk_ (fun hs_ => Or.elim hs_ (fun hs_ => fun e_ => Nat.not_le.2 hs_ Zq39) (fun hs_ => fun e_ => Nat.not_le.2 hs_ Zq39)) (fun hn_ => (Kd.freshB (g := gbae) (o := .cells #[.slice AobC taq.length cobC, .int .u32 taR] 32 (0, 0)) Zq24 k_ hn_))⟩)) (below_size Zq15)); have n4_ := Zq130; have n5_ := Zq132; have n6_ := Zq202; have n7_ := Ak (blk_below (g := gbae) (o := .cells #[.slice AobC taq.length cobC, .int .u32 taR] 32 (0, 0)) Zq24 hb); have n8_ := Zq222; clear HOal HOaG BKaa BKag BKab BKae HB; have HOal := n0_; have HOaG := n1_; have HObw := n2_; have HObx := n3_; have BKaa := n4_; have BKag := n5_; have BKab := n6_; have BKae := n7_; have HB := n8_; clear n0_ n1_ n2_ n3_ n4_ n5_ n6_ n7_ n8_; (try clear hb); (try clear hb2); (try clear hk); (try clear hi); (try clear ho0); (try clear ho1)) | ((with_reducible refine gate_dst (N := 9) rfl ?_); refine box_event ?hg (N := 9) ?hd (cs := #[.string (⟨#[]⟩ : ByteArray), .slice none 0 0, .slice none 0 0]) (t := 27) ?hr ?_; (case hd | hg => rfl); (case hr => first | (go_simp; done) | (go_simp; rfl)); intro gbaf hg weX hbox hb; have n0_ := Zq167; have n1_ := Zq189; have n2_ := Zq215; have n3_ := Zq216; have n4_ := Zq130; have n5_ := Zq132; have n6_ := Zq202; have n7_ := Ak (blk_below (g := gbae) (o := .cells #[.slice AobC taq.length cobC, .int .u32 taR] 32 (0, 0)) Zq24 hb); have n8_ := Zq222; have n9_ := Ak (hbox); have n10_ := Zq164; have n11_ := Zq164; have n12_ := Zq296; have n13_ := Zq297; have n14_ := Zq298; have n15_ := Zq299; have n16_ := Ak ((by rw [hg]; exact Nat.ne_of_lt Zq210 : gbab ≠ gbaf)); have n17_ := Ak ((by rw [hg]; exact Nat.ne_of_gt Zq210 : gbaf ≠ gbab)); have n18_ := Ak ((by rw [hg]; exact Nat.ne_of_lt (blk_lt (g := gbae) (o := .cells #[.slice AobC taq.length cobC, .int .u32 taR] 32 (0, 0)) Zq24) : gbae ≠ gbaf)); have n19_ := Ak ((by rw [hg]; exact Nat.ne_of_gt (blk_lt (g := gbae) (o := .cells #[.slice AobC taq.length cobC, .int .u32 taR] 32 (0, 0)) Zq24) : gbaf ≠ gbae)); clear HOal HOaG HObw HObx BKaa BKag BKab BKae HB; have HOal := n0_; have HOaG := n1_; have HObw := n2_; have HObx := n3_; have BKaa := n4_; have BKag := n5_; have BKab := n6_; have BKae := n7_; have HB := n8_; have BKaf := n9_; have GWaf := n10_; have GEaf := n11_; have NB316_341 := n12_; have NB341_316 := n13_; have NB317_341 := n14_; have NB341_317 := n15_; have NB326_341 := n16_; have NB341_326 := n17_; have NB332_341 := n18_; have NB341_332 := n19_; clear n0_ n1_ n2_ n3_ n4_ n5_ n6_ n7_ n8_ n9_ n10_ n11_ n12_ n13_ n14_ n15_ n16_ n17_ n18_ n19_ hb hbox hg; have hnb152 := NB341_316.out; have hnc152 := NB316_341.out; have hnb153 := NB341_317.out; have hnc153 := NB317_341.out; have hnb154 := NB341_326.out; have hnc154 := NB326_341.out; have hnb155 := NB341_332.out; have hnc155 := NB332_341.out; have hcz156_0 : weX.cell? ⟨gbaf, 0, none⟩ = some (.string (⟨#[]⟩ : ByteArray)) := (blk_cell BKaf.out 0).trans rfl; have hcz156_1 : weX.cell? ⟨gbaf, 1, none⟩ = some (.slice none 0 0) := (blk_cell BKaf.out 1).trans rfl; have hcz156_2 : weX.cell? ⟨gbaf, 2, none⟩ = some (.slice none 0 0) := (blk_cell BKaf.out 2).trans rfl; have hfz156_0 := blk_frozen BKaf.out 0; have hfz156_1 := blk_frozen BKaf.out 1; have hfz156_2 := blk_frozen BKaf.out 2; obtain ⟨Aobf, cobf, eo157⟩ := Kd.V_slice HObw.out; subst eo157; obtain ⟨Aocr, cocr, eo158⟩ := Kd.V_slice HObx.out; subst eo158) | (go_at_call 13; (with_reducible refine (arboretref12_Controller.calls kj2 taT _ _ tbl _ _ tbu false _ ?side1 ?side2 ?side3 ?side4 A23.out).mono ?_); (case side1 => refine (Kd.V_reads' (e := 63) (base := w.heap.size) (ok := fun k_ => ((some k_ ≠ (.slice Aobj taj.length cobj : Value).ownBlock ∧ (some k_ ≠ (.slice AobC taq.length cobC : Value).ownBlock ∧ (k_ ≠ gbaa ∧ (k_ ≠ gbag ∧ (k_ ≠ gbab ∧ k_ ≠ gbae))))) ∧ k_ ≠ gbaf)) (n := tbl.length) (c := cobf) ?_).2.2; exact (by (with_reducible repeat (first | apply Kd.V_alloc | apply Kd.V_drewN | apply Kd.V_drew)); exact (Kd.V_mono (Kd.V_far (p := ⟨gbaf, 2, none⟩) (Kd.V_far (p := ⟨gbaf, 1, none⟩) (Kd.V_far (p := ⟨gbaf, 0, none⟩) (Kd.V_mono HObw.out (fun k_ hk => (⟨hk, hk.2⟩ : _ ∧ k_ ≠ gbaf))) (fun _ hk => hk.2) (.string taT)) (fun _ hk => hk.2) (.slice Aobf tbl.length cobf)) (fun _ hk => hk.2) (.slice Aocr tbu.length cocr)) (fun _ h_ => h_.1)))); (case side2 => exact (Kd.V_reads' HObw.out).2.1); (case side3 => refine (Kd.V_reads' (e := 27) (base := w.heap.size) (ok := fun k_ => ((some k_ ≠ (.slice Aobj taj.length cobj : Value).ownBlock ∧ (some k_ ≠ (.slice AobC taq.length cobC : Value).ownBlock ∧ (k_ ≠ gbaa ∧ (k_ ≠ gbag ∧ (k_ ≠ gbab ∧ k_ ≠ gbae))))) ∧ k_ ≠ gbaf)) (n := tbu.length) (c := cocr) ?_).2.2; exact (by (with_reducible repeat (first | apply Kd.V_alloc | apply Kd.V_drewN | apply Kd.V_drew)); exact (Kd.V_mono (Kd.V_far (p := ⟨gbaf, 2, none⟩) (Kd.V_far (p := ⟨gbaf, 1, none⟩) (Kd.V_far (p := ⟨gbaf, 0, none⟩) (Kd.V_mono HObx.out (fun k_ hk => (⟨hk, hk.2⟩ : _ ∧ k_ ≠ gbaf))) (fun _ hk => hk.2) (.string taT)) (fun _ hk => hk.2) (.slice Aobf tbl.length cobf)) (fun _ hk => hk.2) (.slice Aocr tbu.length cocr)) (fun _ h_ => h_.1)))); (case side4 => exact (Kd.V_reads' HObx.out).2.1); rintro e wej ⟨rfl, hb⟩; have n0_ := Ak (Kd.R_below (by (with_reducible repeat (first | apply Kd.R_alloc | apply Kd.R_drewN | apply Kd.R_drew)); exact (Kd.R_mono (Kd.R_far (p := ⟨gbaf, 2, none⟩) (Kd.R_far (p := ⟨gbaf, 1, none⟩) (Kd.R_far (p := ⟨gbaf, 0, none⟩) (Kd.R_types HOal.out BKaf.out Zq4) (fun _ hk => hk.2) (.string taT)) (fun _ hk => hk.2) (.slice Aobf tbl.length cobf)) (fun _ hk => hk.2) (.slice Aocr tbu.length cocr)) (fun _ h_ => h_.1))) hb); have n1_ := Ak (Kd.R_below (by (with_reducible repeat (first | apply Kd.R_alloc | apply Kd.R_drewN | apply Kd.R_drew)); exact (Kd.R_mono (Kd.R_far (p := ⟨gbaf, 2, none⟩) (Kd.R_far (p := ⟨gbaf, 1, none⟩) (Kd.R_far (p := ⟨gbaf, 0, none⟩) (Kd.R_types HOaG.out BKaf.out Zq4) (fun _ hk => hk.2) (.string taT)) (fun _ hk => hk.2) (.slice Aobf tbl.length cobf)) (fun _ hk => hk.2) (.slice Aocr tbu.length cocr)) (fun _ h_ => h_.1))) hb); have n2_ := Ak (Kd.V_below (by (with_reducible repeat (first | apply Kd.V_alloc | apply Kd.V_drewN | apply Kd.V_drew)); exact (Kd.V_mono (Kd.V_far (p := ⟨gbaf, 2, none⟩) (Kd.V_far (p := ⟨gbaf, 1, none⟩) (Kd.V_far (p := ⟨gbaf, 0, none⟩) (Kd.V_mono HObw.out (fun k_ hk => (⟨hk, hk.2⟩ : _ ∧ k_ ≠ gbaf))) (fun _ hk => hk.2) (.string taT)) (fun _ hk => hk.2) (.slice Aobf tbl.length cobf)) (fun _ hk => hk.2) (.slice Aocr tbu.length cocr)) (fun _ h_ => h_.1))) hb); have n3_ := Ak (Kd.V_below (by (with_reducible repeat (first | apply Kd.V_alloc | apply Kd.V_drewN | apply Kd.V_drew)); exact (Kd.V_mono (Kd.V_far (p := ⟨gbaf, 2, none⟩) (Kd.V_far (p := ⟨gbaf, 1, none⟩) (Kd.V_far (p := ⟨gbaf, 0, none⟩) (Kd.V_mono HObx.out (fun k_ hk => (⟨hk, hk.2⟩ : _ ∧ k_ ≠ gbaf))) (fun _ hk => hk.2) (.string taT)) (fun _ hk => hk.2) (.slice Aobf tbl.length cobf)) (fun _ hk => hk.2) (.slice Aocr tbu.length cocr)) (fun _ h_ => h_.1))) hb); have n4_ := Zq171; have n5_ := Zq205; have n6_ := Ak (blk_below (g := gbab) (o := .cells #[.slice Aobj taj.length cobj, .int .u32 taL] 32 (0, 0)) Zq117 hb); have n7_ := Ak (blk_below (g := gbae) (o := .cells #[.slice AobC taq.length cobC, .int .u32 taR] 32 (0, 0)) Zq118 hb); have n8_ := Ak (blk_below (g := gbaf) (o := .cells #[.string taT, .slice Aobf tbl.length cobf, .slice Aocr tbu.length cocr] 27 (0, 0)) (by (with_reducible repeat (first | refine blk_drewN ?_ _ | refine blk_drew ?_ | refine blk_alloc ?_ _)); refine blk_put (cs := #[.string taT, .slice Aobf tbl.length cobf, .slice none 0 0]) ?_ 2 _ rfl; (with_reducible repeat (first | refine blk_drewN ?_ _ | refine blk_drew ?_ | refine blk_alloc ?_ _)); refine blk_put (cs := #[.string taT, .slice none 0 0, .slice none 0 0]) ?_ 1 _ rfl; (with_reducible repeat (first | refine blk_drewN ?_ _ | refine blk_drew ?_ | refine blk_alloc ?_ _)); refine blk_put (cs := #[.string (⟨#[]⟩ : ByteArray), .slice none 0 0, .slice none 0 0]) ?_ 0 _ rfl; (with_reducible repeat (first | refine blk_drewN ?_ _ | refine blk_drew ?_ | refine blk_alloc ?_ _)); exact BKaf.out) hb); have n9_ := Ak (below_step Zq67 hb); clear HOal HOaG HObw HObx BKaa BKag BKab BKae BKaf HB; have HOal := n0_; have HOaG := n1_; have HObw := n2_; have HObx := n3_; have BKaa := n4_; have BKag := n5_; have BKab := n6_; have BKae := n7_; have BKaf := n8_; have HB := n9_; clear n0_ n1_ n2_ n3_ n4_ n5_ n6_ n7_ n8_ n9_; (try clear hb); (try clear hb2); (try clear hk); (try clear hi)))
       go_ret
       exact ⟨Zq13, Zq67⟩
     ·replace c22 := Bool.eq_false_iff.mpr c22; subst c22
      have H1 : (some false) = some r := by rw [if_neg (show ¬ (false = true) by decide)] at H; exact H
      clear H; have H := H1; clear H1; obtain rfl := Option.some.inj H; have hnb160 := NB316_317.out; have hnc160 := NB317_316.out; have hcz161_0 : wc.cell? ⟨gbaa, 0, none⟩ = some (.int .u32 a0_0) := (blk_cell BKaa.out 0).trans rfl; have hcz161_1 : wc.cell? ⟨gbaa, 1, none⟩ = some (.slice A0_1 l0_1.length c0_1) := (blk_cell BKaa.out 1).trans rfl; have hcz161_2 : wc.cell? ⟨gbaa, 2, none⟩ = some (.string a0_2) := (blk_cell BKaa.out 2).trans rfl; have hcz161_3 : wc.cell? ⟨gbaa, 3, none⟩ = some (.slice A0_3 l0_3.length c0_3) := (blk_cell BKaa.out 3).trans rfl; have hcz161_4 : wc.cell? ⟨gbaa, 4, none⟩ = some (.slice A0_4 l0_4.length c0_4) := (blk_cell BKaa.out 4).trans rfl; have hfz161_0 := blk_frozen BKaa.out 0; have hfz161_1 := blk_frozen BKaa.out 1; have hfz161_2 := blk_frozen BKaa.out 2; have hfz161_3 := blk_frozen BKaa.out 3; have hfz161_4 := blk_frozen BKaa.out 4; have hcz162_0 : wc.cell? ⟨gbag, 0, none⟩ = some (.slice A1_0 l1_0.length c1_0) := (blk_cell BKag.out 0).trans rfl; have hcz162_1 : wc.cell? ⟨gbag, 1, none⟩ = some (.int .u32 a1_1) := (blk_cell BKag.out 1).trans rfl; have hfz162_0 := blk_frozen BKag.out 0; have hfz162_1 := blk_frozen BKag.out 1
      go_wp2_with (first | ((with_reducible refine gate_callee (f := 11) rfl ?_); refine goesL_ (some 24) rfl rfl Try.func11 Zq2 rfl #[.agg #[.int .u32 a0_0, .slice A0_1 l0_1.length c0_1, .string a0_2, .slice A0_3 l0_3.length c0_3, .slice A0_4 l0_4.length c0_4], .agg #[.slice A1_0 l1_0.length c1_0, .int .u32 a1_1]] rfl Zq8 ?_; (with_reducible refine (irq_Through.calls kj2 a0_0 _ _ l0_1 a0_2 _ _ l0_3 _ _ l0_4 (fun k_ => k_ < w.heap.size) _ _ l1_0 a1_1 taj taL tcR _ ?side1 ?side2 ?side3 ?side4 ?side5 ?side6 ?side7 A18.out).mono ?_); (case side1 => repeat (first | exact Zq138 | (with_reducible refine Kd.C_alloc ?_ _) | (with_reducible refine Kd.C_drewN ?_ _) | (with_reducible refine Kd.C_drew ?_))); (case side2 => exact HC0_1.out); (case side3 => repeat (first | exact Zq153 | (with_reducible refine Kd.C_alloc ?_ _) | (with_reducible refine Kd.C_drewN ?_ _) | (with_reducible refine Kd.C_drew ?_))); (case side4 => exact HC0_3.out); (case side5 => repeat (first | exact Zq154 | (with_reducible refine Kd.C_alloc ?_ _) | (with_reducible refine Kd.C_drewN ?_ _) | (with_reducible refine Kd.C_drew ?_))); (case side6 => exact HC0_4.out); (case side7 => exact Kd.V_mk HC1_0.out (Kd.F_below (Kd.C_F (Kd.heap_int .i64) HR1_0.out) Zq16)); rintro e wad ⟨v322, rfl, ho0, hb⟩; refine ⟨_, rfl, ?_⟩; have n0_ := Zq179; have n1_ := Zq130; have n2_ := Zq132; have n3_ := Zq186; clear BKaa BKag HB; have HOal := n0_; have BKaa := n1_; have BKag := n2_; have HB := n3_; clear n0_ n1_ n2_ n3_; (try clear hb); (try clear hb2); (try clear hk); (try clear hi); (try clear ho0)) | ((with_reducible refine gate_dst (N := 5) rfl ?_); refine box_event ?hg (N := 5) ?hd (cs := #[.slice none 0 0, .int .u32 0]) (t := 32) ?hr ?_; (case hd | hg => rfl); (case hr => first | (go_simp; done) | (go_simp; rfl)); intro gbab hg wbO hbox hb; have n0_ := Zq167; have n1_ := Zq130; have n2_ := Zq132; have n3_ := Zq186; have n4_ := Ak (hbox); have n5_ := Zq156; have n6_ := Zq156; have n7_ := Zq288; have n8_ := Zq289; have n9_ := Zq290; have n10_ := Zq291; clear HOal BKaa BKag HB; have HOal := n0_; have BKaa := n1_; have BKag := n2_; have HB := n3_; have BKab := n4_; have GWab := n5_; have GEab := n6_; have NB316_326 := n7_; have NB326_316 := n8_; have NB317_326 := n9_; have NB326_317 := n10_; clear n0_ n1_ n2_ n3_ n4_ n5_ n6_ n7_ n8_ n9_ n10_ hb hbox hg; obtain ⟨Aoaz, coaz, eo165⟩ := Kd.R_slice HOal.out; subst eo165; have hnb166 := NB326_316.out; have hnc166 := NB316_326.out; have hnb167 := NB326_317.out; have hnc167 := NB317_326.out; have hcz168_0 : wbO.cell? ⟨gbab, 0, none⟩ = some (.slice none 0 0) := (blk_cell BKab.out 0).trans rfl; have hcz168_1 : wbO.cell? ⟨gbab, 1, none⟩ = some (.int .u32 0) := (blk_cell BKab.out 1).trans rfl; have hfz168_0 := blk_frozen BKab.out 0; have hfz168_1 := blk_frozen BKab.out 1) | ((with_reducible refine gate_store (t := 32) (p := 5) rfl ?_); refine store_event (t := 32) (p := 5) (v := ?vo_w169) (w1 := ((wbO.setCell ⟨gbab, 0, none⟩ (.slice Aoaz taj.length coaz)).setCell ⟨gbab, 1, none⟩ (.int .u32 taL))) ?hg ?ho ?hn ?hr ?_; (case ho => rfl); (case hg => rfl); (case hn => rfl); (case hr => first | (go_simp; done) | (go_simp; rfl)); intro wcT hw; have n0_ : Aside0 (Kd.R (Kd.int .i64) 3 wcT w.heap.size (fun _ => True) (.slice Aoaz taj.length coaz) taj) := ⟨(by rw [hw]; exact (by (with_reducible repeat (first | apply Kd.R_alloc | apply Kd.R_drewN | apply Kd.R_drew)); exact Kd.R_mono (Kd.R_far (p := ⟨gbab, 1, none⟩) (Kd.R_far (p := ⟨gbab, 0, none⟩) (Kd.R_types HOal.out BKab.out Zq4) (fun _ hk => hk.2) (.slice Aoaz taj.length coaz)) (fun _ hk => hk.2) (.int .u32 taL)) (fun _ hk => trivial)))⟩; have n1_ : Aside0 (wcT.heap[gbaa]? = some (.cells #[.int .u32 a0_0, .slice A0_1 l0_1.length c0_1, .string a0_2, .slice A0_3 l0_3.length c0_3, .slice A0_4 l0_4.length c0_4] 29 (0, 0))) := ⟨(by rw [hw]; exact Zq95)⟩; have n2_ : Aside0 (wcT.heap[gbag]? = some (.cells #[.slice A1_0 l1_0.length c1_0, .int .u32 a1_1] 32 (0, 0))) := ⟨(by rw [hw]; exact Zq96)⟩; have n3_ : Aside0 (wcT.heap[gbab]? = some (.cells #[.slice Aoaz taj.length coaz, .int .u32 taL] 32 (0, 0))) := ⟨(by rw [hw]; exact (by (with_reducible repeat (first | refine blk_drewN ?_ _ | refine blk_drew ?_ | refine blk_alloc ?_ _)); refine blk_put (cs := #[.slice Aoaz taj.length coaz, .int .u32 0]) ?_ 1 _ rfl; (with_reducible repeat (first | refine blk_drewN ?_ _ | refine blk_drew ?_ | refine blk_alloc ?_ _)); refine blk_put (cs := #[.slice none 0 0, .int .u32 0]) ?_ 0 _ rfl; (with_reducible repeat (first | refine blk_drewN ?_ _ | refine blk_drew ?_ | refine blk_alloc ?_ _)); exact BKab.out))⟩; have n4_ : Aside0 (Below w.heap.size w wcT) := ⟨(by rw [hw]; exact Zq22)⟩; clear hw HOal BKaa BKag BKab HB; have HOal := n0_; have BKaa := n1_; have BKag := n2_; have BKab := n3_; have HB := n4_; clear n0_ n1_ n2_ n3_ n4_; have hcz170_0 : wcT.cell? ⟨gbaa, 0, none⟩ = some (.int .u32 a0_0) := (blk_cell BKaa.out 0).trans rfl; have hcz170_1 : wcT.cell? ⟨gbaa, 1, none⟩ = some (.slice A0_1 l0_1.length c0_1) := (blk_cell BKaa.out 1).trans rfl; have hcz170_2 : wcT.cell? ⟨gbaa, 2, none⟩ = some (.string a0_2) := (blk_cell BKaa.out 2).trans rfl; have hcz170_3 : wcT.cell? ⟨gbaa, 3, none⟩ = some (.slice A0_3 l0_3.length c0_3) := (blk_cell BKaa.out 3).trans rfl; have hcz170_4 : wcT.cell? ⟨gbaa, 4, none⟩ = some (.slice A0_4 l0_4.length c0_4) := (blk_cell BKaa.out 4).trans rfl; have hfz170_0 := blk_frozen BKaa.out 0; have hfz170_1 := blk_frozen BKaa.out 1; have hfz170_2 := blk_frozen BKaa.out 2; have hfz170_3 := blk_frozen BKaa.out 3; have hfz170_4 := blk_frozen BKaa.out 4; have hcz171_0 : wcT.cell? ⟨gbab, 0, none⟩ = some (.slice Aoaz taj.length coaz) := (blk_cell BKab.out 0).trans rfl; have hcz171_1 : wcT.cell? ⟨gbab, 1, none⟩ = some (.int .u32 taL) := (blk_cell BKab.out 1).trans rfl; have hfz171_0 := blk_frozen BKab.out 0; have hfz171_1 := blk_frozen BKab.out 1) | ((with_reducible refine gate_callee (f := 11) rfl ?_); refine goesL_ (some 32) rfl rfl Try.func11 Zq2 rfl #[.agg #[.int .u32 a0_0, .slice A0_1 l0_1.length c0_1, .string a0_2, .slice A0_3 l0_3.length c0_3, .slice A0_4 l0_4.length c0_4], .agg #[.slice Aoaz taj.length coaz, .int .u32 taL]] rfl Zq8 ?_; (with_reducible refine (irq_Through.calls kj2 a0_0 _ _ l0_1 a0_2 _ _ l0_3 _ _ l0_4 (fun k_ => some k_ = (.slice Aoaz taj.length coaz : Value).ownBlock) _ _ taj taL taq taR tcx _ ?side1 ?side2 ?side3 ?side4 ?side5 ?side6 ?side7 A20.out).mono ?_); (case side1 => repeat (first | exact Zq138 | (with_reducible refine Kd.C_alloc ?_ _) | (with_reducible refine Kd.C_drewN ?_ _) | (with_reducible refine Kd.C_drew ?_))); (case side2 => exact HC0_1.out); (case side3 => repeat (first | exact Zq153 | (with_reducible refine Kd.C_alloc ?_ _) | (with_reducible refine Kd.C_drewN ?_ _) | (with_reducible refine Kd.C_drew ?_))); (case side4 => exact HC0_3.out); (case side5 => repeat (first | exact Zq154 | (with_reducible refine Kd.C_alloc ?_ _) | (with_reducible refine Kd.C_drewN ?_ _) | (with_reducible refine Kd.C_drew ?_))); (case side6 => exact HC0_4.out); (case side7 => exact Kd.R_V (Kd.R_tight rfl (Kd.R_types (Kd.R_types (Kd.R_types (HOal.out) BKaa.out Zq4) BKag.out Zq4) BKab.out Zq4))); rintro e wan ⟨v328, rfl, ho0, hb⟩; refine ⟨_, rfl, ?_⟩; have n0_ := Zq252; have n1_ := Zq176; have n2_ := Zq130; have n3_ := Zq132; have n4_ := Zq203; have n5_ := Zq221; clear HOal BKaa BKag BKab HB; have HOal := n0_; have HOaG := n1_; have BKaa := n2_; have BKag := n3_; have BKab := n4_; have HB := n5_; clear n0_ n1_ n2_ n3_ n4_ n5_; (try clear hb); (try clear hb2); (try clear hk); (try clear hi); (try clear ho0)) | ((with_reducible refine gate_dst (N := 7) rfl ?_); refine box_event ?hg (N := 7) ?hd (cs := #[.slice none 0 0, .int .u32 0]) (t := 32) ?hr ?_; (case hd | hg => rfl); (case hr => first | (go_simp; done) | (go_simp; rfl)); intro gbae hg wca hbox hb; have n0_ := Zq167; have n1_ := Zq189; have n2_ := Zq130; have n3_ := Zq132; have n4_ := Zq203; have n5_ := Zq221; have n6_ := Ak (hbox); have n7_ := Zq163; have n8_ := Zq163; have n9_ := Zq292; have n10_ := Zq293; have n11_ := Zq294; have n12_ := Zq295; have n13_ := Ak ((by rw [hg]; exact Nat.ne_of_lt Zq211 : gbab ≠ gbae)); have n14_ := Ak ((by rw [hg]; exact Nat.ne_of_gt Zq211 : gbae ≠ gbab)); clear HOal HOaG BKaa BKag BKab HB; have HOal := n0_; have HOaG := n1_; have BKaa := n2_; have BKag := n3_; have BKab := n4_; have HB := n5_; have BKae := n6_; have GWae := n7_; have GEae := n8_; have NB316_332 := n9_; have NB332_316 := n10_; have NB317_332 := n11_; have NB332_317 := n12_; have NB326_332 := n13_; have NB332_326 := n14_; clear n0_ n1_ n2_ n3_ n4_ n5_ n6_ n7_ n8_ n9_ n10_ n11_ n12_ n13_ n14_ hb hbox hg; obtain ⟨AoaI, coaI, eo174⟩ := Kd.R_slice HOaG.out; subst eo174; have hnb175 := NB332_316.out; have hnc175 := NB316_332.out; have hnb176 := NB332_317.out; have hnc176 := NB317_332.out; have hnb177 := NB332_326.out; have hnc177 := NB326_332.out; have hcz178_0 : wca.cell? ⟨gbae, 0, none⟩ = some (.slice none 0 0) := (blk_cell BKae.out 0).trans rfl; have hcz178_1 : wca.cell? ⟨gbae, 1, none⟩ = some (.int .u32 0) := (blk_cell BKae.out 1).trans rfl; have hfz178_0 := blk_frozen BKae.out 0; have hfz178_1 := blk_frozen BKae.out 1) | ((with_reducible refine gate_store (t := 32) (p := 7) rfl ?_); refine store_event (t := 32) (p := 7) (v := ?vo_w179) (w1 := ((wca.setCell ⟨gbae, 0, none⟩ (.slice AoaI taq.length coaI)).setCell ⟨gbae, 1, none⟩ (.int .u32 taR))) ?hg ?ho ?hn ?hr ?_; (case ho => rfl); (case hg => rfl); (case hn => rfl); (case hr => first | (go_simp; done) | (go_simp; rfl)); intro wcI hw; have n0_ : Aside0 (Kd.R (Kd.int .i64) 3 wcI w.heap.size (fun k_ => some k_ ≠ (.slice AoaI taq.length coaI : Value).ownBlock) (.slice Aoaz taj.length coaz) taj) := ⟨(by rw [hw]; exact (by (with_reducible repeat (first | apply Kd.R_alloc | apply Kd.R_drewN | apply Kd.R_drew)); exact Kd.R_mono (Kd.R_far (p := ⟨gbae, 1, none⟩) (Kd.R_far (p := ⟨gbae, 0, none⟩) (Kd.R_types HOal.out BKae.out Zq4) (fun _ hk => hk.2) (.slice AoaI taq.length coaI)) (fun _ hk => hk.2) (.int .u32 taR)) (fun _ hk => hk.1.2)))⟩; have n1_ : Aside0 (Kd.R (Kd.int .i64) 3 wcI w.heap.size (fun k_ => some k_ ≠ (.slice Aoaz taj.length coaz : Value).ownBlock) (.slice AoaI taq.length coaI) taq) := ⟨(by rw [hw]; exact (by (with_reducible repeat (first | apply Kd.R_alloc | apply Kd.R_drewN | apply Kd.R_drew)); exact Kd.R_mono (Kd.R_far (p := ⟨gbae, 1, none⟩) (Kd.R_far (p := ⟨gbae, 0, none⟩) (Kd.R_types HOaG.out BKae.out Zq4) (fun _ hk => hk.2) (.slice AoaI taq.length coaI)) (fun _ hk => hk.2) (.int .u32 taR)) (fun _ hk => hk.1.2)))⟩; have n2_ : Aside0 (wcI.heap[gbaa]? = some (.cells #[.int .u32 a0_0, .slice A0_1 l0_1.length c0_1, .string a0_2, .slice A0_3 l0_3.length c0_3, .slice A0_4 l0_4.length c0_4] 29 (0, 0))) := ⟨(by rw [hw]; exact Zq97)⟩; have n3_ : Aside0 (wcI.heap[gbag]? = some (.cells #[.slice A1_0 l1_0.length c1_0, .int .u32 a1_1] 32 (0, 0))) := ⟨(by rw [hw]; exact Zq98)⟩; have n4_ : Aside0 (wcI.heap[gbab]? = some (.cells #[.slice Aoaz taj.length coaz, .int .u32 taL] 32 (0, 0))) := ⟨(by rw [hw]; exact Zq99)⟩; have n5_ : Aside0 (wcI.heap[gbae]? = some (.cells #[.slice AoaI taq.length coaI, .int .u32 taR] 32 (0, 0))) := ⟨(by rw [hw]; exact (by (with_reducible repeat (first | refine blk_drewN ?_ _ | refine blk_drew ?_ | refine blk_alloc ?_ _)); refine blk_put (cs := #[.slice AoaI taq.length coaI, .int .u32 0]) ?_ 1 _ rfl; (with_reducible repeat (first | refine blk_drewN ?_ _ | refine blk_drew ?_ | refine blk_alloc ?_ _)); refine blk_put (cs := #[.slice none 0 0, .int .u32 0]) ?_ 0 _ rfl; (with_reducible repeat (first | refine blk_drewN ?_ _ | refine blk_drew ?_ | refine blk_alloc ?_ _)); exact BKae.out))⟩; have n6_ : Aside0 (Below w.heap.size w wcI) := ⟨(by rw [hw]; exact Zq15)⟩; clear hw HOal HOaG BKaa BKag BKab BKae HB; have HOal := n0_; have HOaG := n1_; have BKaa := n2_; have BKag := n3_; have BKab := n4_; have BKae := n5_; have HB := n6_; clear n0_ n1_ n2_ n3_ n4_ n5_ n6_; have hcz180_0 : wcI.cell? ⟨gbaa, 0, none⟩ = some (.int .u32 a0_0) := (blk_cell BKaa.out 0).trans rfl; have hcz180_1 : wcI.cell? ⟨gbaa, 1, none⟩ = some (.slice A0_1 l0_1.length c0_1) := (blk_cell BKaa.out 1).trans rfl; have hcz180_2 : wcI.cell? ⟨gbaa, 2, none⟩ = some (.string a0_2) := (blk_cell BKaa.out 2).trans rfl; have hcz180_3 : wcI.cell? ⟨gbaa, 3, none⟩ = some (.slice A0_3 l0_3.length c0_3) := (blk_cell BKaa.out 3).trans rfl; have hcz180_4 : wcI.cell? ⟨gbaa, 4, none⟩ = some (.slice A0_4 l0_4.length c0_4) := (blk_cell BKaa.out 4).trans rfl; have hfz180_0 := blk_frozen BKaa.out 0; have hfz180_1 := blk_frozen BKaa.out 1; have hfz180_2 := blk_frozen BKaa.out 2; have hfz180_3 := blk_frozen BKaa.out 3; have hfz180_4 := blk_frozen BKaa.out 4; have hcz181_0 : wcI.cell? ⟨gbab, 0, none⟩ = some (.slice Aoaz taj.length coaz) := (blk_cell BKab.out 0).trans rfl; have hcz181_1 : wcI.cell? ⟨gbab, 1, none⟩ = some (.int .u32 taL) := (blk_cell BKab.out 1).trans rfl; have hfz181_0 := blk_frozen BKab.out 0; have hfz181_1 := blk_frozen BKab.out 1) | ((with_reducible refine gate_callee (f := 12) rfl ?_); refine goesL_ (some 39) rfl rfl Try.func12 Zq2 rfl #[.agg #[.int .u32 a0_0, .slice A0_1 l0_1.length c0_1, .string a0_2, .slice A0_3 l0_3.length c0_3, .slice A0_4 l0_4.length c0_4], .slice Aoaz taj.length coaz] rfl Zq8 ?_; (with_reducible refine (arboretref06_Get.calls kj2 a0_0 _ _ l0_1 a0_2 (fun k_ => k_ < w.heap.size) _ _ l0_3 (fun k_ => k_ < w.heap.size) _ _ l0_4 _ _ taj taT tbl tbu false _ ?side1 ?side2 ?side3 ?side4 ?side5 ?side6 A21.out).mono ?_); (case side1 => repeat (first | exact Zq138 | (with_reducible refine Kd.C_alloc ?_ _) | (with_reducible refine Kd.C_drewN ?_ _) | (with_reducible refine Kd.C_drew ?_))); (case side2 => exact HC0_1.out); (case side3 => exact Kd.V_mk HC0_3.out (Kd.F_below (Kd.C_F k63_heap HR0_3.out) Zq15)); (case side4 => exact Kd.V_mk HC0_4.out (Kd.F_below (Kd.C_F k27_heap HR0_4.out) Zq15)); (case side5 => repeat (first | exact (Kd.R_reads' HOal.out).2.2 | (with_reducible refine Kd.C_alloc ?_ _) | (with_reducible refine Kd.C_drewN ?_ _) | (with_reducible refine Kd.C_drew ?_))); (case side6 => exact (Kd.R_reads' HOal.out).2.1); rintro e wac ⟨v335, v338, rfl, ho0, ho1, hb⟩; refine ⟨_, rfl, ?_⟩; have n0_ := Zq167; have n1_ := Zq189; have n2_ := Ak (Kd.V_lower (Kd.V_mono (ok' := fun k_ => some k_ ≠ (.slice Aoaz taj.length coaz : Value).ownBlock ∧ some k_ ≠ (.slice AoaI taq.length coaI : Value).ownBlock ∧ k_ ≠ gbaa ∧ k_ ≠ gbag ∧ k_ ≠ gbab ∧ k_ ≠ gbae) ho0 (fun k_ hk_ => ⟨Or.elim hk_ (fun hs_ => Or.elim hs_ (fun hs_ => fun e_ => Nat.not_le.2 hs_ (Kd.R_base HOal.out k_ e_.symm)) (fun hs_ => fun e_ => Nat.not_le.2 hs_ (Kd.R_base HOal.out k_ e_.symm))) (fun hn_ => (Kd.fresh' (Kd.R_lt Zq18) k_ hn_)), Or.elim hk_ (fun hs_ => Or.elim hs_ (fun hs_ => fun e_ => Nat.not_le.2 hs_ (Kd.R_base HOaG.out k_ e_.symm)) (fun hs_ => fun e_ => Nat.not_le.2 hs_ (Kd.R_base HOaG.out k_ e_.symm))) (fun hn_ => (Kd.fresh' (Kd.R_lt Zq30) k_ hn_)), Or.elim hk_ (fun hs_ => Or.elim hs_ (fun hs_ => fun e_ => Nat.not_le.2 hs_ Zq36) (fun hs_ => fun e_ => Nat.not_le.2 hs_ Zq36)) (fun hn_ => Zq141), Or.elim hk_ (fun hs_ => Or.elim hs_ (fun hs_ => fun e_ => Nat.not_le.2 hs_ Zq37) (fun hs_ => fun e_ => Nat.not_le.2 hs_ Zq37)) (fun hn_ => Zq149), Or.elim hk_ (fun hs_ => Or.elim hs_ (fun hs_ => fun e_ => Nat.not_le.2 hs_ Zq38) (fun hs_ => fun e_ => Nat.not_le.2 hs_ Zq38)) (fun hn_ => (Kd.freshB (g := gbab) (o := .cells #[.slice Aoaz taj.length coaz, .int .u32 taL] 32 (0, 0)) Zq14 k_ hn_)), Or.elim hk_ (fun hs_ => Or.elim hs_ (fun hs_ => fun e_ => Nat.not_le.2 hs_ Zq39) (fun hs_ => fun e_ => Nat.not_le.2 hs_ Zq39)) (fun hn_ => (Kd.freshB (g := gbae) (o := .cells #[.slice AoaI taq.length coaI, .int .u32 taR] 32 (0, 0)) Zq24 k_ hn_))⟩)) (below_size Zq15)); have n3_ := Ak (Kd.V_lower (Kd.V_mono (ok' := fun k_ => some k_ ≠ (.slice Aoaz taj.length coaz : Value).ownBlock ∧ some k_ ≠ (.slice AoaI taq.length coaI : Value).ownBlock ∧ k_ ≠ gbaa ∧ k_ ≠ gbag ∧ k_ ≠ gbab ∧ k_ ≠ gbae) ho1 (fun k_ hk_ => ⟨Or.elim hk_ (fun hs_ => Or.elim hs_ (fun hs_ => fun e_ => Nat.not_le.2 hs_ (Kd.R_base HOal.out k_ e_.symm)) (fun hs_ => fun e_ => Nat.not_le.2 hs_ (Kd.R_base HOal.out k_ e_.symm))) (fun hn_ => (Kd.fresh' (Kd.R_lt Zq18) k_ hn_)), Or.elim hk_ (fun hs_ => Or.elim hs_ (fun hs_ => fun e_ => Nat.not_le.2 hs_ (Kd.R_base HOaG.out k_ e_.symm)) (fun hs_ => fun e_ => Nat.not_le.2 hs_ (Kd.R_base HOaG.out k_ e_.symm))) (fun hn_ => (Kd.fresh' (Kd.R_lt Zq30) k_ hn_)), Or.elim hk_ (fun hs_ => Or.elim hs_ (fun hs_ => fun e_ => Nat.not_le.2 hs_ Zq36) (fun hs_ => fun e_ => Nat.not_le.2 hs_ Zq36)) (fun hn_ => Zq141), Or.elim hk_ (fun hs_ => Or.elim hs_ (fun hs_ => fun e_ => Nat.not_le.2 hs_ Zq37) (fun hs_ => fun e_ => Nat.not_le.2 hs_ Zq37)) (fun hn_ => Zq149), Or.elim hk_ (fun hs_ => Or.elim hs_ (fun hs_ => fun e_ => Nat.not_le.2 hs_ Zq38) (fun hs_ => fun e_ => Nat.not_le.2 hs_ Zq38)) (fun hn_ => (Kd.freshB (g := gbab) (o := .cells #[.slice Aoaz taj.length coaz, .int .u32 taL] 32 (0, 0)) Zq14 k_ hn_)), Or.elim hk_ (fun hs_ => Or.elim hs_ (fun hs_ => fun e_ => Nat.not_le.2 hs_ Zq39) (fun hs_ => fun e_ => Nat.not_le.2 hs_ Zq39)) (fun hn_ => (Kd.freshB (g := gbae) (o := .cells #[.slice AoaI taq.length coaI, .int .u32 taR] 32 (0, 0)) Zq24 k_ hn_))⟩)) (below_size Zq15)); have n4_ := Zq130; have n5_ := Zq132; have n6_ := Zq203; have n7_ := Ak (blk_below (g := gbae) (o := .cells #[.slice AoaI taq.length coaI, .int .u32 taR] 32 (0, 0)) Zq24 hb); have n8_ := Zq222; clear HOal HOaG BKaa BKag BKab BKae HB; have HOal := n0_; have HOaG := n1_; have HObw := n2_; have HObx := n3_; have BKaa := n4_; have BKag := n5_; have BKab := n6_; have BKae := n7_; have HB := n8_; clear n0_ n1_ n2_ n3_ n4_ n5_ n6_ n7_ n8_; (try clear hb); (try clear hb2); (try clear hk); (try clear hi); (try clear ho0); (try clear ho1)) | ((with_reducible refine gate_dst (N := 9) rfl ?_); refine box_event ?hg (N := 9) ?hd (cs := #[.string (⟨#[]⟩ : ByteArray), .slice none 0 0, .slice none 0 0]) (t := 27) ?hr ?_; (case hd | hg => rfl); (case hr => first | (go_simp; done) | (go_simp; rfl)); intro gbaf hg wbW hbox hb; have n0_ := Zq167; have n1_ := Zq189; have n2_ := Zq215; have n3_ := Zq216; have n4_ := Zq130; have n5_ := Zq132; have n6_ := Zq203; have n7_ := Ak (blk_below (g := gbae) (o := .cells #[.slice AoaI taq.length coaI, .int .u32 taR] 32 (0, 0)) Zq24 hb); have n8_ := Zq222; have n9_ := Ak (hbox); have n10_ := Zq164; have n11_ := Zq164; have n12_ := Zq296; have n13_ := Zq297; have n14_ := Zq298; have n15_ := Zq299; have n16_ := Ak ((by rw [hg]; exact Nat.ne_of_lt Zq211 : gbab ≠ gbaf)); have n17_ := Ak ((by rw [hg]; exact Nat.ne_of_gt Zq211 : gbaf ≠ gbab)); have n18_ := Ak ((by rw [hg]; exact Nat.ne_of_lt (blk_lt (g := gbae) (o := .cells #[.slice AoaI taq.length coaI, .int .u32 taR] 32 (0, 0)) Zq24) : gbae ≠ gbaf)); have n19_ := Ak ((by rw [hg]; exact Nat.ne_of_gt (blk_lt (g := gbae) (o := .cells #[.slice AoaI taq.length coaI, .int .u32 taR] 32 (0, 0)) Zq24) : gbaf ≠ gbae)); clear HOal HOaG HObw HObx BKaa BKag BKab BKae HB; have HOal := n0_; have HOaG := n1_; have HObw := n2_; have HObx := n3_; have BKaa := n4_; have BKag := n5_; have BKab := n6_; have BKae := n7_; have HB := n8_; have BKaf := n9_; have GWaf := n10_; have GEaf := n11_; have NB316_341 := n12_; have NB341_316 := n13_; have NB317_341 := n14_; have NB341_317 := n15_; have NB326_341 := n16_; have NB341_326 := n17_; have NB332_341 := n18_; have NB341_332 := n19_; clear n0_ n1_ n2_ n3_ n4_ n5_ n6_ n7_ n8_ n9_ n10_ n11_ n12_ n13_ n14_ n15_ n16_ n17_ n18_ n19_ hb hbox hg; have hnb184 := NB341_316.out; have hnc184 := NB316_341.out; have hnb185 := NB341_317.out; have hnc185 := NB317_341.out; have hnb186 := NB341_326.out; have hnc186 := NB326_341.out; have hnb187 := NB341_332.out; have hnc187 := NB332_341.out; have hcz188_0 : wbW.cell? ⟨gbaf, 0, none⟩ = some (.string (⟨#[]⟩ : ByteArray)) := (blk_cell BKaf.out 0).trans rfl; have hcz188_1 : wbW.cell? ⟨gbaf, 1, none⟩ = some (.slice none 0 0) := (blk_cell BKaf.out 1).trans rfl; have hcz188_2 : wbW.cell? ⟨gbaf, 2, none⟩ = some (.slice none 0 0) := (blk_cell BKaf.out 2).trans rfl; have hfz188_0 := blk_frozen BKaf.out 0; have hfz188_1 := blk_frozen BKaf.out 1; have hfz188_2 := blk_frozen BKaf.out 2; obtain ⟨Aoek, coek, eo189⟩ := Kd.V_slice HObw.out; subst eo189; obtain ⟨AodB, codB, eo190⟩ := Kd.V_slice HObx.out; subst eo190))
      go_ret
      exact ⟨Zq13, Zq67⟩
    ·rw [if_neg c19] at H; have c19b0 : (tcR == 0) = false := beq_eq_false_iff_ne.mpr c19; have c19b1 : (tcR != 0) = true := bne_iff_ne.mpr c19; obtain rfl := Option.some.inj H; have hnb191 := NB316_317.out; have hnc191 := NB317_316.out; have hcz192_0 : wc.cell? ⟨gbaa, 0, none⟩ = some (.int .u32 a0_0) := (blk_cell BKaa.out 0).trans rfl; have hcz192_1 : wc.cell? ⟨gbaa, 1, none⟩ = some (.slice A0_1 l0_1.length c0_1) := (blk_cell BKaa.out 1).trans rfl; have hcz192_2 : wc.cell? ⟨gbaa, 2, none⟩ = some (.string a0_2) := (blk_cell BKaa.out 2).trans rfl; have hcz192_3 : wc.cell? ⟨gbaa, 3, none⟩ = some (.slice A0_3 l0_3.length c0_3) := (blk_cell BKaa.out 3).trans rfl; have hcz192_4 : wc.cell? ⟨gbaa, 4, none⟩ = some (.slice A0_4 l0_4.length c0_4) := (blk_cell BKaa.out 4).trans rfl; have hfz192_0 := blk_frozen BKaa.out 0; have hfz192_1 := blk_frozen BKaa.out 1; have hfz192_2 := blk_frozen BKaa.out 2; have hfz192_3 := blk_frozen BKaa.out 3; have hfz192_4 := blk_frozen BKaa.out 4; have hcz193_0 : wc.cell? ⟨gbag, 0, none⟩ = some (.slice A1_0 l1_0.length c1_0) := (blk_cell BKag.out 0).trans rfl; have hcz193_1 : wc.cell? ⟨gbag, 1, none⟩ = some (.int .u32 a1_1) := (blk_cell BKag.out 1).trans rfl; have hfz193_0 := blk_frozen BKag.out 0; have hfz193_1 := blk_frozen BKag.out 1
     go_wp2_with (first | ((with_reducible refine gate_callee (f := 11) rfl ?_); refine goesL_ (some 24) rfl rfl Try.func11 Zq2 rfl #[.agg #[.int .u32 a0_0, .slice A0_1 l0_1.length c0_1, .string a0_2, .slice A0_3 l0_3.length c0_3, .slice A0_4 l0_4.length c0_4], .agg #[.slice A1_0 l1_0.length c1_0, .int .u32 a1_1]] rfl Zq8 ?_; (with_reducible refine (irq_Through.calls kj2 a0_0 _ _ l0_1 a0_2 _ _ l0_3 _ _ l0_4 (fun k_ => k_ < w.heap.size) _ _ l1_0 a1_1 taj taL tcR _ ?side1 ?side2 ?side3 ?side4 ?side5 ?side6 ?side7 A18.out).mono ?_); (case side1 => repeat (first | exact Zq138 | (with_reducible refine Kd.C_alloc ?_ _) | (with_reducible refine Kd.C_drewN ?_ _) | (with_reducible refine Kd.C_drew ?_))); (case side2 => exact HC0_1.out); (case side3 => repeat (first | exact Zq153 | (with_reducible refine Kd.C_alloc ?_ _) | (with_reducible refine Kd.C_drewN ?_ _) | (with_reducible refine Kd.C_drew ?_))); (case side4 => exact HC0_3.out); (case side5 => repeat (first | exact Zq154 | (with_reducible refine Kd.C_alloc ?_ _) | (with_reducible refine Kd.C_drewN ?_ _) | (with_reducible refine Kd.C_drew ?_))); (case side6 => exact HC0_4.out); (case side7 => exact Kd.V_mk HC1_0.out (Kd.F_below (Kd.C_F (Kd.heap_int .i64) HR1_0.out) Zq16)); rintro e waN ⟨v322, rfl, ho0, hb⟩; refine ⟨_, rfl, ?_⟩; have n0_ := Zq179; have n1_ := Zq130; have n2_ := Zq132; have n3_ := Zq186; clear BKaa BKag HB; have HOal := n0_; have BKaa := n1_; have BKag := n2_; have HB := n3_; clear n0_ n1_ n2_ n3_; (try clear hb); (try clear hb2); (try clear hk); (try clear hi); (try clear ho0)) | ((with_reducible refine gate_dst (N := 5) rfl ?_); refine box_event ?hg (N := 5) ?hd (cs := #[.slice none 0 0, .int .u32 0]) (t := 32) ?hr ?_; (case hd | hg => rfl); (case hr => first | (go_simp; done) | (go_simp; rfl)); intro gbab hg wdw hbox hb; have n0_ := Zq167; have n1_ := Zq130; have n2_ := Zq132; have n3_ := Zq186; have n4_ := Ak (hbox); have n5_ := Zq156; have n6_ := Zq156; have n7_ := Zq288; have n8_ := Zq289; have n9_ := Zq290; have n10_ := Zq291; clear HOal BKaa BKag HB; have HOal := n0_; have BKaa := n1_; have BKag := n2_; have HB := n3_; have BKab := n4_; have GWab := n5_; have GEab := n6_; have NB316_326 := n7_; have NB326_316 := n8_; have NB317_326 := n9_; have NB326_317 := n10_; clear n0_ n1_ n2_ n3_ n4_ n5_ n6_ n7_ n8_ n9_ n10_ hb hbox hg; obtain ⟨AodE, codE, eo196⟩ := Kd.R_slice HOal.out; subst eo196; have hnb197 := NB326_316.out; have hnc197 := NB316_326.out; have hnb198 := NB326_317.out; have hnc198 := NB317_326.out; have hcz199_0 : wdw.cell? ⟨gbab, 0, none⟩ = some (.slice none 0 0) := (blk_cell BKab.out 0).trans rfl; have hcz199_1 : wdw.cell? ⟨gbab, 1, none⟩ = some (.int .u32 0) := (blk_cell BKab.out 1).trans rfl; have hfz199_0 := blk_frozen BKab.out 0; have hfz199_1 := blk_frozen BKab.out 1))
     go_ret
     exact ⟨Zq13, Zq22⟩
end Go.Proofs.Ytkopmkinlanhoaa.PB

namespace Go.Proofs.Ytkopmkinlanhoaa.Rdr
open Go.RowKit Go.Proofs.YtkopmkinlanhoaaW.PrintWords Go.ChangeShapes Go.WideShapes
def sumB {α : Type} (B : α → Nat) : List α → Nat
 | [] => 0
 | x :: r => B x + sumB B r
theorem sumB_le {α : Type} {H : Type} {B : α → Nat} : ∀ {xs : List α} {ds : List (DataW H)}, xs.length = ds.length → (∀ (i : Nat) (x : α) (d : DataW H), xs[i]? = some x → ds[i]? = some d → B x ≤ Rows.uptoBulk d) → sumB B xs ≤ Rows.uptoBulkAll ds
 | [], [], _, _ => Nat.le_refl _
 | x :: xs, d :: ds, hl, h => by
  have h0 := h 0 x d rfl rfl; have h1 := sumB_le (xs := xs) (ds := ds) (by simpa using hl) (fun i a b ha hb => h (i + 1) a b (by simpa using ha) (by simpa using hb)); simp only [sumB, Rows.uptoBulkAll]
  omega
 | [], _ :: _, hl, _ => by simp at hl
 | _ :: _, [], hl, _ => by simp at hl
theorem sumB_mem {α : Type} {B : α → Nat} {x : α} : ∀ {xs : List α}, x ∈ xs → B x ≤ sumB B xs
 | a :: r, h => by
  simp only [sumB]
  rcases List.mem_cons.1 h with rfl | h
  ·omega
  ·have := sumB_mem (B := B) h
   omega
theorem sumB_len {α : Type} {B : α → Nat} (h1 : ∀ x, 1 ≤ B x) : ∀ xs : List α, xs.length ≤ sumB B xs
 | [] => Nat.le_refl _
 | x :: r => by
  have := h1 x; have := sumB_len h1 r; simp only [sumB, List.length_cons]
  omega
theorem sumB_one {α : Type} (xs : List α) : sumB (fun _ => 1) xs = xs.length := by
 induction xs with
 | nil => rfl
 | cons x r ih => simp only [sumB, ih, List.length_cons]; omega
theorem list_of {α : Type} {n : Nat} {Q : Nat → α → Prop} (h : ∀ i, i < n → ∃ x, Q i x) : ∃ xs : List α, xs.length = n ∧ ∀ (i : Nat) (x : α), xs[i]? = some x → Q i x := by
 induction n with
 | zero => exact ⟨[], rfl, fun i x hx => by simp at hx⟩
 | succ n ih =>
  obtain ⟨xs, hl, hq⟩ := ih (fun i hi => h i Zq1); obtain ⟨y, hy⟩ := h n Zq1; refine ⟨xs ++ [y], by simp [hl], fun i x hx => ?_⟩
  rcases Nat.lt_trichotomy i xs.length with hi | hi | hi
  ·rw [List.getElem?_append_left hi] at hx
   exact hq i x hx
  ·subst hi; rw [List.getElem?_append_right (Nat.le_refl _)] at hx
   simp at hx
   subst hx; rw [hl]
   exact hy
  ·rw [List.getElem?_append_right Zq1, List.getElem?_eq_none (by simp; omega)] at hx
   cases hx
def RdF (P : Program) (W : World) (n : Nat) {α : Type} (d : Kd α) (t : TypeId) (B : α → Nat) (G : α → Prop) : Prop :=
 ∀ (H : Type) (enc : TypeId × Value → H) (fuel : Nat), fuel ≤ n → ∀ (cs : List Value) (x : DataW H × List MemPlace),
  DataW.trod enc P W 0 (fun _ => true) true fuel t cs = some x → ∃ a, d.K W a cs ∧ B a ≤ Rows.uptoBulk x.1 ∧ G a
section
variable {P : Program} {W : World} {n : Nat}
def wfI (k : IntKind) (x : Int) : Prop := (Lit.int k x).wf = true
theorem rd_int {t : TypeId} {k : IntKind} (ht : P.underlying t = some (.int k)) : RdF P W n (Kd.int k) t (fun _ => 1) (wfI k) := by
 intro H enc fuel hf cs x h
 cases fuel with
 | zero => simp [DataW.trod] at h
 | succ m =>
  unfold DataW.trod at h; rw [ht] at h
  split at h <;> simp_all
  rename_i k' y z
  obtain ⟨⟨rfl, hw⟩, rfl⟩ := h
  exact ⟨y, rfl, by simp [Rows.uptoBulk], hw⟩
theorem rd_string {t : TypeId} (ht : P.underlying t = some .string) : RdF P W n Kd.string t (fun s => s.size + 1) (fun _ => True) := by
 intro H enc fuel hf cs x h
 cases fuel with
 | zero => simp [DataW.trod] at h
 | succ m =>
  unfold DataW.trod at h; rw [ht] at h
  split at h <;> simp_all
  obtain ⟨_, rfl⟩ := h; refine ⟨_, rfl, ?_⟩
  simp [Rows.uptoBulk]
theorem rd_slice {t e : TypeId} {α : Type} {d : Kd α} {B : α → Nat} {G : α → Prop} (ht : P.underlying t = some (.slice e)) (hc : P.cellsOf e = d.sz) (h : RdF P W n d e B G) : RdF P W (n + 1) (Kd.slice e d) t (fun xs => sumB B xs + 1) (fun xs => ∀ x ∈ xs, G x) := by
 intro H enc fuel hf cs x hx
 rcases DataW.trod_slice ht hx with ⟨rfl, rfl⟩ | ⟨a, len, cap, elems, rest, m, rfl, rfl, rfl, hb, hl, hm, hlen, hel, _⟩
 ·exact ⟨[], ⟨none, 0, rfl, Nat.le_refl _, rfl, Zq10, fun h0 => absurd h0 Zq10⟩, by simp [sumB, Rows.uptoBulk], fun x hx => by simp at hx⟩
 ·have each : ∀ i, i < len → ∃ y : α, ∃ c : List Value, ∃ z, elems[i]? = some z ∧ W.cells? 0 (a.add (i * P.cellsOf e)) (P.cellsOf e) = some c ∧ d.K W y c ∧ B y ≤ Rows.uptoBulk z.1 ∧ G y := by
   intro i hi; have h1 := hel i hi
   obtain ⟨z, hz⟩ : ∃ z, elems[i]? = some z := ⟨_, List.getElem?_eq_getElem Zq1⟩
   rw [hz] at h1; obtain ⟨c, hc1, hc2⟩ := Option.bind_eq_some_iff.1 h1; obtain ⟨y, k1, k2, k3⟩ := h H enc m Zq1 c z hc2
   exact ⟨y, c, z, hz, hc1, k1, k2, k3⟩
  obtain ⟨ys, hyl, hy⟩ := list_of each; refine ⟨ys, ⟨some a, cap, by rw [hyl], Zq1, ?_⟩, ?_, ?_⟩
  ·refine ⟨rfl, ?_, fun _ => ⟨a, rfl, fun j p hj => ?_⟩⟩
   ·have : cap ≤ 9223372036854775807 := by simpa [maxLen] using hm
    omega
   ·obtain ⟨c, z, _, hcs, hk, _, _⟩ := hy j p hj; obtain ⟨_, hcl, hcc⟩ := World.cells?_some hcs; refine ⟨c, by rw [hcl, hc], hk, fun i u hu => ?_⟩
    have hi : i < P.cellsOf e := by
     rw [← hcl]
     exact (List.getElem?_eq_some_iff.1 hu).1
    have h2 := hcc i hi; rw [hu] at h2; rw [← h2, hc]; rw [Deep.add_add]
  ·have : sumB B ys ≤ Rows.uptoBulkAll (elems.map (·.1)) := by
    refine sumB_le (by simp [hyl, hlen]) (fun i y dd hyi hdi => ?_); obtain ⟨c, z, hz, _, _, hB, _⟩ := hy i y hyi; rw [List.getElem?_map, hz] at hdi
    simp at hdi
    rw [← hdi]
    exact hB
   simp only [Rows.uptoBulk]
   omega
  ·intro y hyy; obtain ⟨i, hi, he⟩ := List.getElem_of_mem hyy; obtain ⟨_, _, _, _, _, _, hg⟩ := hy i y (by rw [List.getElem?_eq_getElem hi, he])
   exact hg
end
theorem len_2 {α : Type} {l : List α} (h : l.length = 2) : ∃ a0 a1, l = [a0, a1] := by
 match l, h with
 | [b0, b1], _ => exact ⟨b0, b1, rfl⟩
theorem len_3 {α : Type} {l : List α} (h : l.length = 3) : ∃ a0 a1 a2, l = [a0, a1, a2] := by
 match l, h with
 | [b0, b1, b2], _ => exact ⟨b0, b1, b2, rfl⟩
theorem len_5 {α : Type} {l : List α} (h : l.length = 5) : ∃ a0 a1 a2 a3 a4, l = [a0, a1, a2, a3, a4] := by
 match l, h with
 | [b0, b1, b2, b3, b4], _ => exact ⟨b0, b1, b2, b3, b4, rfl⟩
theorem bound {H : Type} {l : List (DataW H)} (hk : Rows.uptoSmall H l = true) : Rows.uptoBulkAll l ≤ 1048576 := of_decide_eq_true hk
end Go.Proofs.Ytkopmkinlanhoaa.Rdr

namespace Go.Proofs.Ytkopmkinlanhoaa.PB
open Go.RowKit Go.Proofs.Ytkopmkinlanhoaa.Rdr Go.Proofs.YtkopmkinlanhoaaW.PrintWords Go.Proofs.YtkopmkinlanhoaaW.PrintLast Go.Proofs.YtkopmkinlanhoaaW.PrintMore
def bulk82 (x : S82) : Nat := (fun _ => 1) x.f0 + (fun _ => 1) x.f1 + 1
def good82 (x : S82) : Prop := (wfI .u64) x.f0 ∧ (wfI .u64) x.f1
theorem rd82 (W : World) (n : Nat) : RdF Try.prog W n k82 82 bulk82 good82 := by
 intro H enc fuel hfu cs x h
 cases n with
 | zero =>
  obtain rfl : fuel = 0 := by omega
  simp [DataW.trod] at h
 | succ n =>
 obtain ⟨xs, m, rfl, rfl, hl, hlen, hf⟩ := DataW.trod_struct Try.underlying82 h; have hl' : cs.length = 2 := hl.trans Zq2; clear hl; obtain ⟨u0, u1, rfl⟩ := len_2 hl'
 have z47 : Try.prog.cellsOf 47 = 1 := by kernel_rfl
 obtain ⟨y0, hy0⟩ : ∃ y, xs[0]? = some y := ⟨_, List.getElem?_eq_getElem Zq50⟩
 have h0 := hf 0 _ rfl; rw [hy0] at h0; simp only [z47, List.getElem_toArray, List.getElem_cons_zero, List.getElem_cons_succ, List.drop_zero, List.drop_succ_cons, List.take_succ_cons, List.take_zero] at h0; have h0' : DataW.trod enc Try.prog W 0 (fun _ => true) true m 47 [u0] = some y0 := h0
 obtain ⟨y1, hy1⟩ : ∃ y, xs[1]? = some y := ⟨_, List.getElem?_eq_getElem Zq50⟩
 have h1 := hf 1 _ rfl; rw [hy1] at h1; simp only [z47, List.getElem_toArray, List.getElem_cons_zero, List.getElem_cons_succ, List.drop_zero, List.drop_succ_cons, List.take_succ_cons, List.take_zero] at h1; have h1' : DataW.trod enc Try.prog W 0 (fun _ => true) true m 47 [u1] = some y1 := h1; obtain ⟨a0, k0, b0, g0⟩ := (rd_int (n := (n + 1)) Try.underlying47) H enc m Zq1 _ _ h0'; obtain ⟨a1, k1, b1, g1⟩ := (rd_int (n := (n + 1)) Try.underlying47) H enc m Zq1 _ _ h1'
 have hall : xs = [y0, y1] := by
  obtain ⟨q0, q1, rfl⟩ := len_2 (l := xs) hlen; simp only [List.getElem?_cons_zero, List.getElem?_cons_succ, Option.some.injEq] at hy0 hy1; rw [hy0, hy1]
 subst hall; refine ⟨⟨a0, a1⟩, ⟨[u0], [u1], rfl, k0, k1⟩, ?_, ?_⟩
 ·(try dsimp only at b0); (try dsimp only at b1); simp only [bulk82, Rows.uptoBulk, Rows.uptoBulkAll, List.map_cons, List.map_nil]; omega
 ·exact ⟨g0, g1⟩
def bulk63 (x : S63) : Nat := (fun s => s.size + 1) x.f0 + (fun xs => sumB (fun _ => 1) xs + 1) x.f1 + 1
def good63 (x : S63) : Prop := (fun _ => True) x.f0 ∧ (fun xs => ∀ x ∈ xs, (wfI .u8) x) x.f1
theorem rd63 (W : World) (n : Nat) : RdF Try.prog W n k63 63 bulk63 good63 := by
 intro H enc fuel hfu cs x h
 cases n with
 | zero =>
  obtain rfl : fuel = 0 := by omega
  simp [DataW.trod] at h
 | succ n =>
 obtain ⟨xs, m, rfl, rfl, hl, hlen, hf⟩ := DataW.trod_struct Try.underlying63 h; have hl' : cs.length = 2 := hl.trans Zq2; clear hl; obtain ⟨u0, u1, rfl⟩ := len_2 hl'
 have z9 : Try.prog.cellsOf 9 = 1 := by kernel_rfl
 have z45 : Try.prog.cellsOf 45 = 1 := by kernel_rfl
 obtain ⟨y0, hy0⟩ : ∃ y, xs[0]? = some y := ⟨_, List.getElem?_eq_getElem Zq50⟩
 have h0 := hf 0 _ rfl; rw [hy0] at h0; simp only [z9, List.getElem_toArray, List.getElem_cons_zero, List.getElem_cons_succ, List.drop_zero, List.drop_succ_cons, List.take_succ_cons, List.take_zero] at h0; have h0' : DataW.trod enc Try.prog W 0 (fun _ => true) true m 9 [u0] = some y0 := h0
 obtain ⟨y1, hy1⟩ : ∃ y, xs[1]? = some y := ⟨_, List.getElem?_eq_getElem Zq50⟩
 have h1 := hf 1 _ rfl; rw [hy1] at h1; simp only [z45, List.getElem_toArray, List.getElem_cons_zero, List.getElem_cons_succ, List.drop_zero, List.drop_succ_cons, List.take_succ_cons, List.take_zero] at h1; have h1' : DataW.trod enc Try.prog W 0 (fun _ => true) true m 45 [u1] = some y1 := h1; obtain ⟨a0, k0, b0, g0⟩ := (rd_string (n := (n + 1)) Try.underlying9) H enc m Zq1 _ _ h0'; obtain ⟨a1, k1, b1, g1⟩ := (rd_slice (n := n) Try.underlying45 Zq2 (rd_int (n := n) Try.underlying5)) H enc m Zq1 _ _ h1'
 have hall : xs = [y0, y1] := by
  obtain ⟨q0, q1, rfl⟩ := len_2 (l := xs) hlen; simp only [List.getElem?_cons_zero, List.getElem?_cons_succ, Option.some.injEq] at hy0 hy1; rw [hy0, hy1]
 subst hall; refine ⟨⟨a0, a1⟩, ⟨[u0], [u1], rfl, k0, k1⟩, ?_, ?_⟩
 ·(try dsimp only at b0); (try dsimp only at b1); simp only [bulk63, Rows.uptoBulk, Rows.uptoBulkAll, List.map_cons, List.map_nil]; omega
 ·exact ⟨g0, g1⟩
mutual
def bulk27 : S27 → Nat
 | ⟨x0, x1, x2⟩ => (fun s => s.size + 1) x0 + (fun xs => sumB bulk63 xs + 1) x1 + (bulks27 x2 + 1) + 1
def bulks27 : List S27 → Nat
 | [] => 0
 | x :: r => bulk27 x + bulks27 r
end
theorem bulks27_eq (l : List S27) : bulks27 l = sumB bulk27 l := by
 induction l with
 | nil => rfl
 | cons x r ih => simp only [bulks27, sumB, ih]
mutual
def good27 : S27 → Prop
 | ⟨x0, x1, x2⟩ => (fun _ => True) x0 ∧ (fun xs => ∀ x ∈ xs, good63 x) x1 ∧ goods27 x2
def goods27 : List S27 → Prop
 | [] => True
 | x :: r => good27 x ∧ goods27 r
end
theorem goods27_iff (l : List S27) : goods27 l ↔ ∀ x ∈ l, good27 x := by
 induction l with
 | nil => simp [goods27]
 | cons x r ih => simp [goods27, ih]
theorem rd27 (W : World) (n : Nat) : RdF Try.prog W n k27 27 bulk27 good27 := by
 induction n with
 | zero =>
  intro H enc fuel hf cs x h
  obtain rfl : fuel = 0 := by omega
  simp [DataW.trod] at h
 | succ n ih =>
 intro H enc fuel hfu cs x h; obtain ⟨xs, m, rfl, rfl, hl, hlen, hf⟩ := DataW.trod_struct Try.underlying27 h; have hl' : cs.length = 3 := hl.trans Zq2; clear hl; obtain ⟨u0, u1, u2, rfl⟩ := len_3 hl'
 have z9 : Try.prog.cellsOf 9 = 1 := by kernel_rfl
 have z24 : Try.prog.cellsOf 24 = 1 := by kernel_rfl
 have z25 : Try.prog.cellsOf 25 = 1 := by kernel_rfl
 obtain ⟨y0, hy0⟩ : ∃ y, xs[0]? = some y := ⟨_, List.getElem?_eq_getElem Zq50⟩
 have h0 := hf 0 _ rfl; rw [hy0] at h0; simp only [z9, List.getElem_toArray, List.getElem_cons_zero, List.getElem_cons_succ, List.drop_zero, List.drop_succ_cons, List.take_succ_cons, List.take_zero] at h0; have h0' : DataW.trod enc Try.prog W 0 (fun _ => true) true m 9 [u0] = some y0 := h0
 obtain ⟨y1, hy1⟩ : ∃ y, xs[1]? = some y := ⟨_, List.getElem?_eq_getElem Zq50⟩
 have h1 := hf 1 _ rfl; rw [hy1] at h1; simp only [z24, List.getElem_toArray, List.getElem_cons_zero, List.getElem_cons_succ, List.drop_zero, List.drop_succ_cons, List.take_succ_cons, List.take_zero] at h1; have h1' : DataW.trod enc Try.prog W 0 (fun _ => true) true m 24 [u1] = some y1 := h1
 obtain ⟨y2, hy2⟩ : ∃ y, xs[2]? = some y := ⟨_, List.getElem?_eq_getElem Zq50⟩
 have h2 := hf 2 _ rfl; rw [hy2] at h2; simp only [z25, List.getElem_toArray, List.getElem_cons_zero, List.getElem_cons_succ, List.drop_zero, List.drop_succ_cons, List.take_succ_cons, List.take_zero] at h2; have h2' : DataW.trod enc Try.prog W 0 (fun _ => true) true m 25 [u2] = some y2 := h2; obtain ⟨a0, k0, b0, g0⟩ := (rd_string (n := (n + 1)) Try.underlying9) H enc m Zq1 _ _ h0'; obtain ⟨a1, k1, b1, g1⟩ := (rd_slice (n := n) Try.underlying24 Zq2 (rd63 W n)) H enc m Zq1 _ _ h1'; obtain ⟨a2, k2, b2, g2⟩ := (rd_slice (n := n) Try.underlying25 Zq2 ih) H enc m Zq1 _ _ h2'
 have hall : xs = [y0, y1, y2] := by
  obtain ⟨q0, q1, q2, rfl⟩ := len_3 (l := xs) hlen; simp only [List.getElem?_cons_zero, List.getElem?_cons_succ, Option.some.injEq] at hy0 hy1 hy2; rw [hy0, hy1, hy2]
 subst hall
 cases k0
 obtain ⟨A1, c1, e1, l1, r1⟩ := k1
 cases e1
 obtain ⟨A2, c2, e2, l2, r2⟩ := k2
 cases e2
 refine ⟨⟨a0, a1, a2⟩, k27_mk W ⟨a0, a1, a2⟩ l1 r1 l2 r2, ?_, ?_⟩
 ·(try dsimp only at b0); (try dsimp only at b1); (try dsimp only at b2); simp only [bulk27, bulks27_eq, Rows.uptoBulk, Rows.uptoBulkAll, List.map_cons, List.map_nil]; omega
 ·exact ⟨g0, g1, (goods27_iff _).mpr g2⟩
def bulk29 (x : S29) : Nat := (fun _ => 1) x.f0 + (fun xs => sumB bulk82 xs + 1) x.f1 + bulk27 x.f2 + 1
def good29 (x : S29) : Prop := (wfI .u32) x.f0 ∧ (fun xs => ∀ x ∈ xs, good82 x) x.f1 ∧ good27 x.f2
theorem rd29 (W : World) (n : Nat) : RdF Try.prog W n k29 29 bulk29 good29 := by
 intro H enc fuel hfu cs x h
 cases n with
 | zero =>
  obtain rfl : fuel = 0 := by omega
  simp [DataW.trod] at h
 | succ n =>
 obtain ⟨xs, m, rfl, rfl, hl, hlen, hf⟩ := DataW.trod_struct Try.underlying29 h; have hl' : cs.length = 5 := hl.trans Zq2; clear hl; obtain ⟨u0, u1, u2, u3, u4, rfl⟩ := len_5 hl'
 have z22 : Try.prog.cellsOf 22 = 1 := by kernel_rfl
 have z23 : Try.prog.cellsOf 23 = 1 := by kernel_rfl
 have z27 : Try.prog.cellsOf 27 = 3 := by kernel_rfl
 obtain ⟨y0, hy0⟩ : ∃ y, xs[0]? = some y := ⟨_, List.getElem?_eq_getElem Zq50⟩
 have h0 := hf 0 _ rfl; rw [hy0] at h0; simp only [z22, List.getElem_toArray, List.getElem_cons_zero, List.getElem_cons_succ, List.drop_zero, List.drop_succ_cons, List.take_succ_cons, List.take_zero] at h0; have h0' : DataW.trod enc Try.prog W 0 (fun _ => true) true m 22 [u0] = some y0 := h0
 obtain ⟨y1, hy1⟩ : ∃ y, xs[1]? = some y := ⟨_, List.getElem?_eq_getElem Zq50⟩
 have h1 := hf 1 _ rfl; rw [hy1] at h1; simp only [z23, List.getElem_toArray, List.getElem_cons_zero, List.getElem_cons_succ, List.drop_zero, List.drop_succ_cons, List.take_succ_cons, List.take_zero] at h1; have h1' : DataW.trod enc Try.prog W 0 (fun _ => true) true m 23 [u1] = some y1 := h1
 obtain ⟨y2, hy2⟩ : ∃ y, xs[2]? = some y := ⟨_, List.getElem?_eq_getElem Zq50⟩
 have h2 := hf 2 _ rfl; rw [hy2] at h2; simp only [z27, List.getElem_toArray, List.getElem_cons_zero, List.getElem_cons_succ, List.drop_zero, List.drop_succ_cons, List.take_succ_cons, List.take_zero] at h2; have h2' : DataW.trod enc Try.prog W 0 (fun _ => true) true m 27 [u2, u3, u4] = some y2 := h2; obtain ⟨a0, k0, b0, g0⟩ := (rd_int (n := (n + 1)) Try.underlying22) H enc m Zq1 _ _ h0'; obtain ⟨a1, k1, b1, g1⟩ := (rd_slice (n := n) Try.underlying23 Zq2 (rd82 W n)) H enc m Zq1 _ _ h1'; obtain ⟨a2, k2, b2, g2⟩ := (rd27 W (n + 1)) H enc m Zq1 _ _ h2'
 have hall : xs = [y0, y1, y2] := by
  obtain ⟨q0, q1, q2, rfl⟩ := len_3 (l := xs) hlen; simp only [List.getElem?_cons_zero, List.getElem?_cons_succ, Option.some.injEq] at hy0 hy1 hy2; rw [hy0, hy1, hy2]
 subst hall; refine ⟨⟨a0, a1, a2⟩, ⟨[u0], [u1, u2, u3, u4], rfl, k0, ⟨[u1], [u2, u3, u4], rfl, k1, k2⟩⟩, ?_, ?_⟩
 ·(try dsimp only at b0); (try dsimp only at b1); (try dsimp only at b2); simp only [bulk29, Rows.uptoBulk, Rows.uptoBulkAll, List.map_cons, List.map_nil]; omega
 ·exact ⟨g0, g1, g2⟩
def bulk32 (x : S32) : Nat := (fun xs => sumB (fun _ => 1) xs + 1) x.f0 + (fun _ => 1) x.f1 + 1
def good32 (x : S32) : Prop := (fun xs => ∀ x ∈ xs, (wfI .i64) x) x.f0 ∧ (wfI .u32) x.f1
theorem rd32 (W : World) (n : Nat) : RdF Try.prog W n k32 32 bulk32 good32 := by
 intro H enc fuel hfu cs x h
 cases n with
 | zero =>
  obtain rfl : fuel = 0 := by omega
  simp [DataW.trod] at h
 | succ n =>
 obtain ⟨xs, m, rfl, rfl, hl, hlen, hf⟩ := DataW.trod_struct Try.underlying32 h; have hl' : cs.length = 2 := hl.trans Zq2; clear hl; obtain ⟨u0, u1, rfl⟩ := len_2 hl'
 have z22 : Try.prog.cellsOf 22 = 1 := by kernel_rfl
 have z30 : Try.prog.cellsOf 30 = 1 := by kernel_rfl
 obtain ⟨y0, hy0⟩ : ∃ y, xs[0]? = some y := ⟨_, List.getElem?_eq_getElem Zq50⟩
 have h0 := hf 0 _ rfl; rw [hy0] at h0; simp only [z30, List.getElem_toArray, List.getElem_cons_zero, List.getElem_cons_succ, List.drop_zero, List.drop_succ_cons, List.take_succ_cons, List.take_zero] at h0; have h0' : DataW.trod enc Try.prog W 0 (fun _ => true) true m 30 [u0] = some y0 := h0
 obtain ⟨y1, hy1⟩ : ∃ y, xs[1]? = some y := ⟨_, List.getElem?_eq_getElem Zq50⟩
 have h1 := hf 1 _ rfl; rw [hy1] at h1; simp only [z22, List.getElem_toArray, List.getElem_cons_zero, List.getElem_cons_succ, List.drop_zero, List.drop_succ_cons, List.take_succ_cons, List.take_zero] at h1; have h1' : DataW.trod enc Try.prog W 0 (fun _ => true) true m 22 [u1] = some y1 := h1; obtain ⟨a0, k0, b0, g0⟩ := (rd_slice (n := n) Try.underlying30 Zq2 (rd_int (n := n) Try.underlying3)) H enc m Zq1 _ _ h0'; obtain ⟨a1, k1, b1, g1⟩ := (rd_int (n := (n + 1)) Try.underlying22) H enc m Zq1 _ _ h1'
 have hall : xs = [y0, y1] := by
  obtain ⟨q0, q1, rfl⟩ := len_2 (l := xs) hlen; simp only [List.getElem?_cons_zero, List.getElem?_cons_succ, Option.some.injEq] at hy0 hy1; rw [hy0, hy1]
 subst hall; refine ⟨⟨a0, a1⟩, ⟨[u0], [u1], rfl, k0, k1⟩, ?_, ?_⟩
 ·(try dsimp only at b0); (try dsimp only at b1); simp only [bulk32, Rows.uptoBulk, Rows.uptoBulkAll, List.map_cons, List.map_nil]; omega
 ·exact ⟨g0, g1⟩
def arboretlaw14_IrqSelf.Pure : Prop := ∀ (x0 : S29) (x1 : S32), bulk29 x0 + bulk32 x1 ≤ 1048576 → good29 x0 → good32 x1 → ∃ k, arboretlaw14_IrqSelf.f k x0.f0 x0.f1 x0.f2.f0 x0.f2.f1 x0.f2.f2 x1.f0 x1.f1 = some true
end Go.Proofs.Ytkopmkinlanhoaa.PB

namespace Go.Proofs.Ytkopmkinlanhoaa.Aid
open Go.RowKit Go.Proofs.YtkopmkinlanhoaaW.PrintWords
section
variable {α β : Type} {r : α}
theorem Ev.pos {c : Prop} [Decidable c] {A B : Nat → Option α} (h : c) (hA : Ev A r) : Ev (fun k => if c then A k else B k) r := by
 simp only [if_pos h]
 exact hA
theorem Ev.neg {c : Prop} [Decidable c] {A B : Nat → Option α} (h : ¬ c) (hB : Ev B r) : Ev (fun k => if c then A k else B k) r := by
 simp only [if_neg h]
 exact hB
theorem Ev.succ {g : Nat → Option α} (h : Ev (fun k => g (k + 1)) r) : Ev g r := Ev.step (fun _ => rfl) h
theorem Ev.some (r : α) : Ev (fun _ => some r) r := ⟨0, fun _ _ => rfl⟩
theorem Ev.fix {g : Option α} (h : g = Option.some r) : Ev (fun _ => g) r := ⟨0, fun _ _ => h⟩
theorem Ev.then {g : Nat → Option α} {f : Nat → α → Option β} {a : α} {b : β} (h : Ev g a) (k : Ev (fun n => f n a) b) : Ev (fun n => (g n).bind (f n)) b := Ev.bind h k
theorem Ev.out {g : Nat → Option α} (h : Ev g r) : ∃ k, g k = Option.some r := Ev.rounds h
end
theorem w64 {x : Int} (h0 : -9223372036854775808 ≤ x) (h1 : x ≤ 9223372036854775807) : wrap64 x = x := by unfold wrap64; omega
theorem wu64 {x : Int} (h0 : 0 ≤ x) (h1 : x < 18446744073709551616) : IntKind.u64.wrap x = x := by
 simp only [IntKind.wrap, IntKind.bits, IntKind.signed]
 simp
 omega
theorem or_low (i : Nat) (hi : i ≤ 64) {x y : Int} (hx : 0 ≤ x) (hxm : x % 2 ^ i = 0) (hx1 : x < 18446744073709551616) (hy : 0 ≤ y) (hy1 : y < 2 ^ i) : Go.bits .or .u64 x y = x + y := by
 have h2 : (2 : Int) ^ i ≤ 18446744073709551616 := by
  have h : (2 : Nat) ^ i ≤ 2 ^ 64 := Nat.pow_le_pow_right Zq4 hi; have h' : ((2 ^ i : Nat) : Int) ≤ ((2 ^ 64 : Nat) : Int) := Int.ofNat_le.mpr h
  simpa using h'
 exact Go.bits_join .u64 64 Zq4 (fun n h0 h1 => wu64 h0 (by simpa using h1)) i x y hx hxm (by simpa using hx1) hy hy1 (by simpa using Int.lt_of_lt_of_le hy1 h2)
theorem wf_u8 {x : Int} : (Lit.int .u8 x).wf = true ↔ 0 ≤ x ∧ x ≤ 255 := by simp [Lit.wf, IntKind.min, IntKind.max, IntKind.signed, IntKind.bits]
theorem getD_at {α : Type} {l : List α} {d : α} {i : Nat} (h : i < l.length) : l.getD i d = l[i] := by simp [List.getD_eq_getElem?_getD, List.getElem?_eq_getElem h]
theorem drop_at {α : Type} {l : List α} {d : α} {i : Nat} (h : i < l.length) : l.drop i = l.getD i d :: l.drop (i + 1) := by rw [getD_at h]; exact List.drop_eq_getElem_cons h
theorem loop {α β : Type} (l : List α) (F : List α → β) (g : Nat → Int → Option β)
  (hend : Ev (fun k => g k (l.length : Int)) (F []))
  (hstep : ∀ i : Nat, (h : i < l.length) → Ev (fun k => g k ((i + 1 : Nat) : Int)) (F (l.drop (i + 1))) → Ev (fun k => g k (i : Int)) (F (l[i] :: l.drop (i + 1)))) :
  ∀ i : Nat, i ≤ l.length → Ev (fun k => g k (i : Int)) (F (l.drop i)) := by
 have key : ∀ (d i : Nat), i + d = l.length → Ev (fun k => g k (i : Int)) (F (l.drop i)) := by
  intro d
  induction d with
  | zero =>
   intro i hi
   have : i = l.length := by omega
   subst this; rw [List.drop_length]
   exact hend
  | succ d ih =>
   intro i hi
   have h : i < l.length := by omega
   rw [List.drop_eq_getElem_cons h]
   exact hstep i h (ih (i + 1) Zq1)
 intro i hi
 exact key (l.length - i) i Zq1
end Go.Proofs.Ytkopmkinlanhoaa.Aid

namespace Go.Proofs.Ytkopmkinlanhoaa.PB
open Go.RowKit Go.Proofs.Ytkopmkinlanhoaa.Rdr Go.Proofs.Ytkopmkinlanhoaa.Aid Go.Proofs.YtkopmkinlanhoaaW.PrintWords
theorem rdN (xs : List S27) (i : Nat) : rd_T27 xs (i : Int) = xs.getD i z27 := by simp [rd_T27]
theorem rdP (xs : List S63) (i : Nat) : rd_T63 xs (i : Int) = xs.getD i z63 := by simp [rd_T63]
theorem getN {xs : List S27} {i : Nat} (h : i < xs.length) : xs.getD i z27 ∈ xs := by rw [getD_at h]; exact List.getElem_mem h
theorem getP {xs : List S63} {i : Nat} (h : i < xs.length) : xs.getD i z63 ∈ xs := by rw [getD_at h]; exact List.getElem_mem h
theorem bulk_pos (x : S27) : 1 ≤ bulk27 x := by
 cases x
 simp only [bulk27]
 omega
theorem bulk_eq (x : S27) : bulk27 x = x.f0.size + sumB bulk63 x.f1 + sumB bulk27 x.f2 + 4 := by
 cases x
 simp only [bulk27, bulks27_eq]
 omega
theorem bulk_kid {x k : S27} (h : k ∈ x.f2) : bulk27 k + 4 ≤ bulk27 x := by
 have := sumB_mem (B := bulk27) h; rw [bulk_eq x]
 omega
theorem bulk_prop {x : S27} {p : S63} (h : p ∈ x.f1) : bulk63 p + 4 ≤ bulk27 x := by
 have := sumB_mem (B := bulk63) h; rw [bulk_eq x]
 omega
theorem bulk_kids (x : S27) : x.f2.length + 4 ≤ bulk27 x := by
 have := sumB_len bulk_pos x.f2; rw [bulk_eq x]
 omega
theorem bulk_props (x : S27) : x.f1.length + 4 ≤ bulk27 x := by
 have := sumB_len (B := bulk63) (fun p => by unfold bulk63; omega) x.f1; rw [bulk_eq x]
 omega
theorem bulk_name (x : S27) : x.f0.size + 4 ≤ bulk27 x := by
 rw [bulk_eq x]
 omega
theorem bulk_value (p : S63) : p.f0.size + p.f1.length + 3 ≤ bulk63 p := by
 unfold bulk63; simp only [sumB_one]
 omega
theorem good_eq (x : S27) : good27 x ↔ (∀ p ∈ x.f1, good63 p) ∧ (∀ k ∈ x.f2, good27 k) := by
 cases x
 simp only [good27, goods27_iff]
 exact ⟨fun h => h.2, fun h => ⟨trivial, h⟩⟩
theorem good_value (p : S63) (h : good63 p) : ∀ b ∈ p.f1, 0 ≤ b ∧ b ≤ 255 := fun b hb => wf_u8.mp (h.2 b hb)
theorem step64 {i n : Nat} (h : i < n) (hn : n ≤ 1048576) : wrap64 ((i : Int) + 1) = ((i + 1 : Nat) : Int) := by unfold wrap64; omega
theorem size_ends (m : Nat) (hm : m ≤ 1048576) : ∀ x : S27, bulk27 x ≤ m → ∀ d : Int, ∃ v, Ev (fun k => arboretlaw03_size.f k x.f0 x.f1 x.f2 d) v := by
 induction m with
 | zero => intro x hx; have := bulk_pos x; omega
 | succ m ih =>
  intro x hx d; have hk := bulk_kids x; have hp := bulk_props x
  have kids : ∀ (j i : Nat) (acc : Int), i + j = x.f2.length → ∃ v, Ev (fun k => arboretlaw03_size.l1 k d acc (x.f2.length : Int) (i : Int) x.f0 x.f1 x.f2) v := by
   intro j
   induction j with
   | zero =>
    intro i acc hi; refine ⟨acc, Ev.succ ?_⟩; simp only [arboretlaw03_size.l1]
    exact Ev.neg Zq1 (Ev.some _)
   | succ j ihj =>
    intro i acc hi; have hw := step64 (i := i) (n := x.f2.length) Zq1 Zq1
    by_cases h1 : d > 20
    ·refine ⟨1048576, Ev.succ ?_⟩; simp only [arboretlaw03_size.l1]
     exact Ev.pos Zq1 (Ev.pos h1 (Ev.some _))
    by_cases h2 : acc > 100000
    ·refine ⟨1048576, Ev.succ ?_⟩; simp only [arboretlaw03_size.l1]
     exact Ev.pos Zq1 (Ev.neg h1 (Ev.pos h2 (Ev.some _)))
    have hmem := getN (xs := x.f2) (i := i) Zq1; obtain ⟨v, hv⟩ := ih Zq1 (x.f2.getD i z27) (by have := bulk_kid hmem; omega) (wrap64 (d + 1)); obtain ⟨r, hr⟩ := ihj (i + 1) (wrap64 (acc + v)) Zq1; refine ⟨r, Ev.succ ?_⟩; simp only [arboretlaw03_size.l1, rdN, hw]
    exact Ev.pos Zq1 (Ev.neg h1 (Ev.neg h2 (Ev.pos Zq1 (Ev.pos Zq1 (Ev.then hv hr)))))
  have props : ∀ (j i : Nat) (acc : Int), i + j = x.f1.length → ∃ v, Ev (fun k => arboretlaw03_size.l0 k d acc (x.f1.length : Int) (i : Int) x.f0 x.f1 x.f2) v := by
   intro j
   induction j with
   | zero =>
    intro i acc hi; obtain ⟨v, hv⟩ := kids x.f2.length 0 acc Zq1; refine ⟨v, Ev.succ ?_⟩; simp only [arboretlaw03_size.l0]
    exact Ev.neg Zq1 hv
   | succ j ihj =>
    intro i acc hi; have hw := step64 (i := i) (n := x.f1.length) Zq1 Zq1; obtain ⟨v, hv⟩ := ihj (i + 1) (wrap64 ((wrap64 ((wrap64 (acc + 1)) + (((rd_T63 x.f1 i).f0).size : Int))) + (((rd_T63 x.f1 i).f1).length : Int))) Zq1; refine ⟨v, Ev.succ ?_⟩; simp only [arboretlaw03_size.l0, hw]
    exact Ev.pos Zq1 (Ev.pos Zq1 (Ev.pos Zq1 hv))
  obtain ⟨v, hv⟩ := props x.f1.length 0 (wrap64 (1 + (x.f0.size : Int))) Zq1; refine ⟨v, Ev.succ ?_⟩; simp only [arboretlaw03_size.f]
  exact hv
theorem few_ends (b : Int) (l : List S82) (x : S27) (hx : bulk27 x ≤ 1048576) : ∃ v, Ev (fun k => arboretlaw03_Few.f k b l x.f0 x.f1 x.f2) v := by
 obtain ⟨v, hv⟩ := size_ends 1048576 Zq1 x hx 0
 by_cases h : v ≤ 100000
 ·refine ⟨decide ((l.length : Int) ≤ 200), ?_⟩; unfold arboretlaw03_Few.f
  exact Ev.then hv (Ev.pos h (Ev.some _))
 ·refine ⟨false, ?_⟩; unfold arboretlaw03_Few.f
  exact Ev.then hv (Ev.neg h (Ev.some _))
mutual
def placesN : S27 → List Int → List (List Int)
 | ⟨_, _, ks⟩, p => p :: placesL ks 0 p
def placesL : List S27 → Nat → List Int → List (List Int)
 | [], _, _ => []
 | x :: r, i, p => placesN x (p ++ [(i : Int)]) ++ placesL r (i + 1) p
end
theorem placesN_eq (x : S27) (p : List Int) : placesN x p = p :: placesL x.f2 0 p := by cases x; simp only [placesN]
theorem placesL_len (m : Nat) (ih : ∀ x : S27, bulk27 x ≤ m → ∀ p, (placesN x p).length ≤ bulk27 x) : ∀ (l : List S27) (i : Nat) (p : List Int), sumB bulk27 l ≤ m → (placesL l i p).length ≤ sumB bulk27 l
 | [], i, p, _ => by simp [placesL, sumB]
 | x :: r, i, p, h => by
  simp only [sumB] at h; have h1 := ih x Zq1 (p ++ [(i : Int)]); have h2 := placesL_len m ih r (i + 1) p Zq1; simp only [placesL, List.length_append, sumB]
  omega
theorem places_len (m : Nat) : ∀ (x : S27) (p : List Int), bulk27 x ≤ m → (placesN x p).length ≤ bulk27 x := by
 induction m with
 | zero => intro x p hx; have := bulk_pos x; omega
 | succ m ih =>
  intro x p hx; rw [placesN_eq, List.length_cons]; have hb := bulk_eq x; have := placesL_len m (fun x hx p => ih x p hx) x.f2 0 p Zq1
  omega
end Go.Proofs.Ytkopmkinlanhoaa.PB

namespace Go.Proofs.Ytkopmkinlanhoaa.PB
open Go.RowKit Go.Proofs.Ytkopmkinlanhoaa.Aid Go.Proofs.YtkopmkinlanhoaaW.PrintWords
def numOn (v : Int) (l : List Int) : Int := l.foldl (fun v c => v * 256 + c) v
def num (l : List Int) : Int := numOn 0 l
def isBytes (l : List Int) : Prop := ∀ b ∈ l, 0 ≤ b ∧ b ≤ 255
theorem isBytes.drop {l : List Int} (h : isBytes l) (i : Nat) : isBytes (l.drop i) := fun b hb => h b (List.mem_of_mem_drop hb)
theorem isBytes.take {l : List Int} (h : isBytes l) (i : Nat) : isBytes (l.take i) := fun b hb => h b (List.mem_of_mem_take hb)
theorem isBytes.tail {a : Int} {l : List Int} (h : isBytes (a :: l)) : isBytes l := fun b hb => h b (List.mem_cons_of_mem _ hb)
theorem isBytes.head {a : Int} {l : List Int} (h : isBytes (a :: l)) : 0 ≤ a ∧ a ≤ 255 := h a List.mem_cons_self
theorem pow_step (j : Nat) : (256 : Int) ^ (j + 1) = 256 ^ j * 256 := by rw [Int.pow_succ]
theorem pow_le (j : Nat) (h : j ≤ 8) : (256 : Int) ^ j ≤ 18446744073709551616 := by
 have h1 : (256 : Nat) ^ j ≤ 256 ^ 8 := Nat.pow_le_pow_right Zq4 h; have h2 : ((256 ^ j : Nat) : Int) ≤ ((256 ^ 8 : Nat) : Int) := Int.ofNat_le.mpr h1
 simpa using h2
theorem numOn_range : ∀ (l : List Int) (j : Nat) (v : Int), isBytes l → 0 ≤ v → v < 256 ^ j → 0 ≤ numOn v l ∧ numOn v l < 256 ^ (j + l.length)
 | [], j, v, _, h0, h1 => ⟨h0, h1⟩
 | a :: l, j, v, hb, h0, h1 => by
  obtain ⟨a0, a1⟩ := hb.head; have h := numOn_range l (j + 1) (v * 256 + a) hb.tail Zq1 (by rw [pow_step]; omega)
  have e : j + 1 + l.length = j + (a :: l).length := by rw [List.length_cons]; omega
  rw [e] at h
  exact h
theorem num_range (l : List Int) (hb : isBytes l) : 0 ≤ num l ∧ num l < 256 ^ l.length := by
 have h := numOn_range l 0 0 hb (Int.le_refl 0) Zq4
 simpa [num] using h
theorem numbOn (l : List Int) : ∀ (j : Nat) (v : Int), isBytes l → 0 ≤ v → v < 256 ^ j → j + l.length ≤ 8 → l.foldl (fun v c => Go.bits .or .u64 (IntKind.u64.wrap (v * 256)) (IntKind.u64.wrap c)) v = numOn v l := by
 induction l with
 | nil => intro j v _ _ _ _; rfl
 | cons a l ih =>
  intro j v hb h0 h1 hl; obtain ⟨a0, a1⟩ := hb.head; rw [List.length_cons] at hl; have hp := pow_le (j + 1) Zq1; rw [pow_step] at hp; have e1 : IntKind.u64.wrap (v * 256) = v * 256 := wu64 Zq1 Zq1; have e2 : IntKind.u64.wrap a = a := wu64 a0 Zq1; have e3 : Go.bits .or .u64 (v * 256) a = v * 256 + a := or_low 8 Zq4 Zq1 (by simp only [Int.reducePow]; omega) Zq1 a0 (by simp only [Int.reducePow]; omega); rw [List.foldl_cons, e1, e2, e3]
  exact ih (j + 1) (v * 256 + a) hb.tail Zq1 (by rw [pow_step]; omega) Zq1
theorem numb_eq (l : List Int) (hb : isBytes l) (hl : l.length ≤ 8) : numb l = num l := numbOn l 0 0 hb (Int.le_refl 0) Zq4 Zq1
theorem get_at (l : List Int) (i : Nat) (hb : isBytes l) (h : i + 4 ≤ l.length) : words_Get.f l (i : Int) = some (num ((l.drop i).take 4), true) := by
 unfold words_Get.f; rw [if_pos ⟨Int.natCast_nonneg i, Zq1⟩]
 have e : ((i : Int) + 4).toNat = i + 4 := by omega
 rw [e, Int.toNat_natCast, List.drop_take, show i + 4 - i = 4 by omega, numb_eq _ ((hb.drop i).take 4) (by rw [List.length_take]; omega)]; have hr := num_range ((l.drop i).take 4) ((hb.drop i).take 4)
 have hl : ((l.drop i).take 4).length = 4 := by rw [List.length_take, List.length_drop]; omega
 rw [hl] at hr; have : num ((l.drop i).take 4) % 4294967296 = num ((l.drop i).take 4) := Int.emod_eq_of_lt hr.1 (by simpa using hr.2); rw [this]
theorem get_no (l : List Int) (i : Nat) (h : l.length < i + 4) : words_Get.f l (i : Int) = some (0, false) := by
 unfold words_Get.f; rw [if_neg Zq1]
def cellsOf : List Int → List Int
 | a :: b :: c :: d :: r => num [a, b, c, d] :: cellsOf r
 | _ => []
theorem cells_step (l : List Int) (i : Nat) (h : i + 4 ≤ l.length) : cellsOf (l.drop i) = num ((l.drop i).take 4) :: cellsOf (l.drop (i + 4)) := by
 have h1 : ∃ a b c d r, l.drop i = a :: b :: c :: d :: r := by
  match hh : l.drop i, (by rw [List.length_drop]; omega : 4 ≤ (l.drop i).length) with
  | a :: b :: c :: d :: r, _ => exact ⟨a, b, c, d, r, rfl⟩
 obtain ⟨a, b, c, d, r, e⟩ := h1
 have h2 : l.drop (i + 4) = r := by rw [← List.drop_drop, e]; rfl
 rw [e, h2]
 rfl
theorem cells_length : ∀ (n : Nat) (l : List Int), l.length ≤ n → (cellsOf l).length = l.length / 4
 | 0, l, h => by
  obtain rfl : l = [] := List.eq_nil_of_length_eq_zero Zq1
  rfl
 | n + 1, l, h => by
  match l, h with
  | [], _ => simp [cellsOf]
  | [_], _ => simp [cellsOf]
  | [_, _], _ => simp [cellsOf]
  | [_, _, _], _ => simp [cellsOf]
  | a :: b :: c :: d :: r, h =>
   have := cells_length n r (by simp only [List.length_cons] at h; omega); simp only [cellsOf, List.length_cons, this]
   omega
theorem cells_len (l : List Int) : (cellsOf l).length = l.length / 4 := cells_length l.length l (Nat.le_refl _)
end Go.Proofs.Ytkopmkinlanhoaa.PB

namespace Go.Proofs.Ytkopmkinlanhoaa.PB
open Go.RowKit Go.Proofs.Ytkopmkinlanhoaa.Rdr Go.Proofs.Ytkopmkinlanhoaa.Aid Go.Proofs.YtkopmkinlanhoaaW.PrintWords
def ixP (s : List UInt8) : List S63 → Nat → Int
 | [], _ => -1
 | p :: r, i => if p.f0.toList = s then (i : Int) else ixP s r (i + 1)
def valP (s : List UInt8) : List S63 → Option (List Int)
 | [] => none
 | p :: r => if p.f0.toList = s then some p.f1 else valP s r
theorem valP_mem {s : List UInt8} {v : List Int} : ∀ {l : List S63}, valP s l = some v → ∃ p ∈ l, p.f1 = v
 | [], h => by simp [valP] at h
 | p :: r, h => by
  simp only [valP] at h
  by_cases c : p.f0.toList = s
  ·rw [if_pos c] at h
   exact ⟨p, List.mem_cons_self, Option.some.inj h⟩
  ·rw [if_neg c] at h; obtain ⟨q, hq, e⟩ := valP_mem h
   exact ⟨q, List.mem_cons_of_mem _ hq, e⟩
theorem ixP_val (s : List UInt8) : ∀ (l : List S63) (i : Nat), (valP s l = none ∧ ixP s l i = -1) ∨ ∃ j : Nat, j < l.length ∧ ixP s l i = ((i + j : Nat) : Int) ∧ valP s l = some (l.getD j z63).f1
 | [], i => .inl ⟨rfl, rfl⟩
 | p :: r, i => by
  simp only [valP, ixP]
  by_cases c : p.f0.toList = s
  ·rw [if_pos c, if_pos c]
   exact .inr ⟨0, Zq10, Zq10, Zq10⟩
  ·rw [if_neg c, if_neg c]
   rcases ixP_val s r (i + 1) with ⟨h1, h2⟩ | ⟨j, h1, h2, h3⟩
   ·exact .inl ⟨h1, h2⟩
   ·exact .inr ⟨j + 1, by simp; omega, by rw [h2]; congr 1; omega, by rw [h3]; simp⟩
theorem clone_bytes (v : List Int) (h : v.length ≤ 1048576) : bytes_Clone.f v = some v := by
 unfold bytes_Clone.f; rw [if_pos Zq1]
def findN (s : List UInt8) (l : List S63) : List Int × Bool := match valP s l with
 | some v => (v, true)
 | none => ([], false)
theorem find_ev (x : S27) (s : ByteArray) (hx : bulk27 x ≤ 1048576) : Ev (fun k => tree_Find.f k x.f0 x.f1 x.f2 s) (findN s.toList x.f1) := by
 have hp := bulk_props x
 have key : ∀ (j i : Nat), i + j = x.f1.length → Ev (fun k => tree_Find.l0 k s x.f1 (x.f1.length : Int) (i : Int)) (findN s.toList (x.f1.drop i)) := by
  intro j
  induction j with
  | zero =>
   intro i hi; rw [List.drop_of_length_le Zq1]; refine Ev.succ ?_; simp only [tree_Find.l0, findN, valP]
   exact Ev.neg Zq1 (Ev.some _)
  | succ j ih =>
   intro i hi; have hw := step64 (i := i) (n := x.f1.length) Zq1 Zq1; have hm := getP (xs := x.f1) (i := i) Zq1; have hb := bulk_prop hm; have hv := bulk_value (x.f1.getD i z63); have hc := clone_bytes (x.f1.getD i z63).f1 Zq1; rw [drop_at (l := x.f1) (d := z63) (i := i) Zq1]; refine Ev.succ ?_; simp only [tree_Find.l0, rdP, hw, hc, Option.bind_some]; refine Ev.pos Zq1 (Ev.pos (Int.natCast_nonneg i) (Ev.pos Zq1 ?_))
   by_cases c : (x.f1.getD i z63).f0.toList = s.toList
   ·have e : findN s.toList (x.f1.getD i z63 :: x.f1.drop (i + 1)) = ((x.f1.getD i z63).f1, true) := by simp only [findN, valP, if_pos c]
    rw [e]
    exact Ev.pos c (Ev.some _)
   ·have e : findN s.toList (x.f1.getD i z63 :: x.f1.drop (i + 1)) = findN s.toList (x.f1.drop (i + 1)) := by simp only [findN, valP, if_neg c]
    rw [e]
    exact Ev.neg c (ih (i + 1) Zq1)
 have := key x.f1.length 0 Zq1; unfold tree_Find.f
 simpa using this
theorem reffind_ev (x : S27) (s : ByteArray) (hx : bulk27 x ≤ 1048576) : Ev (fun k => arboretref01_Find.f k x.f0 x.f1 x.f2 s) (ixP s.toList x.f1 0) := by
 have hp := bulk_props x
 have key : ∀ (j i : Nat), i + j = x.f1.length → Ev (fun k => arboretref01_Find.l0 k s (x.f1.length : Int) (i : Int) x.f0 x.f1 x.f2) (ixP s.toList (x.f1.drop i) i) := by
  intro j
  induction j with
  | zero =>
   intro i hi; rw [List.drop_of_length_le Zq1]; refine Ev.succ ?_; simp only [arboretref01_Find.l0, ixP]
   exact Ev.neg Zq1 (Ev.some _)
  | succ j ih =>
   intro i hi; have hw := step64 (i := i) (n := x.f1.length) Zq1 Zq1; rw [drop_at (l := x.f1) (d := z63) (i := i) Zq1]; refine Ev.succ ?_; simp only [arboretref01_Find.l0, rdP, hw, ixP]; refine Ev.pos Zq1 (Ev.pos (Int.natCast_nonneg i) (Ev.pos Zq1 ?_))
   by_cases c : (x.f1.getD i z63).f0.toList = s.toList
   ·rw [if_pos c]
    exact Ev.pos c (Ev.some _)
   ·rw [if_neg c]
    exact Ev.neg c (ih (i + 1) Zq1)
 have := key x.f1.length 0 Zq1; unfold arboretref01_Find.f
 simpa using this
theorem number_loop (l : List Int) (hb : isBytes l) (hl : l.length ≤ 1048576) (i n : Nat) (hi : i + n ≤ l.length) (hn : n ≤ 8) : ∀ (j q : Nat) (v : Int), q + j = n → 0 ≤ v → v < 256 ^ q →
  Ev (fun k => arboretref01_Number.l0 k l (i : Int) v (n : Int) (q : Int)) (numOn v ((l.drop (i + q)).take j), true) := by
 intro j
 induction j with
 | zero =>
  intro q v hq h0 h1; refine Ev.succ ?_; simp only [arboretref01_Number.l0]
  exact Ev.neg Zq1 (Ev.some _)
 | succ j ih =>
  intro q v hq h0 h1
  have hw : wrap64 ((q : Int) + 1) = ((q + 1 : Nat) : Int) := by unfold wrap64; omega
  have hw2 : wrap64 ((i : Int) + (q : Int)) = ((i + q : Nat) : Int) := by unfold wrap64; omega
  have hrd : rd l ((i + q : Nat) : Int) = l[i + q]'Zq1 := by
   unfold rd; rw [Int.toNat_natCast, getD_at Zq1]
  obtain ⟨a0, a1⟩ := hb _ (List.getElem_mem (l := l) (n := i + q) Zq1); have hp := pow_le (q + 1) Zq1; rw [pow_step] at hp; generalize hx : l[i + q]'Zq1 = x at *; have e1 : IntKind.u64.wrap (v * 256) = v * 256 := wu64 Zq1 Zq1; have e2 : IntKind.u64.wrap x = x := wu64 a0 Zq1; have e3 : IntKind.u64.wrap (v * 256 + x) = v * 256 + x := wu64 Zq1 Zq1
  have hd : l.drop (i + q) = x :: l.drop (i + (q + 1)) := by rw [List.drop_eq_getElem_cons Zq1, hx]; rfl
  have h2 := ih (q + 1) (v * 256 + x) Zq1 Zq1 (by rw [pow_step]; omega); rw [hd]; refine Ev.succ ?_; simp only [arboretref01_Number.l0, hw, hw2, hrd, e1, e2, e3]
  exact Ev.pos Zq1 (Ev.pos (Int.natCast_nonneg _) (Ev.pos Zq1 h2))
theorem number_ev (l : List Int) (hb : isBytes l) (hl : l.length ≤ 1048576) (i n : Nat) (hi : i + n ≤ l.length) (hn : n ≤ 8) :
  Ev (fun k => arboretref01_Number.f k l (i : Int) (n : Int)) (num ((l.drop i).take n), true) := by
 have h := number_loop l hb hl i n hi hn n 0 0 Zq1 (Int.le_refl 0) Zq4; unfold arboretref01_Number.f
 have hw : wrap64 ((l.length : Int) - (i : Int)) = (l.length : Int) - (i : Int) := by unfold wrap64; omega
 refine Ev.neg Zq1 (Ev.neg Zq1 (Ev.succ ?_))
 have hd : decide (wrap64 ((l.length : Int) - (i : Int)) < (n : Int)) = false := by rw [hw]; exact decide_eq_false Zq1
 simp only [arboretref01_Number.j0, hd]
 exact Ev.neg Zq4 h
theorem refcells_loop (l : List Int) (hb : isBytes l) (hl : l.length ≤ 1048576) (h4 : l.length % 4 = 0) : ∀ (j i : Nat) (acc : List Int), i + 4 * j = l.length → acc.length + j ≤ 1048576 →
  Ev (fun k => arboretref06_Cells.l0 k l acc (i : Int)) (acc ++ cellsOf (l.drop i), 0) := by
 intro j
 induction j with
 | zero =>
  intro i acc hi ha; rw [List.drop_of_length_le Zq1]; simp only [cellsOf, List.append_nil]; refine Ev.succ ?_; simp only [arboretref06_Cells.l0]
  exact Ev.neg Zq1 (Ev.some _)
 | succ j ih =>
  intro i acc hi ha
  have hw : wrap64 ((i : Int) + 4) = ((i + 4 : Nat) : Int) := by unfold wrap64; omega
  have hn := number_ev l hb hl i 4 Zq1 Zq4; have hr := num_range ((l.drop i).take 4) ((hb.drop i).take 4)
  have hlen : ((l.drop i).take 4).length = 4 := by rw [List.length_take, List.length_drop]; omega
  rw [hlen] at hr; have hm : num ((l.drop i).take 4) % 4294967296 = num ((l.drop i).take 4) := Int.emod_eq_of_lt hr.1 (by simpa using hr.2); have h2 := ih (i + 4) (acc ++ [num ((l.drop i).take 4)]) Zq1 (by rw [List.length_append, List.length_singleton]; omega); rw [cells_step l i Zq1]; rw [List.append_assoc, List.singleton_append] at h2; refine Ev.succ ?_; simp only [arboretref06_Cells.l0, hw]; refine Ev.pos Zq1 (Ev.then hn (Ev.pos Zq1 ?_)); simp only [hm]
  exact h2
theorem refcells_ev (l : List Int) (hb : isBytes l) (hl : l.length ≤ 1048576) : Ev (fun k => arboretref06_Cells.f k l) (if l.length % 4 = 0 then (cellsOf l, 0) else ([], 4)) := by
 unfold arboretref06_Cells.f
 by_cases h : l.length % 4 = 0
 ·rw [if_pos h]; have := refcells_loop l hb hl h (l.length / 4) 0 [] Zq1 (by simp only [List.length_nil]; omega)
  exact Ev.pos Zq1 (by simpa using this)
 ·rw [if_neg h]
  exact Ev.neg Zq1 (Ev.some _)
def oneOf (s : List UInt8) (l : List S63) : Int × Bool × Int := match valP s l with
 | none => (0, false, 0)
 | some v => if v.length = 4 then (num v, true, 0) else (0, false, 4)
theorem one_ev (x : S27) (s : ByteArray) (hx : bulk27 x ≤ 1048576) (hg : good27 x) : Ev (fun k => prop_One.f k x.f0 x.f1 x.f2 s) (oneOf s.toList x.f1) := by
 unfold prop_One.f
 refine Ev.then (find_ev x s hx) ?_
 unfold findN oneOf
 cases hv : valP s.toList x.f1 with
 | none => exact Ev.neg Zq4 (Ev.some _)
 | some v =>
  obtain ⟨p, hp, rfl⟩ := valP_mem hv; have hby : isBytes p.f1 := good_value p (((good_eq x).mp hg).1 p hp); refine Ev.pos rfl ?_
  by_cases h4 : 4 ≤ p.f1.length
  ·have hget := get_at p.f1 0 hby Zq1; simp only [Int.natCast_zero, List.drop_zero] at hget; simp only [hget, Option.bind_some]; refine Ev.pos trivial ?_
   by_cases h : p.f1.length = 4
   ·rw [if_pos h, List.take_of_length_le Zq1]
    exact Ev.pos Zq1 (Ev.some _)
   ·rw [if_neg h]
    exact Ev.neg Zq1 (Ev.some _)
  ·have hget := get_no p.f1 0 Zq1; simp only [Int.natCast_zero] at hget
   have h5 : ¬ p.f1.length = 4 := by omega
   simp only [hget, Option.bind_some]; rw [if_neg h5]
   exact Ev.neg Zq4 (Ev.some _)
theorem refone_ev (x : S27) (s : ByteArray) (hx : bulk27 x ≤ 1048576) (hg : good27 x) : Ev (fun k => arboretref06_One.f k x.f0 x.f1 x.f2 s) (oneOf s.toList x.f1) := by
 unfold arboretref06_One.f
 refine Ev.then (reffind_ev x s hx) ?_
 unfold oneOf
 rcases ixP_val s.toList x.f1 0 with ⟨h1, h2⟩ | ⟨j, hj, h2, h3⟩
 ·rw [h1, h2]
  exact Ev.pos Zq4 (Ev.some _)
 ·rw [h2, h3, Nat.zero_add]; have hp := getP (xs := x.f1) (i := j) hj; have hby : isBytes (x.f1.getD j z63).f1 := good_value _ (((good_eq x).mp hg).1 _ hp); have hb := bulk_prop hp; have hv := bulk_value (x.f1.getD j z63); simp only [rdP]; refine Ev.neg Zq1 (Ev.pos (Int.natCast_nonneg j) (Ev.pos Zq1 (Ev.then (refcells_ev _ hby Zq1) ?_))); generalize hvv : (x.f1.getD j z63).f1 = v at *
  by_cases h : v.length % 4 = 0
  ·rw [if_pos h]; have hcl := cells_len v; refine Ev.pos rfl ?_
   by_cases h4 : v.length = 4
   ·rw [if_pos h4]
    match v, h4 with
    | [a, b, c, d], _ => exact Ev.pos Zq3 (Ev.pos (by simp [cellsOf]) (Ev.some _))
   ·rw [if_neg h4]
    exact Ev.neg (by simp only [hcl]; omega) (Ev.some _)
  ·have h5 : ¬ v.length = 4 := by omega
   rw [if_neg h, if_neg h5]
   exact Ev.neg Zq4 (Ev.some _)
def getS : S27 → List Int → Option S27
 | x, [] => some x
 | x, i :: r => if 0 ≤ i ∧ i < x.f2.length then getS (x.f2.getD i.toNat z27) r else none
theorem kid_mem {x : S27} {i : Int} (h : 0 ≤ i ∧ i < x.f2.length) : x.f2.getD i.toNat z27 ∈ x.f2 := getN Zq1
theorem getS_bulk : ∀ (l : List Int) (x n : S27), getS x l = some n → bulk27 n ≤ bulk27 x
 | [], x, n, h => by
  simp only [getS, Option.some.injEq] at h; rw [h]
  exact Nat.le_refl _
 | i :: r, x, n, h => by
  simp only [getS] at h
  by_cases c : 0 ≤ i ∧ i < x.f2.length
  ·rw [if_pos c] at h; have := getS_bulk r _ n h; have := bulk_kid (kid_mem c)
   omega
  ·rw [if_neg c] at h
   cases h
theorem getS_good : ∀ (l : List Int) (x n : S27), getS x l = some n → good27 x → good27 n
 | [], x, n, h, g => by
  simp only [getS, Option.some.injEq] at h; rw [← h]
  exact g
 | i :: r, x, n, h, g => by
  simp only [getS] at h
  by_cases c : 0 ≤ i ∧ i < x.f2.length
  ·rw [if_pos c] at h
   exact getS_good r _ n h (((good_eq x).mp g).2 _ (kid_mem c))
  ·rw [if_neg c] at h
   cases h
def rgetR : Option S27 → ByteArray × List S63 × List S27 × Bool
 | some n => (n.f0, n.f1, n.f2, true)
 | none => (⟨#[]⟩, [], [], false)
theorem rget_ev (b : Int) (res : List S82) (x : S27) (l : List Int) (hl : l.length ≤ 1048576) :
  Ev (fun k => arboretref06_Get.f k b res x.f0 x.f1 x.f2 l) (rgetR (getS x l)) := by
 have key : ∀ (j i : Nat) (y : S27), i + j = l.length → Ev (fun k => arboretref06_Get.l0 k l (l.length : Int) (i : Int) y.f0 y.f1 y.f2) (rgetR (getS y (l.drop i))) := by
  intro j
  induction j with
  | zero =>
   intro i y hi; rw [List.drop_of_length_le Zq1]; refine Ev.succ ?_; simp only [arboretref06_Get.l0, getS, rgetR]
   exact Ev.neg Zq1 (Ev.some _)
  | succ j ih =>
   intro i y hi; have hw := step64 (i := i) (n := l.length) Zq1 Zq1; have hd := drop_at (l := l) (d := 0) (i := i) Zq1
   have hr : rd l (i : Int) = l.getD i 0 := by unfold rd; rw [Int.toNat_natCast]
   rw [hd]; refine Ev.succ ?_; simp only [arboretref06_Get.l0, hr, hw, getS]; refine Ev.pos Zq1 (Ev.pos (Int.natCast_nonneg i) (Ev.pos Zq1 ?_)); generalize l.getD i 0 = q
   by_cases h0 : q < 0
   ·rw [if_neg Zq1]
    exact Ev.pos h0 (Ev.some _)
   by_cases h1 : q ≥ (y.f2.length : Int)
   ·rw [if_neg Zq1]
    exact Ev.neg h0 (Ev.pos h1 (Ev.some _))
   have c : 0 ≤ q ∧ q < (y.f2.length : Int) := ⟨Zq1, Zq1⟩
   rw [if_pos c]
   exact Ev.neg h0 (Ev.neg h1 (Ev.pos c.1 (Ev.pos c.2 (ih (i + 1) (y.f2.getD q.toNat z27) Zq1))))
 unfold arboretref06_Get.f; have := key l.length 0 x Zq1
 simpa using this
end Go.Proofs.Ytkopmkinlanhoaa.PB

namespace Go.Proofs.Ytkopmkinlanhoaa.PB
open Go.RowKit Go.Proofs.Ytkopmkinlanhoaa.Rdr Go.Proofs.Ytkopmkinlanhoaa.Aid Go.Proofs.YtkopmkinlanhoaaW.PrintWords Go.Proofs.YtkopmkinlanhoaaW.PrintMore
mutual
def nodesN : S27 → List Int → List (S27 × List Int)
 | ⟨a, b, ks⟩, p => (⟨a, b, ks⟩, p) :: nodesL ks 0 p
def nodesL : List S27 → Nat → List Int → List (S27 × List Int)
 | [], _, _ => []
 | x :: r, i, p => nodesN x (p ++ [(i : Int)]) ++ nodesL r (i + 1) p
end
theorem nodesN_eq (x : S27) (p : List Int) : nodesN x p = (x, p) :: nodesL x.f2 0 p := by cases x; simp only [nodesN]
theorem nodesL_places (m : Nat) (ih : ∀ x : S27, bulk27 x ≤ m → ∀ p, (nodesN x p).map (·.2) = placesN x p) : ∀ (l : List S27) (i : Nat) (p : List Int), sumB bulk27 l ≤ m → (nodesL l i p).map (·.2) = placesL l i p
 | [], i, p, _ => by simp [nodesL, placesL]
 | x :: r, i, p, h => by
  simp only [sumB] at h; simp only [nodesL, placesL, List.map_append]; rw [ih x Zq1, nodesL_places m ih r (i + 1) p Zq1]
theorem nodes_places (m : Nat) : ∀ (x : S27) (p : List Int), bulk27 x ≤ m → (nodesN x p).map (·.2) = placesN x p := by
 induction m with
 | zero => intro x p hx; have := bulk_pos x; omega
 | succ m ih =>
  intro x p hx; have hb := bulk_eq x; rw [nodesN_eq, placesN_eq, List.map_cons, nodesL_places m (fun x hx p => ih x p hx) x.f2 0 p Zq1]
theorem nodes_len (x : S27) (p : List Int) : (nodesN x p).length ≤ bulk27 x := by
 have h := nodes_places (bulk27 x) x p (Nat.le_refl _); have h2 := places_len (bulk27 x) x p (Nat.le_refl _); rw [← h, List.length_map] at h2
 exact h2
def ph : List UInt8 := (⟨#[112, 104, 97, 110, 100, 108, 101]⟩ : ByteArray).toList
def gather : List (S27 × List Int) → List (Int × List Int) → List (Int × List Int) × Int
 | [], acc => (acc, 0)
 | q :: r, acc => if (oneOf ph q.1.f1).2.2 = 0 then (if (oneOf ph q.1.f1).2.1 = true then (if (oneOf ph q.1.f1).1 = 0 ∨ (oneOf ph q.1.f1).1 = 4294967295 then ([], 11) else if (oneOf ph q.1.f1).1 ∈ acc.map (·.1) then ([], 9) else gather r (acc ++ [((oneOf ph q.1.f1).1, q.2)])) else gather r acc) else ([], (oneOf ph q.1.f1).2.2)
theorem gather_append : ∀ (a b : List (S27 × List Int)) (acc : List (Int × List Int)), gather (a ++ b) acc = if (gather a acc).2 = 0 then gather b (gather a acc).1 else ([], (gather a acc).2)
 | [], b, acc => by simp [gather]
 | q :: r, b, acc => by
  simp only [List.cons_append, gather]
  by_cases h1 : (oneOf ph q.1.f1).2.2 = 0
  ·simp only [if_pos h1]
   by_cases h2 : (oneOf ph q.1.f1).2.1 = true
   ·simp only [if_pos h2]
    by_cases h3 : (oneOf ph q.1.f1).1 = 0 ∨ (oneOf ph q.1.f1).1 = 4294967295
    ·simp only [if_pos h3]; rw [if_neg Zq4]
    ·simp only [if_neg h3]
     by_cases h4 : (oneOf ph q.1.f1).1 ∈ acc.map (·.1)
     ·simp only [if_pos h4]; rw [if_neg Zq4]
     ·simp only [if_neg h4]
      exact gather_append r b _
   ·simp only [if_neg h2]
    exact gather_append r b _
  ·simp only [if_neg h1]
theorem gather_len : ∀ (a : List (S27 × List Int)) (acc : List (Int × List Int)), (gather a acc).1.length ≤ acc.length + a.length
 | [], acc => by simp [gather]
 | q :: r, acc => by
  simp only [gather]
  split
  ·split
   ·split
    ·simp
    ·split
     ·simp
     ·have := gather_len r (acc ++ [((oneOf ph q.1.f1).1, q.2)]); simp only [List.length_append, List.length_cons, List.length_nil] at this ⊢
      omega
   ·have := gather_len r acc; simp only [List.length_cons]
    omega
  ·simp
theorem oneOf_range (s : List UInt8) (x : S27) (hx : bulk27 x ≤ 1048576) (hg : good27 x) (h : (oneOf s x.f1).2.1 = true) : 0 ≤ (oneOf s x.f1).1 ∧ (oneOf s x.f1).1 ≤ 4294967295 := by
 unfold oneOf at h ⊢
 cases hv : valP s x.f1 with
 | none => simp [hv] at h
 | some v =>
  obtain ⟨p, hp, rfl⟩ := valP_mem hv; have hby : isBytes p.f1 := good_value p (((good_eq x).mp hg).1 p hp); have hr := num_range p.f1 hby; simp only [hv] at h ⊢
  by_cases h4 : p.f1.length = 4
  ·rw [if_pos h4]; rw [h4] at hr
   have : (256 : Int) ^ 4 = 4294967296 := by decide
   simp only
   omega
  ·rw [if_neg h4] at h
   simp at h
def toC (p : Int × List Int) : S137 := ⟨p.1, p.2⟩
def resC (g : List (Int × List Int) × Int) : List S137 × Int := (g.1.map toC, g.2)
theorem toC_fst (acc : List (Int × List Int)) : (acc.map toC).map (·.f0) = acc.map (·.1) := by simp [toC]
theorem clone_ints (p : List Int) (h : p.length ≤ 4194304) : slices_Clone_int_int.f p = some p := by
 unfold slices_Clone_int_int.f; rw [if_pos Zq1]
theorem of_ev (m : Nat) (hm : m ≤ 1048576) : ∀ (x : S27) (p : List Int) (acc : List (Int × List Int)), bulk27 x ≤ m → good27 x → p.length + bulk27 x ≤ 2097152 → acc.length + bulk27 x ≤ 2097152 →
  Ev (fun k => handle_of.f k x.f0 x.f1 x.f2 p (acc.map toC)) (resC (gather (nodesN x p) acc)) := by
 induction m with
 | zero => intro x p acc hx; have := bulk_pos x; omega
 | succ m ih =>
  intro x p acc hx hg hp ha; have hk := bulk_kids x; have hbe := bulk_eq x; have hcl := clone_ints p Zq1
  have kids : ∀ (j i : Nat) (acc : List (Int × List Int)), i + j = x.f2.length → acc.length + sumB bulk27 (x.f2.drop i) ≤ 2097152 → Ev (fun k => handle_of.l0 k p (acc.map toC) x.f2 (x.f2.length : Int) (i : Int)) (resC (gather (nodesL (x.f2.drop i) i p) acc)) := by
   intro j
   induction j with
   | zero =>
    intro i acc hi ha; rw [List.drop_of_length_le Zq1]; refine Ev.succ ?_; simp only [handle_of.l0, nodesL, gather]
    exact Ev.neg Zq1 (Ev.some _)
   | succ j ihj =>
    intro i acc hi ha; have hw := step64 (i := i) (n := x.f2.length) Zq1 Zq1; have hmem := getN (xs := x.f2) (i := i) Zq1; have hbk := bulk_kid hmem; have hd := drop_at (l := x.f2) (d := z27) (i := i) Zq1; rw [hd] at ha ⊢; simp only [sumB] at ha; have h1 := ih Zq1 (x.f2.getD i z27) (p ++ [(i : Int)]) acc Zq1 (((good_eq x).mp hg).2 _ hmem) (by simp only [List.length_append, List.length_singleton]; omega) Zq1; have hl := nodes_len (x.f2.getD i z27) (p ++ [(i : Int)]); have hgl := gather_len (nodesN (x.f2.getD i z27) (p ++ [(i : Int)])) acc; simp only [nodesL]; rw [gather_append]; refine Ev.succ ?_; simp only [handle_of.l0, rdN, hw, hcl, Option.bind_some]; refine Ev.pos Zq1 (Ev.pos (Int.natCast_nonneg i) (Ev.pos Zq1 (Ev.pos Zq1 (Ev.then h1 ?_))))
    by_cases h0 : (gather (nodesN (x.f2.getD i z27) (p ++ [(i : Int)])) acc).2 = 0
    ·rw [if_pos h0]
     exact Ev.pos h0 (ihj (i + 1) _ Zq1 Zq1)
    ·rw [if_neg h0]
     exact Ev.neg h0 (Ev.some _)
  have hone := one_ev x ⟨#[112, 104, 97, 110, 100, 108, 101]⟩ Zq1 hg; have hr := oneOf_range ph x Zq1 hg
  have hsum : sumB bulk27 x.f2 + 1 ≤ bulk27 x := by omega
  rw [nodesN_eq]; refine Ev.succ ?_; simp only [handle_of.f, gather]
  refine Ev.then hone ?_
  rw [show (⟨#[112, 104, 97, 110, 100, 108, 101]⟩ : ByteArray).toList = ph from rfl]
  by_cases h1 : (oneOf ph x.f1).2.2 = 0
  ·rw [if_pos h1]; refine Ev.pos h1 ?_
   by_cases h2 : (oneOf ph x.f1).2.1 = true
   ·rw [if_pos h2]; have hr := hr h2; refine Ev.pos h2 ?_
    by_cases h3 : (oneOf ph x.f1).1 = 0 ∨ (oneOf ph x.f1).1 = 4294967295
    ·rw [if_pos h3]
     by_cases h4 : (oneOf ph x.f1).1 < 1
     ·exact Ev.pos h4 (Ev.some _)
     ·exact Ev.neg h4 (Ev.pos Zq1 (Ev.some _))
    ·rw [if_neg h3]; refine Ev.neg Zq1 (Ev.neg Zq1 ?_)
     by_cases h4 : (oneOf ph x.f1).1 ∈ acc.map (·.1)
     ·rw [if_pos h4]
      exact Ev.pos (by rw [toC_fst]; exact h4) (Ev.some _)
     ·rw [if_neg h4]; refine Ev.neg (by rw [toC_fst]; exact h4) ?_; simp only [hcl, Option.bind_some]; have := kids x.f2.length 0 (acc ++ [((oneOf ph x.f1).1, p)]) Zq1 (by simp only [List.length_append, List.length_singleton, List.drop_zero]; omega); rw [List.map_append] at this; simp only [List.drop_zero] at this
      exact Ev.pos (by rw [List.length_map]; omega) this
   ·rw [if_neg h2]; have := kids x.f2.length 0 acc Zq1 (by simp only [List.drop_zero]; omega); simp only [List.drop_zero] at this
    exact Ev.neg h2 this
  ·rw [if_neg h1]
   exact Ev.neg h1 (Ev.some _)
theorem index_ev (b : Int) (res : List S82) (x : S27) (hx : bulk27 x ≤ 1048576) (hg : good27 x) : Ev (fun k => handle_Index.f k b res x.f0 x.f1 x.f2) (resC (gather (nodesN x []) [])) := by
 unfold handle_Index.f
 exact of_ev 1048576 Zq1 x [] [] hx hg (by simp; omega) (by simp; omega)
theorem rdC (xs : List S137) (i : Nat) : rd_T137 xs (i : Int) = xs.getD i z137 := by simp [rd_T137]
theorem getD_map {α β : Type} (f : α → β) (l : List α) (d : α) (d' : β) (i : Nat) (h : i < l.length) : (l.map f).getD i d' = f (l.getD i d) := by
 rw [getD_at (by rw [List.length_map]; exact h), getD_at h, List.getElem_map]
def firstOf (h : Int) : List (Int × List Int) → Option (List Int)
 | [] => none
 | p :: r => if p.1 = h then some p.2 else firstOf h r
def findR (h : Int) (g : List (Int × List Int) × Int) : List Int × Int := if g.2 = 0 then (match firstOf h g.1 with | some p => (p, 0) | none => ([], 11)) else ([], g.2)
theorem g_len (x : S27) (hx : bulk27 x ≤ 1048576) : (gather (nodesN x []) []).1.length ≤ 1048576 := by
 have h1 := gather_len (nodesN x []) []; have h2 := nodes_len x []; simp only [List.length_nil] at h1
 omega
theorem hfind_ev (b : Int) (res : List S82) (x : S27) (hx : bulk27 x ≤ 1048576) (hg : good27 x) (h : Int) : Ev (fun k => handle_Find.f k b res x.f0 x.f1 x.f2 h) (findR h (gather (nodesN x []) [])) := by
 have hl := g_len x hx; unfold handle_Find.f findR
 refine Ev.then (index_ev b res x hx hg) ?_
 generalize gather (nodesN x []) [] = g at *; simp only [resC]
 by_cases h0 : g.2 = 0
 ·rw [if_pos h0]; refine Ev.pos h0 ?_
  have key : ∀ (j i : Nat), i + j = g.1.length → Ev (fun k => handle_Find.l0 k h (g.1.map toC) ((g.1.map toC).length : Int) (i : Int)) (match firstOf h (g.1.drop i) with | some p => (p, 0) | none => ([], 11)) := by
   intro j
   induction j with
   | zero =>
    intro i hi; rw [List.drop_of_length_le Zq1]; refine Ev.succ ?_; simp only [handle_Find.l0, firstOf]
    exact Ev.neg (by rw [List.length_map]; omega) (Ev.some _)
   | succ j ih =>
    intro i hi; have hw := step64 (i := i) (n := g.1.length) Zq1 hl; have hd := drop_at (l := g.1) (d := ((0 : Int), ([] : List Int))) (i := i) Zq1
    have hrd : rd_T137 (g.1.map toC) (i : Int) = toC (g.1.getD i (0, [])) := by rw [rdC, getD_map toC g.1 (0, []) _ i Zq1]
    rw [hd]; refine Ev.succ ?_; simp only [handle_Find.l0, hrd, hw, firstOf]; refine Ev.pos (by rw [List.length_map]; omega) (Ev.pos (Int.natCast_nonneg i) (Ev.pos (by rw [List.length_map]; omega) ?_))
    by_cases c : (g.1.getD i (0, [])).1 = h
    ·rw [if_pos c]
     exact Ev.pos c (Ev.some _)
    ·rw [if_neg c]
     exact Ev.neg c (ih (i + 1) Zq1)
  have := key g.1.length 0 Zq1
  simpa using this
 ·rw [if_neg h0]
  exact Ev.neg h0 (Ev.some _)
end Go.Proofs.Ytkopmkinlanhoaa.PB

namespace Go.Proofs.Ytkopmkinlanhoaa.PB
open Go.RowKit Go.Proofs.Ytkopmkinlanhoaa.Rdr Go.Proofs.Ytkopmkinlanhoaa.Aid Go.Proofs.YtkopmkinlanhoaaW.PrintWords
theorem etaN (x : S27) : (⟨x.f0, x.f1, x.f2⟩ : S27) = x := by cases x; rfl
theorem clone_ends (m : Nat) (hm : m ≤ 1048576) : ∀ x : S27, bulk27 x ≤ m → Ev (fun k => tree_CloneNode.f k x.f0 x.f1 x.f2) (x.f0, x.f1, x.f2) := by
 induction m with
 | zero => intro x hx; have := bulk_pos x; omega
 | succ m ih =>
  intro x hx; have hk := bulk_kids x; have hp := bulk_props x
  have kids : ∀ (j i : Nat) (acc : List S27), i + j = x.f2.length → acc = x.f2.take i → Ev (fun k => tree_CloneNode.l1 k x.f2 (x.f2.length : Int) (i : Int) x.f0 x.f1 acc) (x.f0, x.f1, x.f2) := by
   intro j
   induction j with
   | zero =>
    intro i acc hi ha
    have e : acc = x.f2 := by rw [ha, List.take_of_length_le Zq1]
    rw [e]; refine Ev.succ ?_; simp only [tree_CloneNode.l1]
    exact Ev.neg Zq1 (Ev.some _)
   | succ j ihj =>
    intro i acc hi ha; have hw := step64 (i := i) (n := x.f2.length) Zq1 Zq1; have hmem := getN (xs := x.f2) (i := i) Zq1; have hc := ih Zq1 (x.f2.getD i z27) (by have := bulk_kid hmem; omega)
    have hlen : acc.length ≤ 1048576 := by rw [ha, List.length_take]; omega
    have h := ihj (i + 1) (acc ++ [⟨(x.f2.getD i z27).f0, (x.f2.getD i z27).f1, (x.f2.getD i z27).f2⟩]) Zq1 (by rw [etaN, ha, getD_at (by omega : i < x.f2.length), List.take_append_getElem (by omega : i < x.f2.length)]); refine Ev.succ ?_; simp only [tree_CloneNode.l1, rdN, hw]
    exact Ev.pos Zq1 (Ev.pos (Int.natCast_nonneg i) (Ev.pos Zq1 (Ev.then hc (Ev.pos Zq1 h))))
  have props : ∀ (j i : Nat) (acc : List S63), i + j = x.f1.length → acc = x.f1.take i → Ev (fun k => tree_CloneNode.l0 k x.f1 (x.f1.length : Int) (i : Int) x.f0 x.f1 x.f2 x.f0 acc) (x.f0, x.f1, x.f2) := by
   intro j
   induction j with
   | zero =>
    intro i acc hi ha
    have e : acc = x.f1 := by rw [ha, List.take_of_length_le Zq1]
    rw [e]; refine Ev.succ ?_; simp only [tree_CloneNode.l0]
    exact Ev.neg Zq1 (kids x.f2.length 0 [] Zq1 rfl)
   | succ j ihj =>
    intro i acc hi ha; have hw := step64 (i := i) (n := x.f1.length) Zq1 Zq1; have hmem := getP (xs := x.f1) (i := i) Zq1; have hb := bulk_prop hmem; have hv := bulk_value (x.f1.getD i z63); have hc := clone_bytes (x.f1.getD i z63).f1 Zq1
    have hlen : acc.length ≤ 1048576 := by rw [ha, List.length_take]; omega
    have h := ihj (i + 1) (acc ++ [x.f1.getD i z63]) Zq1 (by rw [ha, getD_at (by omega : i < x.f1.length), List.take_append_getElem (by omega : i < x.f1.length)]); refine Ev.succ ?_; simp only [tree_CloneNode.l0, rdP, hw, hc, Option.bind_some]
    exact Ev.pos Zq1 (Ev.pos (Int.natCast_nonneg i) (Ev.pos Zq1 (Ev.pos Zq1 h)))
  refine Ev.succ ?_; simp only [tree_CloneNode.f]
  exact props x.f1.length 0 [] Zq1 rfl
def pgetR : Option S27 → ByteArray × List S63 × List S27 × Int
 | some n => (n.f0, n.f1, n.f2, 0)
 | none => (⟨#[]⟩, [], [], 8)
theorem pget_ev (b : Int) (res : List S82) (x : S27) (l : List Int) (hx : bulk27 x ≤ 1048576) (hl : l.length ≤ 16) :
  Ev (fun k => path_Get.f k b res x.f0 x.f1 x.f2 l) (pgetR (getS x l)) := by
 have key : ∀ (j i : Nat) (y : S27), i + j = l.length → bulk27 y ≤ 1048576 → Ev (fun k => path_Get.l0 k l (l.length : Int) (i : Int) y.f0 y.f1 y.f2) (pgetR (getS y (l.drop i))) := by
  intro j
  induction j with
  | zero =>
   intro i y hi hy; rw [List.drop_of_length_le Zq1]; refine Ev.succ ?_; simp only [path_Get.l0, getS, pgetR]
   exact Ev.neg Zq1 (Ev.then (clone_ends 1048576 Zq1 y hy) (Ev.some _))
  | succ j ih =>
   intro i y hi hy; have hw := step64 (i := i) (n := l.length) Zq1 Zq1; have hd := drop_at (l := l) (d := 0) (i := i) Zq1
   have hr : rd l (i : Int) = l.getD i 0 := by unfold rd; rw [Int.toNat_natCast]
   rw [hd]; refine Ev.succ ?_; simp only [path_Get.l0, hr, hw, getS]; refine Ev.pos Zq1 (Ev.pos (Int.natCast_nonneg i) (Ev.pos Zq1 ?_)); generalize l.getD i 0 = q
   by_cases h0 : q < 0
   ·rw [if_neg Zq1]
    exact Ev.pos h0 (Ev.some _)
   by_cases h1 : q ≥ (y.f2.length : Int)
   ·rw [if_neg Zq1]
    exact Ev.neg h0 (Ev.pos h1 (Ev.some _))
   have c : 0 ≤ q ∧ q < (y.f2.length : Int) := ⟨Zq1, Zq1⟩
   rw [if_pos c]; have hm := bulk_kid (kid_mem c)
   exact Ev.neg h0 (Ev.neg h1 (Ev.pos c.1 (Ev.pos c.2 (ih (i + 1) (y.f2.getD q.toNat z27) Zq1 Zq1))))
 unfold path_Get.f; refine Ev.neg Zq1 ?_; have := key l.length 0 x Zq1 hx
 simpa using this
theorem pget_deep (b : Int) (res : List S82) (x : S27) (l : List Int) (hl : ¬ l.length ≤ 16) :
  Ev (fun k => path_Get.f k b res x.f0 x.f1 x.f2 l) (⟨#[]⟩, [], [], 6) := by
 unfold path_Get.f
 exact Ev.pos Zq1 (Ev.some _)
theorem cells_loop (l : List Int) (hb : isBytes l) (hl : l.length ≤ 1048576) (h4 : l.length % 4 = 0) : ∀ (j i : Nat) (acc : List Int), i + 4 * j = l.length → acc.length + j ≤ 1048576 →
  Ev (fun k => prop_Cells.l0 k l acc (i : Int)) (acc ++ cellsOf (l.drop i), 0) := by
 intro j
 induction j with
 | zero =>
  intro i acc hi ha; rw [List.drop_of_length_le Zq1]; simp only [cellsOf, List.append_nil]; refine Ev.succ ?_; simp only [prop_Cells.l0]
  exact Ev.neg Zq1 (Ev.some _)
 | succ j ih =>
  intro i acc hi ha
  have hw : wrap64 ((i : Int) + 4) = ((i + 4 : Nat) : Int) := by unfold wrap64; omega
  have hn := get_at l i hb Zq1; have h2 := ih (i + 4) (acc ++ [num ((l.drop i).take 4)]) Zq1 (by rw [List.length_append, List.length_singleton]; omega); rw [cells_step l i Zq1]; rw [List.append_assoc, List.singleton_append] at h2; refine Ev.succ ?_; simp only [prop_Cells.l0, hw, hn, Option.bind_some]
  exact Ev.pos Zq1 (Ev.pos Zq1 h2)
theorem cells_ev (l : List Int) (hb : isBytes l) (hl : l.length ≤ 1048576) : Ev (fun k => prop_Cells.f k l) (if l.length % 4 = 0 then (cellsOf l, 0) else ([], 4)) := by
 unfold prop_Cells.f
 by_cases h : l.length % 4 = 0
 ·rw [if_pos h]; have := cells_loop l hb hl h (l.length / 4) 0 [] Zq1 (by simp only [List.length_nil]; omega)
  exact Ev.pos Zq1 (by simpa using this)
 ·rw [if_neg h]
  exact Ev.neg Zq1 (Ev.some _)
end Go.Proofs.Ytkopmkinlanhoaa.PB

namespace Go.Proofs.Ytkopmkinlanhoaa.PB
open Go.RowKit Go.Proofs.Ytkopmkinlanhoaa.Aid Go.Proofs.YtkopmkinlanhoaaW.PrintWords
theorem equal_same (p : List Int) (hp : p.length ≤ 4194304) : Ev (fun k => arboretref12_Equal.f k p p) true := by
 have key : ∀ (j i : Nat), i + j = p.length → Ev (fun k => arboretref12_Equal.l0 k p p (p.length : Int) (i : Int)) true := by
  intro j
  induction j with
  | zero =>
   intro i hi; refine Ev.succ ?_; simp only [arboretref12_Equal.l0]
   exact Ev.neg Zq1 (Ev.some _)
  | succ j ihj =>
   intro i hi
   have hw : wrap64 ((i : Int) + 1) = ((i + 1 : Nat) : Int) := by unfold wrap64; omega
   refine Ev.succ ?_; simp only [arboretref12_Equal.l0, hw]
   exact Ev.pos Zq1 (Ev.pos Zq1 (Ev.pos Zq1 (Ev.pos Zq1 (Ev.pos (by trivial) (ihj (i + 1) Zq1)))))
 unfold arboretref12_Equal.f
 exact Ev.pos rfl (key p.length 0 Zq1)
end Go.Proofs.Ytkopmkinlanhoaa.PB

namespace Go.Proofs.Ytkopmkinlanhoaa.PB
open Go.RowKit Go.Proofs.YtkopmkinlanhoaaW.PrintWords Go.Proofs.YtkopmkinlanhoaaW.PrintLast Go.Proofs.YtkopmkinlanhoaaW.PrintMore
attribute [local go_sem] max2_int min2_int max_two min_two max_three min_three max_four min_four
def strings_IndexByte.f (a0 : ByteArray) (a1 : Int) : Option (Int) := some (Lib.indexByte a0.data.toList a1.toNat.toUInt8)
def name_letter.f (a0 : Int) : Option (Bool) := if a0 ≥ 97 then (if a0 ≤ 122 then (some true) else (if a0 ≥ 65 then (some (decide (a0 ≤ 90))) else (some false))) else (if a0 ≥ 65 then (some (decide (a0 ≤ 90))) else (some false))
def name_plain.f (a0 : Int) : Option (Bool) := (name_letter.f a0).bind fun tbm => (if tbm = true then (some true) else (if a0 ≥ 48 then (if a0 ≤ 57 then (some true) else ((strings_IndexByte.f (⟨#[44, 46, 95, 43, 45]⟩ : ByteArray) a0).bind fun tfC => (some (decide (tfC ≥ 0))))) else ((strings_IndexByte.f (⟨#[44, 46, 95, 43, 45]⟩ : ByteArray) a0).bind fun tfD => (some (decide (tfD ≥ 0))))))
def name_all.l0 : Nat → ByteArray → ByteArray → Int → Int → Option (Bool)
 | 0, _, _, _, _ => none
 | k + 1, x0, x1, x7, x8 => if x8 < x7 then (if 0 ≤ x8 then (if x8 < (x0.size : Int) then ((name_plain.f (bt x0 x8)).bind fun tfE => (if tfE = true then (name_all.l0 k x0 x1 x7 (wrap64 (x8 + 1))) else ((strings_IndexByte.f x1 (bt x0 x8)).bind fun tcG => (if tcG < 0 then (some false) else (name_all.l0 k x0 x1 x7 (wrap64 (x8 + 1))))))) else (none)) else (none)) else (if (x0.size : Int) ≥ 1 then (some (decide ((x0.size : Int) ≤ 31))) else (some false))
def name_all.f (k : Nat) (a0 : ByteArray) (a1 : ByteArray) : Option (Bool) := name_all.l0 k a0 a1 (a0.size : Int) 0
def stringslite_Index.f (a0 : ByteArray) (a1 : ByteArray) : Option (Int) := match a1.data.toList with | [c] => some (Lib.indexByte a0.data.toList c) | _ => none
def stringslite_Cut.f (a0 : ByteArray) (a1 : ByteArray) : Option (ByteArray × ByteArray × Bool) := (stringslite_Index.f a0 a1).bind fun tdO => (if tdO ≥ 0 then (if 0 ≤ tdO then (if tdO ≤ (a0.size : Int) then (if 0 ≤ (wrap64 (tdO + (a1.size : Int))) then (if (wrap64 (tdO + (a1.size : Int))) ≤ (a0.size : Int) then (some (a0.extract 0 (tdO : Int).toNat, a0.extract ((wrap64 (tdO + (a1.size : Int))) : Int).toNat a0.size, true)) else (none)) else (none)) else (none)) else (none)) else (some (a0, (⟨#[]⟩ : ByteArray), false)))
def strings_Cut.f (a0 : ByteArray) (a1 : ByteArray) : Option (ByteArray × ByteArray × Bool) := (stringslite_Cut.f a0 a1).bind fun bteY => (some (bteY.1, bteY.2.1, bteY.2.2))
end Go.Proofs.Ytkopmkinlanhoaa.PB
