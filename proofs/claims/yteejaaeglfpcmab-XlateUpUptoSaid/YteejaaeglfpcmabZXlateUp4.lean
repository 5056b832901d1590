/- XlateUp: texts of this session's, and what the kit's print laid for this seat, as far as the law's row uses them (PXx0, PXx0, PXx0, PXx0, PXx0). -/
import Derived.Test.YteejaaeglfpcmabZXlateUp3
set_option linter.unusedVariables false
set_option linter.unusedSimpArgs false
namespace Go.Proofs.Yteejaaeglfpcmab.PX
open Go.RowKit Go.Proofs.YteejaaeglfpcmabW.PrintWords Go.Proofs.YteejaaeglfpcmabW.PrintLast Go.Proofs.YteejaaeglfpcmabW.PrintMore
attribute [local go_sem] max2_int min2_int max_two min_two max_three min_three max_four min_four
set_option maxHeartbeats 8000000 in
set_option maxRecDepth 100000 in
theorem arboretref12_Counts.calls (k : Nat) (a0_0 : ByteArray) (A0_1 : Option Addr) (c0_1 : Nat) (l0_1 : List (S77)) (A0_2 : Option Addr) (c0_2 : Nat) (l0_2 : List (S30)) (r1 : Int) (r2 : Int) (r3 : Bool) (w : World) (hr0_1 : Kd.C k77 w A0_1 l0_1.length l0_1) (hc0_1 : l0_1.length ≤ c0_1) (hr0_2 : Kd.C k30 w A0_2 l0_2.length l0_2) (hc0_2 : l0_2.length ≤ c0_2) (h : arboretref12_Counts.f k a0_0 l0_1 l0_2 = some (r1, r2, r3)) :
  Calls Try.prog 45 #[.agg #[.string a0_0, .slice A0_1 l0_1.length c0_1, .slice A0_2 l0_2.length c0_2]] w fun e w' => e = .returned (.tuple #[.int .i64 r1, .int .i64 r2, .bool r3]) ∧ Below w.heap.size w w' := by
 have hu30 := Try.underlying30; have HR0_1 := Ak hr0_1; have HC0_1 := Ak hc0_1; clear hr0_1 hc0_1; have HR0_2 := Ak hr0_2; have HC0_2 := Ak hc0_2; clear hr0_2 hc0_2; have HB := Zq145; have H : ((arboretref12_count.f k a0_0 l0_1 l0_2 (⟨#[35, 97, 100, 100, 114, 101, 115, 115, 45, 99, 101, 108, 108, 115]⟩ : ByteArray) 2).bind fun tch => ((arboretref12_count.f k a0_0 l0_1 l0_2 (⟨#[35, 115, 105, 122, 101, 45, 99, 101, 108, 108, 115]⟩ : ByteArray) 1).bind fun tcr => (if tch ≥ 0 then (some (tch, tcr, decide (tcr ≥ 0))) else (some (tch, tcr, false))))) = some (r1, r2, r3) := h; clear h; replace H := Option.bind_eq_some_iff.mp H; obtain ⟨tch, A20, H⟩ := H; replace H : ((arboretref12_count.f k a0_0 l0_1 l0_2 (⟨#[35, 115, 105, 122, 101, 45, 99, 101, 108, 108, 115]⟩ : ByteArray) 1).bind fun tcr => (if tch ≥ 0 then (some (tch, tcr, decide (tcr ≥ 0))) else (some (tch, tcr, false)))) = some (r1, r2, r3) := H; have A2 := Ak A20; clear A20; replace H := Option.bind_eq_some_iff.mp H; obtain ⟨tcr, A30, H⟩ := H; replace H : (if tch ≥ 0 then (some (tch, tcr, decide (tcr ≥ 0))) else (some (tch, tcr, false))) = some (r1, r2, r3) := H; have A3 := Ak A30; clear A30
 by_cases c4 : tch ≥ 0
 ·rw [if_pos c4] at H; have c4b0 : decide (0 ≤ tch) = true := decide_eq_true c4; clear c4; simp only [Option.some.injEq, Prod.mk.injEq] at H; obtain ⟨rfl, rfl, rfl⟩ := H
  go_enter Try.func45, Try.ntmps45
  try go_wp2_with (first | ((with_reducible refine gate_dst (N := 1) rfl ?_); refine box_event ?hg (N := 1) ?hd (cs := #[.string a0_0, .slice A0_1 l0_1.length c0_1, .slice A0_2 l0_2.length c0_2]) (t := 30) ?hr ?_; (case hd | hg => rfl); (case hr => first | (go_simp; done) | (go_simp; rfl)); intro gbbk hg w5 hbox hb; have n0_ := Zq140; have n1_ := Ak (hbox); have n2_ := Zq228; have n3_ := Zq228; clear HB; have HB := n0_; have BKbk := n1_; have GWbk := n2_; have GEbk := n3_; clear n0_ n1_ n2_ n3_ hb hbox hg))
  have n0_ := Ak (blk_drew BKbk.out); have n1_ := Zq178; clear BKbk HB; have BKbk := n0_; have HB := n1_; clear n0_ n1_; refine start_ (n := 6) (S := fun w' => w'.cell? ⟨gbbk, 0, none⟩ = some (.string a0_0) ∧ w'.cell? ⟨gbbk, 1, none⟩ = some (.slice A0_1 l0_1.length c0_1) ∧ w'.cell? ⟨gbbk, 2, none⟩ = some (.slice A0_2 l0_2.length c0_2)) (ds := []) #[false, false, false, false, false, false] Zq2 rfl rfl ⟨(blk_cell BKbk.out 0).trans rfl, (blk_cell BKbk.out 1).trans rfl, (blk_cell BKbk.out 2).trans rfl⟩ (fun hHeld => ?_); generalize w5.drew = w6 at BKbk HB hHeld ⊢; refine take_ (i := 0) (N := some 7) (v := ?_) (a' := ?_) #[true, false, false, false, false, false] rfl rfl Zq2 (fun _ _ _ h => h) (Or.inl ⟨Zq3, ?_⟩) hHeld ?_ ?_
  rotate_left
  ·rintro w' ⟨s0, s1, s2⟩
   go_simp
   with_reducible rfl
  rotate_left
  ·simp only [Sx]
   rfl
  refine take_ (i := 2) (N := some 9) (v := ?_) (a' := ?_) #[true, false, true, false, false, false] rfl rfl Zq2 (fun _ _ _ h => h) (Or.inl ⟨Zq3, ?_⟩) hHeld ?_ ?_
  rotate_left
  ·rintro w' ⟨s0, s1, s2⟩
   go_simp
   with_reducible rfl
  rotate_left
  ·simp only [Sx]
   rfl
  refine one_ (i := 1) (N := some 8) #[true, true, true, false, false, false] rfl rfl Zq2 Zq7 (fun K hK => ?_); refine goes_ Try.func72 Zq2 rfl #[.agg #[.string a0_0, .slice A0_1 l0_1.length c0_1, .slice A0_2 l0_2.length c0_2], .string (⟨#[35, 97, 100, 100, 114, 101, 115, 115, 45, 99, 101, 108, 108, 115]⟩ : ByteArray), .int .i64 2] Zq3 rfl rfl Zq8 ?_; with_reducible refine (arboretref12_count.calls k a0_0 _ _ l0_1 _ _ l0_2 (⟨#[35, 97, 100, 100, 114, 101, 115, 115, 45, 99, 101, 108, 108, 115]⟩ : ByteArray) 2 tch _ ?side1 ?side2 ?side3 ?side4 A2.out).mono ?_
  (case side1 => repeat (first | exact Zq142 | (with_reducible refine Kd.C_alloc ?_ _) | (with_reducible refine Kd.C_drewN ?_ _) | (with_reducible refine Kd.C_drew ?_)))
  (case side2 => exact HC0_1.out)
  (case side3 => repeat (first | exact Zq161 | (with_reducible refine Kd.C_alloc ?_ _) | (with_reducible refine Kd.C_drewN ?_ _) | (with_reducible refine Kd.C_drew ?_)))
  (case side4 => exact HC0_2.out)
  rintro e w7 ⟨rfl, hb⟩
  refine ⟨_, rfl, ?_⟩; have n0_ := Zq186; have n1_ := Ak (below_step Zq89 hb); clear BKbk HB; have BKbk := n0_; have HB := n1_; clear n0_ n1_
  (try clear hb)
  (try clear hb2)
  (try clear hk)
  (try clear hi)
  refine hK.out _ _ ⟨(blk_cell BKbk.out 0).trans rfl, (blk_cell BKbk.out 1).trans rfl, (blk_cell BKbk.out 2).trans rfl⟩ (fun hHeld => ?_); clear hK K; refine norm_ (a' := ?_) ?_ ?_
  rotate_left
  ·show Act.put _ (some 8) _ = _
   simp only [Sx]
   rfl
  refine one_ (i := 3) (N := some 10) #[true, true, true, true, false, false] rfl rfl Zq2 Zq7 (fun K hK => ?_); refine goes_ Try.func72 Zq2 rfl #[.agg #[.string a0_0, .slice A0_1 l0_1.length c0_1, .slice A0_2 l0_2.length c0_2], .string (⟨#[35, 115, 105, 122, 101, 45, 99, 101, 108, 108, 115]⟩ : ByteArray), .int .i64 1] Zq3 rfl rfl Zq8 ?_; with_reducible refine (arboretref12_count.calls k a0_0 _ _ l0_1 _ _ l0_2 (⟨#[35, 115, 105, 122, 101, 45, 99, 101, 108, 108, 115]⟩ : ByteArray) 1 tcr _ ?side1 ?side2 ?side3 ?side4 A3.out).mono ?_
  (case side1 => repeat (first | exact Zq142 | (with_reducible refine Kd.C_alloc ?_ _) | (with_reducible refine Kd.C_drewN ?_ _) | (with_reducible refine Kd.C_drew ?_)))
  (case side2 => exact HC0_1.out)
  (case side3 => repeat (first | exact Zq161 | (with_reducible refine Kd.C_alloc ?_ _) | (with_reducible refine Kd.C_drewN ?_ _) | (with_reducible refine Kd.C_drew ?_)))
  (case side4 => exact HC0_2.out)
  rintro e w8 ⟨rfl, hb⟩
  refine ⟨_, rfl, ?_⟩; have n0_ := Zq186; have n1_ := Ak (below_step Zq89 hb); clear BKbk HB; have BKbk := n0_; have HB := n1_; clear n0_ n1_
  (try clear hb)
  (try clear hb2)
  (try clear hk)
  (try clear hi)
  refine hK.out _ _ ⟨(blk_cell BKbk.out 0).trans rfl, (blk_cell BKbk.out 1).trans rfl, (blk_cell BKbk.out 2).trans rfl⟩ (fun hHeld => ?_); clear hK K; refine norm_ (a' := ?_) ?_ ?_
  rotate_left
  ·show Act.put _ (some 10) _ = _
   simp only [Sx]
   rfl
  refine pure_ (i := 4) (N := some 5) (v := ?_) (a' := ?_) #[true, true, true, true, true, false] rfl rfl Zq2 (fun _ _ _ h => h) (Or.inl ⟨Zq3, ?_⟩) ?_ ?_
  rotate_left
  ·intro w'
   go_simp
   with_reducible rfl
  rotate_left
  ·simp only [Sx]
   rfl
  refine pure_ (i := 5) (N := some 6) (v := ?_) (a' := ?_) #[true, true, true, true, true, true] rfl rfl Zq2 (fun _ _ _ h => h) (Or.inl ⟨Zq3, ?_⟩) ?_ ?_
  rotate_left
  ·intro w'
   go_simp
   with_reducible rfl
  rotate_left
  ·simp only [Sx]
   rfl
  refine done_ Zq2 ?_
  try go_wp2
  go_ret3
  exact ⟨Zq11, Zq89⟩
 ·rw [if_neg c4] at H; have c4b0 : decide (0 ≤ tch) = false := decide_eq_false c4; clear c4; simp only [Option.some.injEq, Prod.mk.injEq] at H; obtain ⟨rfl, rfl, rfl⟩ := H
  go_enter Try.func45, Try.ntmps45
  try go_wp2_with (first | ((with_reducible refine gate_dst (N := 1) rfl ?_); refine box_event ?hg (N := 1) ?hd (cs := #[.string a0_0, .slice A0_1 l0_1.length c0_1, .slice A0_2 l0_2.length c0_2]) (t := 30) ?hr ?_; (case hd | hg => rfl); (case hr => first | (go_simp; done) | (go_simp; rfl)); intro gbbk hg w9 hbox hb; have n0_ := Zq140; have n1_ := Ak (hbox); have n2_ := Zq228; have n3_ := Zq228; clear HB; have HB := n0_; have BKbk := n1_; have GWbk := n2_; have GEbk := n3_; clear n0_ n1_ n2_ n3_ hb hbox hg))
  have n0_ := Ak (blk_drew BKbk.out); have n1_ := Zq178; clear BKbk HB; have BKbk := n0_; have HB := n1_; clear n0_ n1_; refine start_ (n := 6) (S := fun w' => w'.cell? ⟨gbbk, 0, none⟩ = some (.string a0_0) ∧ w'.cell? ⟨gbbk, 1, none⟩ = some (.slice A0_1 l0_1.length c0_1) ∧ w'.cell? ⟨gbbk, 2, none⟩ = some (.slice A0_2 l0_2.length c0_2)) (ds := []) #[false, false, false, false, false, false] Zq2 rfl rfl ⟨(blk_cell BKbk.out 0).trans rfl, (blk_cell BKbk.out 1).trans rfl, (blk_cell BKbk.out 2).trans rfl⟩ (fun hHeld => ?_); generalize w9.drew = w10 at BKbk HB hHeld ⊢; refine take_ (i := 0) (N := some 7) (v := ?_) (a' := ?_) #[true, false, false, false, false, false] rfl rfl Zq2 (fun _ _ _ h => h) (Or.inl ⟨Zq3, ?_⟩) hHeld ?_ ?_
  rotate_left
  ·rintro w' ⟨s0, s1, s2⟩
   go_simp
   with_reducible rfl
  rotate_left
  ·simp only [Sx]
   rfl
  refine take_ (i := 2) (N := some 9) (v := ?_) (a' := ?_) #[true, false, true, false, false, false] rfl rfl Zq2 (fun _ _ _ h => h) (Or.inl ⟨Zq3, ?_⟩) hHeld ?_ ?_
  rotate_left
  ·rintro w' ⟨s0, s1, s2⟩
   go_simp
   with_reducible rfl
  rotate_left
  ·simp only [Sx]
   rfl
  refine one_ (i := 1) (N := some 8) #[true, true, true, false, false, false] rfl rfl Zq2 Zq7 (fun K hK => ?_); refine goes_ Try.func72 Zq2 rfl #[.agg #[.string a0_0, .slice A0_1 l0_1.length c0_1, .slice A0_2 l0_2.length c0_2], .string (⟨#[35, 97, 100, 100, 114, 101, 115, 115, 45, 99, 101, 108, 108, 115]⟩ : ByteArray), .int .i64 2] Zq3 rfl rfl Zq8 ?_; with_reducible refine (arboretref12_count.calls k a0_0 _ _ l0_1 _ _ l0_2 (⟨#[35, 97, 100, 100, 114, 101, 115, 115, 45, 99, 101, 108, 108, 115]⟩ : ByteArray) 2 tch _ ?side1 ?side2 ?side3 ?side4 A2.out).mono ?_
  (case side1 => repeat (first | exact Zq142 | (with_reducible refine Kd.C_alloc ?_ _) | (with_reducible refine Kd.C_drewN ?_ _) | (with_reducible refine Kd.C_drew ?_)))
  (case side2 => exact HC0_1.out)
  (case side3 => repeat (first | exact Zq161 | (with_reducible refine Kd.C_alloc ?_ _) | (with_reducible refine Kd.C_drewN ?_ _) | (with_reducible refine Kd.C_drew ?_)))
  (case side4 => exact HC0_2.out)
  rintro e w11 ⟨rfl, hb⟩
  refine ⟨_, rfl, ?_⟩; have n0_ := Zq186; have n1_ := Ak (below_step Zq89 hb); clear BKbk HB; have BKbk := n0_; have HB := n1_; clear n0_ n1_
  (try clear hb)
  (try clear hb2)
  (try clear hk)
  (try clear hi)
  refine hK.out _ _ ⟨(blk_cell BKbk.out 0).trans rfl, (blk_cell BKbk.out 1).trans rfl, (blk_cell BKbk.out 2).trans rfl⟩ (fun hHeld => ?_); clear hK K; refine norm_ (a' := ?_) ?_ ?_
  rotate_left
  ·show Act.put _ (some 8) _ = _
   simp only [Sx]
   rfl
  refine one_ (i := 3) (N := some 10) #[true, true, true, true, false, false] rfl rfl Zq2 Zq7 (fun K hK => ?_); refine goes_ Try.func72 Zq2 rfl #[.agg #[.string a0_0, .slice A0_1 l0_1.length c0_1, .slice A0_2 l0_2.length c0_2], .string (⟨#[35, 115, 105, 122, 101, 45, 99, 101, 108, 108, 115]⟩ : ByteArray), .int .i64 1] Zq3 rfl rfl Zq8 ?_; with_reducible refine (arboretref12_count.calls k a0_0 _ _ l0_1 _ _ l0_2 (⟨#[35, 115, 105, 122, 101, 45, 99, 101, 108, 108, 115]⟩ : ByteArray) 1 tcr _ ?side1 ?side2 ?side3 ?side4 A3.out).mono ?_
  (case side1 => repeat (first | exact Zq142 | (with_reducible refine Kd.C_alloc ?_ _) | (with_reducible refine Kd.C_drewN ?_ _) | (with_reducible refine Kd.C_drew ?_)))
  (case side2 => exact HC0_1.out)
  (case side3 => repeat (first | exact Zq161 | (with_reducible refine Kd.C_alloc ?_ _) | (with_reducible refine Kd.C_drewN ?_ _) | (with_reducible refine Kd.C_drew ?_)))
  (case side4 => exact HC0_2.out)
  rintro e w12 ⟨rfl, hb⟩
  refine ⟨_, rfl, ?_⟩; have n0_ := Zq186; have n1_ := Ak (below_step Zq89 hb); clear BKbk HB; have BKbk := n0_; have HB := n1_; clear n0_ n1_
  (try clear hb)
  (try clear hb2)
  (try clear hk)
  (try clear hi)
  refine hK.out _ _ ⟨(blk_cell BKbk.out 0).trans rfl, (blk_cell BKbk.out 1).trans rfl, (blk_cell BKbk.out 2).trans rfl⟩ (fun hHeld => ?_); clear hK K; refine norm_ (a' := ?_) ?_ ?_
  rotate_left
  ·show Act.put _ (some 10) _ = _
   simp only [Sx]
   rfl
  refine pure_ (i := 4) (N := some 5) (v := ?_) (a' := ?_) #[true, true, true, true, true, false] rfl rfl Zq2 (fun _ _ _ h => h) (Or.inl ⟨Zq3, ?_⟩) ?_ ?_
  rotate_left
  ·intro w'
   go_simp
   with_reducible rfl
  rotate_left
  ·simp only [Sx]
   rfl
  refine pure_ (i := 5) (N := some 6) (v := ?_) (a' := ?_) #[true, true, true, true, true, true] rfl rfl Zq2 (fun _ _ _ h => h) (Or.inl ⟨Zq3, ?_⟩) ?_ ?_
  rotate_left
  ·intro w'
   go_simp
   with_reducible rfl
  rotate_left
  ·simp only [Sx]
   rfl
  refine done_ Zq2 ?_
  try go_wp2
  go_ret3
  exact ⟨Zq11, Zq89⟩
def arboretref12_wide.f (k : Nat) (l0 : List Int) : Option (Int) := (arboretref01_Number.f k l0 0 (l0.length : Int)).bind fun btev => (some btev.1)
theorem arboretref12_wide.mono : ∀ a0 k, LeO (arboretref12_wide.f k a0) (arboretref12_wide.f (k + 1) a0) := by
 intro a0 k; unfold arboretref12_wide.f
 repeat' first | (with_reducible first | exact arboretref01_Number.mono _ _ _ _ | exact LeO.refl _ | exact LeO.none _ | refine LeO.ite ?_ ?_ | refine LeO.bind ?_ (fun _ => ?_))
set_option maxHeartbeats 8000000 in
set_option maxRecDepth 100000 in
theorem arboretref12_wide.calls (k : Nat) (A0 : Option Addr) (c0 : Nat) (l0 : List Int) (r : Int) (w : World) (hr0 : Kd.C (Kd.int .u8) w A0 l0.length l0) (hc0 : l0.length ≤ c0) (h : arboretref12_wide.f k l0 = some r) :
  Calls Try.prog 46 #[.slice A0 l0.length c0] w fun e w' => e = .returned (.int .u64 r) ∧ Drawn0 w w' := by
 have HR0 := Ak hr0; have HC0 := Ak hc0; clear hr0 hc0; have H : ((arboretref01_Number.f k l0 0 (l0.length : Int)).bind fun btev => (some btev.1)) = some r := h; clear h; replace H := Option.bind_eq_some_iff.mp H; obtain ⟨⟨tev, tgv⟩, A20, H⟩ := H; replace H : (some tev) = some r := H; have A2 := Ak A20; clear A20; obtain rfl := Option.some.inj H
 go_enter Try.func46, Try.ntmps46
 go_wp2_with (first | ((with_reducible refine gate_callee (f := 73) rfl ?_); refine goesL_ (some 9) rfl rfl Try.func73 Zq2 rfl #[.slice A0 l0.length c0, .int .i64 0, .int .i64 (l0.length : Int)] rfl Zq8 ?_; (with_reducible refine (arboretref01_Number.calls k _ _ l0 0 (l0.length : Int) tev tgv _ ?side1 ?side2 A2.out).mono ?_); (case side1 => repeat (first | exact HR0.out | (with_reducible refine Kd.C_alloc ?_ _) | (with_reducible refine Kd.C_drewN ?_ _) | (with_reducible refine Kd.C_drew ?_))); (case side2 => exact HC0.out); rintro e w' ⟨rfl, ⟨nd, rfl⟩⟩; refine ⟨_, rfl, ?_⟩))
 go_ret
 exact ⟨Zq6, Zq10⟩
mutual
def arboretref12_Ranges.j0 : Nat → List Int → Int → Int → Int → Bool → Option ((List (S45)) × Bool × Bool)
 | 0, _, _, _, _, _ => none
 | k + 1, x8, x9, x10, x12, x65 => if x65 = true then (some (([] : List (S45)), false, false)) else (if (x8.length : Int) = 0 then (some ((([(⟨0, 0, 18446744073709551615⟩ : S45)] : List (S45))), true, true)) else (arboretref12_Ranges.l0 k x8 x9 x10 x12 ([] : List (S45)) 0))
def arboretref12_Ranges.l0 : Nat → List Int → Int → Int → Int → List (S45) → Int → Option ((List (S45)) × Bool × Bool)
 | 0, _, _, _, _, _, _ => none
 | k + 1, x8, x9, x10, x12, x15, x16 => if x16 < (x8.length : Int) then (if 0 ≤ x16 then (if x16 ≤ (wrap64 (x16 + (wrap64 (4 * (wrap64 ((wrap64 (x9 + x12)) + x10)))))) then (if (wrap64 (x16 + (wrap64 (4 * (wrap64 ((wrap64 (x9 + x12)) + x10)))))) ≤ (x8.length : Int) then (if 0 ≤ (wrap64 (4 * x9)) then (if (wrap64 (4 * x9)) ≤ (((x8.take ((wrap64 (x16 + (wrap64 (4 * (wrap64 ((wrap64 (x9 + x12)) + x10)))))) : Int).toNat).drop (x16 : Int).toNat).length : Int) then ((arboretref12_wide.f k (((x8.take ((wrap64 (x16 + (wrap64 (4 * (wrap64 ((wrap64 (x9 + x12)) + x10)))))) : Int).toNat).drop (x16 : Int).toNat).take ((wrap64 (4 * x9)) : Int).toNat)).bind fun tcN => (if (wrap64 (4 * x9)) ≤ (wrap64 ((wrap64 (4 * x9)) + (wrap64 (4 * x12)))) then (if (wrap64 ((wrap64 (4 * x9)) + (wrap64 (4 * x12)))) ≤ (((x8.take ((wrap64 (x16 + (wrap64 (4 * (wrap64 ((wrap64 (x9 + x12)) + x10)))))) : Int).toNat).drop (x16 : Int).toNat).length : Int) then ((arboretref12_wide.f k ((((x8.take ((wrap64 (x16 + (wrap64 (4 * (wrap64 ((wrap64 (x9 + x12)) + x10)))))) : Int).toNat).drop (x16 : Int).toNat).take ((wrap64 ((wrap64 (4 * x9)) + (wrap64 (4 * x12)))) : Int).toNat).drop ((wrap64 (4 * x9)) : Int).toNat)).bind fun tcI => (if 0 ≤ (wrap64 ((wrap64 (4 * x9)) + (wrap64 (4 * x12)))) then ((arboretref12_wide.f k (((x8.take ((wrap64 (x16 + (wrap64 (4 * (wrap64 ((wrap64 (x9 + x12)) + x10)))))) : Int).toNat).drop (x16 : Int).toNat).drop ((wrap64 ((wrap64 (4 * x9)) + (wrap64 (4 * x12)))) : Int).toNat)).bind fun tcz => (if x15.length < 5864062014805 then (arboretref12_Ranges.l0 k x8 x9 x10 x12 (x15 ++ [(⟨tcN, tcI, tcz⟩ : S45)]) (wrap64 (x16 + (wrap64 (4 * (wrap64 ((wrap64 (x9 + x12)) + x10))))))) else (none))) else (none))) else (none)) else (none))) else (none)) else (none)) else (none)) else (none)) else (none)) else (some (x15, true, true))
end
def arboretref12_Ranges.f (k : Nat) (a0_0 : ByteArray) (l0_1 : List (S77)) (l0_2 : List (S30)) (a1_0 : ByteArray) (l1_1 : List (S77)) (l1_2 : List (S30)) : Option ((List (S45)) × Bool × Bool) := (arboretref01_Find.f k a1_0 l1_1 l1_2 (⟨#[114, 97, 110, 103, 101, 115]⟩ : ByteArray)).bind fun tao => (if tao < 0 then (some (([] : List (S45)), false, true)) else (if 0 ≤ tao then (if tao < (l1_1.length : Int) then ((arboretref12_Counts.f k a1_0 l1_1 l1_2).bind fun btai => ((arboretref12_Counts.f k a0_0 l0_1 l0_2).bind fun btak => (if btai.2.2 = true then (if btak.2.2 = true then (if btai.1 = 0 then (arboretref12_Ranges.j0 k ((rd_T77 l1_1 tao).f1) btai.1 btai.2.1 btak.1 true) else (if btak.1 = 0 then (arboretref12_Ranges.j0 k ((rd_T77 l1_1 tao).f1) btai.1 btai.2.1 btak.1 true) else (if (wrap64 (4 * (wrap64 ((wrap64 (btai.1 + btak.1)) + btai.2.1)))) = 0 then (none) else (arboretref12_Ranges.j0 k ((rd_T77 l1_1 tao).f1) btai.1 btai.2.1 btak.1 (((((rd_T77 l1_1 tao).f1).length : Int) % (wrap64 (4 * (wrap64 ((wrap64 (btai.1 + btak.1)) + btai.2.1))))) != 0))))) else (arboretref12_Ranges.j0 k ((rd_T77 l1_1 tao).f1) btai.1 btai.2.1 btak.1 true)) else (arboretref12_Ranges.j0 k ((rd_T77 l1_1 tao).f1) btai.1 btai.2.1 btak.1 true)))) else (none)) else (none)))
theorem arboretref12_Ranges.mono_l : ∀ k, (∀ y0 y1 y2 y3 y4, LeO (arboretref12_Ranges.j0 k y0 y1 y2 y3 y4) (arboretref12_Ranges.j0 (k + 1) y0 y1 y2 y3 y4)) ∧ (∀ y0 y1 y2 y3 y4 y5, LeO (arboretref12_Ranges.l0 k y0 y1 y2 y3 y4 y5) (arboretref12_Ranges.l0 (k + 1) y0 y1 y2 y3 y4 y5))
 | 0 => ⟨fun _ _ _ _ _ r h => by simp [arboretref12_Ranges.j0] at h, fun _ _ _ _ _ _ r h => by simp [arboretref12_Ranges.l0] at h⟩
 | k + 1 => by
  obtain ⟨ih0, ih1⟩ := arboretref12_Ranges.mono_l k; refine ⟨?_, ?_⟩
  ·intro y0 y1 y2 y3 y4; unfold arboretref12_Ranges.j0
   repeat' first | (with_reducible first | exact ih0 _ _ _ _ _ | exact ih1 _ _ _ _ _ _ | exact arboretref01_Find.mono _ _ _ _ _ | exact arboretref12_Counts.mono _ _ _ _ | exact arboretref12_wide.mono _ _ | exact LeO.refl _ | exact LeO.none _ | refine LeO.ite ?_ ?_ | refine LeO.bind ?_ (fun _ => ?_))
  ·intro y0 y1 y2 y3 y4 y5; unfold arboretref12_Ranges.l0
   repeat' first | (with_reducible first | exact ih0 _ _ _ _ _ | exact ih1 _ _ _ _ _ _ | exact arboretref01_Find.mono _ _ _ _ _ | exact arboretref12_Counts.mono _ _ _ _ | exact arboretref12_wide.mono _ _ | exact LeO.refl _ | exact LeO.none _ | refine LeO.ite ?_ ?_ | refine LeO.bind ?_ (fun _ => ?_))
theorem arboretref12_Ranges.mono : ∀ a0 a1 a2 a3 a4 a5 k, LeO (arboretref12_Ranges.f k a0 a1 a2 a3 a4 a5) (arboretref12_Ranges.f (k + 1) a0 a1 a2 a3 a4 a5) := by
 intro a0 a1 a2 a3 a4 a5 k; obtain ⟨ih0, ih1⟩ := arboretref12_Ranges.mono_l k; unfold arboretref12_Ranges.f
 repeat' first | (with_reducible first | exact ih0 _ _ _ _ _ | exact ih1 _ _ _ _ _ _ | exact arboretref01_Find.mono _ _ _ _ _ | exact arboretref12_Counts.mono _ _ _ _ | exact arboretref12_wide.mono _ _ | exact LeO.refl _ | exact LeO.none _ | refine LeO.ite ?_ ?_ | refine LeO.bind ?_ (fun _ => ?_))
def arboretref12_Ranges.T16 : Bool × List (List Nat × List Nat) := (true, [([], []), ([], []), ([], []), ([2], [2]), ([1, 3], [1, 3]), ([4], [4]), ([], []), ([], []), ([7], [7]), ([], []), ([9], [9]), ([], []), ([11], [11]), ([10, 12], [10, 12]), ([6, 8, 13], [6, 8, 13]), ([14, 5], [14]), ([], []), ([], []), ([17], [17]), ([], []), ([19], [19]), ([18, 20], [18, 20]), ([16, 21], [16, 21]), ([22, 15], [22]), ([5, 15, 23], [5, 15, 23]), ([24], [24]), ([0, 25, 23], [0, 25]), ([26, 26, 0, 1, 2, 3, 4, 5, 6, 7, 8, 9, 10, 11, 12, 13, 14, 15, 16, 17, 18, 19, 20, 21, 22, 23, 24, 25, 26], [0, 26])])
def arboretref12_Ranges.B16 : List Nat := [0, 0, 0, 4, 14, 30, 0, 0, 128, 0, 512, 0, 2048, 7680, 16320, 32766, 0, 0, 131072, 0, 524288, 1966080, 4128768, 8388606, 16777214, 33554430, 67108863, 134217727]
theorem arboretref12_Ranges.tab16 : rtab .any (opsOf Try.f18 16) = arboretref12_Ranges.T16 := by kernel_rfl
theorem arboretref12_Ranges.bits16 : waitsOk arboretref12_Ranges.T16.2 arboretref12_Ranges.B16 = true := by kernel_rfl
end Go.Proofs.Yteejaaeglfpcmab.PX

namespace Go.Proofs.Yteejaaeglfpcmab.PX
open Go.RowKit Go.Proofs.YteejaaeglfpcmabW.PrintWords Go.Proofs.YteejaaeglfpcmabW.PrintLast Go.Proofs.YteejaaeglfpcmabW.PrintMore
attribute [local go_sem] max2_int min2_int max_two min_two max_three min_three max_four min_four
set_option maxHeartbeats 8000000 in
set_option maxRecDepth 100000 in
theorem arboretref12_Ranges.calls (k : Nat) (a0_0 : ByteArray) (A0_1 : Option Addr) (c0_1 : Nat) (l0_1 : List (S77)) (A0_2 : Option Addr) (c0_2 : Nat) (l0_2 : List (S30)) (a1_0 : ByteArray) (A1_1 : Option Addr) (c1_1 : Nat) (l1_1 : List (S77)) (A1_2 : Option Addr) (c1_2 : Nat) (l1_2 : List (S30)) (r1 : List (S45)) (r2 : Bool) (r3 : Bool) (w : World) (hr0_1 : Kd.C k77 w A0_1 l0_1.length l0_1) (hc0_1 : l0_1.length ≤ c0_1) (hr0_2 : Kd.C k30 w A0_2 l0_2.length l0_2) (hc0_2 : l0_2.length ≤ c0_2) (hr1_1 : Kd.C k77 w A1_1 l1_1.length l1_1) (hc1_1 : l1_1.length ≤ c1_1) (hr1_2 : Kd.C k30 w A1_2 l1_2.length l1_2) (hc1_2 : l1_2.length ≤ c1_2) (h : arboretref12_Ranges.f k a0_0 l0_1 l0_2 a1_0 l1_1 l1_2 = some (r1, r2, r3)) :
  Calls Try.prog 18 #[.agg #[.string a0_0, .slice A0_1 l0_1.length c0_1, .slice A0_2 l0_2.length c0_2], .agg #[.string a1_0, .slice A1_1 l1_1.length c1_1, .slice A1_2 l1_2.length c1_2]] w fun e w' => ∃ v0_ : Value, e = .returned (.tuple #[v0_, .bool r2, .bool r3]) ∧ Kd.R k45 45 w' w.heap.size (fun _ => True) v0_ r1 ∧ Below w.heap.size w w' := by
 have hu30 := Try.underlying30; have hu45 := Try.underlying45; have HR0_1 := Ak hr0_1; have HC0_1 := Ak hc0_1; clear hr0_1 hc0_1; have HR0_2 := Ak hr0_2; have HC0_2 := Ak hc0_2; clear hr0_2 hc0_2; have HR1_1 := Ak hr1_1; have HC1_1 := Ak hc1_1; clear hr1_1 hc1_1; have HR1_2 := Ak hr1_2; have HC1_2 := Ak hc1_2; clear hr1_2 hc1_2; have HB := Zq145; have H : ((arboretref01_Find.f k a1_0 l1_1 l1_2 (⟨#[114, 97, 110, 103, 101, 115]⟩ : ByteArray)).bind fun tao => (if tao < 0 then (some (([] : List (S45)), false, true)) else (if 0 ≤ tao then (if tao < (l1_1.length : Int) then ((arboretref12_Counts.f k a1_0 l1_1 l1_2).bind fun btai => ((arboretref12_Counts.f k a0_0 l0_1 l0_2).bind fun btak => (if btai.2.2 = true then (if btak.2.2 = true then (if btai.1 = 0 then (arboretref12_Ranges.j0 k ((rd_T77 l1_1 tao).f1) btai.1 btai.2.1 btak.1 true) else (if btak.1 = 0 then (arboretref12_Ranges.j0 k ((rd_T77 l1_1 tao).f1) btai.1 btai.2.1 btak.1 true) else (if (wrap64 (4 * (wrap64 ((wrap64 (btai.1 + btak.1)) + btai.2.1)))) = 0 then (none) else (arboretref12_Ranges.j0 k ((rd_T77 l1_1 tao).f1) btai.1 btai.2.1 btak.1 (((((rd_T77 l1_1 tao).f1).length : Int) % (wrap64 (4 * (wrap64 ((wrap64 (btai.1 + btak.1)) + btai.2.1))))) != 0))))) else (arboretref12_Ranges.j0 k ((rd_T77 l1_1 tao).f1) btai.1 btai.2.1 btak.1 true)) else (arboretref12_Ranges.j0 k ((rd_T77 l1_1 tao).f1) btai.1 btai.2.1 btak.1 true)))) else (none)) else (none)))) = some (r1, r2, r3) := h; clear h; replace H := Option.bind_eq_some_iff.mp H; obtain ⟨tao, A30, H⟩ := H; replace H : (if tao < 0 then (some (([] : List (S45)), false, true)) else (if 0 ≤ tao then (if tao < (l1_1.length : Int) then ((arboretref12_Counts.f k a1_0 l1_1 l1_2).bind fun btai => ((arboretref12_Counts.f k a0_0 l0_1 l0_2).bind fun btak => (if btai.2.2 = true then (if btak.2.2 = true then (if btai.1 = 0 then (arboretref12_Ranges.j0 k ((rd_T77 l1_1 tao).f1) btai.1 btai.2.1 btak.1 true) else (if btak.1 = 0 then (arboretref12_Ranges.j0 k ((rd_T77 l1_1 tao).f1) btai.1 btai.2.1 btak.1 true) else (if (wrap64 (4 * (wrap64 ((wrap64 (btai.1 + btak.1)) + btai.2.1)))) = 0 then (none) else (arboretref12_Ranges.j0 k ((rd_T77 l1_1 tao).f1) btai.1 btai.2.1 btak.1 (((((rd_T77 l1_1 tao).f1).length : Int) % (wrap64 (4 * (wrap64 ((wrap64 (btai.1 + btak.1)) + btai.2.1))))) != 0))))) else (arboretref12_Ranges.j0 k ((rd_T77 l1_1 tao).f1) btai.1 btai.2.1 btak.1 true)) else (arboretref12_Ranges.j0 k ((rd_T77 l1_1 tao).f1) btai.1 btai.2.1 btak.1 true)))) else (none)) else (none))) = some (r1, r2, r3) := H; have A3 := Ak A30; clear A30
 by_cases c4 : tao < 0
 ·rw [if_pos c4] at H; have c4b0 : decide (tao < 0) = true := decide_eq_true c4; clear c4; simp only [Option.some.injEq, Prod.mk.injEq] at H; obtain ⟨rfl, rfl, rfl⟩ := H
  go_enter Try.func18, Try.ntmps18
  go_wp2_with (first | ((with_reducible refine gate_dst (N := 2) rfl ?_); (try (refine gate_guard Zq3 ?_; dsimp only)); refine box_event ?hg (N := 2) ?hd (cs := #[.string a0_0, .slice A0_1 l0_1.length c0_1, .slice A0_2 l0_2.length c0_2]) (t := 30) ?hr ?_; (case hd | hg => rfl); (case hr => first | (go_simp; done) | (go_simp; rfl)); intro gbbi hg w5 hbox hb; have n0_ := Zq140; have n1_ := Ak (hbox); have n2_ := Zq229; have n3_ := Zq229; clear HB; have HB := n0_; have BKbi := n1_; have GWbi := n2_; have GEbi := n3_; clear n0_ n1_ n2_ n3_ hb hbox hg) | ((with_reducible refine gate_dst (N := 3) rfl ?_); (try (refine gate_guard Zq3 ?_; dsimp only)); refine box_event ?hg (N := 3) ?hd (cs := #[.string a1_0, .slice A1_1 l1_1.length c1_1, .slice A1_2 l1_2.length c1_2]) (t := 30) ?hr ?_; (case hd | hg => rfl); (case hr => first | (go_simp; done) | (go_simp; rfl)); intro gbaU hg w6 hbox hb; have n0_ := Zq153; have n1_ := Ak (below_step Zq90 hb); have n2_ := Ak (hbox); have n3_ := Zq221; have n4_ := Zq221; have n5_ := Ak ((by rw [hg]; exact Nat.ne_of_lt Zq194 : gbbi ≠ gbaU)); have n6_ := Ak ((by rw [hg]; exact Nat.ne_of_gt Zq194 : gbaU ≠ gbbi)); clear BKbi HB; have BKbi := n0_; have HB := n1_; have BKaU := n2_; have GWaU := n3_; have GEaU := n4_; have NB306_307 := n5_; have NB307_306 := n6_; clear n0_ n1_ n2_ n3_ n4_ n5_ n6_ hb hbox hg; have hnb7 := NB307_306.out; have hnc7 := NB306_307.out; have hcz8_0 : w6.cell? ⟨gbaU, 0, none⟩ = some (.string a1_0) := (blk_cell BKaU.out 0).trans rfl; have hcz8_1 : w6.cell? ⟨gbaU, 1, none⟩ = some (.slice A1_1 l1_1.length c1_1) := (blk_cell BKaU.out 1).trans rfl; have hcz8_2 : w6.cell? ⟨gbaU, 2, none⟩ = some (.slice A1_2 l1_2.length c1_2) := (blk_cell BKaU.out 2).trans rfl; have hfz8_0 := blk_frozen BKaU.out 0; have hfz8_1 := blk_frozen BKaU.out 1; have hfz8_2 := blk_frozen BKaU.out 2) | ((with_reducible refine gate_callee (f := 32) rfl ?_); refine goesL_ (some 19) rfl rfl Try.func32 Zq2 rfl #[.agg #[.string a1_0, .slice A1_1 l1_1.length c1_1, .slice A1_2 l1_2.length c1_2], .string (⟨#[114, 97, 110, 103, 101, 115]⟩ : ByteArray)] rfl Zq120 ?_; (with_reducible refine (arboretref01_Find.calls k a1_0 _ _ l1_1 _ _ l1_2 (⟨#[114, 97, 110, 103, 101, 115]⟩ : ByteArray) tao _ ?side1 ?side2 ?side3 ?side4 A3.out).mono ?_); (case side1 => repeat (first | exact Zq204 | (with_reducible refine Kd.C_alloc ?_ _) | (with_reducible refine Kd.C_drewN ?_ _) | (with_reducible refine Kd.C_drew ?_))); (case side2 => exact HC1_1.out); (case side3 => repeat (first | exact Zq205 | (with_reducible refine Kd.C_alloc ?_ _) | (with_reducible refine Kd.C_drewN ?_ _) | (with_reducible refine Kd.C_drew ?_))); (case side4 => exact HC1_2.out); rintro e w9 ⟨rfl, hb⟩; refine ⟨_, rfl, ?_⟩; have n0_ := Zq153; have n1_ := Zq249; have n2_ := Ak (below_step Zq33 hb); clear BKbi BKaU HB; have BKbi := n0_; have BKaU := n1_; have HB := n2_; clear n0_ n1_ n2_; (try clear hb); (try clear hb2); (try clear hk); (try clear hi)))
  go_ret3
  exact ⟨_, Zq11, Zq38, Zq33⟩
 ·rw [if_neg c4] at H; have c4b0 : decide (tao < 0) = false := decide_eq_false c4; clear c4
  by_cases c10 : 0 ≤ tao
  ·rw [if_pos c10] at H; have c10b0 : decide (0 ≤ tao) = true := decide_eq_true c10; clear c10
   by_cases c11 : tao < (l1_1.length : Int)
   ·rw [if_pos c11] at H; have c11b0 : decide (tao < (l1_1.length : Int)) = true := decide_eq_true c11; clear c11; replace H := Option.bind_eq_some_iff.mp H; obtain ⟨⟨tai, tay, tfd⟩, AfS, H⟩ := H; replace H : ((arboretref12_Counts.f k a0_0 l0_1 l0_2).bind fun btak => (if tfd = true then (if btak.2.2 = true then (if tai = 0 then (arboretref12_Ranges.j0 k ((rd_T77 l1_1 tao).f1) tai tay btak.1 true) else (if btak.1 = 0 then (arboretref12_Ranges.j0 k ((rd_T77 l1_1 tao).f1) tai tay btak.1 true) else (if (wrap64 (4 * (wrap64 ((wrap64 (tai + btak.1)) + tay)))) = 0 then (none) else (arboretref12_Ranges.j0 k ((rd_T77 l1_1 tao).f1) tai tay btak.1 (((((rd_T77 l1_1 tao).f1).length : Int) % (wrap64 (4 * (wrap64 ((wrap64 (tai + btak.1)) + tay))))) != 0))))) else (arboretref12_Ranges.j0 k ((rd_T77 l1_1 tao).f1) tai tay btak.1 true)) else (arboretref12_Ranges.j0 k ((rd_T77 l1_1 tao).f1) tai tay btak.1 true))) = some (r1, r2, r3) := H; have A12 := Ak AfS; clear AfS; replace H := Option.bind_eq_some_iff.mp H; obtain ⟨⟨tak, tgw, tfe⟩, AaB, H⟩ := H; replace H : (if tfd = true then (if tfe = true then (if tai = 0 then (arboretref12_Ranges.j0 k ((rd_T77 l1_1 tao).f1) tai tay tak true) else (if tak = 0 then (arboretref12_Ranges.j0 k ((rd_T77 l1_1 tao).f1) tai tay tak true) else (if (wrap64 (4 * (wrap64 ((wrap64 (tai + tak)) + tay)))) = 0 then (none) else (arboretref12_Ranges.j0 k ((rd_T77 l1_1 tao).f1) tai tay tak (((((rd_T77 l1_1 tao).f1).length : Int) % (wrap64 (4 * (wrap64 ((wrap64 (tai + tak)) + tay))))) != 0))))) else (arboretref12_Ranges.j0 k ((rd_T77 l1_1 tao).f1) tai tay tak true)) else (arboretref12_Ranges.j0 k ((rd_T77 l1_1 tao).f1) tai tay tak true)) = some (r1, r2, r3) := H; have A13 := Ak AaB; clear AaB; have HC14 := Ak H; clear H
    go_enter Try.func18, Try.ntmps18
    go_upto_region 7 with (first | ((with_reducible refine gate_dst (N := 2) rfl ?_); (try (refine gate_guard Zq3 ?_; dsimp only)); refine box_event ?hg (N := 2) ?hd (cs := #[.string a0_0, .slice A0_1 l0_1.length c0_1, .slice A0_2 l0_2.length c0_2]) (t := 30) ?hr ?_; (case hd | hg => rfl); (case hr => first | (go_simp; done) | (go_simp; rfl)); intro gbbi hg w15 hbox hb; have n0_ := Zq140; have n1_ := Ak (hbox); have n2_ := Zq229; have n3_ := Zq229; clear HB; have HB := n0_; have BKbi := n1_; have GWbi := n2_; have GEbi := n3_; clear n0_ n1_ n2_ n3_ hb hbox hg) | ((with_reducible refine gate_dst (N := 3) rfl ?_); (try (refine gate_guard Zq3 ?_; dsimp only)); refine box_event ?hg (N := 3) ?hd (cs := #[.string a1_0, .slice A1_1 l1_1.length c1_1, .slice A1_2 l1_2.length c1_2]) (t := 30) ?hr ?_; (case hd | hg => rfl); (case hr => first | (go_simp; done) | (go_simp; rfl)); intro gbaU hg w16 hbox hb; have n0_ := Zq153; have n1_ := Ak (below_step Zq90 hb); have n2_ := Ak (hbox); have n3_ := Zq221; have n4_ := Zq221; have n5_ := Ak ((by rw [hg]; exact Nat.ne_of_lt Zq194 : gbbi ≠ gbaU)); have n6_ := Ak ((by rw [hg]; exact Nat.ne_of_gt Zq194 : gbaU ≠ gbbi)); clear BKbi HB; have BKbi := n0_; have HB := n1_; have BKaU := n2_; have GWaU := n3_; have GEaU := n4_; have NB306_307 := n5_; have NB307_306 := n6_; clear n0_ n1_ n2_ n3_ n4_ n5_ n6_ hb hbox hg; have hnb17 := NB307_306.out; have hnc17 := NB306_307.out; have hcz18_0 : w16.cell? ⟨gbaU, 0, none⟩ = some (.string a1_0) := (blk_cell BKaU.out 0).trans rfl; have hcz18_1 : w16.cell? ⟨gbaU, 1, none⟩ = some (.slice A1_1 l1_1.length c1_1) := (blk_cell BKaU.out 1).trans rfl; have hcz18_2 : w16.cell? ⟨gbaU, 2, none⟩ = some (.slice A1_2 l1_2.length c1_2) := (blk_cell BKaU.out 2).trans rfl; have hfz18_0 := blk_frozen BKaU.out 0; have hfz18_1 := blk_frozen BKaU.out 1; have hfz18_2 := blk_frozen BKaU.out 2) | ((with_reducible refine gate_callee (f := 32) rfl ?_); refine goesL_ (some 19) rfl rfl Try.func32 Zq2 rfl #[.agg #[.string a1_0, .slice A1_1 l1_1.length c1_1, .slice A1_2 l1_2.length c1_2], .string (⟨#[114, 97, 110, 103, 101, 115]⟩ : ByteArray)] rfl Zq120 ?_; (with_reducible refine (arboretref01_Find.calls k a1_0 _ _ l1_1 _ _ l1_2 (⟨#[114, 97, 110, 103, 101, 115]⟩ : ByteArray) tao _ ?side1 ?side2 ?side3 ?side4 A3.out).mono ?_); (case side1 => repeat (first | exact Zq204 | (with_reducible refine Kd.C_alloc ?_ _) | (with_reducible refine Kd.C_drewN ?_ _) | (with_reducible refine Kd.C_drew ?_))); (case side2 => exact HC1_1.out); (case side3 => repeat (first | exact Zq205 | (with_reducible refine Kd.C_alloc ?_ _) | (with_reducible refine Kd.C_drewN ?_ _) | (with_reducible refine Kd.C_drew ?_))); (case side4 => exact HC1_2.out); rintro e w19 ⟨rfl, hb⟩; refine ⟨_, rfl, ?_⟩; have n0_ := Zq153; have n1_ := Zq249; have n2_ := Ak (below_step Zq33 hb); clear BKbi BKaU HB; have BKbi := n0_; have BKaU := n1_; have HB := n2_; clear n0_ n1_ n2_; (try clear hb); (try clear hb2); (try clear hk); (try clear hi); have hcz20_0 : w19.cell? ⟨gbaU, 0, none⟩ = some (.string a1_0) := (blk_cell BKaU.out 0).trans rfl; have hcz20_1 : w19.cell? ⟨gbaU, 1, none⟩ = some (.slice A1_1 l1_1.length c1_1) := (blk_cell BKaU.out 1).trans rfl; have hcz20_2 : w19.cell? ⟨gbaU, 2, none⟩ = some (.slice A1_2 l1_2.length c1_2) := (blk_cell BKaU.out 2).trans rfl; have hfz20_0 := blk_frozen BKaU.out 0; have hfz20_1 := blk_frozen BKaU.out 1; have hfz20_2 := blk_frozen BKaU.out 2; have p309 : 0 ≤ (tao : Int) := of_decide_eq_true Zq4; have q309 : tao < (l1_1.length : Int) := of_decide_eq_true Zq4; obtain ⟨adci, Aci_1, cci_1, e309, hx309_0, hx309_1, hl309_1, hi309_1⟩ := at_T77 HR1_1.out tao p309 q309; cases e309; replace hx309_0 := (HB.out.cell (World.block_lt_of_cell? w _ hx309_0)).trans hx309_0; replace hx309_1 := (HB.out.cell (World.block_lt_of_cell? w _ hx309_1)).trans hx309_1; have HRci_1 := Ak hi309_1; have HCci_1 := Ak hl309_1; clear hi309_1 hl309_1; replace p309 := eq_true p309; replace q309 := eq_true q309) | ((with_reducible refine gate_callee (f := 45) rfl ?_); refine goesL_ (some 30) rfl rfl Try.func45 Zq2 rfl #[.agg #[.string a1_0, .slice (some adci) l1_1.length c1_1, .slice A1_2 l1_2.length c1_2]] rfl Zq120 ?_; (with_reducible refine (arboretref12_Counts.calls k a1_0 _ _ l1_1 _ _ l1_2 tai tay tfd _ ?side1 ?side2 ?side3 ?side4 A12.out).mono ?_); (case side1 => repeat (first | exact Zq204 | (with_reducible refine Kd.C_alloc ?_ _) | (with_reducible refine Kd.C_drewN ?_ _) | (with_reducible refine Kd.C_drew ?_))); (case side2 => exact HC1_1.out); (case side3 => repeat (first | exact Zq205 | (with_reducible refine Kd.C_alloc ?_ _) | (with_reducible refine Kd.C_drewN ?_ _) | (with_reducible refine Kd.C_drew ?_))); (case side4 => exact HC1_2.out); rintro e w21 ⟨rfl, hb⟩; refine ⟨_, rfl, ?_⟩; have n0_ := Zq153; have n1_ := Zq211; have n2_ := Ak (below_step Zq33 hb); clear BKbi BKaU HB; have BKbi := n0_; have BKaU := n1_; have HB := n2_; clear n0_ n1_ n2_; (try clear hb); (try clear hb2); (try clear hk); (try clear hi); have hcz22_0 : w21.cell? ⟨gbbi, 0, none⟩ = some (.string a0_0) := (blk_cell BKbi.out 0).trans rfl; have hcz22_1 : w21.cell? ⟨gbbi, 1, none⟩ = some (.slice A0_1 l0_1.length c0_1) := (blk_cell BKbi.out 1).trans rfl; have hcz22_2 : w21.cell? ⟨gbbi, 2, none⟩ = some (.slice A0_2 l0_2.length c0_2) := (blk_cell BKbi.out 2).trans rfl; have hfz22_0 := blk_frozen BKbi.out 0; have hfz22_1 := blk_frozen BKbi.out 1; have hfz22_2 := blk_frozen BKbi.out 2) | ((with_reducible refine gate_callee (f := 45) rfl ?_); refine goesL_ (some 36) rfl rfl Try.func45 Zq2 rfl #[.agg #[.string a0_0, .slice A0_1 l0_1.length c0_1, .slice A0_2 l0_2.length c0_2]] rfl Zq120 ?_; (with_reducible refine (arboretref12_Counts.calls k a0_0 _ _ l0_1 _ _ l0_2 tak tgw tfe _ ?side1 ?side2 ?side3 ?side4 A13.out).mono ?_); (case side1 => repeat (first | exact Zq142 | (with_reducible refine Kd.C_alloc ?_ _) | (with_reducible refine Kd.C_drewN ?_ _) | (with_reducible refine Kd.C_drew ?_))); (case side2 => exact HC0_1.out); (case side3 => repeat (first | exact Zq161 | (with_reducible refine Kd.C_alloc ?_ _) | (with_reducible refine Kd.C_drewN ?_ _) | (with_reducible refine Kd.C_drew ?_))); (case side4 => exact HC0_2.out); rintro e w23 ⟨rfl, hb⟩; refine ⟨_, rfl, ?_⟩; have n0_ := Zq153; have n1_ := Zq211; have n2_ := Ak (below_step Zq33 hb); clear BKbi BKaU HB; have BKbi := n0_; have BKaU := n1_; have HB := n2_; clear n0_ n1_ n2_; (try clear hb); (try clear hb2); (try clear hk); (try clear hi)))
    (try simp only [Act.put, List.setIfInBounds_toArray, List.set_cons_zero, List.set_cons_succ])
    go_cut [65] (fun v65 wc => ∃ (kq : Nat) (x65_13 : Bool), v65 = .bool x65_13 ∧ Aside0 (arboretref12_Ranges.j0 kq ((rd_T77 l1_1 tao).f1) tai tay tak x65_13 = some (r1, r2, r3)) ∧ Aside0 (kq ≤ k) ∧ Aside0 (wc.heap[gbbi]? = some (.cells #[.string a0_0, (.slice A0_1 l0_1.length c0_1), (.slice A0_2 l0_2.length c0_2)] 30 (0, 0))) ∧ Aside0 (wc.heap[gbaU]? = some (.cells #[.string a1_0, (.slice (some adci) l1_1.length c1_1), (.slice A1_2 l1_2.length c1_2)] 30 (0, 0))) ∧ Aside0 (Below w.heap.size w wc))
    case first =>
     have H := HC14.out; clear HC14
     by_cases c24 : tfd = true
     ·subst c24
      have H1 : (if tfe = true then (if tai = 0 then (arboretref12_Ranges.j0 k ((rd_T77 l1_1 tao).f1) tai tay tak true) else (if tak = 0 then (arboretref12_Ranges.j0 k ((rd_T77 l1_1 tao).f1) tai tay tak true) else (if (wrap64 (4 * (wrap64 ((wrap64 (tai + tak)) + tay)))) = 0 then (none) else (arboretref12_Ranges.j0 k ((rd_T77 l1_1 tao).f1) tai tay tak (((((rd_T77 l1_1 tao).f1).length : Int) % (wrap64 (4 * (wrap64 ((wrap64 (tai + tak)) + tay))))) != 0))))) else (arboretref12_Ranges.j0 k ((rd_T77 l1_1 tao).f1) tai tay tak true)) = some (r1, r2, r3) := by rw [if_pos rfl] at H; exact H
      clear H; have H := H1; clear H1
      by_cases c25 : tfe = true
      ·subst c25
       have H1 : (if tai = 0 then (arboretref12_Ranges.j0 k ((rd_T77 l1_1 tao).f1) tai tay tak true) else (if tak = 0 then (arboretref12_Ranges.j0 k ((rd_T77 l1_1 tao).f1) tai tay tak true) else (if (wrap64 (4 * (wrap64 ((wrap64 (tai + tak)) + tay)))) = 0 then (none) else (arboretref12_Ranges.j0 k ((rd_T77 l1_1 tao).f1) tai tay tak (((((rd_T77 l1_1 tao).f1).length : Int) % (wrap64 (4 * (wrap64 ((wrap64 (tai + tak)) + tay))))) != 0))))) = some (r1, r2, r3) := by rw [if_pos rfl] at H; exact H
       clear H; have H := H1; clear H1
       by_cases c26 : tai = 0
       ·rw [if_pos c26] at H; have c26b0 : (tai == 0) = true := beq_iff_eq.mpr c26; have c26b1 : (tai != 0) = false := bne_eq_false_iff_eq.mpr c26; clear c26
        (first | rw [c26b0] | (simp only [i64_w, i32_w]; rw [c26b0]) | skip)
        have H' := Ak H; clear H
        go_wp2
        go_meet
        case rel => exact ⟨_, (true), Zq6, H', ⟨Zq19⟩, ⟨Zq36⟩, ⟨Zq51⟩, ⟨Zq33⟩⟩
       ·rw [if_neg c26] at H; have c26b0 : (tai == 0) = false := beq_eq_false_iff_ne.mpr c26; have c26b1 : (tai != 0) = true := bne_iff_ne.mpr c26
        (first | rw [c26b0] | (simp only [i64_w, i32_w]; rw [c26b0]) | skip)
        by_cases c27 : tak = 0
        ·rw [if_pos c27] at H; have c27b0 : (tak == 0) = true := beq_iff_eq.mpr c27; have c27b1 : (tak != 0) = false := bne_eq_false_iff_eq.mpr c27; clear c27; have H' := Ak H; clear H
         go_wp2
         go_meet
         case rel => exact ⟨_, (true), Zq6, H', ⟨Zq19⟩, ⟨Zq36⟩, ⟨Zq51⟩, ⟨Zq33⟩⟩
        ·rw [if_neg c27] at H; have c27b0 : (tak == 0) = false := beq_eq_false_iff_ne.mpr c27; have c27b1 : (tak != 0) = true := bne_iff_ne.mpr c27
         by_cases c28 : (wrap64 (4 * (wrap64 ((wrap64 (tai + tak)) + tay)))) = 0
         ·rw [if_pos c28] at H; exact absurd H Zq9
         ·rw [if_neg c28] at H; have c28b0 : ((wrap64 (4 * (wrap64 ((wrap64 (tai + tak)) + tay)))) == 0) = false := beq_eq_false_iff_ne.mpr c28; have c28b1 : ((wrap64 (4 * (wrap64 ((wrap64 (tai + tak)) + tay)))) != 0) = true := bne_iff_ne.mpr c28; have H' := Ak H; clear H
          go_wp2
          go_meet
          case rel => exact ⟨_, ((((((rd_T77 l1_1 tao).f1).length : Int) % (wrap64 (4 * (wrap64 ((wrap64 (tai + tak)) + tay))))) != 0)), Zq6, H', ⟨Zq19⟩, ⟨Zq36⟩, ⟨Zq51⟩, ⟨Zq33⟩⟩
      ·replace c25 := Bool.eq_false_iff.mpr c25; subst c25
       have H1 : (arboretref12_Ranges.j0 k ((rd_T77 l1_1 tao).f1) tai tay tak true) = some (r1, r2, r3) := by rw [if_neg (show ¬ (false = true) by decide)] at H; exact H
       clear H; have H := H1; clear H1; have H' := Ak H; clear H
       go_wp2
       go_meet
       case rel => exact ⟨_, (true), Zq6, H', ⟨Zq19⟩, ⟨Zq36⟩, ⟨Zq51⟩, ⟨Zq33⟩⟩
     ·replace c24 := Bool.eq_false_iff.mpr c24; subst c24
      have H1 : (arboretref12_Ranges.j0 k ((rd_T77 l1_1 tao).f1) tai tay tak true) = some (r1, r2, r3) := by rw [if_neg (show ¬ (false = true) by decide)] at H; exact H
      clear H; have H := H1; clear H1; have H' := Ak H; clear H
      go_wp2
      go_meet
      case rel => exact ⟨_, (true), Zq6, H', ⟨Zq19⟩, ⟨Zq36⟩, ⟨Zq51⟩, ⟨Zq33⟩⟩
    case rest =>
     clear HC14
     try clear c1
     try clear c2
     try clear p2
     try clear c3
     try clear p3
     try clear q3
     try clear hx3
     try clear c4
     try clear c4b0
     try clear p6
     try clear c7
     try clear c10
     try clear c10b0
     try clear c11
     try clear c11b0
     try clear c17
     try clear c18
     try clear c24
     try clear c25
     try clear c26
     try clear c26b0
     try clear c26b1
     try clear c27
     try clear c27b0
     try clear c27b1
     try clear c28
     try clear c28b0
     try clear c28b1
     try clear hcz18_0
     try clear hcz18_1
     try clear hcz18_2
     try clear hcz20_0
     try clear hcz20_1
     try clear hcz20_2
     try clear hcz22_0
     try clear hcz22_1
     try clear hcz22_2
     try clear hcz8_0
     try clear hcz8_1
     try clear hcz8_2
     try clear hfz18_0
     try clear hfz18_1
     try clear hfz18_2
     try clear hfz20_0
     try clear hfz20_1
     try clear hfz20_2
     try clear hfz22_0
     try clear hfz22_1
     try clear hfz22_2
     try clear hfz8_0
     try clear hfz8_1
     try clear hfz8_2
     try clear hx309_0
     try clear hx309_1
     try clear p309
     try clear q309
     obtain ⟨kq, x65_13, rfl, HA, HJ13, BKbi, BKaU, HB⟩ := hcut
     cases kq with
     | zero => exact absurd HA.out (by simp [arboretref12_Ranges.j0])
     | succ kj13 =>
      have H := HA.out; clear HA; simp only [arboretref12_Ranges.j0] at H
      by_cases c29 : x65_13 = true
      ·subst c29
       have H1 : (some (([] : List (S45)), false, false)) = some (r1, r2, r3) := by rw [if_pos rfl] at H; exact H
       clear H; have H := H1; clear H1; simp only [Option.some.injEq, Prod.mk.injEq] at H; obtain ⟨rfl, rfl, rfl⟩ := H
       go_wp2
       go_ret3
       exact ⟨_, Zq11, Zq38, Zq33⟩
      ·replace c29 := Bool.eq_false_iff.mpr c29; subst c29
       have H1 : (if (((rd_T77 l1_1 tao).f1).length : Int) = 0 then (some ((([(⟨0, 0, 18446744073709551615⟩ : S45)] : List (S45))), true, true)) else (arboretref12_Ranges.l0 kj13 ((rd_T77 l1_1 tao).f1) tai tay tak ([] : List (S45)) 0)) = some (r1, r2, r3) := by rw [if_neg (show ¬ (false = true) by decide)] at H; exact H
       clear H; have H := H1; clear H1
       by_cases c30 : (((rd_T77 l1_1 tao).f1).length : Int) = 0
       ·rw [if_pos c30] at H; have c30b0 : ((((rd_T77 l1_1 tao).f1).length : Int) == 0) = true := beq_iff_eq.mpr c30; have c30b1 : ((((rd_T77 l1_1 tao).f1).length : Int) != 0) = false := bne_eq_false_iff_eq.mpr c30; clear c30
        obtain ⟨yds, hyds⟩ : ∃ y_ : List (S45), y_ = (([(⟨0, 0, 18446744073709551615⟩ : S45)] : List (S45))) := ⟨_, rfl⟩
        replace H : (some (yds, true, true)) = some (r1, r2, r3) := by first | (rw [hyds]; with_reducible exact H) | (have H2_ := (Option.bind_some _ _).symm.trans H; rw [hyds]; with_reducible exact H2_) | (have H2_ := (Option.bind_some _ _).symm.trans H; with_reducible exact H2_) | with_reducible exact H | (rw [hyds]; exact H) | exact H
        have Nyds := Ak hyds; clear hyds; simp only [Option.some.injEq, Prod.mk.injEq] at H; obtain ⟨rfl, rfl, rfl⟩ := H
        go_wp2_with (first | ((with_reducible refine gate_dst (N := 70) rfl ?_); (try (refine gate_guard Zq3 ?_; dsimp only)); refine Kd.R_lit k45 _ 45 ?hg (N := 70) ?hd (xs := ([(⟨0, 0, 18446744073709551615⟩ : S45)] : List (S45))) (inner := [.int .u64 0, .int .u64 0, .int .u64 18446744073709551615]) (ok := fun _ => True) (okp := fun _ => True) ?hr ?hp (fun _ hk => hk) trivial (Below.refl _ _) (Nat.le_refl _) Zq9 ?_; (case hd | hg => rfl); (case hr => first | (go_simp; done) | (go_simp; rfl)); (case hp => exact (Reps.c3 (show Kd.M k45 _ _ _ (⟨0, 0, 18446744073709551615⟩ : S45) [.int .u64 0, .int .u64 0, .int .u64 18446744073709551615] from (k45_mkM _ _ _ (⟨0, 0, 18446744073709551615⟩ : S45) )) (Reps.none _ _))); intro v317 w31 ho32 hb hg_ hnew_; clear hg_ hnew_; (first | rw [← Nyds.out] at ho32 | (simp only [Int.reduceToNat] at ho32; rw [← Nyds.out] at ho32)); have n0_ := Ak (Kd.R_lower ho32 (below_size Zq33)); have n1_ := Zq153; have n2_ := Zq211; have n3_ := Ak (below_step Zq33 hb); clear BKbi BKaU HB; have HOgx := n0_; have BKbi := n1_; have BKaU := n2_; have HB := n3_; clear n0_ n1_ n2_ n3_ hb ho32))
        go_ret3
        exact ⟨_, Zq11, by (with_reducible repeat (first | apply Kd.R_alloc | apply Kd.R_drewN | apply Kd.R_drew)); exact HOgx.out, Zq33⟩
       ·rw [if_neg c30] at H; have c30b0 : ((((rd_T77 l1_1 tao).f1).length : Int) == 0) = false := beq_eq_false_iff_ne.mpr c30; have c30b1 : ((((rd_T77 l1_1 tao).f1).length : Int) != 0) = true := bne_iff_ne.mpr c30
        have c30b2 : ¬ (((rd_T77 l1_1 tao).f1) = []) := fun h_ => c30 (by rw [h_]; rfl)
        have H' := Ak H; clear H
        go_wp2
        go_loopg [15, 16] kj13 (fun kq v15 v16 w' => ∃ (x15_2 : List (S45)) (x16_2 : Int), v16 = .int .i64 x16_2 ∧ Aside0 (arboretref12_Ranges.l0 kq ((rd_T77 l1_1 tao).f1) tai tay tak x15_2 x16_2 = some (r1, r2, r3)) ∧ Aside0 (kq ≤ kj13) ∧ Aside0 (Kd.R k45 45 w' w.heap.size (fun _ => True) v15 x15_2) ∧ Aside0 (w'.heap[gbbi]? = some (.cells #[.string a0_0, (.slice A0_1 l0_1.length c0_1), (.slice A0_2 l0_2.length c0_2)] 30 (0, 0))) ∧ Aside0 (w'.heap[gbaU]? = some (.cells #[.string a1_0, (.slice (some adci) l1_1.length c1_1), (.slice A1_2 l1_2.length c1_2)] 30 (0, 0))) ∧ Aside0 (Below w.heap.size w w'))
        case atStart => exact ⟨(([] : List (S45))), (0), Zq6, H', ⟨Nat.le_refl _⟩, ⟨Zq38⟩, ⟨Zq36⟩, ⟨Zq51⟩, ⟨Zq33⟩⟩
        case round =>
         clear H'
         try clear c1
         try clear c2
         try clear p2
         try clear c3
         try clear p3
         try clear q3
         try clear hx3
         try clear c4
         try clear c4b0
         try clear p6
         try clear c7
         try clear c10
         try clear c10b0
         try clear c11
         try clear c11b0
         try clear c17
         try clear c18
         try clear c24
         try clear c25
         try clear c26
         try clear c26b0
         try clear c26b1
         try clear c27
         try clear c27b0
         try clear c27b1
         try clear c28
         try clear c28b0
         try clear c28b1
         try clear c29
         try clear c30
         try clear c30b0
         try clear c30b1
         try clear c30b2
         try clear p30
         try clear q30
         try clear hx30
         try clear c32
         try clear hcz18_0
         try clear hcz18_1
         try clear hcz18_2
         try clear hcz20_0
         try clear hcz20_1
         try clear hcz20_2
         try clear hcz22_0
         try clear hcz22_1
         try clear hcz22_2
         try clear hcz8_0
         try clear hcz8_1
         try clear hcz8_2
         try clear hfz18_0
         try clear hfz18_1
         try clear hfz18_2
         try clear hfz20_0
         try clear hfz20_1
         try clear hfz20_2
         try clear hfz22_0
         try clear hfz22_1
         try clear hfz22_2
         try clear hfz8_0
         try clear hfz8_1
         try clear hfz8_2
         try clear hx309_0
         try clear hx309_1
         try clear p2
         try clear p3
         try clear p309
         try clear p6
         try clear q3
         try clear q309
         obtain ⟨x15_2, x16_2, rfl, HA, HK2, HO_15, BKbi, BKaU, HB⟩ := hrel
         cases gk with
         | zero => exact absurd HA.out (by simp [arboretref12_Ranges.l0])
         | succ k2 =>
          have H := HA.out; clear HA; simp only [arboretref12_Ranges.l0] at H
          by_cases c33 : x16_2 < (((rd_T77 l1_1 tao).f1).length : Int)
          ·rw [if_pos c33] at H; have c33b0 : decide (x16_2 < (((rd_T77 l1_1 tao).f1).length : Int)) = true := decide_eq_true c33; clear c33
           by_cases c34 : 0 ≤ x16_2
           ·rw [if_pos c34] at H; have c34b0 := eq_true c34; have c34b1 : decide (0 ≤ x16_2) = true := decide_eq_true c34; clear c34
            by_cases c35 : x16_2 ≤ (wrap64 (x16_2 + (wrap64 (4 * (wrap64 ((wrap64 (tai + tak)) + tay))))))
            ·rw [if_pos c35] at H; have c35b0 := eq_true c35; have c35b1 : decide (x16_2 ≤ (wrap64 (x16_2 + (wrap64 (4 * (wrap64 ((wrap64 (tai + tak)) + tay))))))) = true := decide_eq_true c35
             by_cases c36 : (wrap64 (x16_2 + (wrap64 (4 * (wrap64 ((wrap64 (tai + tak)) + tay)))))) ≤ (((rd_T77 l1_1 tao).f1).length : Int)
             ·rw [if_pos c36] at H; have c36b0 := eq_true c36; have c36b1 : decide ((wrap64 (x16_2 + (wrap64 (4 * (wrap64 ((wrap64 (tai + tak)) + tay)))))) ≤ (((rd_T77 l1_1 tao).f1).length : Int)) = true := decide_eq_true c36
              obtain ⟨ji37, hji37⟩ : ∃ j_ : Int, (wrap64 (4 * tai)) = j_ := ⟨_, rfl⟩
              replace H : (if 0 ≤ (ji37) then (if (ji37) ≤ (((((rd_T77 l1_1 tao).f1).take ((wrap64 (x16_2 + (wrap64 (4 * (wrap64 ((wrap64 (tai + tak)) + tay)))))) : Int).toNat).drop (x16_2 : Int).toNat).length : Int) then ((arboretref12_wide.f k2 (((((rd_T77 l1_1 tao).f1).take ((wrap64 (x16_2 + (wrap64 (4 * (wrap64 ((wrap64 (tai + tak)) + tay)))))) : Int).toNat).drop (x16_2 : Int).toNat).take ((ji37) : Int).toNat)).bind fun tcN => (if (ji37) ≤ (wrap64 ((ji37) + (wrap64 (4 * tak)))) then (if (wrap64 ((ji37) + (wrap64 (4 * tak)))) ≤ (((((rd_T77 l1_1 tao).f1).take ((wrap64 (x16_2 + (wrap64 (4 * (wrap64 ((wrap64 (tai + tak)) + tay)))))) : Int).toNat).drop (x16_2 : Int).toNat).length : Int) then ((arboretref12_wide.f k2 ((((((rd_T77 l1_1 tao).f1).take ((wrap64 (x16_2 + (wrap64 (4 * (wrap64 ((wrap64 (tai + tak)) + tay)))))) : Int).toNat).drop (x16_2 : Int).toNat).take ((wrap64 ((ji37) + (wrap64 (4 * tak)))) : Int).toNat).drop ((ji37) : Int).toNat)).bind fun tcI => (if 0 ≤ (wrap64 ((ji37) + (wrap64 (4 * tak)))) then ((arboretref12_wide.f k2 (((((rd_T77 l1_1 tao).f1).take ((wrap64 (x16_2 + (wrap64 (4 * (wrap64 ((wrap64 (tai + tak)) + tay)))))) : Int).toNat).drop (x16_2 : Int).toNat).drop ((wrap64 ((ji37) + (wrap64 (4 * tak)))) : Int).toNat)).bind fun tcz => (if x15_2.length < 5864062014805 then (arboretref12_Ranges.l0 k2 ((rd_T77 l1_1 tao).f1) tai tay tak (x15_2 ++ [(⟨tcN, tcI, tcz⟩ : S45)]) (wrap64 (x16_2 + (wrap64 (4 * (wrap64 ((wrap64 (tai + tak)) + tay))))))) else (none))) else (none))) else (none)) else (none))) else (none)) else (none)) = some (r1, r2, r3) := by first | (rw [hji37] at H; exact H) | (simp only [hji37] at H ⊢; exact H)
              have hji37w : (IntKind.i64.wrap (4 * tai)) = ji37 := (i64_w _).trans hji37
              by_cases c38 : 0 ≤ (ji37)
              ·rw [if_pos c38] at H; have c38b0 := eq_true c38; have c38b1 : decide (0 ≤ (ji37)) = true := decide_eq_true c38; clear c38
               by_cases c39 : (ji37) ≤ (((((rd_T77 l1_1 tao).f1).take ((wrap64 (x16_2 + (wrap64 (4 * (wrap64 ((wrap64 (tai + tak)) + tay)))))) : Int).toNat).drop (x16_2 : Int).toNat).length : Int)
               ·rw [if_pos c39] at H; have c39b0 := eq_true c39; have c39b1 : decide ((ji37) ≤ (((((rd_T77 l1_1 tao).f1).take ((wrap64 (x16_2 + (wrap64 (4 * (wrap64 ((wrap64 (tai + tak)) + tay)))))) : Int).toNat).drop (x16_2 : Int).toNat).length : Int)) = true := decide_eq_true c39; replace H := Option.bind_eq_some_iff.mp H; obtain ⟨tcN, AcO, H⟩ := H; replace H : (if (ji37) ≤ (wrap64 ((ji37) + (wrap64 (4 * tak)))) then (if (wrap64 ((ji37) + (wrap64 (4 * tak)))) ≤ (((((rd_T77 l1_1 tao).f1).take ((wrap64 (x16_2 + (wrap64 (4 * (wrap64 ((wrap64 (tai + tak)) + tay)))))) : Int).toNat).drop (x16_2 : Int).toNat).length : Int) then ((arboretref12_wide.f k2 ((((((rd_T77 l1_1 tao).f1).take ((wrap64 (x16_2 + (wrap64 (4 * (wrap64 ((wrap64 (tai + tak)) + tay)))))) : Int).toNat).drop (x16_2 : Int).toNat).take ((wrap64 ((ji37) + (wrap64 (4 * tak)))) : Int).toNat).drop ((ji37) : Int).toNat)).bind fun tcI => (if 0 ≤ (wrap64 ((ji37) + (wrap64 (4 * tak)))) then ((arboretref12_wide.f k2 (((((rd_T77 l1_1 tao).f1).take ((wrap64 (x16_2 + (wrap64 (4 * (wrap64 ((wrap64 (tai + tak)) + tay)))))) : Int).toNat).drop (x16_2 : Int).toNat).drop ((wrap64 ((ji37) + (wrap64 (4 * tak)))) : Int).toNat)).bind fun tcz => (if x15_2.length < 5864062014805 then (arboretref12_Ranges.l0 k2 ((rd_T77 l1_1 tao).f1) tai tay tak (x15_2 ++ [(⟨tcN, tcI, tcz⟩ : S45)]) (wrap64 (x16_2 + (wrap64 (4 * (wrap64 ((wrap64 (tai + tak)) + tay))))))) else (none))) else (none))) else (none)) else (none)) = some (r1, r2, r3) := H; have A40 := Ak AcO; clear AcO; have c41b0 := eq_true (of_decide_eq_true Zq4 : 0 ≤ (ji37))
                by_cases c42 : (ji37) ≤ (wrap64 ((ji37) + (wrap64 (4 * tak))))
                ·rw [if_pos c42] at H; have c42b0 := eq_true c42; have c42b1 : decide ((ji37) ≤ (wrap64 ((ji37) + (wrap64 (4 * tak))))) = true := decide_eq_true c42
                 by_cases c43 : (wrap64 ((ji37) + (wrap64 (4 * tak)))) ≤ (((((rd_T77 l1_1 tao).f1).take ((wrap64 (x16_2 + (wrap64 (4 * (wrap64 ((wrap64 (tai + tak)) + tay)))))) : Int).toNat).drop (x16_2 : Int).toNat).length : Int)
                 ·rw [if_pos c43] at H; have c43b0 := eq_true c43; have c43b1 : decide ((wrap64 ((ji37) + (wrap64 (4 * tak)))) ≤ (((((rd_T77 l1_1 tao).f1).take ((wrap64 (x16_2 + (wrap64 (4 * (wrap64 ((wrap64 (tai + tak)) + tay)))))) : Int).toNat).drop (x16_2 : Int).toNat).length : Int)) = true := decide_eq_true c43; replace H := Option.bind_eq_some_iff.mp H; obtain ⟨tcI, AfT, H⟩ := H; replace H : (if 0 ≤ (wrap64 ((ji37) + (wrap64 (4 * tak)))) then ((arboretref12_wide.f k2 (((((rd_T77 l1_1 tao).f1).take ((wrap64 (x16_2 + (wrap64 (4 * (wrap64 ((wrap64 (tai + tak)) + tay)))))) : Int).toNat).drop (x16_2 : Int).toNat).drop ((wrap64 ((ji37) + (wrap64 (4 * tak)))) : Int).toNat)).bind fun tcz => (if x15_2.length < 5864062014805 then (arboretref12_Ranges.l0 k2 ((rd_T77 l1_1 tao).f1) tai tay tak (x15_2 ++ [(⟨tcN, tcI, tcz⟩ : S45)]) (wrap64 (x16_2 + (wrap64 (4 * (wrap64 ((wrap64 (tai + tak)) + tay))))))) else (none))) else (none)) = some (r1, r2, r3) := H; have A44 := Ak AfT; clear AfT
                  obtain ⟨ji45, hji45⟩ : ∃ j_ : Int, (wrap64 ((ji37) + (wrap64 (4 * tak)))) = j_ := ⟨_, rfl⟩
                  replace H : (if 0 ≤ (ji45) then ((arboretref12_wide.f k2 (((((rd_T77 l1_1 tao).f1).take ((wrap64 (x16_2 + (wrap64 (4 * (wrap64 ((wrap64 (tai + tak)) + tay)))))) : Int).toNat).drop (x16_2 : Int).toNat).drop ((ji45) : Int).toNat)).bind fun tcz => (if x15_2.length < 5864062014805 then (arboretref12_Ranges.l0 k2 ((rd_T77 l1_1 tao).f1) tai tay tak (x15_2 ++ [(⟨tcN, tcI, tcz⟩ : S45)]) (wrap64 (x16_2 + (wrap64 (4 * (wrap64 ((wrap64 (tai + tak)) + tay))))))) else (none))) else (none)) = some (r1, r2, r3) := by first | (rw [hji45] at H; exact H) | (simp only [hji45] at H ⊢; exact H)
                  (try rw [hji45] at c42b0)
                  (try rw [hji45] at c42b1)
                  (try rw [hji45] at c42)
                  (try rw [hji45] at c43b0)
                  (try rw [hji45] at c43b1)
                  (try rw [hji45] at c43)
                  (try rw [hji45] at A40)
                  (try rw [hji45] at A44)
                  have hji45w : (IntKind.i64.wrap ((ji37) + (wrap64 (4 * tak)))) = ji45 := (i64_w _).trans hji45
                  by_cases c46 : 0 ≤ (ji45)
                  ·rw [if_pos c46] at H; have c46b0 := eq_true c46; have c46b1 : decide (0 ≤ (ji45)) = true := decide_eq_true c46; clear c46; have c47b0 := eq_true (of_decide_eq_true Zq4 : (ji45) ≤ (((((rd_T77 l1_1 tao).f1).take ((wrap64 (x16_2 + (wrap64 (4 * (wrap64 ((wrap64 (tai + tak)) + tay)))))) : Int).toNat).drop (x16_2 : Int).toNat).length : Int)); replace H := Option.bind_eq_some_iff.mp H; obtain ⟨tcz, AfU, H⟩ := H; replace H : (if x15_2.length < 5864062014805 then (arboretref12_Ranges.l0 k2 ((rd_T77 l1_1 tao).f1) tai tay tak (x15_2 ++ [(⟨tcN, tcI, tcz⟩ : S45)]) (wrap64 (x16_2 + (wrap64 (4 * (wrap64 ((wrap64 (tai + tak)) + tay))))))) else (none)) = some (r1, r2, r3) := H; have A48 := Ak AfU; clear AfU
                   by_cases c49 : x15_2.length < 5864062014805
                   ·rw [if_pos c49] at H; have LMc49 := Ak c49; clear c49
                    obtain ⟨ydt, hydt⟩ : ∃ y_ : List (S45), y_ = (x15_2 ++ [(⟨tcN, tcI, tcz⟩ : S45)]) := ⟨_, rfl⟩
                    replace H : (arboretref12_Ranges.l0 k2 ((rd_T77 l1_1 tao).f1) tai tay tak ydt (wrap64 (x16_2 + (wrap64 (4 * (wrap64 ((wrap64 (tai + tak)) + tay))))))) = some (r1, r2, r3) := by first | (rw [hydt]; with_reducible exact H) | (have H2_ := (Option.bind_some _ _).symm.trans H; rw [hydt]; with_reducible exact H2_) | (have H2_ := (Option.bind_some _ _).symm.trans H; with_reducible exact H2_) | with_reducible exact H | (rw [hydt]; exact H) | exact H
                    have Nydt := Ak hydt; clear hydt; have H' := Ak H; clear H; obtain ⟨i050, hi050, _, hsz50, _⟩ := info_parts info5; obtain ⟨A50, hcut50, hA50, hC50⟩ := print_mid_of (P := Try.prog) (Value.int .u8) 0 72 5 .i64 .i64 Try.underlying72 hi050 hsz50 Aci_1 cci_1 ((rd_T77 l1_1 tao).f1) x16_2 (wrap64 (x16_2 + (wrap64 (4 * (wrap64 ((wrap64 (tai + tak)) + tay)))))) (of_decide_eq_true Zq4) (by first | omega | exact of_decide_eq_true Zq4) (of_decide_eq_true Zq4) HCci_1.out; have HReh := Ak (Kd.C_of_reads (h1 := fun _ => rfl) (hA50 _ (Kd.reads_of_C HRci_1.out))); have HCeh := Ak hC50; clear hA50 hC50 hi050 hsz50
                    try go_wp2
                    have n0_ := Ak (Kd.R_drew HO_15.out); have n1_ := Ak (blk_drew BKbi.out); have n2_ := Ak (blk_drew BKaU.out); have n3_ := Zq178; clear HO_15 BKbi BKaU HB; have HO_15 := n0_; have BKbi := n1_; have BKaU := n2_; have HB := n3_; clear n0_ n1_ n2_ n3_; obtain ⟨i052, hi052, _, hsz52, _⟩ := info_parts info5; obtain ⟨hcut52, hA52, hC52⟩ := print_take_of (P := Try.prog) (Value.int .u8) 0 72 5 .i64 Try.underlying72 hi052 hsz52 A50 (cci_1 - x16_2.toNat) ((((rd_T77 l1_1 tao).f1).take ((wrap64 (x16_2 + (wrap64 (4 * (wrap64 ((wrap64 (tai + tak)) + tay)))))) : Int).toNat).drop (x16_2 : Int).toNat) (ji37) (of_decide_eq_true Zq4) (of_decide_eq_true Zq4) HCeh.out
                    have hlen52 : (((((rd_T77 l1_1 tao).f1).take ((wrap64 (x16_2 + (wrap64 (4 * (wrap64 ((wrap64 (tai + tak)) + tay)))))) : Int).toNat).drop (x16_2 : Int).toNat)).length = ((wrap64 (x16_2 + (wrap64 (4 * (wrap64 ((wrap64 (tai + tak)) + tay)))))) : Int).toNat - (x16_2 : Int).toNat := (by have q_ : (wrap64 (x16_2 + (wrap64 (4 * (wrap64 ((wrap64 (tai + tak)) + tay)))))) ≤ (((rd_T77 l1_1 tao).f1).length : Int) := of_decide_eq_true Zq4; simp only [List.length_drop, List.length_take]; omega)
                    have hlr52 : ((((((rd_T77 l1_1 tao).f1).take ((wrap64 (x16_2 + (wrap64 (4 * (wrap64 ((wrap64 (tai + tak)) + tay)))))) : Int).toNat).drop (x16_2 : Int).toNat)).take ((ji37) : Int).toNat).length = ((ji37) : Int).toNat := (by have q_ : (ji37) ≤ ((((((rd_T77 l1_1 tao).f1).take ((wrap64 (x16_2 + (wrap64 (4 * (wrap64 ((wrap64 (tai + tak)) + tay)))))) : Int).toNat).drop (x16_2 : Int).toNat)).length : Int) := of_decide_eq_true Zq4; have q2_ := hlen52; simp only [List.length_drop, List.length_take] at q_ q2_ ⊢; omega)
                    rw [hlen52, hlr52] at hcut52; have HRff := Ak (Kd.C_of_reads (h1 := fun _ => rfl) (hA52 _ (Kd.reads_of_C HReh.out))); have HCff := Ak hC52; clear hA52 hC52 hi052 hsz52; obtain ⟨i053, hi053, _, hsz53, _⟩ := info_parts info5; obtain ⟨A53, hcut53, hA53, hC53⟩ := print_mid_of (P := Try.prog) (Value.int .u8) 0 72 5 .i64 .i64 Try.underlying72 hi053 hsz53 A50 (cci_1 - x16_2.toNat) ((((rd_T77 l1_1 tao).f1).take ((wrap64 (x16_2 + (wrap64 (4 * (wrap64 ((wrap64 (tai + tak)) + tay)))))) : Int).toNat).drop (x16_2 : Int).toNat) (ji37) (ji45) (of_decide_eq_true Zq4) (by first | omega | exact of_decide_eq_true Zq4) (of_decide_eq_true Zq4) HCeh.out
                    have hlen53 : (((((rd_T77 l1_1 tao).f1).take ((wrap64 (x16_2 + (wrap64 (4 * (wrap64 ((wrap64 (tai + tak)) + tay)))))) : Int).toNat).drop (x16_2 : Int).toNat)).length = ((wrap64 (x16_2 + (wrap64 (4 * (wrap64 ((wrap64 (tai + tak)) + tay)))))) : Int).toNat - (x16_2 : Int).toNat := (by have q_ : (wrap64 (x16_2 + (wrap64 (4 * (wrap64 ((wrap64 (tai + tak)) + tay)))))) ≤ (((rd_T77 l1_1 tao).f1).length : Int) := of_decide_eq_true Zq4; simp only [List.length_drop, List.length_take]; omega)
                    have hlr53 : (((((((rd_T77 l1_1 tao).f1).take ((wrap64 (x16_2 + (wrap64 (4 * (wrap64 ((wrap64 (tai + tak)) + tay)))))) : Int).toNat).drop (x16_2 : Int).toNat)).take ((ji45) : Int).toNat).drop ((ji37) : Int).toNat).length = ((ji45) : Int).toNat - ((ji37) : Int).toNat := (by have q_ : (ji45) ≤ ((((((rd_T77 l1_1 tao).f1).take ((wrap64 (x16_2 + (wrap64 (4 * (wrap64 ((wrap64 (tai + tak)) + tay)))))) : Int).toNat).drop (x16_2 : Int).toNat)).length : Int) := of_decide_eq_true Zq4; have q2_ := hlen53; simp only [List.length_drop, List.length_take] at q_ q2_ ⊢; omega)
                    rw [hlen53, hlr53] at hcut53; have HRfg := Ak (Kd.C_of_reads (h1 := fun _ => rfl) (hA53 _ (Kd.reads_of_C HReh.out))); have HCfg := Ak hC53; clear hA53 hC53 hi053 hsz53; obtain ⟨i054, hi054, _, hsz54, _⟩ := info_parts info5; obtain ⟨A54, hcut54, hA54, hC54⟩ := print_drop_of (P := Try.prog) (Value.int .u8) 0 72 5 .i64 Try.underlying72 hi054 hsz54 A50 (cci_1 - x16_2.toNat) ((((rd_T77 l1_1 tao).f1).take ((wrap64 (x16_2 + (wrap64 (4 * (wrap64 ((wrap64 (tai + tak)) + tay)))))) : Int).toNat).drop (x16_2 : Int).toNat) (ji45) (of_decide_eq_true Zq4) (of_decide_eq_true Zq4) HCeh.out
                    have hlen54 : (((((rd_T77 l1_1 tao).f1).take ((wrap64 (x16_2 + (wrap64 (4 * (wrap64 ((wrap64 (tai + tak)) + tay)))))) : Int).toNat).drop (x16_2 : Int).toNat)).length = ((wrap64 (x16_2 + (wrap64 (4 * (wrap64 ((wrap64 (tai + tak)) + tay)))))) : Int).toNat - (x16_2 : Int).toNat := (by have q_ : (wrap64 (x16_2 + (wrap64 (4 * (wrap64 ((wrap64 (tai + tak)) + tay)))))) ≤ (((rd_T77 l1_1 tao).f1).length : Int) := of_decide_eq_true Zq4; simp only [List.length_drop, List.length_take]; omega)
                    have hlr54 : ((((((rd_T77 l1_1 tao).f1).take ((wrap64 (x16_2 + (wrap64 (4 * (wrap64 ((wrap64 (tai + tak)) + tay)))))) : Int).toNat).drop (x16_2 : Int).toNat)).drop ((ji45) : Int).toNat).length = ((wrap64 (x16_2 + (wrap64 (4 * (wrap64 ((wrap64 (tai + tak)) + tay)))))) : Int).toNat - (x16_2 : Int).toNat - ((ji45) : Int).toNat := (by have q_ : (ji45) ≤ ((((((rd_T77 l1_1 tao).f1).take ((wrap64 (x16_2 + (wrap64 (4 * (wrap64 ((wrap64 (tai + tak)) + tay)))))) : Int).toNat).drop (x16_2 : Int).toNat)).length : Int) := of_decide_eq_true Zq4; have q2_ := hlen54; simp only [List.length_drop, List.length_take] at q_ q2_ ⊢; omega)
                    rw [hlen54, hlr54] at hcut54; have HRfh := Ak (Kd.C_of_reads (h1 := fun _ => rfl) (hA54 _ (Kd.reads_of_C HReh.out))); have HCfh := Ak hC54; clear hA54 hC54 hi054 hsz54; refine start_ (n := 28) (S := fun w' => True) (ds := []) #[false, false, false, false, false, false, false, false, false, false, false, false, false, false, false, false, false, false, false, false, false, false, false, false, false, false, false, false] Zq2 rfl rfl trivial (fun hHeld => ?_); refine with_tabW arboretref12_Ranges.tab16 arboretref12_Ranges.bits16 (fun HT_ HW_ => ?_); generalize wr.drew = w51 at HO_15 BKbi BKaU HB HRff HRfg HRfh hHeld ⊢; refine pure_ (i := 0) (N := some 94) (v := ?_) (a' := ?_) #[true, false, false, false, false, false, false, false, false, false, false, false, false, false, false, false, false, false, false, false, false, false, false, false, false, false, false, false] rfl rfl (any_of HT_.out Zq2) (fun _ _ _ h => h) (Or.inl ⟨Zq3, ?_⟩) ?_ ?_
                    rotate_left
                    ·intro w'
                     go_simp
                     with_reducible rfl
                    rotate_left
                    ·simp only [Sx]
                     rfl
                    refine pure_ (i := 1) (N := some 95) (v := ?_) (a' := ?_) #[true, true, false, false, false, false, false, false, false, false, false, false, false, false, false, false, false, false, false, false, false, false, false, false, false, false, false, false] rfl rfl (any_of HT_.out Zq2) (fun _ _ _ h => h) (Or.inl ⟨Zq3, ?_⟩) ?_ ?_
                    rotate_left
                    ·intro w'
                     go_simp
                     with_reducible rfl
                    rotate_left
                    ·simp only [Sx]
                     rfl
                    refine pure_ (i := 2) (N := some 96) (v := ?_) (a' := ?_) #[true, true, true, false, false, false, false, false, false, false, false, false, false, false, false, false, false, false, false, false, false, false, false, false, false, false, false, false] rfl rfl (any_of HT_.out Zq2) (fun _ _ _ h => h) (Or.inl ⟨Zq3, ?_⟩) ?_ ?_
                    rotate_left
                    ·intro w'
                     go_simp
                     with_reducible rfl
                    rotate_left
                    ·simp only [Sx]
                     rfl
                    refine pure_ (i := 3) (N := some 97) (v := ?_) (a' := ?_) #[true, true, true, true, false, false, false, false, false, false, false, false, false, false, false, false, false, false, false, false, false, false, false, false, false, false, false, false] rfl rfl (any_of HT_.out Zq2) (fun _ _ _ h => h) (Or.inl ⟨Zq3, ?_⟩) ?_ ?_
                    rotate_left
                    ·intro w'
                     go_simp
                     with_reducible rfl
                    rotate_left
                    ·simp only [Sx]
                     rfl
                    refine pure_ (i := 4) (N := some 98) (v := ?_) (a' := ?_) #[true, true, true, true, true, false, false, false, false, false, false, false, false, false, false, false, false, false, false, false, false, false, false, false, false, false, false, false] rfl rfl (any_of HT_.out Zq2) (fun _ _ _ h => h) (Or.inl ⟨Zq3, ?_⟩) ?_ ?_
                    rotate_left
                    ·intro w'
                     go_simp
                     with_reducible rfl
                    rotate_left
                    ·simp only [Sx]
                     rfl
                    refine pure_ (i := 6) (N := some 100) (v := ?_) (a' := ?_) #[true, true, true, true, true, false, true, false, false, false, false, false, false, false, false, false, false, false, false, false, false, false, false, false, false, false, false, false] rfl rfl (any_of HT_.out Zq2) (fun _ _ _ h => h) (Or.inl ⟨Zq3, ?_⟩) ?_ ?_
                    rotate_left
                    ·intro w'
                     go_simp
                     with_reducible rfl
                    rotate_left
                    ·simp only [Sx]
                     rfl
                    refine pure_ (i := 7) (N := some 101) (v := ?_) (a' := ?_) #[true, true, true, true, true, false, true, true, false, false, false, false, false, false, false, false, false, false, false, false, false, false, false, false, false, false, false, false] rfl rfl (any_of HT_.out Zq2) (fun _ _ _ h => h) (Or.inl ⟨Zq3, ?_⟩) ?_ ?_
                    rotate_left
                    ·intro w'
                     go_simp
                     with_reducible rfl
                    rotate_left
                    ·simp only [Sx]
                     rfl
                    refine pure_ (i := 8) (N := some 102) (v := ?_) (a' := ?_) #[true, true, true, true, true, false, true, true, true, false, false, false, false, false, false, false, false, false, false, false, false, false, false, false, false, false, false, false] rfl rfl (any_of HT_.out Zq2) (fun _ _ _ h => h) (Or.inl ⟨Zq3, ?_⟩) ?_ ?_
                    rotate_left
                    ·intro w'
                     go_simp
                     with_reducible rfl
                    rotate_left
                    ·simp only [Sx]
                     rfl
                    refine pure_ (i := 9) (N := some 103) (v := ?_) (a' := ?_) #[true, true, true, true, true, false, true, true, true, true, false, false, false, false, false, false, false, false, false, false, false, false, false, false, false, false, false, false] rfl rfl (any_of HT_.out Zq2) (fun _ _ _ h => h) (Or.inl ⟨Zq3, ?_⟩) ?_ ?_
                    rotate_left
                    ·intro w'
                     go_simp
                     with_reducible rfl
                    rotate_left
                    ·simp only [Sx]
                     rfl
                    refine pure_ (i := 10) (N := some 104) (v := ?_) (a' := ?_) #[true, true, true, true, true, false, true, true, true, true, true, false, false, false, false, false, false, false, false, false, false, false, false, false, false, false, false, false] rfl rfl (any_of HT_.out Zq2) (fun _ _ _ h => h) (Or.inl ⟨Zq3, ?_⟩) ?_ ?_
                    rotate_left
                    ·intro w'
                     go_simp
                     with_reducible rfl
                    rotate_left
                    ·simp only [Sx]
                     rfl
                    refine pure_ (i := 11) (N := some 105) (v := ?_) (a' := ?_) #[true, true, true, true, true, false, true, true, true, true, true, true, false, false, false, false, false, false, false, false, false, false, false, false, false, false, false, false] rfl rfl (any_of HT_.out Zq2) (fun _ _ _ h => h) (Or.inl ⟨Zq3, ?_⟩) ?_ ?_
                    rotate_left
                    ·intro w'
                     go_simp
                     with_reducible rfl
                    rotate_left
                    ·simp only [Sx]
                     rfl
                    refine pure_ (i := 12) (N := some 106) (v := ?_) (a' := ?_) #[true, true, true, true, true, false, true, true, true, true, true, true, true, false, false, false, false, false, false, false, false, false, false, false, false, false, false, false] rfl rfl (any_of HT_.out Zq2) (fun _ _ _ h => h) (Or.inl ⟨Zq3, ?_⟩) ?_ ?_
                    rotate_left
                    ·intro w'
                     go_simp
                     with_reducible rfl
                    rotate_left
                    ·simp only [Sx]
                     rfl
                    refine pure_ (i := 13) (N := some 107) (v := ?_) (a' := ?_) #[true, true, true, true, true, false, true, true, true, true, true, true, true, true, false, false, false, false, false, false, false, false, false, false, false, false, false, false] rfl rfl (any_of HT_.out Zq2) (fun _ _ _ h => h) (Or.inl ⟨Zq3, ?_⟩) ?_ ?_
                    rotate_left
                    ·intro w'
                     go_simp
                     with_reducible rfl
                    rotate_left
                    ·simp only [Sx]
                     rfl
                    refine pure_ (i := 14) (N := some 108) (v := ?_) (a' := ?_) #[true, true, true, true, true, false, true, true, true, true, true, true, true, true, true, false, false, false, false, false, false, false, false, false, false, false, false, false] rfl rfl (any_of HT_.out Zq2) (fun _ _ _ h => h) (Or.inl ⟨Zq3, ?_⟩) ?_ ?_
                    rotate_left
                    ·intro w'
                     go_simp
                     with_reducible rfl
                    rotate_left
                    ·simp only [Sx]
                     rfl
                    refine pure_ (i := 16) (N := some 110) (v := ?_) (a' := ?_) #[true, true, true, true, true, false, true, true, true, true, true, true, true, true, true, false, true, false, false, false, false, false, false, false, false, false, false, false] rfl rfl (any_of HT_.out Zq2) (fun _ _ _ h => h) (Or.inl ⟨Zq3, ?_⟩) ?_ ?_
                    rotate_left
                    ·intro w'
                     go_simp
                     with_reducible rfl
                    rotate_left
                    ·simp only [Sx]
                     rfl
                    refine pure_ (i := 17) (N := some 111) (v := ?_) (a' := ?_) #[true, true, true, true, true, false, true, true, true, true, true, true, true, true, true, false, true, true, false, false, false, false, false, false, false, false, false, false] rfl rfl (any_of HT_.out Zq2) (fun _ _ _ h => h) (Or.inl ⟨Zq3, ?_⟩) ?_ ?_
                    rotate_left
                    ·intro w'
                     go_simp
                     with_reducible rfl
                    rotate_left
                    ·simp only [Sx]
                     rfl
                    refine pure_ (i := 18) (N := some 112) (v := ?_) (a' := ?_) #[true, true, true, true, true, false, true, true, true, true, true, true, true, true, true, false, true, true, true, false, false, false, false, false, false, false, false, false] rfl rfl (any_of HT_.out Zq2) (fun _ _ _ h => h) (Or.inl ⟨Zq3, ?_⟩) ?_ ?_
                    rotate_left
                    ·intro w'
                     go_simp
                     with_reducible rfl
                    rotate_left
                    ·simp only [Sx]
                     rfl
                    refine pure_ (i := 19) (N := some 113) (v := ?_) (a' := ?_) #[true, true, true, true, true, false, true, true, true, true, true, true, true, true, true, false, true, true, true, true, false, false, false, false, false, false, false, false] rfl rfl (any_of HT_.out Zq2) (fun _ _ _ h => h) (Or.inl ⟨Zq3, ?_⟩) ?_ ?_
                    rotate_left
                    ·intro w'
                     go_simp
                     with_reducible rfl
                    rotate_left
                    ·simp only [Sx]
                     rfl
                    refine pure_ (i := 20) (N := some 114) (v := ?_) (a' := ?_) #[true, true, true, true, true, false, true, true, true, true, true, true, true, true, true, false, true, true, true, true, true, false, false, false, false, false, false, false] rfl rfl (any_of HT_.out Zq2) (fun _ _ _ h => h) (Or.inl ⟨Zq3, ?_⟩) ?_ ?_
                    rotate_left
                    ·intro w'
                     go_simp
                     with_reducible rfl
                    rotate_left
                    ·simp only [Sx]
                     rfl
                    refine pure_ (i := 21) (N := some 115) (v := ?_) (a' := ?_) #[true, true, true, true, true, false, true, true, true, true, true, true, true, true, true, false, true, true, true, true, true, true, false, false, false, false, false, false] rfl rfl (any_of HT_.out Zq2) (fun _ _ _ h => h) (Or.inl ⟨Zq3, ?_⟩) ?_ ?_
                    rotate_left
                    ·intro w'
                     go_simp
                     with_reducible rfl
                    rotate_left
                    ·simp only [Sx]
                     rfl
                    refine pure_ (i := 22) (N := some 116) (v := ?_) (a' := ?_) #[true, true, true, true, true, false, true, true, true, true, true, true, true, true, true, false, true, true, true, true, true, true, true, false, false, false, false, false] rfl rfl (any_of HT_.out Zq2) (fun _ _ _ h => h) (Or.inl ⟨Zq3, ?_⟩) ?_ ?_
                    rotate_left
                    ·intro w'
                     go_simp
                     with_reducible rfl
                    rotate_left
                    ·simp only [Sx]
                     rfl
                    refine one_ (i := 5) (N := some 99) #[true, true, true, true, true, true, true, true, true, true, true, true, true, true, true, false, true, true, true, true, true, true, true, false, false, false, false, false] rfl rfl (one_of HT_.out Zq2) Zq7 (fun K hK => ?_); refine goes_ Try.func46 Zq2 rfl #[.slice A50 (((((rd_T77 l1_1 tao).f1).take ((wrap64 (x16_2 + (wrap64 (4 * (wrap64 ((wrap64 (tai + tak)) + tay)))))) : Int).toNat).drop (x16_2 : Int).toNat).take ((ji37) : Int).toNat).length (cci_1 - x16_2.toNat)] Zq3 rfl rfl (by (try simp only [List.map_toArray, List.map_cons, List.map_nil]); first | done | (rw [hlr52]; rfl) | (rw [hlr53]; rfl) | (rw [hlr54]; rfl) | (rw [show (((((rd_T77 l1_1 tao).f1).take ((wrap64 (x16_2 + (wrap64 (4 * (wrap64 ((wrap64 (tai + tak)) + tay)))))) : Int).toNat).drop (x16_2 : Int).toNat).take ((ji37) : Int).toNat).length = (ji37).toNat from (by rw [List.length_take]; have h_ : ((ji37) : Int) ≤ (((((rd_T77 l1_1 tao).f1).take ((wrap64 (x16_2 + (wrap64 (4 * (wrap64 ((wrap64 (tai + tak)) + tay)))))) : Int).toNat).drop (x16_2 : Int).toNat).length : Int) := of_decide_eq_true Zq4; omega)] <;> rfl) | (simp only [hji37]; rfl) | rfl | (simp only [List.length_drop, List.length_take]; rfl)) ?_; with_reducible refine (arboretref12_wide.calls k2 _ _ (((((rd_T77 l1_1 tao).f1).take ((wrap64 (x16_2 + (wrap64 (4 * (wrap64 ((wrap64 (tai + tak)) + tay)))))) : Int).toNat).drop (x16_2 : Int).toNat).take ((ji37) : Int).toNat) tcN _ ?side1 ?side2 A40.out).mono ?_
                    (case side1 => repeat (first | exact (Kd.C_below HRff.out HB.out) | (with_reducible refine Kd.C_alloc ?_ _) | (with_reducible refine Kd.C_drewN ?_ _) | (with_reducible refine Kd.C_drew ?_)))
                    (case side2 => exact HCff.out)
                    rintro e w' ⟨rfl, ⟨nd, rfl⟩⟩
                    refine ⟨_, rfl, ?_⟩; refine hK.out _ _ trivial (fun hHeld => ?_); clear hK K; refine norm_ (a' := ?_) ?_ ?_
                    rotate_left
                    ·show Act.put _ (some 99) _ = _
                     simp only [Sx]
                     rfl
                    refine one_ (i := 15) (N := some 109) #[true, true, true, true, true, true, true, true, true, true, true, true, true, true, true, true, true, true, true, true, true, true, true, false, false, false, false, false] rfl rfl (one_of HT_.out Zq2) Zq7 (fun K hK => ?_); refine goes_ Try.func46 Zq2 rfl #[.slice A53 ((((((rd_T77 l1_1 tao).f1).take ((wrap64 (x16_2 + (wrap64 (4 * (wrap64 ((wrap64 (tai + tak)) + tay)))))) : Int).toNat).drop (x16_2 : Int).toNat).take ((ji45) : Int).toNat).drop ((ji37) : Int).toNat).length ((cci_1 - x16_2.toNat) - (ji37).toNat)] Zq3 rfl rfl (by (try simp only [List.map_toArray, List.map_cons, List.map_nil]); first | done | (rw [hlr52]; rfl) | (rw [hlr53]; rfl) | (rw [hlr54]; rfl) | (rw [show ((((((rd_T77 l1_1 tao).f1).take ((wrap64 (x16_2 + (wrap64 (4 * (wrap64 ((wrap64 (tai + tak)) + tay)))))) : Int).toNat).drop (x16_2 : Int).toNat).take ((ji45) : Int).toNat).drop ((ji37) : Int).toNat).length = ((ji45).toNat - (ji37).toNat) from (by rw [List.length_drop, List.length_take]; have h_ : ((ji45) : Int) ≤ (((((rd_T77 l1_1 tao).f1).take ((wrap64 (x16_2 + (wrap64 (4 * (wrap64 ((wrap64 (tai + tak)) + tay)))))) : Int).toNat).drop (x16_2 : Int).toNat).length : Int) := of_decide_eq_true Zq4; omega)] <;> rfl) | (simp only [hji37, hji45]; rfl) | rfl | (simp only [List.length_drop, List.length_take]; rfl)) ?_; with_reducible refine (arboretref12_wide.calls k2 _ _ ((((((rd_T77 l1_1 tao).f1).take ((wrap64 (x16_2 + (wrap64 (4 * (wrap64 ((wrap64 (tai + tak)) + tay)))))) : Int).toNat).drop (x16_2 : Int).toNat).take ((ji45) : Int).toNat).drop ((ji37) : Int).toNat) tcI _ ?side1 ?side2 A44.out).mono ?_
                    (case side1 => repeat (first | exact (Kd.C_below HRfg.out Zq33) | (with_reducible refine Kd.C_alloc ?_ _) | (with_reducible refine Kd.C_drewN ?_ _) | (with_reducible refine Kd.C_drew ?_)))
                    (case side2 => exact HCfg.out)
                    rintro e w' ⟨rfl, ⟨nd, rfl⟩⟩
                    refine ⟨_, rfl, ?_⟩; refine hK.out _ _ trivial (fun hHeld => ?_); clear hK K; refine norm_ (a' := ?_) ?_ ?_
                    rotate_left
                    ·show Act.put _ (some 109) _ = _
                     simp only [Sx]
                     rfl
                    refine one_ (i := 23) (N := some 117) #[true, true, true, true, true, true, true, true, true, true, true, true, true, true, true, true, true, true, true, true, true, true, true, true, false, false, false, false] rfl rfl (one_of HT_.out Zq2) Zq7 (fun K hK => ?_); refine goes_ Try.func46 Zq2 rfl #[.slice A54 (((((rd_T77 l1_1 tao).f1).take ((wrap64 (x16_2 + (wrap64 (4 * (wrap64 ((wrap64 (tai + tak)) + tay)))))) : Int).toNat).drop (x16_2 : Int).toNat).drop ((ji45) : Int).toNat).length ((cci_1 - x16_2.toNat) - (ji45).toNat)] Zq3 rfl rfl (by (try simp only [List.map_toArray, List.map_cons, List.map_nil]); first | done | (rw [hlr52]; rfl) | (rw [hlr53]; rfl) | (rw [hlr54]; rfl) | (rw [show (((((rd_T77 l1_1 tao).f1).take ((wrap64 (x16_2 + (wrap64 (4 * (wrap64 ((wrap64 (tai + tak)) + tay)))))) : Int).toNat).drop (x16_2 : Int).toNat).drop ((ji45) : Int).toNat).length = (((((rd_T77 l1_1 tao).f1).take ((wrap64 (x16_2 + (wrap64 (4 * (wrap64 ((wrap64 (tai + tak)) + tay)))))) : Int).toNat).drop (x16_2 : Int).toNat).length - (ji45).toNat) from List.length_drop] <;> rfl) | (simp only [hji45]; rfl) | rfl | (simp only [List.length_drop, List.length_take]; rfl)) ?_; with_reducible refine (arboretref12_wide.calls k2 _ _ (((((rd_T77 l1_1 tao).f1).take ((wrap64 (x16_2 + (wrap64 (4 * (wrap64 ((wrap64 (tai + tak)) + tay)))))) : Int).toNat).drop (x16_2 : Int).toNat).drop ((ji45) : Int).toNat) tcz _ ?side1 ?side2 A48.out).mono ?_
                    (case side1 => repeat (first | exact (Kd.C_below HRfh.out Zq33) | (with_reducible refine Kd.C_alloc ?_ _) | (with_reducible refine Kd.C_drewN ?_ _) | (with_reducible refine Kd.C_drew ?_)))
                    (case side2 => exact HCfh.out)
                    rintro e w' ⟨rfl, ⟨nd, rfl⟩⟩
                    refine ⟨_, rfl, ?_⟩; refine hK.out _ _ trivial (fun hHeld => ?_); clear hK K; refine norm_ (a' := ?_) ?_ ?_
                    rotate_left
                    ·show Act.put _ (some 117) _ = _
                     simp only [Sx]
                     rfl
                    refine pure_ (i := 24) (N := some 118) (v := ?_) (a' := ?_) #[true, true, true, true, true, true, true, true, true, true, true, true, true, true, true, true, true, true, true, true, true, true, true, true, true, false, false, false] rfl rfl (any_of HT_.out Zq2) (fun _ _ _ h => h) (Or.inl ⟨Zq3, ?_⟩) ?_ ?_
                    rotate_left
                    ·intro w'
                     go_simp
                     with_reducible rfl
                    rotate_left
                    ·simp only [Sx]
                     rfl
                    refine one_ (i := 25) (N := some 119) #[true, true, true, true, true, true, true, true, true, true, true, true, true, true, true, true, true, true, true, true, true, true, true, true, true, true, false, false] rfl rfl (one_of HT_.out Zq2) Zq7 (fun K hK => ?_); refine value_ (w1 := ?_) (v := ?_) Zq3 rfl ?_ ?_
                    rotate_left 2
                    ·go_simp
                     constructor
                     ·rfl
                     ·rfl
                    refine hK.out _ _ trivial (fun hHeld => ?_); clear hK K; refine norm_ (a' := ?_) ?_ ?_
                    rotate_left
                    ·show Act.put _ (some 119) _ = _
                     simp only [Sx]
                     rfl
                    refine one_ (i := 26) (N := some 120) #[true, true, true, true, true, true, true, true, true, true, true, true, true, true, true, true, true, true, true, true, true, true, true, true, true, true, true, false] rfl rfl (one_of HT_.out Zq2) Zq7 (fun K hK => ?_); refine Kd.R_append_step k45 (w0 := w) w.heap.size Zq3 (.tmp 94) (.tmp 119) 40 45 (.agg #[(.int .u64 0), (.int .u64 0), (.int .u64 0)]) 24 rfl Try.underlying40 info45 rfl Zq7 Zq1 u15 x15_2 (⟨tcN, tcI, tcz⟩ : S45) [.int .u64 tcN, .int .u64 tcI, .int .u64 tcz] (fun _ => True) (fun _ => False) rfl rfl ?aP (fun _ hk => hk.elim) ?aF ?aO ?aB ?aS ?aL ?_
                    (case aP => exact k45_mkM _ _ _ (⟨tcN, tcI, tcz⟩ : S45))
                    (case aB => exact Zq33)
                    (case aF => exact (fun _ _ => trivial))
                    (case aO => exact Zq78)
                    (case aS => exact (below_size Zq33))
                    (case aL => have := LMc49.out; omega)
                    intro v327 w55 ho hb hg hat; rw [← Nydt.out] at ho; have n0_ := Ak (blk_grown (g := gbbi) (o := .cells #[.string a0_0, .slice A0_1 l0_1.length c0_1, .slice A0_2 l0_2.length c0_2] 30 (0, 0)) Zq36 hg (Kd.R_ne HO_15.out BKbi.out Zq7)); have n1_ := Ak (blk_grown (g := gbaU) (o := .cells #[.string a1_0, .slice (some adci) l1_1.length c1_1, .slice A1_2 l1_2.length c1_2] 30 (0, 0)) Zq51 hg (Kd.R_ne HO_15.out BKaU.out Zq7)); have n2_ := Ak (hb); have n3_ := Ak (ho); clear BKbi BKaU HB HO_15; have BKbi := n0_; have BKaU := n1_; have HB := n2_; have HOgy := n3_; clear n0_ n1_ n2_ n3_ ho hb hg hat; refine hK.out _ _ trivial (fun hHeld => ?_); clear hK K; refine norm_ (a' := ?_) ?_ ?_
                    rotate_left
                    ·show Act.put _ (some 120) _ = _
                     simp only [Sx]
                     rfl
                    refine pure_ (i := 27) (N := some 15) (v := ?_) (a' := ?_) #[true, true, true, true, true, true, true, true, true, true, true, true, true, true, true, true, true, true, true, true, true, true, true, true, true, true, true, true] rfl rfl (any_of HT_.out Zq2) (fun _ _ _ h => h) (Or.inl ⟨Zq3, ?_⟩) ?_ ?_
                    rotate_left
                    ·intro w'
                     go_simp
                     with_reducible rfl
                    rotate_left
                    ·simp only [Sx]
                     rfl
                    refine done_ (done_of HT_.out Zq2) ?_
                    try go_wp2
                    first | (go_roundg k2) | ((try subst hji37); (try subst hji45); go_roundg k2)
                    case measure => have := HJ13.out; have := HK2.out; omega
                    case rel => exact ⟨(ydt), (wrap64 (x16_2 + (wrap64 (4 * (wrap64 ((wrap64 (tai + tak)) + tay)))))), Zq6, H', ⟨by have := HJ13.out; have := HK2.out; omega⟩, ⟨by (with_reducible repeat (first | apply Kd.R_alloc | apply Kd.R_drewN | apply Kd.R_drew)); exact HOgy.out⟩, ⟨Zq36⟩, ⟨Zq51⟩, ⟨Zq33⟩⟩
                   ·rw [if_neg c49] at H; exact absurd H Zq9
                  ·rw [if_neg c46] at H; exact absurd H Zq9
                 ·rw [if_neg c43] at H; exact absurd H Zq9
                ·rw [if_neg c42] at H; exact absurd H Zq9
               ·rw [if_neg c39] at H; exact absurd H Zq9
              ·rw [if_neg c38] at H; exact absurd H Zq9
             ·rw [if_neg c36] at H; exact absurd H Zq9
            ·rw [if_neg c35] at H; exact absurd H Zq9
           ·rw [if_neg c34] at H; exact absurd H Zq9
          ·rw [if_neg c33] at H; have c33b0 : decide (x16_2 < (((rd_T77 l1_1 tao).f1).length : Int)) = false := decide_eq_false c33; clear c33; simp only [Option.some.injEq, Prod.mk.injEq] at H; obtain ⟨rfl, rfl, rfl⟩ := H
           go_wp2
           go_ret3
           exact ⟨_, Zq11, Zq78, Zq33⟩
   ·rw [if_neg c11] at H; exact absurd H Zq9
  ·rw [if_neg c10] at H; exact absurd H Zq9
end Go.Proofs.Yteejaaeglfpcmab.PX

namespace Go.Proofs.Yteejaaeglfpcmab.PX
open Go.RowKit Go.Proofs.YteejaaeglfpcmabW.PrintWords Go.Proofs.YteejaaeglfpcmabW.PrintLast Go.Proofs.YteejaaeglfpcmabW.PrintMore
attribute [local go_sem] max2_int min2_int max_two min_two max_three min_three max_four min_four
def arboretref12_Whole.f (a0 : Int) (a1 : Int) : Option (Bool) := if a1 = 0 then (some true) else (some (decide ((IntKind.u64.wrap (a1 - 1)) ≤ (IntKind.u64.wrap (18446744073709551615 - a0)))))
set_option maxHeartbeats 8000000 in
set_option maxRecDepth 100000 in
theorem arboretref12_Whole.calls (a0 : Int) (a1 : Int) (r : Bool) (w : World) (h : arboretref12_Whole.f a0 a1 = some r) :
  Calls Try.prog 51 #[.int .u64 a0, .int .u64 a1] w fun e w' => e = .returned (.bool r) ∧ Drawn0 w w' := by
 have H : (if a1 = 0 then (some true) else (some (decide ((IntKind.u64.wrap (a1 - 1)) ≤ (IntKind.u64.wrap (18446744073709551615 - a0)))))) = some r := h; clear h
 by_cases c3 : a1 = 0
 ·rw [if_pos c3] at H; have c3b0 : (a1 == 0) = true := beq_iff_eq.mpr c3; have c3b1 : (a1 != 0) = false := bne_eq_false_iff_eq.mpr c3; clear c3; obtain rfl := Option.some.inj H
  go_enter Try.func51, Try.ntmps51
  go_wp2
  go_ret
  exact ⟨Zq6, Zq10⟩
 ·rw [if_neg c3] at H; have c3b0 : (a1 == 0) = false := beq_eq_false_iff_ne.mpr c3; have c3b1 : (a1 != 0) = true := bne_iff_ne.mpr c3; obtain rfl := Option.some.inj H
  go_enter Try.func51, Try.ntmps51
  go_wp2
  go_ret
  exact ⟨Zq6, Zq10⟩
def arboretref12_Inside.f (a0_0 : Int) (a0_1 : Int) (a1 : Int) (a2 : Int) : Option (Bool) := if a2 = 0 then (some false) else (if a0_1 = 0 then (some false) else ((arboretref12_Whole.f a1 a2).bind fun tew => (if tew = true then ((arboretref12_Whole.f a0_0 a0_1).bind fun tcM => (if tcM = true then (if a1 ≥ a0_0 then (some (decide ((IntKind.u64.wrap (a1 + (IntKind.u64.wrap (a2 - 1)))) ≤ (IntKind.u64.wrap (a0_0 + (IntKind.u64.wrap (a0_1 - 1))))))) else (some false)) else (some false))) else (some false))))
set_option maxHeartbeats 8000000 in
set_option maxRecDepth 100000 in
theorem arboretref12_Inside.calls (a0_0 : Int) (a0_1 : Int) (a1 : Int) (a2 : Int) (r : Bool) (w : World) (h : arboretref12_Inside.f a0_0 a0_1 a1 a2 = some r) :
  Calls Try.prog 50 #[.agg #[.int .u64 a0_0, .int .u64 a0_1], .int .u64 a1, .int .u64 a2] w fun e w' => e = .returned (.bool r) ∧ Below w.heap.size w w' := by
 have hu66 := Try.underlying66; have HB := Zq145; have H : (if a2 = 0 then (some false) else (if a0_1 = 0 then (some false) else ((arboretref12_Whole.f a1 a2).bind fun tew => (if tew = true then ((arboretref12_Whole.f a0_0 a0_1).bind fun tcM => (if tcM = true then (if a1 ≥ a0_0 then (some (decide ((IntKind.u64.wrap (a1 + (IntKind.u64.wrap (a2 - 1)))) ≤ (IntKind.u64.wrap (a0_0 + (IntKind.u64.wrap (a0_1 - 1))))))) else (some false)) else (some false))) else (some false))))) = some r := h; clear h
 by_cases c4 : a2 = 0
 ·rw [if_pos c4] at H; have c4b0 : (a2 == 0) = true := beq_iff_eq.mpr c4; have c4b1 : (a2 != 0) = false := bne_eq_false_iff_eq.mpr c4; clear c4; obtain rfl := Option.some.inj H
  go_enter Try.func50, Try.ntmps50
  go_wp2_with (first | ((with_reducible refine gate_dst (N := 3) rfl ?_); refine box_event ?hg (N := 3) ?hd (cs := #[.int .u64 a0_0, .int .u64 a0_1]) (t := 66) ?hr ?_; (case hd | hg => rfl); (case hr => first | (go_simp; done) | (go_simp; rfl)); intro gbbh hg w5 hbox hb; have n0_ := Zq140; have n1_ := Ak (hbox); have n2_ := Zq156; have n3_ := Zq156; clear HB; have HB := n0_; have BKbh := n1_; have GWbh := n2_; have GEbh := n3_; clear n0_ n1_ n2_ n3_ hb hbox hg))
  go_ret
  exact ⟨Zq11, Zq91⟩
 ·rw [if_neg c4] at H; have c4b0 : (a2 == 0) = false := beq_eq_false_iff_ne.mpr c4; have c4b1 : (a2 != 0) = true := bne_iff_ne.mpr c4
  by_cases c6 : a0_1 = 0
  ·rw [if_pos c6] at H; have c6b0 : (a0_1 == 0) = true := beq_iff_eq.mpr c6; have c6b1 : (a0_1 != 0) = false := bne_eq_false_iff_eq.mpr c6; clear c6; obtain rfl := Option.some.inj H
   go_enter Try.func50, Try.ntmps50
   go_wp2_with (first | ((with_reducible refine gate_dst (N := 3) rfl ?_); refine box_event ?hg (N := 3) ?hd (cs := #[.int .u64 a0_0, .int .u64 a0_1]) (t := 66) ?hr ?_; (case hd | hg => rfl); (case hr => first | (go_simp; done) | (go_simp; rfl)); intro gbbh hg w7 hbox hb; have n0_ := Zq140; have n1_ := Ak (hbox); have n2_ := Zq156; have n3_ := Zq156; clear HB; have HB := n0_; have BKbh := n1_; have GWbh := n2_; have GEbh := n3_; clear n0_ n1_ n2_ n3_ hb hbox hg; have hcz8_0 : w7.cell? ⟨gbbh, 0, none⟩ = some (.int .u64 a0_0) := (blk_cell BKbh.out 0).trans rfl; have hcz8_1 : w7.cell? ⟨gbbh, 1, none⟩ = some (.int .u64 a0_1) := (blk_cell BKbh.out 1).trans rfl; have hfz8_0 := blk_frozen BKbh.out 0; have hfz8_1 := blk_frozen BKbh.out 1))
   go_ret
   exact ⟨Zq11, Zq91⟩
  ·rw [if_neg c6] at H; have c6b0 : (a0_1 == 0) = false := beq_eq_false_iff_ne.mpr c6; have c6b1 : (a0_1 != 0) = true := bne_iff_ne.mpr c6; replace H := Option.bind_eq_some_iff.mp H; obtain ⟨tew, A90, H⟩ := H; replace H : (if tew = true then ((arboretref12_Whole.f a0_0 a0_1).bind fun tcM => (if tcM = true then (if a1 ≥ a0_0 then (some (decide ((IntKind.u64.wrap (a1 + (IntKind.u64.wrap (a2 - 1)))) ≤ (IntKind.u64.wrap (a0_0 + (IntKind.u64.wrap (a0_1 - 1))))))) else (some false)) else (some false))) else (some false)) = some r := H; have A9 := Ak A90; clear A90
   by_cases c10 : tew = true
   ·subst c10
    have H1 : ((arboretref12_Whole.f a0_0 a0_1).bind fun tcM => (if tcM = true then (if a1 ≥ a0_0 then (some (decide ((IntKind.u64.wrap (a1 + (IntKind.u64.wrap (a2 - 1)))) ≤ (IntKind.u64.wrap (a0_0 + (IntKind.u64.wrap (a0_1 - 1))))))) else (some false)) else (some false))) = some r := by rw [if_pos rfl] at H; exact H
    clear H; have H := H1; clear H1; replace H := Option.bind_eq_some_iff.mp H; obtain ⟨tcM, Aei, H⟩ := H; replace H : (if tcM = true then (if a1 ≥ a0_0 then (some (decide ((IntKind.u64.wrap (a1 + (IntKind.u64.wrap (a2 - 1)))) ≤ (IntKind.u64.wrap (a0_0 + (IntKind.u64.wrap (a0_1 - 1))))))) else (some false)) else (some false)) = some r := H; have A11 := Ak Aei; clear Aei
    by_cases c12 : tcM = true
    ·subst c12
     have H1 : (if a1 ≥ a0_0 then (some (decide ((IntKind.u64.wrap (a1 + (IntKind.u64.wrap (a2 - 1)))) ≤ (IntKind.u64.wrap (a0_0 + (IntKind.u64.wrap (a0_1 - 1))))))) else (some false)) = some r := by rw [if_pos rfl] at H; exact H
     clear H; have H := H1; clear H1
     by_cases c13 : a1 ≥ a0_0
     ·rw [if_pos c13] at H; have c13b0 : decide (a0_0 ≤ a1) = true := decide_eq_true c13; clear c13; obtain rfl := Option.some.inj H
      go_enter Try.func50, Try.ntmps50
      go_wp2_with (first | ((with_reducible refine gate_dst (N := 3) rfl ?_); refine box_event ?hg (N := 3) ?hd (cs := #[.int .u64 a0_0, .int .u64 a0_1]) (t := 66) ?hr ?_; (case hd | hg => rfl); (case hr => first | (go_simp; done) | (go_simp; rfl)); intro gbbh hg w14 hbox hb; have n0_ := Zq140; have n1_ := Ak (hbox); have n2_ := Zq156; have n3_ := Zq156; clear HB; have HB := n0_; have BKbh := n1_; have GWbh := n2_; have GEbh := n3_; clear n0_ n1_ n2_ n3_ hb hbox hg; have hcz15_0 : w14.cell? ⟨gbbh, 0, none⟩ = some (.int .u64 a0_0) := (blk_cell BKbh.out 0).trans rfl; have hcz15_1 : w14.cell? ⟨gbbh, 1, none⟩ = some (.int .u64 a0_1) := (blk_cell BKbh.out 1).trans rfl; have hfz15_0 := blk_frozen BKbh.out 0; have hfz15_1 := blk_frozen BKbh.out 1) | (go_at_call 51; (with_reducible refine (arboretref12_Whole.calls a1 a2 true _ A9.out).mono ?_); rintro e w' ⟨rfl, ⟨nd, rfl⟩⟩) | (go_at_call 51; (with_reducible refine (arboretref12_Whole.calls a0_0 a0_1 true _ A11.out).mono ?_); rintro e w' ⟨rfl, ⟨nd, rfl⟩⟩))
      go_ret
      exact ⟨Zq11, Zq91⟩
     ·rw [if_neg c13] at H; have c13b0 : decide (a0_0 ≤ a1) = false := decide_eq_false c13; clear c13; obtain rfl := Option.some.inj H
      go_enter Try.func50, Try.ntmps50
      go_wp2_with (first | ((with_reducible refine gate_dst (N := 3) rfl ?_); refine box_event ?hg (N := 3) ?hd (cs := #[.int .u64 a0_0, .int .u64 a0_1]) (t := 66) ?hr ?_; (case hd | hg => rfl); (case hr => first | (go_simp; done) | (go_simp; rfl)); intro gbbh hg w16 hbox hb; have n0_ := Zq140; have n1_ := Ak (hbox); have n2_ := Zq156; have n3_ := Zq156; clear HB; have HB := n0_; have BKbh := n1_; have GWbh := n2_; have GEbh := n3_; clear n0_ n1_ n2_ n3_ hb hbox hg; have hcz17_0 : w16.cell? ⟨gbbh, 0, none⟩ = some (.int .u64 a0_0) := (blk_cell BKbh.out 0).trans rfl; have hcz17_1 : w16.cell? ⟨gbbh, 1, none⟩ = some (.int .u64 a0_1) := (blk_cell BKbh.out 1).trans rfl; have hfz17_0 := blk_frozen BKbh.out 0; have hfz17_1 := blk_frozen BKbh.out 1) | (go_at_call 51; (with_reducible refine (arboretref12_Whole.calls a1 a2 true _ A9.out).mono ?_); rintro e w' ⟨rfl, ⟨nd, rfl⟩⟩) | (go_at_call 51; (with_reducible refine (arboretref12_Whole.calls a0_0 a0_1 true _ A11.out).mono ?_); rintro e w' ⟨rfl, ⟨nd, rfl⟩⟩))
      go_ret
      exact ⟨Zq11, Zq91⟩
    ·replace c12 := Bool.eq_false_iff.mpr c12; subst c12
     have H1 : (some false) = some r := by rw [if_neg (show ¬ (false = true) by decide)] at H; exact H
     clear H; have H := H1; clear H1; obtain rfl := Option.some.inj H
     go_enter Try.func50, Try.ntmps50
     go_wp2_with (first | ((with_reducible refine gate_dst (N := 3) rfl ?_); refine box_event ?hg (N := 3) ?hd (cs := #[.int .u64 a0_0, .int .u64 a0_1]) (t := 66) ?hr ?_; (case hd | hg => rfl); (case hr => first | (go_simp; done) | (go_simp; rfl)); intro gbbh hg w18 hbox hb; have n0_ := Zq140; have n1_ := Ak (hbox); have n2_ := Zq156; have n3_ := Zq156; clear HB; have HB := n0_; have BKbh := n1_; have GWbh := n2_; have GEbh := n3_; clear n0_ n1_ n2_ n3_ hb hbox hg; have hcz19_0 : w18.cell? ⟨gbbh, 0, none⟩ = some (.int .u64 a0_0) := (blk_cell BKbh.out 0).trans rfl; have hcz19_1 : w18.cell? ⟨gbbh, 1, none⟩ = some (.int .u64 a0_1) := (blk_cell BKbh.out 1).trans rfl; have hfz19_0 := blk_frozen BKbh.out 0; have hfz19_1 := blk_frozen BKbh.out 1) | (go_at_call 51; (with_reducible refine (arboretref12_Whole.calls a1 a2 true _ A9.out).mono ?_); rintro e w' ⟨rfl, ⟨nd, rfl⟩⟩) | (go_at_call 51; (with_reducible refine (arboretref12_Whole.calls a0_0 a0_1 false _ A11.out).mono ?_); rintro e w' ⟨rfl, ⟨nd, rfl⟩⟩))
     go_ret
     exact ⟨Zq11, Zq91⟩
   ·replace c10 := Bool.eq_false_iff.mpr c10; subst c10
    have H1 : (some false) = some r := by rw [if_neg (show ¬ (false = true) by decide)] at H; exact H
    clear H; have H := H1; clear H1; obtain rfl := Option.some.inj H
    go_enter Try.func50, Try.ntmps50
    go_wp2_with (first | ((with_reducible refine gate_dst (N := 3) rfl ?_); refine box_event ?hg (N := 3) ?hd (cs := #[.int .u64 a0_0, .int .u64 a0_1]) (t := 66) ?hr ?_; (case hd | hg => rfl); (case hr => first | (go_simp; done) | (go_simp; rfl)); intro gbbh hg w20 hbox hb; have n0_ := Zq140; have n1_ := Ak (hbox); have n2_ := Zq156; have n3_ := Zq156; clear HB; have HB := n0_; have BKbh := n1_; have GWbh := n2_; have GEbh := n3_; clear n0_ n1_ n2_ n3_ hb hbox hg; have hcz21_0 : w20.cell? ⟨gbbh, 0, none⟩ = some (.int .u64 a0_0) := (blk_cell BKbh.out 0).trans rfl; have hcz21_1 : w20.cell? ⟨gbbh, 1, none⟩ = some (.int .u64 a0_1) := (blk_cell BKbh.out 1).trans rfl; have hfz21_0 := blk_frozen BKbh.out 0; have hfz21_1 := blk_frozen BKbh.out 1) | (go_at_call 51; (with_reducible refine (arboretref12_Whole.calls a1 a2 false _ A9.out).mono ?_); rintro e w' ⟨rfl, ⟨nd, rfl⟩⟩))
    go_ret
    exact ⟨Zq11, Zq91⟩
mutual
def arboretref12_Up.l0 : Nat → List Int → Int → Int → Int → Int → List (S94) → ByteArray → List (S77) → List (S30) → Option (Int × Bool)
 | 0, _, _, _, _, _, _, _, _, _ => none
 | k + 1, x1, x2, x3, x10, xdu, xdv, xdw, xdx, xdy => if x10 > 0 then (if 0 ≤ x10 then (if x10 ≤ (x1.length : Int) then ((arboretref06_Get.f k xdu xdv xdw xdx xdy (x1.take (x10 : Int).toNat)).bind fun btbc => (if 0 ≤ (wrap64 (x10 - 1)) then (if (wrap64 (x10 - 1)) ≤ (x1.length : Int) then ((arboretref06_Get.f k xdu xdv xdw xdx xdy (x1.take ((wrap64 (x10 - 1)) : Int).toNat)).bind fun btbj => ((arboretref12_Ranges.f k btbj.1 btbj.2.1 btbj.2.2.1 btbc.1 btbc.2.1 btbc.2.2.1).bind fun btau => (if btau.2.2 = true then (arboretref12_Up.l1 k x1 x2 x3 x10 btau.1 false (btau.1.length : Int) 0 xdu xdv xdw xdx xdy) else (some (0, false))))) else (none)) else (none))) else (none)) else (none)) else (some (x2, true))
def arboretref12_Up.l1 : Nat → List Int → Int → Int → Int → List (S45) → Bool → Int → Int → Int → List (S94) → ByteArray → List (S77) → List (S30) → Option (Int × Bool)
 | 0, _, _, _, _, _, _, _, _, _, _, _, _, _ => none
 | k + 1, x1, x2, x3, x10, x15, x18, x54, x55, xdu, xdv, xdw, xdx, xdy => if x55 < x54 then (if x18 = true then (arboretref12_Up.j2 k x1 x2 x3 x10 x15 x18 x55 x54 x55 false xdu xdv xdw xdx xdy) else (if 0 ≤ x55 then (if x55 < (x15.length : Int) then ((arboretref12_Inside.f ((rd_T45 x15 x55).f0) ((rd_T45 x15 x55).f2) x2 x3).bind fun tej => (arboretref12_Up.j2 k x1 x2 x3 x10 x15 x18 x55 x54 x55 tej xdu xdv xdw xdx xdy)) else (none)) else (none))) else (if x18 = true then (arboretref12_Up.l0 k x1 x2 x3 (wrap64 (x10 - 1)) xdu xdv xdw xdx xdy) else (some (0, false)))
def arboretref12_Up.j2 : Nat → List Int → Int → Int → Int → List (S45) → Bool → Int → Int → Int → Bool → Int → List (S94) → ByteArray → List (S77) → List (S30) → Option (Int × Bool)
 | 0, _, _, _, _, _, _, _, _, _, _, _, _, _, _, _ => none
 | k + 1, x1, x2, x3, x10, x15, x18, x19, x54, x55, x75, xdu, xdv, xdw, xdx, xdy => if x75 = true then (if 0 ≤ x19 then (if x19 < (x15.length : Int) then (if (IntKind.u64.wrap (x2 - ((rd_T45 x15 x19).f0))) > (IntKind.u64.wrap (18446744073709551615 - ((rd_T45 x15 x19).f1))) then (some (0, false)) else ((arboretref12_Whole.f (IntKind.u64.wrap (((rd_T45 x15 x19).f1) + (IntKind.u64.wrap (x2 - ((rd_T45 x15 x19).f0))))) x3).bind fun tex => (if tex = true then (arboretref12_Up.l1 k x1 (IntKind.u64.wrap (((rd_T45 x15 x19).f1) + (IntKind.u64.wrap (x2 - ((rd_T45 x15 x19).f0))))) x3 x10 x15 true x54 (wrap64 (x55 + 1)) xdu xdv xdw xdx xdy) else (some (0, false))))) else (none)) else (none)) else (arboretref12_Up.l1 k x1 x2 x3 x10 x15 x18 x54 (wrap64 (x55 + 1)) xdu xdv xdw xdx xdy)
end
def arboretref12_Up.f (k : Nat) (a0_0 : Int) (l0_1 : List (S94)) (a0_2 : ByteArray) (l0_3 : List (S77)) (l0_4 : List (S30)) (l1 : List Int) (a2 : Int) (a3 : Int) : Option (Int × Bool) := arboretref12_Up.l0 k l1 a2 a3 (l1.length : Int) a0_0 l0_1 a0_2 l0_3 l0_4
theorem arboretref12_Up.mono_l : ∀ k, (∀ y0 y1 y2 y3 y4 y5 y6 y7 y8, LeO (arboretref12_Up.l0 k y0 y1 y2 y3 y4 y5 y6 y7 y8) (arboretref12_Up.l0 (k + 1) y0 y1 y2 y3 y4 y5 y6 y7 y8)) ∧ (∀ y0 y1 y2 y3 y4 y5 y6 y7 y8 y9 y10 y11 y12, LeO (arboretref12_Up.l1 k y0 y1 y2 y3 y4 y5 y6 y7 y8 y9 y10 y11 y12) (arboretref12_Up.l1 (k + 1) y0 y1 y2 y3 y4 y5 y6 y7 y8 y9 y10 y11 y12)) ∧ (∀ y0 y1 y2 y3 y4 y5 y6 y7 y8 y9 y10 y11 y12 y13 y14, LeO (arboretref12_Up.j2 k y0 y1 y2 y3 y4 y5 y6 y7 y8 y9 y10 y11 y12 y13 y14) (arboretref12_Up.j2 (k + 1) y0 y1 y2 y3 y4 y5 y6 y7 y8 y9 y10 y11 y12 y13 y14))
 | 0 => ⟨fun _ _ _ _ _ _ _ _ _ r h => by simp [arboretref12_Up.l0] at h, fun _ _ _ _ _ _ _ _ _ _ _ _ _ r h => by simp [arboretref12_Up.l1] at h, fun _ _ _ _ _ _ _ _ _ _ _ _ _ _ _ r h => by simp [arboretref12_Up.j2] at h⟩
 | k + 1 => by
  obtain ⟨ih0, ih1, ih2⟩ := arboretref12_Up.mono_l k; refine ⟨?_, ?_, ?_⟩
  ·intro y0 y1 y2 y3 y4 y5 y6 y7 y8; unfold arboretref12_Up.l0
   repeat' first | (with_reducible first | exact ih0 _ _ _ _ _ _ _ _ _ | exact ih1 _ _ _ _ _ _ _ _ _ _ _ _ _ | exact ih2 _ _ _ _ _ _ _ _ _ _ _ _ _ _ _ | exact arboretref06_Get.mono _ _ _ _ _ _ _ | exact arboretref12_Ranges.mono _ _ _ _ _ _ _ | exact LeO.refl _ | exact LeO.none _ | refine LeO.ite ?_ ?_ | refine LeO.bind ?_ (fun _ => ?_))
  ·intro y0 y1 y2 y3 y4 y5 y6 y7 y8 y9 y10 y11 y12; unfold arboretref12_Up.l1
   repeat' first | (with_reducible first | exact ih0 _ _ _ _ _ _ _ _ _ | exact ih1 _ _ _ _ _ _ _ _ _ _ _ _ _ | exact ih2 _ _ _ _ _ _ _ _ _ _ _ _ _ _ _ | exact arboretref06_Get.mono _ _ _ _ _ _ _ | exact arboretref12_Ranges.mono _ _ _ _ _ _ _ | exact LeO.refl _ | exact LeO.none _ | refine LeO.ite ?_ ?_ | refine LeO.bind ?_ (fun _ => ?_))
  ·intro y0 y1 y2 y3 y4 y5 y6 y7 y8 y9 y10 y11 y12 y13 y14; unfold arboretref12_Up.j2
   repeat' first | (with_reducible first | exact ih0 _ _ _ _ _ _ _ _ _ | exact ih1 _ _ _ _ _ _ _ _ _ _ _ _ _ | exact ih2 _ _ _ _ _ _ _ _ _ _ _ _ _ _ _ | exact arboretref06_Get.mono _ _ _ _ _ _ _ | exact arboretref12_Ranges.mono _ _ _ _ _ _ _ | exact LeO.refl _ | exact LeO.none _ | refine LeO.ite ?_ ?_ | refine LeO.bind ?_ (fun _ => ?_))
theorem arboretref12_Up.mono : ∀ a0 a1 a2 a3 a4 a5 a6 a7 k, LeO (arboretref12_Up.f k a0 a1 a2 a3 a4 a5 a6 a7) (arboretref12_Up.f (k + 1) a0 a1 a2 a3 a4 a5 a6 a7) := by
 intro a0 a1 a2 a3 a4 a5 a6 a7 k; obtain ⟨ih0, ih1, ih2⟩ := arboretref12_Up.mono_l k; unfold arboretref12_Up.f
 repeat' first | (with_reducible first | exact ih0 _ _ _ _ _ _ _ _ _ | exact ih1 _ _ _ _ _ _ _ _ _ _ _ _ _ | exact ih2 _ _ _ _ _ _ _ _ _ _ _ _ _ _ _ | exact arboretref06_Get.mono _ _ _ _ _ _ _ | exact arboretref12_Ranges.mono _ _ _ _ _ _ _ | exact LeO.refl _ | exact LeO.none _ | refine LeO.ite ?_ ?_ | refine LeO.bind ?_ (fun _ => ?_))
def arboretref12_Up.T4 : Bool × List (List Nat × List Nat) := (true, [([], []), ([], []), ([], []), ([1, 2], [1, 2]), ([0, 3], [0, 3]), ([4], [4]), ([5], [5]), ([5], [5]), ([], []), ([8, 6, 4, 0, 1, 2, 3, 4, 5, 6, 8], [6, 8]), ([7, 9, 0, 1, 2, 3, 4, 5, 6, 7, 8, 9], [7])])
def arboretref12_Up.B4 : List Nat := [0, 0, 0, 6, 15, 31, 63, 63, 0, 383, 1023]
theorem arboretref12_Up.tab4 : rtab .any (opsOf Try.f22 4) = arboretref12_Up.T4 := by kernel_rfl
theorem arboretref12_Up.bits4 : waitsOk arboretref12_Up.T4.2 arboretref12_Up.B4 = true := by kernel_rfl
def arboretref12_Up.T5 : Bool × List (List Nat × List Nat) := (true, [([], []), ([], []), ([], []), ([2], [2]), ([1, 3], [1, 3]), ([0, 4], [0, 4]), ([5], [5]), ([6], [6]), ([6], [6]), ([], []), ([9, 7, 5, 0, 1, 2, 3, 4, 5, 6, 7, 9], [7, 9]), ([8, 10, 0, 1, 2, 3, 4, 5, 6, 7, 8, 9, 10], [8])])
def arboretref12_Up.B5 : List Nat := [0, 0, 0, 4, 14, 31, 63, 127, 127, 0, 767, 2047]
theorem arboretref12_Up.tab5 : rtab .any (opsOf Try.f22 5) = arboretref12_Up.T5 := by kernel_rfl
theorem arboretref12_Up.bits5 : waitsOk arboretref12_Up.T5.2 arboretref12_Up.B5 = true := by kernel_rfl
def arboretref12_Up.T13 : Bool × List (List Nat × List Nat) := (true, [([], []), ([0], [0]), ([1], [1]), ([2], [2]), ([2], [2]), ([3, 4, 2], [2, 3, 4]), ([5, 2], [2, 5]), ([6, 2], [2, 6]), ([2], [2]), ([2], [2]), ([8, 9, 2], [2, 8, 9]), ([10, 2], [2, 10]), ([11, 2], [2, 11]), ([7, 12, 2], [2, 7, 12]), ([2], [2]), ([2], [2]), ([13, 14, 15, 2, 2], [2, 13, 14, 15]), ([2, 16], [2, 16])])
def arboretref12_Up.B13 : List Nat := [0, 1, 3, 7, 7, 31, 63, 127, 7, 7, 775, 1799, 3847, 8191, 7, 7, 65535, 131071]
theorem arboretref12_Up.tab13 : rtab .any (opsOf Try.f22 13) = arboretref12_Up.T13 := by kernel_rfl
theorem arboretref12_Up.bits13 : waitsOk arboretref12_Up.T13.2 arboretref12_Up.B13 = true := by kernel_rfl
end Go.Proofs.Yteejaaeglfpcmab.PX

namespace Go.Proofs.Yteejaaeglfpcmab.PX
open Go.RowKit Go.Proofs.YteejaaeglfpcmabW.PrintWords Go.Proofs.YteejaaeglfpcmabW.PrintLast Go.Proofs.YteejaaeglfpcmabW.PrintMore
attribute [local go_sem] max2_int min2_int max_two min_two max_three min_three max_four min_four
set_option maxHeartbeats 8000000 in
set_option maxRecDepth 100000 in
theorem arboretref12_Up.calls (k : Nat) (a0_0 : Int) (A0_1 : Option Addr) (c0_1 : Nat) (l0_1 : List (S94)) (a0_2 : ByteArray) (A0_3 : Option Addr) (c0_3 : Nat) (l0_3 : List (S77)) (A0_4 : Option Addr) (c0_4 : Nat) (l0_4 : List (S30)) (A1 : Option Addr) (c1 : Nat) (l1 : List Int) (a2 : Int) (a3 : Int) (r1 : Int) (r2 : Bool) (w : World) (hr0_1 : Kd.C k94 w A0_1 l0_1.length l0_1) (hc0_1 : l0_1.length ≤ c0_1) (hr0_3 : Kd.C k77 w A0_3 l0_3.length l0_3) (hc0_3 : l0_3.length ≤ c0_3) (hr0_4 : Kd.C k30 w A0_4 l0_4.length l0_4) (hc0_4 : l0_4.length ≤ c0_4) (hr1 : Kd.C (Kd.int .i64) w A1 l1.length l1) (hc1 : l1.length ≤ c1) (h : arboretref12_Up.f k a0_0 l0_1 a0_2 l0_3 l0_4 l1 a2 a3 = some (r1, r2)) :
  Calls Try.prog 22 #[.agg #[.int .u32 a0_0, .slice A0_1 l0_1.length c0_1, .string a0_2, .slice A0_3 l0_3.length c0_3, .slice A0_4 l0_4.length c0_4], .slice A1 l1.length c1, .int .u64 a2, .int .u64 a3] w fun e w' => e = .returned (.tuple #[.int .u64 r1, .bool r2]) ∧ Below w.heap.size w w' := by
 have hu35 := Try.underlying35; have hu30 := Try.underlying30; have hu66 := Try.underlying66; have HR0_1 := Ak hr0_1; have HC0_1 := Ak hc0_1; clear hr0_1 hc0_1; have HR0_3 := Ak hr0_3; have HC0_3 := Ak hc0_3; clear hr0_3 hc0_3; have HR0_4 := Ak hr0_4; have HC0_4 := Ak hc0_4; clear hr0_4 hc0_4; have HR1 := Ak hr1; have HC1 := Ak hc1; clear hr1 hc1; have HB := Zq145; have H : (arboretref12_Up.l0 k l1 a2 a3 (l1.length : Int) a0_0 l0_1 a0_2 l0_3 l0_4) = some (r1, r2) := h; clear h; have H' := Ak H; clear H
 go_enter Try.func22, Try.ntmps22
 go_wp2_with (first | ((with_reducible refine gate_dst (N := 4) rfl ?_); refine box_event ?hg (N := 4) ?hd (cs := #[.int .u32 a0_0, .slice A0_1 l0_1.length c0_1, .string a0_2, .slice A0_3 l0_3.length c0_3, .slice A0_4 l0_4.length c0_4]) (t := 35) ?hr ?_; (case hd | hg => rfl); (case hr => first | (go_simp; done) | (go_simp; rfl)); intro gbab hg w5 hbox hb; have n0_ := Zq140; have n1_ := Ak (hbox); have n2_ := Ak ((by rw [hg]; exact (below_size Zq5) : w.heap.size ≤ gbab)); have n3_ := Ak ((by rw [hg]; exact (below_size Zq5) : w.heap.size ≤ gbab)); clear HB; have HB := n0_; have BKab := n1_; have GWab := n2_; have GEab := n3_; clear n0_ n1_ n2_ n3_ hb hbox hg))
 go_loopg [2, 10] k (fun kq v2 v10 w' => ∃ (x2_1 : Int) (x10_1 : Int), v2 = .int .u64 x2_1 ∧ v10 = .int .i64 x10_1 ∧ Aside0 (arboretref12_Up.l0 kq l1 x2_1 a3 x10_1 a0_0 l0_1 a0_2 l0_3 l0_4 = some (r1, r2)) ∧ Aside0 (kq ≤ k) ∧ Aside0 (w'.heap[gbab]? = some (.cells #[.int .u32 a0_0, (.slice A0_1 l0_1.length c0_1), .string a0_2, (.slice A0_3 l0_3.length c0_3), (.slice A0_4 l0_4.length c0_4)] 35 (0, 0))) ∧ Aside0 (Below w.heap.size w w'))
 case atStart => exact ⟨(a2), ((l1.length : Int)), Zq6, Zq6, H', ⟨Nat.le_refl _⟩, ⟨Zq13⟩, ⟨Zq28⟩⟩
 case round =>
  clear H'
  try clear c1
  try clear c2
  try clear p2
  obtain ⟨x2_1, x10_1, rfl, rfl, HA, HK1, BKab, HB⟩ := hrel
  cases gk with
  | zero => exact absurd HA.out (by simp [arboretref12_Up.l0])
  | succ k1 =>
   have H := HA.out; clear HA; simp only [arboretref12_Up.l0] at H
   by_cases c6 : x10_1 > 0
   ·rw [if_pos c6] at H; have c6b0 : decide (0 < x10_1) = true := decide_eq_true c6; clear c6
    by_cases c7 : 0 ≤ x10_1
    ·rw [if_pos c7] at H; have c7b0 := eq_true c7; have c7b1 : decide (0 ≤ x10_1) = true := decide_eq_true c7; clear c7
     by_cases c8 : x10_1 ≤ (l1.length : Int)
     ·rw [if_pos c8] at H; have c8b0 := eq_true c8; have c8b1 : decide (x10_1 ≤ (l1.length : Int)) = true := decide_eq_true c8; clear c8; replace H := Option.bind_eq_some_iff.mp H; obtain ⟨⟨tbc, taQ, taR, tdz⟩, A90, H⟩ := H; replace H : (if 0 ≤ (wrap64 (x10_1 - 1)) then (if (wrap64 (x10_1 - 1)) ≤ (l1.length : Int) then ((arboretref06_Get.f k1 a0_0 l0_1 a0_2 l0_3 l0_4 (l1.take ((wrap64 (x10_1 - 1)) : Int).toNat)).bind fun btbj => ((arboretref12_Ranges.f k1 btbj.1 btbj.2.1 btbj.2.2.1 tbc taQ taR).bind fun btau => (if btau.2.2 = true then (arboretref12_Up.l1 k1 l1 x2_1 a3 x10_1 btau.1 false (btau.1.length : Int) 0 a0_0 l0_1 a0_2 l0_3 l0_4) else (some (0, false))))) else (none)) else (none)) = some (r1, r2) := H; have A9 := Ak A90; clear A90
      obtain ⟨ji10, hji10⟩ : ∃ j_ : Int, (wrap64 (x10_1 - 1)) = j_ := ⟨_, rfl⟩
      replace H : (if 0 ≤ (ji10) then (if (ji10) ≤ (l1.length : Int) then ((arboretref06_Get.f k1 a0_0 l0_1 a0_2 l0_3 l0_4 (l1.take ((ji10) : Int).toNat)).bind fun btbj => ((arboretref12_Ranges.f k1 btbj.1 btbj.2.1 btbj.2.2.1 tbc taQ taR).bind fun btau => (if btau.2.2 = true then (arboretref12_Up.l1 k1 l1 x2_1 a3 x10_1 btau.1 false (btau.1.length : Int) 0 a0_0 l0_1 a0_2 l0_3 l0_4) else (some (0, false))))) else (none)) else (none)) = some (r1, r2) := by first | (rw [hji10] at H; exact H) | (simp only [hji10] at H ⊢; exact H)
      (try rw [hji10] at A9)
      have hji10w : (IntKind.i64.wrap (x10_1 - 1)) = ji10 := (i64_w _).trans hji10
      by_cases c11 : 0 ≤ (ji10)
      ·rw [if_pos c11] at H; have c11b0 := eq_true c11; have c11b1 : decide (0 ≤ (ji10)) = true := decide_eq_true c11; clear c11
       by_cases c12 : (ji10) ≤ (l1.length : Int)
       ·rw [if_pos c12] at H; have c12b0 := eq_true c12; have c12b1 : decide ((ji10) ≤ (l1.length : Int)) = true := decide_eq_true c12; clear c12; replace H := Option.bind_eq_some_iff.mp H; obtain ⟨⟨tbj, tbt, tbv, tcO⟩, AaB, H⟩ := H; replace H : ((arboretref12_Ranges.f k1 tbj tbt tbv tbc taQ taR).bind fun btau => (if btau.2.2 = true then (arboretref12_Up.l1 k1 l1 x2_1 a3 x10_1 btau.1 false (btau.1.length : Int) 0 a0_0 l0_1 a0_2 l0_3 l0_4) else (some (0, false)))) = some (r1, r2) := H; have A13 := Ak AaB; clear AaB; replace H := Option.bind_eq_some_iff.mp H; obtain ⟨⟨tau, tfV, tfW⟩, Aaz, H⟩ := H; replace H : (if tfW = true then (arboretref12_Up.l1 k1 l1 x2_1 a3 x10_1 tau false (tau.length : Int) 0 a0_0 l0_1 a0_2 l0_3 l0_4) else (some (0, false))) = some (r1, r2) := H; have A14 := Ak Aaz; clear Aaz
        by_cases c15 : tfW = true
        ·subst c15
         have H1 : (arboretref12_Up.l1 k1 l1 x2_1 a3 x10_1 tau false (tau.length : Int) 0 a0_0 l0_1 a0_2 l0_3 l0_4) = some (r1, r2) := by rw [if_pos rfl] at H; exact H
         clear H; have H := H1; clear H1; have H' := Ak H; clear H
         try go_wp2
         have n0_ := Zq246; have n1_ := Zq178; clear BKab HB; have BKab := n0_; have HB := n1_; clear n0_ n1_; obtain ⟨i017, hi017, _, hsz17, _⟩ := info_parts info3; obtain ⟨hcut17, hA17, hC17⟩ := print_take_of (P := Try.prog) (Value.int .i64) 0 48 3 .i64 Try.underlying48 hi017 hsz17 A1 c1 l1 x10_1 (of_decide_eq_true Zq4) (of_decide_eq_true Zq4) HC1.out; have HRcP := Ak (Kd.C_of_reads (h1 := fun _ => rfl) (hA17 _ (Kd.reads_of_C HR1.out))); have HCcP := Ak hC17; clear hA17 hC17 hi017 hsz17; refine start_ (n := 11) (S := fun w' => w'.cell? ⟨gbab, 0, none⟩ = some (.int .u32 a0_0) ∧ w'.cell? ⟨gbab, 1, none⟩ = some (.slice A0_1 l0_1.length c0_1) ∧ w'.cell? ⟨gbab, 2, none⟩ = some (.string a0_2) ∧ w'.cell? ⟨gbab, 3, none⟩ = some (.slice A0_3 l0_3.length c0_3) ∧ w'.cell? ⟨gbab, 4, none⟩ = some (.slice A0_4 l0_4.length c0_4)) (ds := []) #[false, false, false, false, false, false, false, false, false, false, false] Zq2 rfl rfl ⟨(blk_cell BKab.out 0).trans rfl, (blk_cell BKab.out 1).trans rfl, (blk_cell BKab.out 2).trans rfl, (blk_cell BKab.out 3).trans rfl, (blk_cell BKab.out 4).trans rfl⟩ (fun hHeld => ?_); refine with_tabW arboretref12_Up.tab4 arboretref12_Up.bits4 (fun HT_ HW_ => ?_); generalize wr.drew = w16 at BKab HB HRcP hHeld ⊢; refine pure_ (i := 1) (N := some 29) (v := ?_) (a' := ?_) #[false, true, false, false, false, false, false, false, false, false, false] rfl rfl (any_of HT_.out Zq2) (fun _ _ _ h => h) (Or.inl ⟨Zq3, ?_⟩) ?_ ?_
         rotate_left
         ·intro w'
          go_simp
          with_reducible rfl
         rotate_left
         ·simp only [Sx]
          rfl
         refine pure_ (i := 2) (N := some 30) (v := ?_) (a' := ?_) #[false, true, true, false, false, false, false, false, false, false, false] rfl rfl (any_of HT_.out Zq2) (fun _ _ _ h => h) (Or.inl ⟨Zq3, ?_⟩) ?_ ?_
         rotate_left
         ·intro w'
          go_simp
          with_reducible rfl
         rotate_left
         ·simp only [Sx]
          rfl
         refine pure_ (i := 3) (N := some 31) (v := ?_) (a' := ?_) #[false, true, true, true, false, false, false, false, false, false, false] rfl rfl (any_of HT_.out Zq2) (fun _ _ _ h => h) (Or.inl ⟨Zq3, ?_⟩) ?_ ?_
         rotate_left
         ·intro w'
          go_simp
          with_reducible rfl
         rotate_left
         ·simp only [Sx]
          rfl
         refine take_ (i := 0) (N := some 28) (v := ?_) (a' := ?_) #[true, true, true, true, false, false, false, false, false, false, false] rfl rfl (take_ofW HT_.out HW_.out Zq2) (fun _ _ _ h => h) (Or.inl ⟨Zq3, ?_⟩) hHeld ?_ ?_
         rotate_left
         ·rintro w' ⟨s0, s1, s2, s3, s4⟩
          go_simp
          with_reducible rfl
         rotate_left
         ·simp only [Sx]
          rfl
         refine join_ (σ := Value × Value × Nat) 2 #[true, true, true, true, true, true, true, true, true, false, false] (fun s_ => [(32, .tuple #[.agg #[.string tbc, s_.1, s_.2.1], .bool tdz]), (11, .pointer (some ⟨s_.2.2, 0, none⟩)), (27, .tuple #[.agg #[.string tbc, s_.1, s_.2.1], .bool tdz]), (33, .agg #[.string tbc, s_.1, s_.2.1]), (34, .bool tdz)]) (fun s_ w' => (w'.cell? ⟨gbab, 0, none⟩ = some (.int .u32 a0_0) ∧ w'.cell? ⟨gbab, 1, none⟩ = some (.slice A0_1 l0_1.length c0_1) ∧ w'.cell? ⟨gbab, 2, none⟩ = some (.string a0_2) ∧ w'.cell? ⟨gbab, 3, none⟩ = some (.slice A0_3 l0_3.length c0_3) ∧ w'.cell? ⟨gbab, 4, none⟩ = some (.slice A0_4 l0_4.length c0_4)) ∧ (Kd.V k77 77 w' w.heap.size (fun k_ => k_ ≠ gbab ∧ k_ ≠ s_.2.2) s_.1 taQ) ∧ (Kd.V k30 30 w' w.heap.size (fun k_ => k_ ≠ gbab ∧ k_ ≠ s_.2.2) s_.2.1 taR) ∧ (w'.heap[gbab]? = some (.cells #[.int .u32 a0_0, .slice A0_1 l0_1.length c0_1, .string a0_2, .slice A0_3 l0_3.length c0_3, .slice A0_4 l0_4.length c0_4] 35 (0, 0))) ∧ (w'.heap[s_.2.2]? = some (.cells #[.string (⟨#[]⟩ : ByteArray), .slice none 0 0, .slice none 0 0] 30 (0, 0))) ∧ (w.heap.size ≤ s_.2.2) ∧ (w.heap.size ≤ s_.2.2) ∧ (gbab ≠ s_.2.2) ∧ (s_.2.2 ≠ gbab) ∧ (Below w.heap.size w w')) ?_ ?_
         rotate_left
         ·intro hCont; refine two_ (i := 4) (j := 8) (Ni := some 32) (Nj := some 11) #[true, true, true, true, true, false, false, false, false, false, false] #[true, true, true, true, false, false, false, false, true, false, false] rfl rfl rfl rfl (two_of HT_.out Zq2) Zq7 Zq7 (fun K hK => ?_) (fun K hK => ?_)
          ·skip
           refine goes_ Try.func21 Zq2 rfl #[.agg #[.int .u32 a0_0, .slice A0_1 l0_1.length c0_1, .string a0_2, .slice A0_3 l0_3.length c0_3, .slice A0_4 l0_4.length c0_4], .slice A1 (l1.take (x10_1 : Int).toNat).length c1] Zq3 rfl rfl Zq129 ?_; with_reducible refine (arboretref06_Get.calls k1 a0_0 _ _ l0_1 a0_2 (fun k_ => k_ < w.heap.size) _ _ l0_3 (fun k_ => k_ < w.heap.size) _ _ l0_4 _ _ (l1.take (x10_1 : Int).toNat) tbc taQ taR tdz _ ?side1 ?side2 ?side3 ?side4 ?side5 ?side6 A9.out).mono ?_
           (case side1 => repeat (first | exact Zq142 | (with_reducible refine Kd.C_alloc ?_ _) | (with_reducible refine Kd.C_drewN ?_ _) | (with_reducible refine Kd.C_drew ?_)))
           (case side2 => exact HC0_1.out)
           (case side3 => exact Kd.V_mk HC0_3.out (Kd.F_below (Kd.C_F k77_heap HR0_3.out) Zq28))
           (case side4 => exact Kd.V_mk HC0_4.out (Kd.F_below (Kd.C_F k30_heap HR0_4.out) Zq28))
           (case side5 => repeat (first | exact (Kd.C_below HRcP.out HB.out) | (with_reducible refine Kd.C_alloc ?_ _) | (with_reducible refine Kd.C_drewN ?_ _) | (with_reducible refine Kd.C_drew ?_)))
           (case side6 => exact HCcP.out)
           rintro e w18 ⟨v385, v388, rfl, ho0, ho1, hb⟩
           refine ⟨_, rfl, ?_⟩; have n0_ := Zq266; have n1_ := Zq267; have n2_ := Zq132; have n3_ := Zq247; clear BKab HB; have HObd := n0_; have HObe := n1_; have BKab := n2_; have HB := n3_; clear n0_ n1_ n2_ n3_
           (try clear hb)
           (try clear hb2)
           (try clear hk)
           (try clear hi)
           (try clear ho0)
           (try clear ho1)
           refine hK.out _ _ ⟨(blk_cell BKab.out 0).trans rfl, (blk_cell BKab.out 1).trans rfl, (blk_cell BKab.out 2).trans rfl, (blk_cell BKab.out 3).trans rfl, (blk_cell BKab.out 4).trans rfl⟩ (fun hHeld => ?_); clear hK K; refine norm_ (a' := ?_) ?_ ?_
           rotate_left
           ·show Act.put _ (some 32) _ = _
            simp only [Sx]
            rfl
           refine pure_ (i := 5) (N := some 27) (v := ?_) (a' := ?_) #[true, true, true, true, true, true, false, false, false, false, false] rfl rfl (any_of HT_.out Zq2) (fun _ _ _ h => h) (Or.inl ⟨Zq3, ?_⟩) ?_ ?_
           rotate_left
           ·intro w'
            go_simp
            with_reducible rfl
           rotate_left
           ·simp only [Sx]
            rfl
           refine pure_ (i := 6) (N := some 33) (v := ?_) (a' := ?_) #[true, true, true, true, true, true, true, false, false, false, false] rfl rfl (any_of HT_.out Zq2) (fun _ _ _ h => h) (Or.inl ⟨Zq3, ?_⟩) ?_ ?_
           rotate_left
           ·intro w'
            go_simp
            with_reducible rfl
           rotate_left
           ·simp only [Sx]
            rfl
           refine pure_ (i := 7) (N := some 34) (v := ?_) (a' := ?_) #[true, true, true, true, true, true, true, true, false, false, false] rfl rfl (any_of HT_.out Zq2) (fun _ _ _ h => h) (Or.inl ⟨Zq3, ?_⟩) ?_ ?_
           rotate_left
           ·intro w'
            go_simp
            with_reducible rfl
           rotate_left
           ·simp only [Sx]
            rfl
           refine one_ (i := 8) (N := some 11) #[true, true, true, true, true, true, true, true, true, false, false] rfl rfl (one_of HT_.out Zq2) Zq7 (fun K hK => ?_); refine box_step ?hg (N := 11) ?hd (cs := #[.string (⟨#[]⟩ : ByteArray), .slice none 0 0, .slice none 0 0]) (t := 30) ?hr ?_; (case hd | hg => rfl); (case hr => first | (go_simp; done) | (go_simp; rfl)); intro gbac hg w19 hbox hb; have n0_ := Ak (Kd.V_below (Kd.V_elderB Zq47 gbac (Nat.le_of_eq hg.symm)) hb); have n1_ := Ak (Kd.V_below (Kd.V_elderB Zq48 gbac (Nat.le_of_eq hg.symm)) hb); have n2_ := Zq132; have n3_ := Zq247; have n4_ := Ak (hbox); have n5_ := Zq173; have n6_ := Zq173; have n7_ := Zq278; have n8_ := Zq279; clear HObd HObe BKab HB; have HObd := n0_; have HObe := n1_; have BKab := n2_; have HB := n3_; have BKac := n4_; have GWac := n5_; have GEac := n6_; have NB381_391 := n7_; have NB391_381 := n8_; clear n0_ n1_ n2_ n3_ n4_ n5_ n6_ n7_ n8_ hb hbox hg; refine hK.out _ _ ⟨(blk_cell BKab.out 0).trans rfl, (blk_cell BKab.out 1).trans rfl, (blk_cell BKab.out 2).trans rfl, (blk_cell BKab.out 3).trans rfl, (blk_cell BKab.out 4).trans rfl⟩ (fun hHeld => ?_); clear hK K; refine norm_ (a' := ?_) ?_ ?_
           rotate_left
           ·show Act.put _ (some 11) _ = _
            simp only [Sx]
            rfl
           exact norm_ Zq55 (hCont (v385, v388, gbac) _ ⟨hHeld, Zq47, Zq48, Zq13, Zq15, GWac.out, GEac.out, NB381_391.out, NB391_381.out, Zq16⟩)
          ·skip
           refine box_step ?hg (N := 11) ?hd (cs := #[.string (⟨#[]⟩ : ByteArray), .slice none 0 0, .slice none 0 0]) (t := 30) ?hr ?_; (case hd | hg => rfl); (case hr => first | (go_simp; done) | (go_simp; rfl)); intro gbac hg w18 hbox hb; have n0_ := Zq132; have n1_ := Zq247; have n2_ := Ak (hbox); have n3_ := Zq173; have n4_ := Zq173; have n5_ := Zq278; have n6_ := Zq279; clear BKab HB; have BKab := n0_; have HB := n1_; have BKac := n2_; have GWac := n3_; have GEac := n4_; have NB381_391 := n5_; have NB391_381 := n6_; clear n0_ n1_ n2_ n3_ n4_ n5_ n6_ hb hbox hg; refine hK.out _ _ ⟨(blk_cell BKab.out 0).trans rfl, (blk_cell BKab.out 1).trans rfl, (blk_cell BKab.out 2).trans rfl, (blk_cell BKab.out 3).trans rfl, (blk_cell BKab.out 4).trans rfl⟩ (fun hHeld => ?_); clear hK K; refine norm_ (a' := ?_) ?_ ?_
           rotate_left
           ·show Act.put _ (some 11) _ = _
            simp only [Sx]
            rfl
           refine one_ (i := 4) (N := some 32) #[true, true, true, true, true, false, false, false, true, false, false] rfl rfl (one_of HT_.out Zq2) Zq7 (fun K hK => ?_); refine goes_ Try.func21 Zq2 rfl #[.agg #[.int .u32 a0_0, .slice A0_1 l0_1.length c0_1, .string a0_2, .slice A0_3 l0_3.length c0_3, .slice A0_4 l0_4.length c0_4], .slice A1 (l1.take (x10_1 : Int).toNat).length c1] Zq3 rfl rfl Zq129 ?_; with_reducible refine (arboretref06_Get.calls k1 a0_0 _ _ l0_1 a0_2 (fun k_ => k_ < w.heap.size) _ _ l0_3 (fun k_ => k_ < w.heap.size) _ _ l0_4 _ _ (l1.take (x10_1 : Int).toNat) tbc taQ taR tdz _ ?side1 ?side2 ?side3 ?side4 ?side5 ?side6 A9.out).mono ?_
           (case side1 => repeat (first | exact Zq142 | (with_reducible refine Kd.C_alloc ?_ _) | (with_reducible refine Kd.C_drewN ?_ _) | (with_reducible refine Kd.C_drew ?_)))
           (case side2 => exact HC0_1.out)
           (case side3 => exact Kd.V_mk HC0_3.out (Kd.F_below (Kd.C_F k77_heap HR0_3.out) Zq16))
           (case side4 => exact Kd.V_mk HC0_4.out (Kd.F_below (Kd.C_F k30_heap HR0_4.out) Zq16))
           (case side5 => repeat (first | exact (Kd.C_below HRcP.out HB.out) | (with_reducible refine Kd.C_alloc ?_ _) | (with_reducible refine Kd.C_drewN ?_ _) | (with_reducible refine Kd.C_drew ?_)))
           (case side6 => exact HCcP.out)
           rintro e w19 ⟨v385, v388, rfl, ho0, ho1, hb⟩
           refine ⟨_, rfl, ?_⟩; have n0_ := Zq262; have n1_ := Zq263; have n2_ := Zq132; have n3_ := Zq257; have n4_ := Zq230; clear BKab BKac HB; have HObd := n0_; have HObe := n1_; have BKab := n2_; have BKac := n3_; have HB := n4_; clear n0_ n1_ n2_ n3_ n4_
           (try clear hb)
           (try clear hb2)
           (try clear hk)
           (try clear hi)
           (try clear ho0)
           (try clear ho1)
           refine hK.out _ _ ⟨(blk_cell BKab.out 0).trans rfl, (blk_cell BKab.out 1).trans rfl, (blk_cell BKab.out 2).trans rfl, (blk_cell BKab.out 3).trans rfl, (blk_cell BKab.out 4).trans rfl⟩ (fun hHeld => ?_); clear hK K; refine norm_ (a' := ?_) ?_ ?_
           rotate_left
           ·show Act.put _ (some 32) _ = _
            simp only [Sx]
            rfl
           refine pure_ (i := 5) (N := some 27) (v := ?_) (a' := ?_) #[true, true, true, true, true, true, false, false, true, false, false] rfl rfl (any_of HT_.out Zq2) (fun _ _ _ h => h) (Or.inl ⟨Zq3, ?_⟩) ?_ ?_
           rotate_left
           ·intro w'
            go_simp
            with_reducible rfl
           rotate_left
           ·simp only [Sx]
            rfl
           refine pure_ (i := 6) (N := some 33) (v := ?_) (a' := ?_) #[true, true, true, true, true, true, true, false, true, false, false] rfl rfl (any_of HT_.out Zq2) (fun _ _ _ h => h) (Or.inl ⟨Zq3, ?_⟩) ?_ ?_
           rotate_left
           ·intro w'
            go_simp
            with_reducible rfl
           rotate_left
           ·simp only [Sx]
            rfl
           refine pure_ (i := 7) (N := some 34) (v := ?_) (a' := ?_) #[true, true, true, true, true, true, true, true, true, false, false] rfl rfl (any_of HT_.out Zq2) (fun _ _ _ h => h) (Or.inl ⟨Zq3, ?_⟩) ?_ ?_
           rotate_left
           ·intro w'
            go_simp
            with_reducible rfl
           rotate_left
           ·simp only [Sx]
            rfl
           exact norm_ Zq55 (hCont (v385, v388, gbac) _ ⟨hHeld, Zq47, Zq48, Zq13, Zq15, GWac.out, GEac.out, NB381_391.out, NB391_381.out, Zq16⟩)
         rintro ⟨v385, v388, gbac⟩ w20 ⟨hS_, h0_, h1_, h2_, h3_, h4_, h5_, h6_, h7_, h8_⟩
         have n0_ : Aside0 (Kd.V k77 77 w20 w.heap.size (fun k_ => k_ ≠ gbab ∧ k_ ≠ gbac) v385 taQ) := ⟨h0_⟩
         have n1_ : Aside0 (Kd.V k30 30 w20 w.heap.size (fun k_ => k_ ≠ gbab ∧ k_ ≠ gbac) v388 taR) := ⟨h1_⟩
         have n2_ : Aside0 (w20.heap[gbab]? = some (.cells #[.int .u32 a0_0, .slice A0_1 l0_1.length c0_1, .string a0_2, .slice A0_3 l0_3.length c0_3, .slice A0_4 l0_4.length c0_4] 35 (0, 0))) := ⟨h2_⟩
         have n3_ : Aside0 (w20.heap[gbac]? = some (.cells #[.string (⟨#[]⟩ : ByteArray), .slice none 0 0, .slice none 0 0] 30 (0, 0))) := ⟨h3_⟩
         have n4_ : Aside0 (w.heap.size ≤ gbac) := ⟨h4_⟩
         have n5_ : Aside0 (w.heap.size ≤ gbac) := ⟨h5_⟩
         have n6_ : Aside0 (gbab ≠ gbac) := ⟨h6_⟩
         have n7_ : Aside0 (gbac ≠ gbab) := ⟨h7_⟩
         have n8_ : Aside0 (Below w.heap.size w w20) := ⟨h8_⟩
         clear BKab HB h0_ h1_ h2_ h3_ h4_ h5_ h6_ h7_ h8_; have HObd := n0_; have HObe := n1_; have BKab := n2_; have BKac := n3_; have GWac := n4_; have GEac := n5_; have NB381_391 := n6_; have NB391_381 := n7_; have HB := n8_; clear n0_ n1_ n2_ n3_ n4_ n5_ n6_ n7_ n8_; have hHeld : w20.cell? ⟨gbab, 0, none⟩ = some (.int .u32 a0_0) ∧ w20.cell? ⟨gbab, 1, none⟩ = some (.slice A0_1 l0_1.length c0_1) ∧ w20.cell? ⟨gbab, 2, none⟩ = some (.string a0_2) ∧ w20.cell? ⟨gbab, 3, none⟩ = some (.slice A0_3 l0_3.length c0_3) ∧ w20.cell? ⟨gbab, 4, none⟩ = some (.slice A0_4 l0_4.length c0_4) := hS_; obtain ⟨Ao22, co22, eo22⟩ := Kd.V_slice HObd.out
         (first | subst eo22 | (injection eo22 with f1_ f2_ f3_; have f4_ := f1_.symm; have f5_ := f3_.symm; clear f1_ f2_ f3_; subst f4_; subst f5_))
         obtain ⟨Ao24, co24, eo24⟩ := Kd.V_slice HObe.out
         (first | subst eo24 | (injection eo24 with f1_ f2_ f3_; have f4_ := f1_.symm; have f5_ := f3_.symm; clear f1_ f2_ f3_; subst f4_; subst f5_))
         refine norm_ (a' := ?_) ?_ ?_
         rotate_left
         ·simp only [putAll, Act.put, List.setIfInBounds_toArray, List.set_cons_zero, List.set_cons_succ]
          rfl
         refine one_ (i := 9) (N := none) #[true, true, true, true, true, true, true, true, true, true, false] rfl rfl (one_of HT_.out Zq2) Zq7 (fun K hK => ?_); have hs21 : w20.cell? ⟨gbac, 0, none⟩ = some (.string (⟨#[]⟩ : ByteArray)) := (blk_cell BKac.out 0).trans rfl; have hfs21 := blk_frozen BKac.out 0; have hns21_0 := NB381_391.out; have hms21_0 := NB391_381.out; have hs23 : w20.cell? ⟨gbac, 1, none⟩ = some (.slice none 0 0) := (blk_cell BKac.out 1).trans rfl; have hfs23 := blk_frozen BKac.out 1; have hns23_0 := NB381_391.out; have hms23_0 := NB391_381.out; have hs25 : w20.cell? ⟨gbac, 2, none⟩ = some (.slice none 0 0) := (blk_cell BKac.out 2).trans rfl; have hfs25 := blk_frozen BKac.out 2; have hns25_0 := NB381_391.out; have hms25_0 := NB391_381.out; refine skip_ (w1 := ?_) Zq3 rfl ?_ ?_
         rotate_left
         ·go_simp
          rfl
         refine hK.out _ _ ⟨((cell_far (p := ⟨gbac, _, none⟩) NB381_391.out _).trans (((cell_far (p := ⟨gbac, _, none⟩) NB381_391.out _).trans (((cell_far (p := ⟨gbac, _, none⟩) NB381_391.out _).trans (hHeld.1)))))), ((cell_far (p := ⟨gbac, _, none⟩) NB381_391.out _).trans (((cell_far (p := ⟨gbac, _, none⟩) NB381_391.out _).trans (((cell_far (p := ⟨gbac, _, none⟩) NB381_391.out _).trans (hHeld.2.1)))))), ((cell_far (p := ⟨gbac, _, none⟩) NB381_391.out _).trans (((cell_far (p := ⟨gbac, _, none⟩) NB381_391.out _).trans (((cell_far (p := ⟨gbac, _, none⟩) NB381_391.out _).trans (hHeld.2.2.1)))))), ((cell_far (p := ⟨gbac, _, none⟩) NB381_391.out _).trans (((cell_far (p := ⟨gbac, _, none⟩) NB381_391.out _).trans (((cell_far (p := ⟨gbac, _, none⟩) NB381_391.out _).trans (hHeld.2.2.2.1)))))), ((cell_far (p := ⟨gbac, _, none⟩) NB381_391.out _).trans (((cell_far (p := ⟨gbac, _, none⟩) NB381_391.out _).trans (((cell_far (p := ⟨gbac, _, none⟩) NB381_391.out _).trans (hHeld.2.2.2.2))))))⟩ (fun hHeld => ?_); clear hK K; refine pure_ (i := 10) (N := some 12) (v := ?_) (a' := ?_) #[true, true, true, true, true, true, true, true, true, true, true] rfl rfl (any_of HT_.out Zq2) (fun _ _ _ h => h) (Or.inl ⟨Zq3, ?_⟩) ?_ ?_
         rotate_left
         ·intro w'
          go_simp
          with_reducible rfl
         rotate_left
         ·simp only [Sx]
          rfl
         refine done_ (done_of HT_.out Zq2) ?_
         try go_wp2
         have n0_ : Aside0 (Kd.V k77 77 (((w20.setCell ⟨gbac, 0, none⟩ (.string tbc)).setCell ⟨gbac, 1, none⟩ (.slice Ao22 taQ.length co22)).setCell ⟨gbac, 2, none⟩ (.slice Ao24 taR.length co24)) w.heap.size (fun k_ => k_ ≠ gbab ∧ k_ ≠ gbac) (.slice Ao22 taQ.length co22) taQ) := ⟨by (with_reducible repeat (first | apply Kd.V_alloc | apply Kd.V_drewN | apply Kd.V_drew)); exact Kd.V_mono (Kd.V_far (p := ⟨gbac, 2, none⟩) (Kd.V_far (p := ⟨gbac, 1, none⟩) (Kd.V_far (p := ⟨gbac, 0, none⟩) (Kd.V_mono HObd.out (fun k_ hk => (⟨hk, hk.2⟩ : _ ∧ k_ ≠ gbac))) (fun _ hk => hk.2) (.string tbc)) (fun _ hk => hk.2) (.slice Ao22 taQ.length co22)) (fun _ hk => hk.2) (.slice Ao24 taR.length co24)) (fun _ hk => ⟨hk.1.1, hk.1.2⟩)⟩
         have n1_ : Aside0 (Kd.V k30 30 (((w20.setCell ⟨gbac, 0, none⟩ (.string tbc)).setCell ⟨gbac, 1, none⟩ (.slice Ao22 taQ.length co22)).setCell ⟨gbac, 2, none⟩ (.slice Ao24 taR.length co24)) w.heap.size (fun k_ => k_ ≠ gbab ∧ k_ ≠ gbac) (.slice Ao24 taR.length co24) taR) := ⟨by (with_reducible repeat (first | apply Kd.V_alloc | apply Kd.V_drewN | apply Kd.V_drew)); exact Kd.V_mono (Kd.V_far (p := ⟨gbac, 2, none⟩) (Kd.V_far (p := ⟨gbac, 1, none⟩) (Kd.V_far (p := ⟨gbac, 0, none⟩) (Kd.V_mono HObe.out (fun k_ hk => (⟨hk, hk.2⟩ : _ ∧ k_ ≠ gbac))) (fun _ hk => hk.2) (.string tbc)) (fun _ hk => hk.2) (.slice Ao22 taQ.length co22)) (fun _ hk => hk.2) (.slice Ao24 taR.length co24)) (fun _ hk => ⟨hk.1.1, hk.1.2⟩)⟩
         have n2_ : Aside0 ((((w20.setCell ⟨gbac, 0, none⟩ (.string tbc)).setCell ⟨gbac, 1, none⟩ (.slice Ao22 taQ.length co22)).setCell ⟨gbac, 2, none⟩ (.slice Ao24 taR.length co24)).heap[gbab]? = some (.cells #[.int .u32 a0_0, .slice A0_1 l0_1.length c0_1, .string a0_2, .slice A0_3 l0_3.length c0_3, .slice A0_4 l0_4.length c0_4] 35 (0, 0))) := ⟨by (with_reducible repeat (first | refine blk_drewN ?_ _ | refine blk_drew ?_ | refine blk_alloc ?_ _)); refine blk_far ?_ NB381_391.out _; (with_reducible repeat (first | refine blk_drewN ?_ _ | refine blk_drew ?_ | refine blk_alloc ?_ _)); refine blk_far ?_ NB381_391.out _; (with_reducible repeat (first | refine blk_drewN ?_ _ | refine blk_drew ?_ | refine blk_alloc ?_ _)); refine blk_far ?_ NB381_391.out _; (with_reducible repeat (first | refine blk_drewN ?_ _ | refine blk_drew ?_ | refine blk_alloc ?_ _)); exact BKab.out⟩
         have n3_ : Aside0 ((((w20.setCell ⟨gbac, 0, none⟩ (.string tbc)).setCell ⟨gbac, 1, none⟩ (.slice Ao22 taQ.length co22)).setCell ⟨gbac, 2, none⟩ (.slice Ao24 taR.length co24)).heap[gbac]? = some (.cells #[.string tbc, .slice Ao22 taQ.length co22, .slice Ao24 taR.length co24] 30 (0, 0))) := ⟨by (with_reducible repeat (first | refine blk_drewN ?_ _ | refine blk_drew ?_ | refine blk_alloc ?_ _)); refine blk_put (cs := #[.string tbc, .slice Ao22 taQ.length co22, .slice none 0 0]) ?_ 2 _ rfl; (with_reducible repeat (first | refine blk_drewN ?_ _ | refine blk_drew ?_ | refine blk_alloc ?_ _)); refine blk_put (cs := #[.string tbc, .slice none 0 0, .slice none 0 0]) ?_ 1 _ rfl; (with_reducible repeat (first | refine blk_drewN ?_ _ | refine blk_drew ?_ | refine blk_alloc ?_ _)); refine blk_put (cs := #[.string (⟨#[]⟩ : ByteArray), .slice none 0 0, .slice none 0 0]) ?_ 0 _ rfl; (with_reducible repeat (first | refine blk_drewN ?_ _ | refine blk_drew ?_ | refine blk_alloc ?_ _)); exact BKac.out⟩
         have n4_ : Aside0 (Below w.heap.size w (((w20.setCell ⟨gbac, 0, none⟩ (.string tbc)).setCell ⟨gbac, 1, none⟩ (.slice Ao22 taQ.length co22)).setCell ⟨gbac, 2, none⟩ (.slice Ao24 taR.length co24))) := ⟨Zq16⟩
         (try clear HObd)
         (try clear HObe)
         (try clear BKab)
         (try clear BKac)
         (try clear HB)
         generalize (((w20.setCell ⟨gbac, 0, none⟩ (.string tbc)).setCell ⟨gbac, 1, none⟩ (.slice Ao22 taQ.length co22)).setCell ⟨gbac, 2, none⟩ (.slice Ao24 taR.length co24)) = w26 at n0_ n1_ n2_ n3_ n4_ ⊢; have HObd := n0_; have HObe := n1_; have BKab := n2_; have BKac := n3_; have HB := n4_; clear n0_ n1_ n2_ n3_ n4_; have n0_ := Ak (Kd.V_drew HObd.out); have n1_ := Ak (Kd.V_drew HObe.out); have n2_ := Zq246; have n3_ := Ak (blk_drew BKac.out); have n4_ := Zq178; clear HObd HObe BKab BKac HB; have HObd := n0_; have HObe := n1_; have BKab := n2_; have BKac := n3_; have HB := n4_; clear n0_ n1_ n2_ n3_ n4_; obtain ⟨i028, hi028, _, hsz28, _⟩ := info_parts info3; obtain ⟨hcut28, hA28, hC28⟩ := print_take_of (P := Try.prog) (Value.int .i64) 0 48 3 .i64 Try.underlying48 hi028 hsz28 A1 c1 l1 (ji10) (of_decide_eq_true Zq4) (of_decide_eq_true Zq4) HC1.out; have HRcQ := Ak (Kd.C_of_reads (h1 := fun _ => rfl) (hA28 _ (Kd.reads_of_C HR1.out))); have HCcQ := Ak hC28; clear hA28 hC28 hi028 hsz28; refine start_ (n := 12) (S := fun w' => w'.cell? ⟨gbab, 0, none⟩ = some (.int .u32 a0_0) ∧ w'.cell? ⟨gbab, 1, none⟩ = some (.slice A0_1 l0_1.length c0_1) ∧ w'.cell? ⟨gbab, 2, none⟩ = some (.string a0_2) ∧ w'.cell? ⟨gbab, 3, none⟩ = some (.slice A0_3 l0_3.length c0_3) ∧ w'.cell? ⟨gbab, 4, none⟩ = some (.slice A0_4 l0_4.length c0_4)) (ds := []) #[false, false, false, false, false, false, false, false, false, false, false, false] Zq2 rfl rfl ⟨(blk_cell BKab.out 0).trans rfl, (blk_cell BKab.out 1).trans rfl, (blk_cell BKab.out 2).trans rfl, (blk_cell BKab.out 3).trans rfl, (blk_cell BKab.out 4).trans rfl⟩ (fun hHeld => ?_); refine with_tabW arboretref12_Up.tab5 arboretref12_Up.bits5 (fun HT_ HW_ => ?_); generalize w26.drew = w27 at HObd HObe BKab BKac HB HRcQ hHeld ⊢; refine pure_ (i := 1) (N := some 37) (v := ?_) (a' := ?_) #[false, true, false, false, false, false, false, false, false, false, false, false] rfl rfl (any_of HT_.out Zq2) (fun _ _ _ h => h) (Or.inl ⟨Zq3, ?_⟩) ?_ ?_
         rotate_left
         ·intro w'
          go_simp
          with_reducible rfl
         rotate_left
         ·simp only [Sx]
          rfl
         refine pure_ (i := 2) (N := some 38) (v := ?_) (a' := ?_) #[false, true, true, false, false, false, false, false, false, false, false, false] rfl rfl (any_of HT_.out Zq2) (fun _ _ _ h => h) (Or.inl ⟨Zq3, ?_⟩) ?_ ?_
         rotate_left
         ·intro w'
          go_simp
          with_reducible rfl
         rotate_left
         ·simp only [Sx]
          rfl
         refine pure_ (i := 3) (N := some 39) (v := ?_) (a' := ?_) #[false, true, true, true, false, false, false, false, false, false, false, false] rfl rfl (any_of HT_.out Zq2) (fun _ _ _ h => h) (Or.inl ⟨Zq3, ?_⟩) ?_ ?_
         rotate_left
         ·intro w'
          go_simp
          with_reducible rfl
         rotate_left
         ·simp only [Sx]
          rfl
         refine pure_ (i := 4) (N := some 40) (v := ?_) (a' := ?_) #[false, true, true, true, true, false, false, false, false, false, false, false] rfl rfl (any_of HT_.out Zq2) (fun _ _ _ h => h) (Or.inl ⟨Zq3, ?_⟩) ?_ ?_
         rotate_left
         ·intro w'
          go_simp
          with_reducible rfl
         rotate_left
         ·simp only [Sx]
          rfl
         refine take_ (i := 0) (N := some 36) (v := ?_) (a' := ?_) #[true, true, true, true, true, false, false, false, false, false, false, false] rfl rfl (take_ofW HT_.out HW_.out Zq2) (fun _ _ _ h => h) (Or.inl ⟨Zq3, ?_⟩) hHeld ?_ ?_
         rotate_left
         ·rintro w' ⟨s0, s1, s2, s3, s4⟩
          go_simp
          with_reducible rfl
         rotate_left
         ·simp only [Sx]
          rfl
         refine join_ (σ := Value × Value × Nat) 2 #[true, true, true, true, true, true, true, true, true, true, false, false] (fun s_ => [(41, .tuple #[.agg #[.string tbj, s_.1, s_.2.1], .bool tcO]), (13, .pointer (some ⟨s_.2.2, 0, none⟩)), (35, .tuple #[.agg #[.string tbj, s_.1, s_.2.1], .bool tcO]), (42, .agg #[.string tbj, s_.1, s_.2.1]), (43, .bool tcO)]) (fun s_ w' => (w'.cell? ⟨gbab, 0, none⟩ = some (.int .u32 a0_0) ∧ w'.cell? ⟨gbab, 1, none⟩ = some (.slice A0_1 l0_1.length c0_1) ∧ w'.cell? ⟨gbab, 2, none⟩ = some (.string a0_2) ∧ w'.cell? ⟨gbab, 3, none⟩ = some (.slice A0_3 l0_3.length c0_3) ∧ w'.cell? ⟨gbab, 4, none⟩ = some (.slice A0_4 l0_4.length c0_4)) ∧ (Kd.V k77 77 w' w.heap.size (fun k_ => k_ ≠ gbab ∧ k_ ≠ gbac ∧ k_ ≠ s_.2.2) (.slice Ao22 taQ.length co22) taQ) ∧ (Kd.V k30 30 w' w.heap.size (fun k_ => k_ ≠ gbab ∧ k_ ≠ gbac ∧ k_ ≠ s_.2.2) (.slice Ao24 taR.length co24) taR) ∧ (Kd.V k77 77 w' w.heap.size (fun k_ => k_ ≠ gbab ∧ k_ ≠ gbac ∧ k_ ≠ s_.2.2) s_.1 tbt) ∧ (Kd.V k30 30 w' w.heap.size (fun k_ => k_ ≠ gbab ∧ k_ ≠ gbac ∧ k_ ≠ s_.2.2) s_.2.1 tbv) ∧ (w'.heap[gbab]? = some (.cells #[.int .u32 a0_0, .slice A0_1 l0_1.length c0_1, .string a0_2, .slice A0_3 l0_3.length c0_3, .slice A0_4 l0_4.length c0_4] 35 (0, 0))) ∧ (w'.heap[gbac]? = some (.cells #[.string tbc, .slice Ao22 taQ.length co22, .slice Ao24 taR.length co24] 30 (0, 0))) ∧ (w'.heap[s_.2.2]? = some (.cells #[.string (⟨#[]⟩ : ByteArray), .slice none 0 0, .slice none 0 0] 30 (0, 0))) ∧ (w.heap.size ≤ s_.2.2) ∧ (w.heap.size ≤ s_.2.2) ∧ (gbab ≠ s_.2.2) ∧ (s_.2.2 ≠ gbab) ∧ (gbac ≠ s_.2.2) ∧ (s_.2.2 ≠ gbac) ∧ (Below w.heap.size w w')) ?_ ?_
         rotate_left
         ·intro hCont; refine two_ (i := 5) (j := 9) (Ni := some 41) (Nj := some 13) #[true, true, true, true, true, true, false, false, false, false, false, false] #[true, true, true, true, true, false, false, false, false, true, false, false] rfl rfl rfl rfl (two_of HT_.out Zq2) Zq7 Zq7 (fun K hK => ?_) (fun K hK => ?_)
          ·skip
           refine goes_ Try.func21 Zq2 rfl #[.agg #[.int .u32 a0_0, .slice A0_1 l0_1.length c0_1, .string a0_2, .slice A0_3 l0_3.length c0_3, .slice A0_4 l0_4.length c0_4], .slice A1 (l1.take ((ji10) : Int).toNat).length c1] Zq3 rfl rfl Zq130 ?_; with_reducible refine (arboretref06_Get.calls k1 a0_0 _ _ l0_1 a0_2 (fun k_ => k_ < w.heap.size) _ _ l0_3 (fun k_ => k_ < w.heap.size) _ _ l0_4 _ _ (l1.take ((ji10) : Int).toNat) tbj tbt tbv tcO _ ?side1 ?side2 ?side3 ?side4 ?side5 ?side6 A13.out).mono ?_
           (case side1 => repeat (first | exact Zq142 | (with_reducible refine Kd.C_alloc ?_ _) | (with_reducible refine Kd.C_drewN ?_ _) | (with_reducible refine Kd.C_drew ?_)))
           (case side2 => exact HC0_1.out)
           (case side3 => exact Kd.V_mk HC0_3.out (Kd.F_below (Kd.C_F k77_heap HR0_3.out) Zq16))
           (case side4 => exact Kd.V_mk HC0_4.out (Kd.F_below (Kd.C_F k30_heap HR0_4.out) Zq16))
           (case side5 => repeat (first | exact (Kd.C_below HRcQ.out HB.out) | (with_reducible refine Kd.C_alloc ?_ _) | (with_reducible refine Kd.C_drewN ?_ _) | (with_reducible refine Kd.C_drew ?_)))
           (case side6 => exact HCcQ.out)
           rintro e w29 ⟨v395, v398, rfl, ho0, ho1, hb⟩
           refine ⟨_, rfl, ?_⟩; have n0_ := Ak (Kd.V_below Zq47 hb); have n1_ := Ak (Kd.V_below Zq48 hb); have n2_ := Ak (Kd.V_lower (Kd.V_mono (ok' := fun k_ => k_ ≠ gbab ∧ k_ ≠ gbac) ho0 (fun k_ hk_ => ⟨Or.elim hk_ (fun hs_ => Or.elim hs_ (fun hs_ => fun e_ => Nat.not_le.2 hs_ Zq17) (fun hs_ => fun e_ => Nat.not_le.2 hs_ Zq17)) (fun hn_ => Zq133), Or.elim hk_ (fun hs_ => Or.elim hs_ (fun hs_ => fun e_ => Nat.not_le.2 hs_ Zq29) (fun hs_ => fun e_ => Nat.not_le.2 hs_ Zq29)) (fun hn_ => Zq189)⟩)) (below_size Zq16)); have n3_ := Ak (Kd.V_lower (Kd.V_mono (ok' := fun k_ => k_ ≠ gbab ∧ k_ ≠ gbac) ho1 (fun k_ hk_ => ⟨Or.elim hk_ (fun hs_ => Or.elim hs_ (fun hs_ => fun e_ => Nat.not_le.2 hs_ Zq17) (fun hs_ => fun e_ => Nat.not_le.2 hs_ Zq17)) (fun hn_ => Zq133), Or.elim hk_ (fun hs_ => Or.elim hs_ (fun hs_ => fun e_ => Nat.not_le.2 hs_ Zq29) (fun hs_ => fun e_ => Nat.not_le.2 hs_ Zq29)) (fun hn_ => Zq189)⟩)) (below_size Zq16)); have n4_ := Zq132; have n5_ := Zq165; have n6_ := Zq230; clear HObd HObe BKab BKac HB; have HObd := n0_; have HObe := n1_; have HObP := n2_; have HObQ := n3_; have BKab := n4_; have BKac := n5_; have HB := n6_; clear n0_ n1_ n2_ n3_ n4_ n5_ n6_
           (try clear hb)
           (try clear hb2)
           (try clear hk)
           (try clear hi)
           (try clear ho0)
           (try clear ho1)
           refine hK.out _ _ ⟨(blk_cell BKab.out 0).trans rfl, (blk_cell BKab.out 1).trans rfl, (blk_cell BKab.out 2).trans rfl, (blk_cell BKab.out 3).trans rfl, (blk_cell BKab.out 4).trans rfl⟩ (fun hHeld => ?_); clear hK K; refine norm_ (a' := ?_) ?_ ?_
           rotate_left
           ·show Act.put _ (some 41) _ = _
            simp only [Sx]
            rfl
           refine pure_ (i := 6) (N := some 35) (v := ?_) (a' := ?_) #[true, true, true, true, true, true, true, false, false, false, false, false] rfl rfl (any_of HT_.out Zq2) (fun _ _ _ h => h) (Or.inl ⟨Zq3, ?_⟩) ?_ ?_
           rotate_left
           ·intro w'
            go_simp
            with_reducible rfl
           rotate_left
           ·simp only [Sx]
            rfl
           refine pure_ (i := 7) (N := some 42) (v := ?_) (a' := ?_) #[true, true, true, true, true, true, true, true, false, false, false, false] rfl rfl (any_of HT_.out Zq2) (fun _ _ _ h => h) (Or.inl ⟨Zq3, ?_⟩) ?_ ?_
           rotate_left
           ·intro w'
            go_simp
            with_reducible rfl
           rotate_left
           ·simp only [Sx]
            rfl
           refine pure_ (i := 8) (N := some 43) (v := ?_) (a' := ?_) #[true, true, true, true, true, true, true, true, true, false, false, false] rfl rfl (any_of HT_.out Zq2) (fun _ _ _ h => h) (Or.inl ⟨Zq3, ?_⟩) ?_ ?_
           rotate_left
           ·intro w'
            go_simp
            with_reducible rfl
           rotate_left
           ·simp only [Sx]
            rfl
           refine one_ (i := 9) (N := some 13) #[true, true, true, true, true, true, true, true, true, true, false, false] rfl rfl (one_of HT_.out Zq2) Zq7 (fun K hK => ?_); refine box_step ?hg (N := 13) ?hd (cs := #[.string (⟨#[]⟩ : ByteArray), .slice none 0 0, .slice none 0 0]) (t := 30) ?hr ?_; (case hd | hg => rfl); (case hr => first | (go_simp; done) | (go_simp; rfl)); intro gbad hg w30 hbox hb; have n0_ := Zq215; have n1_ := Zq216; have n2_ := Ak (Kd.V_below (Kd.V_elderB Zq121 gbad (Nat.le_of_eq hg.symm)) hb); have n3_ := Ak (Kd.V_below (Kd.V_elderB Zq122 gbad (Nat.le_of_eq hg.symm)) hb); have n4_ := Zq132; have n5_ := Zq165; have n6_ := Zq230; have n7_ := Ak (hbox); have n8_ := Zq174; have n9_ := Zq174; have n10_ := Zq280; have n11_ := Zq281; have n12_ := Ak ((by rw [hg]; exact Nat.ne_of_lt Zq195 : gbac ≠ gbad)); have n13_ := Ak ((by rw [hg]; exact Nat.ne_of_gt Zq195 : gbad ≠ gbac)); clear HObd HObe HObP HObQ BKab BKac HB; have HObd := n0_; have HObe := n1_; have HObP := n2_; have HObQ := n3_; have BKab := n4_; have BKac := n5_; have HB := n6_; have BKad := n7_; have GWad := n8_; have GEad := n9_; have NB381_401 := n10_; have NB401_381 := n11_; have NB391_401 := n12_; have NB401_391 := n13_; clear n0_ n1_ n2_ n3_ n4_ n5_ n6_ n7_ n8_ n9_ n10_ n11_ n12_ n13_ hb hbox hg; refine hK.out _ _ ⟨(blk_cell BKab.out 0).trans rfl, (blk_cell BKab.out 1).trans rfl, (blk_cell BKab.out 2).trans rfl, (blk_cell BKab.out 3).trans rfl, (blk_cell BKab.out 4).trans rfl⟩ (fun hHeld => ?_); clear hK K; refine norm_ (a' := ?_) ?_ ?_
           rotate_left
           ·show Act.put _ (some 13) _ = _
            simp only [Sx]
            rfl
           exact norm_ Zq55 (hCont (v395, v398, gbad) _ ⟨hHeld, Zq123, Zq124, (by (with_reducible repeat (first | apply Kd.V_alloc | apply Kd.V_drewN | apply Kd.V_drew)); exact Kd.V_mono HObP.out (fun _ hk => ⟨hk.1.1, ⟨hk.1.2, hk.2⟩⟩)), (by (with_reducible repeat (first | apply Kd.V_alloc | apply Kd.V_drewN | apply Kd.V_drew)); exact Kd.V_mono HObQ.out (fun _ hk => ⟨hk.1.1, ⟨hk.1.2, hk.2⟩⟩)), Zq13, Zq15, Zq45, GWad.out, GEad.out, NB381_401.out, NB401_381.out, NB391_401.out, NB401_391.out, Zq23⟩)
          ·skip
           refine box_step ?hg (N := 13) ?hd (cs := #[.string (⟨#[]⟩ : ByteArray), .slice none 0 0, .slice none 0 0]) (t := 30) ?hr ?_; (case hd | hg => rfl); (case hr => first | (go_simp; done) | (go_simp; rfl)); intro gbad hg w29 hbox hb; have n0_ := Zq215; have n1_ := Zq216; have n2_ := Zq132; have n3_ := Zq165; have n4_ := Zq230; have n5_ := Ak (hbox); have n6_ := Zq174; have n7_ := Zq174; have n8_ := Zq280; have n9_ := Zq281; have n10_ := Ak ((by rw [hg]; exact Nat.ne_of_lt Zq195 : gbac ≠ gbad)); have n11_ := Ak ((by rw [hg]; exact Nat.ne_of_gt Zq195 : gbad ≠ gbac)); clear HObd HObe BKab BKac HB; have HObd := n0_; have HObe := n1_; have BKab := n2_; have BKac := n3_; have HB := n4_; have BKad := n5_; have GWad := n6_; have GEad := n7_; have NB381_401 := n8_; have NB401_381 := n9_; have NB391_401 := n10_; have NB401_391 := n11_; clear n0_ n1_ n2_ n3_ n4_ n5_ n6_ n7_ n8_ n9_ n10_ n11_ hb hbox hg; refine hK.out _ _ ⟨(blk_cell BKab.out 0).trans rfl, (blk_cell BKab.out 1).trans rfl, (blk_cell BKab.out 2).trans rfl, (blk_cell BKab.out 3).trans rfl, (blk_cell BKab.out 4).trans rfl⟩ (fun hHeld => ?_); clear hK K; refine norm_ (a' := ?_) ?_ ?_
           rotate_left
           ·show Act.put _ (some 13) _ = _
            simp only [Sx]
            rfl
           refine one_ (i := 5) (N := some 41) #[true, true, true, true, true, true, false, false, false, true, false, false] rfl rfl (one_of HT_.out Zq2) Zq7 (fun K hK => ?_); refine goes_ Try.func21 Zq2 rfl #[.agg #[.int .u32 a0_0, .slice A0_1 l0_1.length c0_1, .string a0_2, .slice A0_3 l0_3.length c0_3, .slice A0_4 l0_4.length c0_4], .slice A1 (l1.take ((ji10) : Int).toNat).length c1] Zq3 rfl rfl Zq130 ?_; with_reducible refine (arboretref06_Get.calls k1 a0_0 _ _ l0_1 a0_2 (fun k_ => k_ < w.heap.size) _ _ l0_3 (fun k_ => k_ < w.heap.size) _ _ l0_4 _ _ (l1.take ((ji10) : Int).toNat) tbj tbt tbv tcO _ ?side1 ?side2 ?side3 ?side4 ?side5 ?side6 A13.out).mono ?_
           (case side1 => repeat (first | exact Zq142 | (with_reducible refine Kd.C_alloc ?_ _) | (with_reducible refine Kd.C_drewN ?_ _) | (with_reducible refine Kd.C_drew ?_)))
           (case side2 => exact HC0_1.out)
           (case side3 => exact Kd.V_mk HC0_3.out (Kd.F_below (Kd.C_F k77_heap HR0_3.out) Zq23))
           (case side4 => exact Kd.V_mk HC0_4.out (Kd.F_below (Kd.C_F k30_heap HR0_4.out) Zq23))
           (case side5 => repeat (first | exact (Kd.C_below HRcQ.out HB.out) | (with_reducible refine Kd.C_alloc ?_ _) | (with_reducible refine Kd.C_drewN ?_ _) | (with_reducible refine Kd.C_drew ?_)))
           (case side6 => exact HCcQ.out)
           rintro e w30 ⟨v395, v398, rfl, ho0, ho1, hb⟩
           refine ⟨_, rfl, ?_⟩; have n0_ := Ak (Kd.V_below Zq47 hb); have n1_ := Ak (Kd.V_below Zq48 hb); have n2_ := Ak (Kd.V_lower (Kd.V_mono (ok' := fun k_ => k_ ≠ gbab ∧ k_ ≠ gbac ∧ k_ ≠ gbad) ho0 (fun k_ hk_ => ⟨Or.elim hk_ (fun hs_ => Or.elim hs_ (fun hs_ => fun e_ => Nat.not_le.2 hs_ Zq17) (fun hs_ => fun e_ => Nat.not_le.2 hs_ Zq17)) (fun hn_ => Zq133), Or.elim hk_ (fun hs_ => Or.elim hs_ (fun hs_ => fun e_ => Nat.not_le.2 hs_ Zq29) (fun hs_ => fun e_ => Nat.not_le.2 hs_ Zq29)) (fun hn_ => Zq189), Or.elim hk_ (fun hs_ => Or.elim hs_ (fun hs_ => fun e_ => Nat.not_le.2 hs_ (by rw [e_]; exact GWad.out)) (fun hs_ => fun e_ => Nat.not_le.2 hs_ (by rw [e_]; exact GWad.out))) (fun hn_ => Zq199)⟩)) (below_size Zq23)); have n3_ := Ak (Kd.V_lower (Kd.V_mono (ok' := fun k_ => k_ ≠ gbab ∧ k_ ≠ gbac ∧ k_ ≠ gbad) ho1 (fun k_ hk_ => ⟨Or.elim hk_ (fun hs_ => Or.elim hs_ (fun hs_ => fun e_ => Nat.not_le.2 hs_ Zq17) (fun hs_ => fun e_ => Nat.not_le.2 hs_ Zq17)) (fun hn_ => Zq133), Or.elim hk_ (fun hs_ => Or.elim hs_ (fun hs_ => fun e_ => Nat.not_le.2 hs_ Zq29) (fun hs_ => fun e_ => Nat.not_le.2 hs_ Zq29)) (fun hn_ => Zq189), Or.elim hk_ (fun hs_ => Or.elim hs_ (fun hs_ => fun e_ => Nat.not_le.2 hs_ (by rw [e_]; exact GWad.out)) (fun hs_ => fun e_ => Nat.not_le.2 hs_ (by rw [e_]; exact GWad.out))) (fun hn_ => Zq199)⟩)) (below_size Zq23)); have n4_ := Zq132; have n5_ := Zq165; have n6_ := Zq258; have n7_ := Ak (below_step Zq23 hb); clear HObd HObe BKab BKac BKad HB; have HObd := n0_; have HObe := n1_; have HObP := n2_; have HObQ := n3_; have BKab := n4_; have BKac := n5_; have BKad := n6_; have HB := n7_; clear n0_ n1_ n2_ n3_ n4_ n5_ n6_ n7_
           (try clear hb)
           (try clear hb2)
           (try clear hk)
           (try clear hi)
           (try clear ho0)
           (try clear ho1)
           refine hK.out _ _ ⟨(blk_cell BKab.out 0).trans rfl, (blk_cell BKab.out 1).trans rfl, (blk_cell BKab.out 2).trans rfl, (blk_cell BKab.out 3).trans rfl, (blk_cell BKab.out 4).trans rfl⟩ (fun hHeld => ?_); clear hK K; refine norm_ (a' := ?_) ?_ ?_
           rotate_left
           ·show Act.put _ (some 41) _ = _
            simp only [Sx]
            rfl
           refine pure_ (i := 6) (N := some 35) (v := ?_) (a' := ?_) #[true, true, true, true, true, true, true, false, false, true, false, false] rfl rfl (any_of HT_.out Zq2) (fun _ _ _ h => h) (Or.inl ⟨Zq3, ?_⟩) ?_ ?_
           rotate_left
           ·intro w'
            go_simp
            with_reducible rfl
           rotate_left
           ·simp only [Sx]
            rfl
           refine pure_ (i := 7) (N := some 42) (v := ?_) (a' := ?_) #[true, true, true, true, true, true, true, true, false, true, false, false] rfl rfl (any_of HT_.out Zq2) (fun _ _ _ h => h) (Or.inl ⟨Zq3, ?_⟩) ?_ ?_
           rotate_left
           ·intro w'
            go_simp
            with_reducible rfl
           rotate_left
           ·simp only [Sx]
            rfl
           refine pure_ (i := 8) (N := some 43) (v := ?_) (a' := ?_) #[true, true, true, true, true, true, true, true, true, true, false, false] rfl rfl (any_of HT_.out Zq2) (fun _ _ _ h => h) (Or.inl ⟨Zq3, ?_⟩) ?_ ?_
           rotate_left
           ·intro w'
            go_simp
            with_reducible rfl
           rotate_left
           ·simp only [Sx]
            rfl
           exact norm_ Zq55 (hCont (v395, v398, gbad) _ ⟨hHeld, Zq123, Zq124, Zq121, Zq122, Zq13, Zq15, Zq45, GWad.out, GEad.out, NB381_401.out, NB401_381.out, NB391_401.out, NB401_391.out, Zq23⟩)
         rintro ⟨v395, v398, gbad⟩ w31 ⟨hS_, h0_, h1_, h2_, h3_, h4_, h5_, h6_, h7_, h8_, h9_, h10_, h11_, h12_, h13_⟩
         have n0_ : Aside0 (Kd.V k77 77 w31 w.heap.size (fun k_ => k_ ≠ gbab ∧ k_ ≠ gbac ∧ k_ ≠ gbad) (.slice Ao22 taQ.length co22) taQ) := ⟨h0_⟩
         have n1_ : Aside0 (Kd.V k30 30 w31 w.heap.size (fun k_ => k_ ≠ gbab ∧ k_ ≠ gbac ∧ k_ ≠ gbad) (.slice Ao24 taR.length co24) taR) := ⟨h1_⟩
         have n2_ : Aside0 (Kd.V k77 77 w31 w.heap.size (fun k_ => k_ ≠ gbab ∧ k_ ≠ gbac ∧ k_ ≠ gbad) v395 tbt) := ⟨h2_⟩
         have n3_ : Aside0 (Kd.V k30 30 w31 w.heap.size (fun k_ => k_ ≠ gbab ∧ k_ ≠ gbac ∧ k_ ≠ gbad) v398 tbv) := ⟨h3_⟩
         have n4_ : Aside0 (w31.heap[gbab]? = some (.cells #[.int .u32 a0_0, .slice A0_1 l0_1.length c0_1, .string a0_2, .slice A0_3 l0_3.length c0_3, .slice A0_4 l0_4.length c0_4] 35 (0, 0))) := ⟨h4_⟩
         have n5_ : Aside0 (w31.heap[gbac]? = some (.cells #[.string tbc, .slice Ao22 taQ.length co22, .slice Ao24 taR.length co24] 30 (0, 0))) := ⟨h5_⟩
         have n6_ : Aside0 (w31.heap[gbad]? = some (.cells #[.string (⟨#[]⟩ : ByteArray), .slice none 0 0, .slice none 0 0] 30 (0, 0))) := ⟨h6_⟩
         have n7_ : Aside0 (w.heap.size ≤ gbad) := ⟨h7_⟩
         have n8_ : Aside0 (w.heap.size ≤ gbad) := ⟨h8_⟩
         have n9_ : Aside0 (gbab ≠ gbad) := ⟨h9_⟩
         have n10_ : Aside0 (gbad ≠ gbab) := ⟨h10_⟩
         have n11_ : Aside0 (gbac ≠ gbad) := ⟨h11_⟩
         have n12_ : Aside0 (gbad ≠ gbac) := ⟨h12_⟩
         have n13_ : Aside0 (Below w.heap.size w w31) := ⟨h13_⟩
         clear HObd HObe BKab BKac HB h0_ h1_ h2_ h3_ h4_ h5_ h6_ h7_ h8_ h9_ h10_ h11_ h12_ h13_; have HObd := n0_; have HObe := n1_; have HObP := n2_; have HObQ := n3_; have BKab := n4_; have BKac := n5_; have BKad := n6_; have GWad := n7_; have GEad := n8_; have NB381_401 := n9_; have NB401_381 := n10_; have NB391_401 := n11_; have NB401_391 := n12_; have HB := n13_; clear n0_ n1_ n2_ n3_ n4_ n5_ n6_ n7_ n8_ n9_ n10_ n11_ n12_ n13_; have hHeld : w31.cell? ⟨gbab, 0, none⟩ = some (.int .u32 a0_0) ∧ w31.cell? ⟨gbab, 1, none⟩ = some (.slice A0_1 l0_1.length c0_1) ∧ w31.cell? ⟨gbab, 2, none⟩ = some (.string a0_2) ∧ w31.cell? ⟨gbab, 3, none⟩ = some (.slice A0_3 l0_3.length c0_3) ∧ w31.cell? ⟨gbab, 4, none⟩ = some (.slice A0_4 l0_4.length c0_4) := hS_; obtain ⟨Ao33, co33, eo33⟩ := Kd.V_slice HObP.out
         (first | subst eo33 | (injection eo33 with f1_ f2_ f3_; have f4_ := f1_.symm; have f5_ := f3_.symm; clear f1_ f2_ f3_; subst f4_; subst f5_))
         obtain ⟨Ao35, co35, eo35⟩ := Kd.V_slice HObQ.out
         (first | subst eo35 | (injection eo35 with f1_ f2_ f3_; have f4_ := f1_.symm; have f5_ := f3_.symm; clear f1_ f2_ f3_; subst f4_; subst f5_))
         refine norm_ (a' := ?_) ?_ ?_
         rotate_left
         ·simp only [putAll, Act.put, List.setIfInBounds_toArray, List.set_cons_zero, List.set_cons_succ]
          rfl
         refine one_ (i := 10) (N := none) #[true, true, true, true, true, true, true, true, true, true, true, false] rfl rfl (one_of HT_.out Zq2) Zq7 (fun K hK => ?_); have hs32 : w31.cell? ⟨gbad, 0, none⟩ = some (.string (⟨#[]⟩ : ByteArray)) := (blk_cell BKad.out 0).trans rfl; have hfs32 := blk_frozen BKad.out 0; have hns32_0 := NB381_401.out; have hns32_1 := NB391_401.out; have hms32_0 := NB401_381.out; have hms32_1 := NB401_391.out; have hs34 : w31.cell? ⟨gbad, 1, none⟩ = some (.slice none 0 0) := (blk_cell BKad.out 1).trans rfl; have hfs34 := blk_frozen BKad.out 1; have hns34_0 := NB381_401.out; have hns34_1 := NB391_401.out; have hms34_0 := NB401_381.out; have hms34_1 := NB401_391.out; have hs36 : w31.cell? ⟨gbad, 2, none⟩ = some (.slice none 0 0) := (blk_cell BKad.out 2).trans rfl; have hfs36 := blk_frozen BKad.out 2; have hns36_0 := NB381_401.out; have hns36_1 := NB391_401.out; have hms36_0 := NB401_381.out; have hms36_1 := NB401_391.out; refine skip_ (w1 := ?_) Zq3 rfl ?_ ?_
         rotate_left
         ·go_simp
          rfl
         refine hK.out _ _ ⟨((cell_far (p := ⟨gbad, _, none⟩) NB381_401.out _).trans (((cell_far (p := ⟨gbad, _, none⟩) NB381_401.out _).trans (((cell_far (p := ⟨gbad, _, none⟩) NB381_401.out _).trans (hHeld.1)))))), ((cell_far (p := ⟨gbad, _, none⟩) NB381_401.out _).trans (((cell_far (p := ⟨gbad, _, none⟩) NB381_401.out _).trans (((cell_far (p := ⟨gbad, _, none⟩) NB381_401.out _).trans (hHeld.2.1)))))), ((cell_far (p := ⟨gbad, _, none⟩) NB381_401.out _).trans (((cell_far (p := ⟨gbad, _, none⟩) NB381_401.out _).trans (((cell_far (p := ⟨gbad, _, none⟩) NB381_401.out _).trans (hHeld.2.2.1)))))), ((cell_far (p := ⟨gbad, _, none⟩) NB381_401.out _).trans (((cell_far (p := ⟨gbad, _, none⟩) NB381_401.out _).trans (((cell_far (p := ⟨gbad, _, none⟩) NB381_401.out _).trans (hHeld.2.2.2.1)))))), ((cell_far (p := ⟨gbad, _, none⟩) NB381_401.out _).trans (((cell_far (p := ⟨gbad, _, none⟩) NB381_401.out _).trans (((cell_far (p := ⟨gbad, _, none⟩) NB381_401.out _).trans (hHeld.2.2.2.2))))))⟩ (fun hHeld => ?_); clear hK K; refine pure_ (i := 11) (N := some 14) (v := ?_) (a' := ?_) #[true, true, true, true, true, true, true, true, true, true, true, true] rfl rfl (any_of HT_.out Zq2) (fun _ _ _ h => h) (Or.inl ⟨Zq3, ?_⟩) ?_ ?_
         rotate_left
         ·intro w'
          go_simp
          with_reducible rfl
         rotate_left
         ·simp only [Sx]
          rfl
         refine done_ (done_of HT_.out Zq2) ?_; have hnb37 := NB401_381.out; have hnc37 := NB381_401.out; have hnb38 := NB401_391.out; have hnc38 := NB391_401.out; have hcz39_0 : w31.cell? ⟨gbad, 0, none⟩ = some (.string (⟨#[]⟩ : ByteArray)) := (blk_cell BKad.out 0).trans rfl; have hcz39_1 : w31.cell? ⟨gbad, 1, none⟩ = some (.slice none 0 0) := (blk_cell BKad.out 1).trans rfl; have hcz39_2 : w31.cell? ⟨gbad, 2, none⟩ = some (.slice none 0 0) := (blk_cell BKad.out 2).trans rfl; have hfz39_0 := blk_frozen BKad.out 0; have hfz39_1 := blk_frozen BKad.out 1; have hfz39_2 := blk_frozen BKad.out 2; have hnb40 := NB391_381.out; have hnc40 := NB381_391.out; have hcz41_0 : w31.cell? ⟨gbac, 0, none⟩ = some (.string tbc) := (blk_cell BKac.out 0).trans rfl; have hcz41_1 : w31.cell? ⟨gbac, 1, none⟩ = some (.slice Ao22 taQ.length co22) := (blk_cell BKac.out 1).trans rfl; have hcz41_2 : w31.cell? ⟨gbac, 2, none⟩ = some (.slice Ao24 taR.length co24) := (blk_cell BKac.out 2).trans rfl; have hfz41_0 := blk_frozen BKac.out 0; have hfz41_1 := blk_frozen BKac.out 1; have hfz41_2 := blk_frozen BKac.out 2
         try go_wp2_with (first | ((with_reducible refine gate_callee (f := 18) rfl ?_); refine goesL_ (some 47) rfl rfl Try.func18 Zq2 rfl #[.agg #[.string tbj, .slice Ao33 tbt.length co33, .slice Ao35 tbv.length co35], .agg #[.string tbc, .slice Ao22 taQ.length co22, .slice Ao24 taR.length co24]] rfl Zq8 ?_; (with_reducible refine (arboretref12_Ranges.calls k1 tbj _ _ tbt _ _ tbv tbc _ _ taQ _ _ taR tau tfV true _ ?side1 ?side2 ?side3 ?side4 ?side5 ?side6 ?side7 ?side8 A14.out).mono ?_); (case side1 => refine (Kd.V_reads' (e := 77) (base := w.heap.size) (ok := fun k_ => (k_ ≠ gbab ∧ (k_ ≠ gbac ∧ k_ ≠ gbad))) (n := tbt.length) (c := co33) ?_).2.2; exact (by (with_reducible repeat (first | apply Kd.V_alloc | apply Kd.V_drewN | apply Kd.V_drew)); exact (Kd.V_mono (Kd.V_far (p := ⟨gbad, 2, none⟩) (Kd.V_far (p := ⟨gbad, 1, none⟩) (Kd.V_far (p := ⟨gbad, 0, none⟩) (Kd.V_mono HObP.out (fun k_ hk => (⟨hk, hk.2.2⟩ : _ ∧ k_ ≠ gbad))) (fun _ hk => hk.2) (.string tbj)) (fun _ hk => hk.2) (.slice Ao33 tbt.length co33)) (fun _ hk => hk.2) (.slice Ao35 tbv.length co35)) (fun _ h_ => h_.1)))); (case side2 => exact (Kd.V_reads' HObP.out).2.1); (case side3 => refine (Kd.V_reads' (e := 30) (base := w.heap.size) (ok := fun k_ => (k_ ≠ gbab ∧ (k_ ≠ gbac ∧ k_ ≠ gbad))) (n := tbv.length) (c := co35) ?_).2.2; exact (by (with_reducible repeat (first | apply Kd.V_alloc | apply Kd.V_drewN | apply Kd.V_drew)); exact (Kd.V_mono (Kd.V_far (p := ⟨gbad, 2, none⟩) (Kd.V_far (p := ⟨gbad, 1, none⟩) (Kd.V_far (p := ⟨gbad, 0, none⟩) (Kd.V_mono HObQ.out (fun k_ hk => (⟨hk, hk.2.2⟩ : _ ∧ k_ ≠ gbad))) (fun _ hk => hk.2) (.string tbj)) (fun _ hk => hk.2) (.slice Ao33 tbt.length co33)) (fun _ hk => hk.2) (.slice Ao35 tbv.length co35)) (fun _ h_ => h_.1)))); (case side4 => exact (Kd.V_reads' HObQ.out).2.1); (case side5 => refine (Kd.V_reads' (e := 77) (base := w.heap.size) (ok := fun k_ => (k_ ≠ gbab ∧ (k_ ≠ gbac ∧ k_ ≠ gbad))) (n := taQ.length) (c := co22) ?_).2.2; exact (by (with_reducible repeat (first | apply Kd.V_alloc | apply Kd.V_drewN | apply Kd.V_drew)); exact (Kd.V_mono (Kd.V_far (p := ⟨gbad, 2, none⟩) (Kd.V_far (p := ⟨gbad, 1, none⟩) (Kd.V_far (p := ⟨gbad, 0, none⟩) (Kd.V_mono HObd.out (fun k_ hk => (⟨hk, hk.2.2⟩ : _ ∧ k_ ≠ gbad))) (fun _ hk => hk.2) (.string tbj)) (fun _ hk => hk.2) (.slice Ao33 tbt.length co33)) (fun _ hk => hk.2) (.slice Ao35 tbv.length co35)) (fun _ h_ => h_.1)))); (case side6 => exact (Kd.V_reads' HObd.out).2.1); (case side7 => refine (Kd.V_reads' (e := 30) (base := w.heap.size) (ok := fun k_ => (k_ ≠ gbab ∧ (k_ ≠ gbac ∧ k_ ≠ gbad))) (n := taR.length) (c := co24) ?_).2.2; exact (by (with_reducible repeat (first | apply Kd.V_alloc | apply Kd.V_drewN | apply Kd.V_drew)); exact (Kd.V_mono (Kd.V_far (p := ⟨gbad, 2, none⟩) (Kd.V_far (p := ⟨gbad, 1, none⟩) (Kd.V_far (p := ⟨gbad, 0, none⟩) (Kd.V_mono HObe.out (fun k_ hk => (⟨hk, hk.2.2⟩ : _ ∧ k_ ≠ gbad))) (fun _ hk => hk.2) (.string tbj)) (fun _ hk => hk.2) (.slice Ao33 tbt.length co33)) (fun _ hk => hk.2) (.slice Ao35 tbv.length co35)) (fun _ h_ => h_.1)))); (case side8 => exact (Kd.V_reads' HObe.out).2.1); rintro e w42 ⟨v403, rfl, ho0, hb⟩; refine ⟨_, rfl, ?_⟩; have n0_ := Ak (Kd.V_elder' (by (with_reducible repeat (first | apply Kd.V_alloc | apply Kd.V_drewN | apply Kd.V_drew)); exact (Kd.V_mono (Kd.V_far (p := ⟨gbad, 2, none⟩) (Kd.V_far (p := ⟨gbad, 1, none⟩) (Kd.V_far (p := ⟨gbad, 0, none⟩) (Kd.V_mono HObd.out (fun k_ hk => (⟨hk, hk.2.2⟩ : _ ∧ k_ ≠ gbad))) (fun _ hk => hk.2) (.string tbj)) (fun _ hk => hk.2) (.slice Ao33 tbt.length co33)) (fun _ hk => hk.2) (.slice Ao35 tbv.length co35)) (fun _ h_ => h_.1))) (Kd.R_base ho0) hb); have n1_ := Ak (Kd.V_elder' (by (with_reducible repeat (first | apply Kd.V_alloc | apply Kd.V_drewN | apply Kd.V_drew)); exact (Kd.V_mono (Kd.V_far (p := ⟨gbad, 2, none⟩) (Kd.V_far (p := ⟨gbad, 1, none⟩) (Kd.V_far (p := ⟨gbad, 0, none⟩) (Kd.V_mono HObe.out (fun k_ hk => (⟨hk, hk.2.2⟩ : _ ∧ k_ ≠ gbad))) (fun _ hk => hk.2) (.string tbj)) (fun _ hk => hk.2) (.slice Ao33 tbt.length co33)) (fun _ hk => hk.2) (.slice Ao35 tbv.length co35)) (fun _ h_ => h_.1))) (Kd.R_base ho0) hb); have n2_ := Ak (Kd.V_elder' (by (with_reducible repeat (first | apply Kd.V_alloc | apply Kd.V_drewN | apply Kd.V_drew)); exact (Kd.V_mono (Kd.V_far (p := ⟨gbad, 2, none⟩) (Kd.V_far (p := ⟨gbad, 1, none⟩) (Kd.V_far (p := ⟨gbad, 0, none⟩) (Kd.V_mono HObP.out (fun k_ hk => (⟨hk, hk.2.2⟩ : _ ∧ k_ ≠ gbad))) (fun _ hk => hk.2) (.string tbj)) (fun _ hk => hk.2) (.slice Ao33 tbt.length co33)) (fun _ hk => hk.2) (.slice Ao35 tbv.length co35)) (fun _ h_ => h_.1))) (Kd.R_base ho0) hb); have n3_ := Ak (Kd.V_elder' (by (with_reducible repeat (first | apply Kd.V_alloc | apply Kd.V_drewN | apply Kd.V_drew)); exact (Kd.V_mono (Kd.V_far (p := ⟨gbad, 2, none⟩) (Kd.V_far (p := ⟨gbad, 1, none⟩) (Kd.V_far (p := ⟨gbad, 0, none⟩) (Kd.V_mono HObQ.out (fun k_ hk => (⟨hk, hk.2.2⟩ : _ ∧ k_ ≠ gbad))) (fun _ hk => hk.2) (.string tbj)) (fun _ hk => hk.2) (.slice Ao33 tbt.length co33)) (fun _ hk => hk.2) (.slice Ao35 tbv.length co35)) (fun _ h_ => h_.1))) (Kd.R_base ho0) hb); have n4_ := Ak (Kd.R_lower ho0 (below_size Zq23)); have n5_ := Ak (blk_below (g := gbab) (o := .cells #[.int .u32 a0_0, .slice A0_1 l0_1.length c0_1, .string a0_2, .slice A0_3 l0_3.length c0_3, .slice A0_4 l0_4.length c0_4] 35 (0, 0)) (by (with_reducible repeat (first | refine blk_drewN ?_ _ | refine blk_drew ?_ | refine blk_alloc ?_ _)); refine blk_far ?_ NB381_401.out _; (with_reducible repeat (first | refine blk_drewN ?_ _ | refine blk_drew ?_ | refine blk_alloc ?_ _)); refine blk_far ?_ NB381_401.out _; (with_reducible repeat (first | refine blk_drewN ?_ _ | refine blk_drew ?_ | refine blk_alloc ?_ _)); refine blk_far ?_ NB381_401.out _; (with_reducible repeat (first | refine blk_drewN ?_ _ | refine blk_drew ?_ | refine blk_alloc ?_ _)); exact BKab.out) hb); have n6_ := Ak (blk_below (g := gbac) (o := .cells #[.string tbc, .slice Ao22 taQ.length co22, .slice Ao24 taR.length co24] 30 (0, 0)) (by (with_reducible repeat (first | refine blk_drewN ?_ _ | refine blk_drew ?_ | refine blk_alloc ?_ _)); refine blk_far ?_ NB391_401.out _; (with_reducible repeat (first | refine blk_drewN ?_ _ | refine blk_drew ?_ | refine blk_alloc ?_ _)); refine blk_far ?_ NB391_401.out _; (with_reducible repeat (first | refine blk_drewN ?_ _ | refine blk_drew ?_ | refine blk_alloc ?_ _)); refine blk_far ?_ NB391_401.out _; (with_reducible repeat (first | refine blk_drewN ?_ _ | refine blk_drew ?_ | refine blk_alloc ?_ _)); exact BKac.out) hb); have n7_ := Ak (blk_below (g := gbad) (o := .cells #[.string tbj, .slice Ao33 tbt.length co33, .slice Ao35 tbv.length co35] 30 (0, 0)) (by (with_reducible repeat (first | refine blk_drewN ?_ _ | refine blk_drew ?_ | refine blk_alloc ?_ _)); refine blk_put (cs := #[.string tbj, .slice Ao33 tbt.length co33, .slice none 0 0]) ?_ 2 _ rfl; (with_reducible repeat (first | refine blk_drewN ?_ _ | refine blk_drew ?_ | refine blk_alloc ?_ _)); refine blk_put (cs := #[.string tbj, .slice none 0 0, .slice none 0 0]) ?_ 1 _ rfl; (with_reducible repeat (first | refine blk_drewN ?_ _ | refine blk_drew ?_ | refine blk_alloc ?_ _)); refine blk_put (cs := #[.string (⟨#[]⟩ : ByteArray), .slice none 0 0, .slice none 0 0]) ?_ 0 _ rfl; (with_reducible repeat (first | refine blk_drewN ?_ _ | refine blk_drew ?_ | refine blk_alloc ?_ _)); exact BKad.out) hb); have n8_ := Ak (below_step Zq23 hb); clear HObd HObe HObP HObQ BKab BKac BKad HB; have HObd := n0_; have HObe := n1_; have HObP := n2_; have HObQ := n3_; have HOfs := n4_; have BKab := n5_; have BKac := n6_; have BKad := n7_; have HB := n8_; clear n0_ n1_ n2_ n3_ n4_ n5_ n6_ n7_ n8_; (try clear hb); (try clear hb2); (try clear hk); (try clear hi); (try clear ho0); obtain ⟨Ao43, co43, eo43⟩ := Kd.R_slice HOfs.out; subst eo43))
         go_loopg [2, 18, 55] k1 (fun kq v2 v18 v55 w' => ∃ (x2_2 : Int) (x18_2 : Bool) (x55_2 : Int), v2 = .int .u64 x2_2 ∧ v18 = .bool x18_2 ∧ v55 = .int .i64 x55_2 ∧ Aside0 (arboretref12_Up.l1 kq l1 x2_2 a3 x10_1 tau x18_2 (tau.length : Int) x55_2 a0_0 l0_1 a0_2 l0_3 l0_4 = some (r1, r2)) ∧ Aside0 (kq ≤ k1) ∧ Aside0 (Kd.R k45 45 w' w.heap.size (fun _ => True) (.slice Ao43 tau.length co43) tau) ∧ Aside0 (Kd.V k77 77 w' w.heap.size (fun k_ => some k_ ≠ ((.slice Ao43 tau.length co43) : Value).ownBlock ∧ k_ ≠ gbab ∧ k_ ≠ gbac ∧ k_ ≠ gbad) (.slice Ao22 taQ.length co22) taQ) ∧ Aside0 (Kd.V k30 30 w' w.heap.size (fun k_ => some k_ ≠ ((.slice Ao43 tau.length co43) : Value).ownBlock ∧ k_ ≠ gbab ∧ k_ ≠ gbac ∧ k_ ≠ gbad) (.slice Ao24 taR.length co24) taR) ∧ Aside0 (Kd.V k77 77 w' w.heap.size (fun k_ => some k_ ≠ ((.slice Ao43 tau.length co43) : Value).ownBlock ∧ k_ ≠ gbab ∧ k_ ≠ gbac ∧ k_ ≠ gbad) (.slice Ao33 tbt.length co33) tbt) ∧ Aside0 (Kd.V k30 30 w' w.heap.size (fun k_ => some k_ ≠ ((.slice Ao43 tau.length co43) : Value).ownBlock ∧ k_ ≠ gbab ∧ k_ ≠ gbac ∧ k_ ≠ gbad) (.slice Ao35 tbv.length co35) tbv) ∧ Aside0 (w'.heap[gbab]? = some (.cells #[.int .u32 a0_0, (.slice A0_1 l0_1.length c0_1), .string a0_2, (.slice A0_3 l0_3.length c0_3), (.slice A0_4 l0_4.length c0_4)] 35 (0, 0))) ∧ Aside0 (w'.heap[gbac]? = some (.cells #[.string tbc, (.slice Ao22 taQ.length co22), (.slice Ao24 taR.length co24)] 30 (0, 0))) ∧ Aside0 (w'.heap[gbad]? = some (.cells #[.string tbj, (.slice Ao33 tbt.length co33), (.slice Ao35 tbv.length co35)] 30 (0, 0))) ∧ Aside0 (Below w.heap.size w w'))
         case atStart => exact ⟨(x2_1), (false), (0), Zq6, Zq6, Zq6, H', ⟨Nat.le_refl _⟩, ⟨by (with_reducible repeat (first | apply Kd.R_alloc | apply Kd.R_drewN | apply Kd.R_drew)); exact HOfs.out⟩, ⟨by (with_reducible repeat (first | apply Kd.V_alloc | apply Kd.V_drewN | apply Kd.V_drew)); exact Kd.V_mono HObd.out (fun _ hk => ⟨hk.2, ⟨hk.1.1, ⟨hk.1.2.1, hk.1.2.2⟩⟩⟩)⟩, ⟨by (with_reducible repeat (first | apply Kd.V_alloc | apply Kd.V_drewN | apply Kd.V_drew)); exact Kd.V_mono HObe.out (fun _ hk => ⟨hk.2, ⟨hk.1.1, ⟨hk.1.2.1, hk.1.2.2⟩⟩⟩)⟩, ⟨by (with_reducible repeat (first | apply Kd.V_alloc | apply Kd.V_drewN | apply Kd.V_drew)); exact Kd.V_mono HObP.out (fun _ hk => ⟨hk.2, ⟨hk.1.1, ⟨hk.1.2.1, hk.1.2.2⟩⟩⟩)⟩, ⟨by (with_reducible repeat (first | apply Kd.V_alloc | apply Kd.V_drewN | apply Kd.V_drew)); exact Kd.V_mono HObQ.out (fun _ hk => ⟨hk.2, ⟨hk.1.1, ⟨hk.1.2.1, hk.1.2.2⟩⟩⟩)⟩, ⟨Zq13⟩, ⟨Zq15⟩, ⟨Zq45⟩, ⟨Zq23⟩⟩
         case round =>
          clear H'
          try clear c1
          try clear c2
          try clear p2
          try clear c3
          try clear c4
          try clear c18
          try clear c21
          try clear c37
          try clear c38
          try clear c40
          try clear hcz39_0
          try clear hcz39_1
          try clear hcz39_2
          try clear hcz41_0
          try clear hcz41_1
          try clear hcz41_2
          try clear hfz39_0
          try clear hfz39_1
          try clear hfz39_2
          try clear hfz41_0
          try clear hfz41_1
          try clear hfz41_2
          obtain ⟨x2_2, x18_2, x55_2, rfl, rfl, rfl, HA, HK2, HO_15, HO_cU, HO_cV, HO_cW, HO_cX, BKab, BKac, BKad, HB⟩ := hrel
          cases gk with
          | zero => exact absurd HA.out (by simp [arboretref12_Up.l1])
          | succ k2 =>
           have H := HA.out; clear HA; simp only [arboretref12_Up.l1] at H
           by_cases c44 : x55_2 < (tau.length : Int)
           ·rw [if_pos c44] at H; have c44b0 : decide (x55_2 < (tau.length : Int)) = true := decide_eq_true c44; clear c44; have HC45 := Ak H; clear H
            go_upto_region 13 with (fail)
            go_cut [75] (fun v75 wc => ∃ (kq : Nat) (x75_44 : Bool), v75 = .bool x75_44 ∧ Aside0 (arboretref12_Up.j2 kq l1 x2_2 a3 x10_1 tau x18_2 x55_2 (tau.length : Int) x55_2 x75_44 a0_0 l0_1 a0_2 l0_3 l0_4 = some (r1, r2)) ∧ Aside0 (kq ≤ k2) ∧ Aside0 (Kd.R k45 45 wc w.heap.size (fun _ => True) (.slice Ao43 tau.length co43) tau) ∧ Aside0 (Kd.V k77 77 wc w.heap.size (fun k_ => some k_ ≠ ((.slice Ao43 tau.length co43) : Value).ownBlock ∧ k_ ≠ gbab ∧ k_ ≠ gbac ∧ k_ ≠ gbad) (.slice Ao22 taQ.length co22) taQ) ∧ Aside0 (Kd.V k30 30 wc w.heap.size (fun k_ => some k_ ≠ ((.slice Ao43 tau.length co43) : Value).ownBlock ∧ k_ ≠ gbab ∧ k_ ≠ gbac ∧ k_ ≠ gbad) (.slice Ao24 taR.length co24) taR) ∧ Aside0 (Kd.V k77 77 wc w.heap.size (fun k_ => some k_ ≠ ((.slice Ao43 tau.length co43) : Value).ownBlock ∧ k_ ≠ gbab ∧ k_ ≠ gbac ∧ k_ ≠ gbad) (.slice Ao33 tbt.length co33) tbt) ∧ Aside0 (Kd.V k30 30 wc w.heap.size (fun k_ => some k_ ≠ ((.slice Ao43 tau.length co43) : Value).ownBlock ∧ k_ ≠ gbab ∧ k_ ≠ gbac ∧ k_ ≠ gbad) (.slice Ao35 tbv.length co35) tbv) ∧ Aside0 (wc.heap[gbab]? = some (.cells #[.int .u32 a0_0, (.slice A0_1 l0_1.length c0_1), .string a0_2, (.slice A0_3 l0_3.length c0_3), (.slice A0_4 l0_4.length c0_4)] 35 (0, 0))) ∧ Aside0 (wc.heap[gbac]? = some (.cells #[.string tbc, (.slice Ao22 taQ.length co22), (.slice Ao24 taR.length co24)] 30 (0, 0))) ∧ Aside0 (wc.heap[gbad]? = some (.cells #[.string tbj, (.slice Ao33 tbt.length co33), (.slice Ao35 tbv.length co35)] 30 (0, 0))) ∧ Aside0 (Below w.heap.size w wc))
            case first =>
             have H := HC45.out; clear HC45
             by_cases c46 : x18_2 = true
             ·subst c46
              have H1 : (arboretref12_Up.j2 k2 l1 x2_2 a3 x10_1 tau true x55_2 (tau.length : Int) x55_2 false a0_0 l0_1 a0_2 l0_3 l0_4) = some (r1, r2) := by rw [if_pos rfl] at H; exact H
              clear H; have H := H1; clear H1; have H' := Ak H; clear H
              try go_wp2
              have n0_ := Ak (Kd.R_drew HO_15.out); have n1_ := Ak (Kd.V_drew HO_cU.out); have n2_ := Ak (Kd.V_drew HO_cV.out); have n3_ := Ak (Kd.V_drew HO_cW.out); have n4_ := Ak (Kd.V_drew HO_cX.out); have n5_ := Zq246; have n6_ := Ak (blk_drew BKac.out); have n7_ := Ak (blk_drew BKad.out); have n8_ := Zq178; clear HO_15 HO_cU HO_cV HO_cW HO_cX BKab BKac BKad HB; have HO_15 := n0_; have HO_cU := n1_; have HO_cV := n2_; have HO_cW := n3_; have HO_cX := n4_; have BKab := n5_; have BKac := n6_; have BKad := n7_; have HB := n8_; clear n0_ n1_ n2_ n3_ n4_ n5_ n6_ n7_ n8_; refine start_ (n := 18) (S := fun w' => True) (ds := []) #[false, false, false, false, false, false, false, false, false, false, false, false, false, false, false, false, false, false] Zq2 rfl rfl trivial (fun hHeld => ?_); refine with_tabW arboretref12_Up.tab13 arboretref12_Up.bits13 (fun HT_ HW_ => ?_); generalize wr.drew = w47 at HO_15 HO_cU HO_cV HO_cW HO_cX BKab BKac BKad HB hHeld ⊢; refine pure_ (i := 0) (N := some 58) (v := ?_) (a' := ?_) #[true, false, false, false, false, false, false, false, false, false, false, false, false, false, false, false, false, false] rfl rfl (any_of HT_.out Zq2) (fun _ _ _ h => h) (Or.inl ⟨Zq3, ?_⟩) ?_ ?_
              rotate_left
              ·intro w'
               go_simp
               with_reducible rfl
              rotate_left
              ·simp only [Sx]
               rfl
              refine pure_ (i := 1) (N := some 59) (v := ?_) (a' := ?_) #[true, true, false, false, false, false, false, false, false, false, false, false, false, false, false, false, false, false] rfl rfl (any_of HT_.out Zq2) (fun _ _ _ h => h) (Or.inl ⟨Zq3, ?_⟩) ?_ ?_
              rotate_left
              ·intro w'
               go_simp
               with_reducible rfl
              rotate_left
              ·simp only [Sx]
               rfl
              refine pure_ (i := 2) (N := some 60) (v := ?_) (a' := ?_) #[true, true, true, false, false, false, false, false, false, false, false, false, false, false, false, false, false, false] rfl rfl (any_of HT_.out Zq2) (fun _ _ _ h => h) (Or.inl ⟨Zq3, ?_⟩) ?_ ?_
              rotate_left
              ·intro w'
               go_simp
               with_reducible rfl
              rotate_left
              ·simp only [Sx]
               rfl
              refine pure_ (i := 3) (N := some 61) (v := undef) (a' := ?_) #[true, true, true, true, false, false, false, false, false, false, false, false, false, false, false, false, false, false] rfl rfl (any_of HT_.out Zq2) (fun _ _ _ h => h) (Or.inr ⟨Zq3, rfl⟩) ?_ ?_
              rotate_left
              ·simp only [Sx]
               rfl
              refine pure_ (i := 4) (N := some 62) (v := undef) (a' := ?_) #[true, true, true, true, true, false, false, false, false, false, false, false, false, false, false, false, false, false] rfl rfl (any_of HT_.out Zq2) (fun _ _ _ h => h) (Or.inr ⟨Zq3, rfl⟩) ?_ ?_
              rotate_left
              ·simp only [Sx]
               rfl
              refine pure_ (i := 5) (N := some 63) (v := undef) (a' := ?_) #[true, true, true, true, true, true, false, false, false, false, false, false, false, false, false, false, false, false] rfl rfl (any_of HT_.out Zq2) (fun _ _ _ h => h) (Or.inr ⟨Zq3, rfl⟩) ?_ ?_
              rotate_left
              ·simp only [Sx]
               rfl
              refine pure_ (i := 6) (N := some 64) (v := undef) (a' := ?_) #[true, true, true, true, true, true, true, false, false, false, false, false, false, false, false, false, false, false] rfl rfl (any_of HT_.out Zq2) (fun _ _ _ h => h) (Or.inr ⟨Zq3, rfl⟩) ?_ ?_
              rotate_left
              ·simp only [Sx]
               rfl
              refine pure_ (i := 7) (N := some 65) (v := undef) (a' := ?_) #[true, true, true, true, true, true, true, true, false, false, false, false, false, false, false, false, false, false] rfl rfl (any_of HT_.out Zq2) (fun _ _ _ h => h) (Or.inr ⟨Zq3, rfl⟩) ?_ ?_
              rotate_left
              ·simp only [Sx]
               rfl
              refine pure_ (i := 8) (N := some 66) (v := undef) (a' := ?_) #[true, true, true, true, true, true, true, true, true, false, false, false, false, false, false, false, false, false] rfl rfl (any_of HT_.out Zq2) (fun _ _ _ h => h) (Or.inr ⟨Zq3, rfl⟩) ?_ ?_
              rotate_left
              ·simp only [Sx]
               rfl
              refine pure_ (i := 9) (N := some 67) (v := undef) (a' := ?_) #[true, true, true, true, true, true, true, true, true, true, false, false, false, false, false, false, false, false] rfl rfl (any_of HT_.out Zq2) (fun _ _ _ h => h) (Or.inr ⟨Zq3, rfl⟩) ?_ ?_
              rotate_left
              ·simp only [Sx]
               rfl
              refine pure_ (i := 10) (N := some 68) (v := undef) (a' := ?_) #[true, true, true, true, true, true, true, true, true, true, true, false, false, false, false, false, false, false] rfl rfl (any_of HT_.out Zq2) (fun _ _ _ h => h) (Or.inr ⟨Zq3, rfl⟩) ?_ ?_
              rotate_left
              ·simp only [Sx]
               rfl
              refine pure_ (i := 11) (N := some 69) (v := undef) (a' := ?_) #[true, true, true, true, true, true, true, true, true, true, true, true, false, false, false, false, false, false] rfl rfl (any_of HT_.out Zq2) (fun _ _ _ h => h) (Or.inr ⟨Zq3, rfl⟩) ?_ ?_
              rotate_left
              ·simp only [Sx]
               rfl
              refine pure_ (i := 12) (N := some 70) (v := undef) (a' := ?_) #[true, true, true, true, true, true, true, true, true, true, true, true, true, false, false, false, false, false] rfl rfl (any_of HT_.out Zq2) (fun _ _ _ h => h) (Or.inr ⟨Zq3, rfl⟩) ?_ ?_
              rotate_left
              ·simp only [Sx]
               rfl
              refine pure_ (i := 13) (N := some 71) (v := undef) (a' := ?_) #[true, true, true, true, true, true, true, true, true, true, true, true, true, true, false, false, false, false] rfl rfl (any_of HT_.out Zq2) (fun _ _ _ h => h) (Or.inr ⟨Zq3, rfl⟩) ?_ ?_
              rotate_left
              ·simp only [Sx]
               rfl
              refine pure_ (i := 14) (N := some 72) (v := undef) (a' := ?_) #[true, true, true, true, true, true, true, true, true, true, true, true, true, true, true, false, false, false] rfl rfl (any_of HT_.out Zq2) (fun _ _ _ h => h) (Or.inr ⟨Zq3, rfl⟩) ?_ ?_
              rotate_left
              ·simp only [Sx]
               rfl
              refine pure_ (i := 15) (N := some 73) (v := undef) (a' := ?_) #[true, true, true, true, true, true, true, true, true, true, true, true, true, true, true, true, false, false] rfl rfl (any_of HT_.out Zq2) (fun _ _ _ h => h) (Or.inr ⟨Zq3, rfl⟩) ?_ ?_
              rotate_left
              ·simp only [Sx]
               rfl
              refine pure_ (i := 16) (N := some 74) (v := undef) (a' := ?_) #[true, true, true, true, true, true, true, true, true, true, true, true, true, true, true, true, true, false] rfl rfl (any_of HT_.out Zq2) (fun _ _ _ h => h) (Or.inr ⟨Zq3, rfl⟩) ?_ ?_
              rotate_left
              ·simp only [Sx]
               rfl
              refine pure_ (i := 17) (N := some 75) (v := ?_) (a' := ?_) #[true, true, true, true, true, true, true, true, true, true, true, true, true, true, true, true, true, true] rfl rfl (any_of HT_.out Zq2) (fun _ _ _ h => h) (Or.inl ⟨Zq3, ?_⟩) ?_ ?_
              rotate_left
              ·intro w'
               go_simp
               with_reducible rfl
              rotate_left
              ·simp only [Sx]
               rfl
              refine done_ (done_of HT_.out Zq2) ?_
              try go_wp2
              first | (go_meet) | ((try subst hji10); go_meet)
              case rel => exact ⟨_, (false), Zq6, H', ⟨by have := HK1.out; have := HK2.out; first | omega | exact Nat.le_refl _⟩, ⟨Zq78⟩, ⟨Zq97⟩, ⟨Zq98⟩, ⟨Zq99⟩, ⟨Zq100⟩, ⟨Zq13⟩, ⟨Zq15⟩, ⟨Zq45⟩, ⟨Zq23⟩⟩
             ·replace c46 := Bool.eq_false_iff.mpr c46; subst c46
              have H1 : (if 0 ≤ x55_2 then (if x55_2 < (tau.length : Int) then ((arboretref12_Inside.f ((rd_T45 tau x55_2).f0) ((rd_T45 tau x55_2).f2) x2_2 a3).bind fun tej => (arboretref12_Up.j2 k2 l1 x2_2 a3 x10_1 tau false x55_2 (tau.length : Int) x55_2 tej a0_0 l0_1 a0_2 l0_3 l0_4)) else (none)) else (none)) = some (r1, r2) := by rw [if_neg (show ¬ (false = true) by decide)] at H; exact H
              clear H; have H := H1; clear H1
              by_cases c48 : 0 ≤ x55_2
              ·rw [if_pos c48] at H; have c48b0 : decide (0 ≤ x55_2) = true := decide_eq_true c48; clear c48
               (first | rw [c48b0] | (simp only [i64_w, i32_w]; rw [c48b0]) | skip)
               by_cases c49 : x55_2 < (tau.length : Int)
               ·rw [if_pos c49] at H; have c49b0 : decide (x55_2 < (tau.length : Int)) = true := decide_eq_true c49; clear c49; replace H := Option.bind_eq_some_iff.mp H; obtain ⟨tej, AeK, H⟩ := H; replace H : (arboretref12_Up.j2 k2 l1 x2_2 a3 x10_1 tau false x55_2 (tau.length : Int) x55_2 tej a0_0 l0_1 a0_2 l0_3 l0_4) = some (r1, r2) := H; have A50 := Ak AeK; clear AeK; have H' := Ak H; clear H
                try go_wp2
                have n0_ := Ak (Kd.R_drew HO_15.out); have n1_ := Ak (Kd.V_drew HO_cU.out); have n2_ := Ak (Kd.V_drew HO_cV.out); have n3_ := Ak (Kd.V_drew HO_cW.out); have n4_ := Ak (Kd.V_drew HO_cX.out); have n5_ := Zq246; have n6_ := Ak (blk_drew BKac.out); have n7_ := Ak (blk_drew BKad.out); have n8_ := Zq178; clear HO_15 HO_cU HO_cV HO_cW HO_cX BKab BKac BKad HB; have HO_15 := n0_; have HO_cU := n1_; have HO_cV := n2_; have HO_cW := n3_; have HO_cX := n4_; have BKab := n5_; have BKac := n6_; have BKad := n7_; have HB := n8_; clear n0_ n1_ n2_ n3_ n4_ n5_ n6_ n7_ n8_; have p407 : 0 ≤ (x55_2 : Int) := of_decide_eq_true Zq4; have q407 : x55_2 < (tau.length : Int) := of_decide_eq_true Zq4; obtain ⟨addg, e407, hx407_0, hx407_1, hx407_2⟩ := at_T45 (Kd.R_reads' HO_15.out).2.2 x55_2 p407 q407
                cases e407
                replace p407 := eq_true p407; replace q407 := eq_true q407; have p408 : 0 ≤ (x55_2 : Int) := of_decide_eq_true Zq4; have q408 : x55_2 < (tau.length : Int) := of_decide_eq_true Zq4; obtain ⟨adgz, e408, hx408_0, hx408_1, hx408_2⟩ := at_T45 (Kd.R_reads' HO_15.out).2.2 x55_2 p408 q408
                obtain rfl : addg = adgz := (by injection e408)
                replace p408 := eq_true p408; replace q408 := eq_true q408; refine start_ (n := 18) (S := fun w' => w'.cell? (addg.add ((x55_2).toNat * 3)) = some (.int .u64 ((rd_T45 tau x55_2).f0)) ∧ w'.cell? ⟨(addg.add ((x55_2).toNat * 3)).block, (addg.add ((x55_2).toNat * 3)).off + 1, none⟩ = some (.int .u64 ((rd_T45 tau x55_2).f1)) ∧ w'.cell? ⟨(addg.add ((x55_2).toNat * 3)).block, (addg.add ((x55_2).toNat * 3)).off + 2, none⟩ = some (.int .u64 ((rd_T45 tau x55_2).f2)) ∧ w'.cell? (addg.add ((x55_2).toNat * 3)) = some (.int .u64 ((rd_T45 tau x55_2).f0)) ∧ w'.cell? ⟨(addg.add ((x55_2).toNat * 3)).block, (addg.add ((x55_2).toNat * 3)).off + 1, none⟩ = some (.int .u64 ((rd_T45 tau x55_2).f1)) ∧ w'.cell? ⟨(addg.add ((x55_2).toNat * 3)).block, (addg.add ((x55_2).toNat * 3)).off + 2, none⟩ = some (.int .u64 ((rd_T45 tau x55_2).f2))) (ds := []) #[false, false, false, false, false, false, false, false, false, false, false, false, false, false, false, false, false, false] Zq2 rfl rfl ⟨hx407_0, hx407_1, hx407_2, hx408_0, hx408_1, hx408_2⟩ (fun hHeld => ?_); refine with_tabW arboretref12_Up.tab13 arboretref12_Up.bits13 (fun HT_ HW_ => ?_); generalize wr.drew = w51 at HO_15 HO_cU HO_cV HO_cW HO_cX BKab BKac BKad HB hx407_0 hx407_1 hx407_2 hx408_0 hx408_1 hx408_2 hHeld ⊢; refine pure_ (i := 0) (N := some 58) (v := ?_) (a' := ?_) #[true, false, false, false, false, false, false, false, false, false, false, false, false, false, false, false, false, false] rfl rfl (any_of HT_.out Zq2) (fun _ _ _ h => h) (Or.inl ⟨Zq3, ?_⟩) ?_ ?_
                rotate_left
                ·intro w'
                 go_simp
                 with_reducible rfl
                rotate_left
                ·simp only [Sx]
                 rfl
                refine pure_ (i := 1) (N := some 59) (v := ?_) (a' := ?_) #[true, true, false, false, false, false, false, false, false, false, false, false, false, false, false, false, false, false] rfl rfl (any_of HT_.out Zq2) (fun _ _ _ h => h) (Or.inl ⟨Zq3, ?_⟩) ?_ ?_
                rotate_left
                ·intro w'
                 go_simp
                 with_reducible rfl
                rotate_left
                ·simp only [Sx]
                 rfl
                refine pure_ (i := 2) (N := some 60) (v := ?_) (a' := ?_) #[true, true, true, false, false, false, false, false, false, false, false, false, false, false, false, false, false, false] rfl rfl (any_of HT_.out Zq2) (fun _ _ _ h => h) (Or.inl ⟨Zq3, ?_⟩) ?_ ?_
                rotate_left
                ·intro w'
                 go_simp
                 with_reducible rfl
                rotate_left
                ·simp only [Sx]
                 rfl
                refine pure_ (i := 3) (N := some 61) (v := ?_) (a' := ?_) #[true, true, true, true, false, false, false, false, false, false, false, false, false, false, false, false, false, false] rfl rfl (any_of HT_.out Zq2) (fun _ _ _ h => h) (Or.inl ⟨Zq3, ?_⟩) ?_ ?_
                rotate_left
                ·intro w'
                 go_simp
                 with_reducible rfl
                rotate_left
                ·simp only [Sx]
                 rfl
                refine pure_ (i := 4) (N := some 62) (v := ?_) (a' := ?_) #[true, true, true, true, true, false, false, false, false, false, false, false, false, false, false, false, false, false] rfl rfl (any_of HT_.out Zq2) (fun _ _ _ h => h) (Or.inl ⟨Zq3, ?_⟩) ?_ ?_
                rotate_left
                ·intro w'
                 go_simp
                 with_reducible rfl
                rotate_left
                ·simp only [Sx]
                 rfl
                refine pure_ (i := 5) (N := some 63) (v := ?_) (a' := ?_) #[true, true, true, true, true, true, false, false, false, false, false, false, false, false, false, false, false, false] rfl rfl (any_of HT_.out Zq2) (fun _ _ _ h => h) (Or.inl ⟨Zq3, ?_⟩) ?_ ?_
                rotate_left
                ·intro w'
                 go_simp
                 with_reducible rfl
                rotate_left
                ·simp only [Sx]
                 rfl
                refine pure_ (i := 6) (N := some 64) (v := ?_) (a' := ?_) #[true, true, true, true, true, true, true, false, false, false, false, false, false, false, false, false, false, false] rfl rfl (any_of HT_.out Zq2) (fun _ _ _ h => h) (Or.inl ⟨Zq3, ?_⟩) ?_ ?_
                rotate_left
                ·intro w'
                 go_simp
                 with_reducible rfl
                rotate_left
                ·simp only [Sx]
                 rfl
                refine pure_ (i := 8) (N := some 66) (v := ?_) (a' := ?_) #[true, true, true, true, true, true, true, false, true, false, false, false, false, false, false, false, false, false] rfl rfl (any_of HT_.out Zq2) (fun _ _ _ h => h) (Or.inl ⟨Zq3, ?_⟩) ?_ ?_
                rotate_left
                ·intro w'
                 go_simp
                 with_reducible rfl
                rotate_left
                ·simp only [Sx]
                 rfl
                refine pure_ (i := 9) (N := some 67) (v := ?_) (a' := ?_) #[true, true, true, true, true, true, true, false, true, true, false, false, false, false, false, false, false, false] rfl rfl (any_of HT_.out Zq2) (fun _ _ _ h => h) (Or.inl ⟨Zq3, ?_⟩) ?_ ?_
                rotate_left
                ·intro w'
                 go_simp
                 with_reducible rfl
                rotate_left
                ·simp only [Sx]
                 rfl
                refine pure_ (i := 10) (N := some 68) (v := ?_) (a' := ?_) #[true, true, true, true, true, true, true, false, true, true, true, false, false, false, false, false, false, false] rfl rfl (any_of HT_.out Zq2) (fun _ _ _ h => h) (Or.inl ⟨Zq3, ?_⟩) ?_ ?_
                rotate_left
                ·intro w'
                 go_simp
                 with_reducible rfl
                rotate_left
                ·simp only [Sx]
                 rfl
                refine pure_ (i := 11) (N := some 69) (v := ?_) (a' := ?_) #[true, true, true, true, true, true, true, false, true, true, true, true, false, false, false, false, false, false] rfl rfl (any_of HT_.out Zq2) (fun _ _ _ h => h) (Or.inl ⟨Zq3, ?_⟩) ?_ ?_
                rotate_left
                ·intro w'
                 go_simp
                 with_reducible rfl
                rotate_left
                ·simp only [Sx]
                 rfl
                refine pure_ (i := 14) (N := some 72) (v := ?_) (a' := ?_) #[true, true, true, true, true, true, true, false, true, true, true, true, false, false, true, false, false, false] rfl rfl (any_of HT_.out Zq2) (fun _ _ _ h => h) (Or.inl ⟨Zq3, ?_⟩) ?_ ?_
                rotate_left
                ·intro w'
                 go_simp
                 with_reducible rfl
                rotate_left
                ·simp only [Sx]
                 rfl
                refine pure_ (i := 15) (N := some 73) (v := ?_) (a' := ?_) #[true, true, true, true, true, true, true, false, true, true, true, true, false, false, true, true, false, false] rfl rfl (any_of HT_.out Zq2) (fun _ _ _ h => h) (Or.inl ⟨Zq3, ?_⟩) ?_ ?_
                rotate_left
                ·intro w'
                 go_simp
                 with_reducible rfl
                rotate_left
                ·simp only [Sx]
                 rfl
                refine take_ (i := 7) (N := some 65) (v := ?_) (a' := ?_) #[true, true, true, true, true, true, true, true, true, true, true, true, false, false, true, true, false, false] rfl rfl (take_ofW HT_.out HW_.out Zq2) (fun _ _ _ h => h) (Or.inl ⟨Zq3, ?_⟩) hHeld ?_ ?_
                rotate_left
                ·rintro w' ⟨s0, s1, s2, s3, s4, s5⟩
                 go_simp
                 with_reducible rfl
                rotate_left
                ·simp only [Sx]
                 rfl
                refine take_ (i := 12) (N := some 70) (v := ?_) (a' := ?_) #[true, true, true, true, true, true, true, true, true, true, true, true, true, false, true, true, false, false] rfl rfl (take_ofW HT_.out HW_.out Zq2) (fun _ _ _ h => h) (Or.inl ⟨Zq3, ?_⟩) hHeld ?_ ?_
                rotate_left
                ·rintro w' ⟨s0, s1, s2, s3, s4, s5⟩
                 go_simp
                 with_reducible rfl
                rotate_left
                ·simp only [Sx]
                 rfl
                refine pure_ (i := 13) (N := some 71) (v := ?_) (a' := ?_) #[true, true, true, true, true, true, true, true, true, true, true, true, true, true, true, true, false, false] rfl rfl (any_of HT_.out Zq2) (fun _ _ _ h => h) (Or.inl ⟨Zq3, ?_⟩) ?_ ?_
                rotate_left
                ·intro w'
                 go_simp
                 with_reducible rfl
                rotate_left
                ·simp only [Sx]
                 rfl
                refine one_ (i := 16) (N := some 74) #[true, true, true, true, true, true, true, true, true, true, true, true, true, true, true, true, true, false] rfl rfl (one_of HT_.out Zq2) Zq7 (fun K hK => ?_); refine goes_ Try.func50 Zq2 rfl #[.agg #[.int .u64 ((rd_T45 tau x55_2).f0), .int .u64 ((rd_T45 tau x55_2).f2)], .int .u64 x2_2, .int .u64 a3] Zq3 rfl rfl Zq8 ?_; with_reducible refine (arboretref12_Inside.calls ((rd_T45 tau x55_2).f0) ((rd_T45 tau x55_2).f2) x2_2 a3 tej _ A50.out).mono ?_
                rintro e w52 ⟨rfl, hb⟩
                have HS0_ := (hb.cell (World.block_lt_of_cell? _ _ (hHeld.1))).trans (hHeld.1); have HS1_ := (hb.cell (World.block_lt_of_cell? _ _ (hHeld.2.1))).trans (hHeld.2.1); have HS2_ := (hb.cell (World.block_lt_of_cell? _ _ (hHeld.2.2.1))).trans (hHeld.2.2.1); have HS3_ := (hb.cell (World.block_lt_of_cell? _ _ (hHeld.2.2.2.1))).trans (hHeld.2.2.2.1); have HS4_ := (hb.cell (World.block_lt_of_cell? _ _ (hHeld.2.2.2.2.1))).trans (hHeld.2.2.2.2.1); have HS5_ := (hb.cell (World.block_lt_of_cell? _ _ (hHeld.2.2.2.2.2))).trans (hHeld.2.2.2.2.2); refine ⟨_, rfl, ?_⟩; have n0_ := Ak (Kd.R_below Zq78 hb); have n1_ := Ak (Kd.V_below Zq97 hb); have n2_ := Ak (Kd.V_below Zq98 hb); have n3_ := Ak (Kd.V_below Zq99 hb); have n4_ := Ak (Kd.V_below Zq100 hb); have n5_ := Zq132; have n6_ := Zq165; have n7_ := Ak (blk_below (g := gbad) (o := .cells #[.string tbj, .slice Ao33 tbt.length co33, .slice Ao35 tbv.length co35] 30 (0, 0)) Zq45 hb); have n8_ := Ak (below_step Zq23 hb); clear HO_15 HO_cU HO_cV HO_cW HO_cX BKab BKac BKad HB; have HO_15 := n0_; have HO_cU := n1_; have HO_cV := n2_; have HO_cW := n3_; have HO_cX := n4_; have BKab := n5_; have BKac := n6_; have BKad := n7_; have HB := n8_; clear n0_ n1_ n2_ n3_ n4_ n5_ n6_ n7_ n8_
                (try clear hb)
                (try clear hb2)
                (try clear hk)
                (try clear hi)
                refine hK.out _ _ ⟨HS0_, HS1_, HS2_, HS3_, HS4_, HS5_⟩ (fun hHeld => ?_); clear hK K; refine norm_ (a' := ?_) ?_ ?_
                rotate_left
                ·show Act.put _ (some 74) _ = _
                 simp only [Sx]
                 rfl
                refine pure_ (i := 17) (N := some 75) (v := ?_) (a' := ?_) #[true, true, true, true, true, true, true, true, true, true, true, true, true, true, true, true, true, true] rfl rfl (any_of HT_.out Zq2) (fun _ _ _ h => h) (Or.inl ⟨Zq3, ?_⟩) ?_ ?_
                rotate_left
                ·intro w'
                 go_simp
                 with_reducible rfl
                rotate_left
                ·simp only [Sx]
                 rfl
                refine done_ (done_of HT_.out Zq2) ?_
                try go_wp2
                first | (go_meet) | ((try subst hji10); go_meet)
                case rel => exact ⟨_, (tej), Zq6, H', ⟨by have := HK1.out; have := HK2.out; first | omega | exact Nat.le_refl _⟩, ⟨Zq78⟩, ⟨Zq97⟩, ⟨Zq98⟩, ⟨Zq99⟩, ⟨Zq100⟩, ⟨Zq13⟩, ⟨Zq15⟩, ⟨Zq45⟩, ⟨Zq23⟩⟩
               ·rw [if_neg c49] at H; exact absurd H Zq9
              ·rw [if_neg c48] at H; exact absurd H Zq9
            case rest =>
             clear HC45
             try clear c1
             try clear c2
             try clear p2
             try clear c3
             try clear c4
             try clear p4
             try clear q4
             try clear hx4
             try clear c5
             try clear c18
             try clear c21
             try clear c37
             try clear c38
             try clear c40
             try clear p40
             try clear q40
             try clear hx40
             try clear c44
             try clear c44b0
             try clear c46
             try clear c48
             try clear c48b0
             try clear c49
             try clear c49b0
             try clear c50
             try clear hcz39_0
             try clear hcz39_1
             try clear hcz39_2
             try clear hcz41_0
             try clear hcz41_1
             try clear hcz41_2
             try clear hfz39_0
             try clear hfz39_1
             try clear hfz39_2
             try clear hfz41_0
             try clear hfz41_1
             try clear hfz41_2
             try clear hx407_0
             try clear hx407_1
             try clear hx407_2
             try clear hx408_0
             try clear hx408_1
             try clear hx408_2
             try clear p2
             try clear p407
             try clear p408
             try clear q407
             try clear q408
             obtain ⟨kq, x75_44, rfl, HA, HJ44, HO_15, HO_cU, HO_cV, HO_cW, HO_cX, BKab, BKac, BKad, HB⟩ := hcut
             cases kq with
             | zero => exact absurd HA.out (by simp [arboretref12_Up.j2])
             | succ kj44 =>
              have H := HA.out; clear HA; simp only [arboretref12_Up.j2] at H
              by_cases c53 : x75_44 = true
              ·subst c53
               have H1 : (if 0 ≤ x55_2 then (if x55_2 < (tau.length : Int) then (if (IntKind.u64.wrap (x2_2 - ((rd_T45 tau x55_2).f0))) > (IntKind.u64.wrap (18446744073709551615 - ((rd_T45 tau x55_2).f1))) then (some (0, false)) else ((arboretref12_Whole.f (IntKind.u64.wrap (((rd_T45 tau x55_2).f1) + (IntKind.u64.wrap (x2_2 - ((rd_T45 tau x55_2).f0))))) a3).bind fun tex => (if tex = true then (arboretref12_Up.l1 kj44 l1 (IntKind.u64.wrap (((rd_T45 tau x55_2).f1) + (IntKind.u64.wrap (x2_2 - ((rd_T45 tau x55_2).f0))))) a3 x10_1 tau true (tau.length : Int) (wrap64 (x55_2 + 1)) a0_0 l0_1 a0_2 l0_3 l0_4) else (some (0, false))))) else (none)) else (none)) = some (r1, r2) := by rw [if_pos rfl] at H; exact H
               clear H; have H := H1; clear H1
               by_cases c54 : 0 ≤ x55_2
               ·rw [if_pos c54] at H; have c54b0 : decide (0 ≤ x55_2) = true := decide_eq_true c54; clear c54
                by_cases c55 : x55_2 < (tau.length : Int)
                ·rw [if_pos c55] at H; have c55b0 : decide (x55_2 < (tau.length : Int)) = true := decide_eq_true c55; clear c55
                 by_cases c56 : (IntKind.u64.wrap (x2_2 - ((rd_T45 tau x55_2).f0))) > (IntKind.u64.wrap (18446744073709551615 - ((rd_T45 tau x55_2).f1)))
                 ·rw [if_pos c56] at H; have c56b0 : decide ((IntKind.u64.wrap (18446744073709551615 - ((rd_T45 tau x55_2).f1))) < (IntKind.u64.wrap (x2_2 - ((rd_T45 tau x55_2).f0)))) = true := decide_eq_true c56; clear c56; simp only [Option.some.injEq, Prod.mk.injEq] at H; obtain ⟨rfl, rfl⟩ := H; have p410 : 0 ≤ (x55_2 : Int) := of_decide_eq_true Zq4; have q410 : x55_2 < (tau.length : Int) := of_decide_eq_true Zq4; obtain ⟨addX, e410, hx410_0, hx410_1, hx410_2⟩ := at_T45 (Kd.R_reads' HO_15.out).2.2 x55_2 p410 q410
                  cases e410
                  replace p410 := eq_true p410; replace q410 := eq_true q410; have p411 : 0 ≤ (x55_2 : Int) := of_decide_eq_true Zq4; have q411 : x55_2 < (tau.length : Int) := of_decide_eq_true Zq4; obtain ⟨adeN, e411, hx411_0, hx411_1, hx411_2⟩ := at_T45 (Kd.R_reads' HO_15.out).2.2 x55_2 p411 q411
                  obtain rfl : addX = adeN := (by injection e411)
                  replace p411 := eq_true p411; replace q411 := eq_true q411
                  go_wp2
                  go_ret2
                  exact ⟨Zq125, Zq23⟩
                 ·rw [if_neg c56] at H; have c56b0 : decide ((IntKind.u64.wrap (18446744073709551615 - ((rd_T45 tau x55_2).f1))) < (IntKind.u64.wrap (x2_2 - ((rd_T45 tau x55_2).f0)))) = false := decide_eq_false c56; clear c56; replace H := Option.bind_eq_some_iff.mp H; obtain ⟨tex, AfX, H⟩ := H; replace H : (if tex = true then (arboretref12_Up.l1 kj44 l1 (IntKind.u64.wrap (((rd_T45 tau x55_2).f1) + (IntKind.u64.wrap (x2_2 - ((rd_T45 tau x55_2).f0))))) a3 x10_1 tau true (tau.length : Int) (wrap64 (x55_2 + 1)) a0_0 l0_1 a0_2 l0_3 l0_4) else (some (0, false))) = some (r1, r2) := H; have A57 := Ak AfX; clear AfX
                  by_cases c58 : tex = true
                  ·subst c58
                   have H1 : (arboretref12_Up.l1 kj44 l1 (IntKind.u64.wrap (((rd_T45 tau x55_2).f1) + (IntKind.u64.wrap (x2_2 - ((rd_T45 tau x55_2).f0))))) a3 x10_1 tau true (tau.length : Int) (wrap64 (x55_2 + 1)) a0_0 l0_1 a0_2 l0_3 l0_4) = some (r1, r2) := by rw [if_pos rfl] at H; exact H
                   clear H; have H := H1; clear H1; have H' := Ak H; clear H; have p410 : 0 ≤ (x55_2 : Int) := of_decide_eq_true Zq4; have q410 : x55_2 < (tau.length : Int) := of_decide_eq_true Zq4; obtain ⟨addX, e410, hx410_0, hx410_1, hx410_2⟩ := at_T45 (Kd.R_reads' HO_15.out).2.2 x55_2 p410 q410
                   cases e410
                   replace p410 := eq_true p410; replace q410 := eq_true q410; have p411 : 0 ≤ (x55_2 : Int) := of_decide_eq_true Zq4; have q411 : x55_2 < (tau.length : Int) := of_decide_eq_true Zq4; obtain ⟨adeN, e411, hx411_0, hx411_1, hx411_2⟩ := at_T45 (Kd.R_reads' HO_15.out).2.2 x55_2 p411 q411
                   obtain rfl : addX = adeN := (by injection e411)
                   replace p411 := eq_true p411; replace q411 := eq_true q411; have p412 : 0 ≤ (x55_2 : Int) := of_decide_eq_true Zq4; have q412 : x55_2 < (tau.length : Int) := of_decide_eq_true Zq4; obtain ⟨adft, e412, hx412_0, hx412_1, hx412_2⟩ := at_T45 (Kd.R_reads' HO_15.out).2.2 x55_2 p412 q412
                   obtain rfl : addX = adft := (by injection e412)
                   replace p412 := eq_true p412; replace q412 := eq_true q412
                   go_wp2_with (first | (go_at_call 51; (with_reducible refine (arboretref12_Whole.calls (IntKind.u64.wrap (((rd_T45 tau x55_2).f1) + (IntKind.u64.wrap (x2_2 - ((rd_T45 tau x55_2).f0))))) a3 true _ A57.out).mono ?_); rintro e w' ⟨rfl, ⟨nd, rfl⟩⟩; have p414 : 0 ≤ (x55_2 : Int) := of_decide_eq_true Zq4; have q414 : x55_2 < (tau.length : Int) := of_decide_eq_true Zq4; obtain ⟨adgA, e414, hx414_0, hx414_1, hx414_2⟩ := at_T45 (Kd.R_reads' HO_15.out).2.2 x55_2 p414 q414; obtain rfl : addX = adgA := (by injection e414); replace p414 := eq_true p414; replace q414 := eq_true q414))
                   first | (go_roundg kj44) | ((try subst hji10); go_roundg kj44)
                   case measure => have := HK1.out; have := HK2.out; have := HJ44.out; omega
                   case rel => exact ⟨(IntKind.u64.wrap (((rd_T45 tau x55_2).f1) + (IntKind.u64.wrap (x2_2 - ((rd_T45 tau x55_2).f0))))), (true), (wrap64 (x55_2 + 1)), Zq6, Zq6, Zq6, H', ⟨by have := HK1.out; have := HK2.out; have := HJ44.out; omega⟩, ⟨Zq78⟩, ⟨Zq97⟩, ⟨Zq98⟩, ⟨Zq99⟩, ⟨Zq100⟩, ⟨Zq13⟩, ⟨Zq15⟩, ⟨Zq45⟩, ⟨Zq23⟩⟩
                  ·replace c58 := Bool.eq_false_iff.mpr c58; subst c58
                   have H1 : (some (0, false)) = some (r1, r2) := by rw [if_neg (show ¬ (false = true) by decide)] at H; exact H
                   clear H; have H := H1; clear H1; simp only [Option.some.injEq, Prod.mk.injEq] at H; obtain ⟨rfl, rfl⟩ := H; have p410 : 0 ≤ (x55_2 : Int) := of_decide_eq_true Zq4; have q410 : x55_2 < (tau.length : Int) := of_decide_eq_true Zq4; obtain ⟨addX, e410, hx410_0, hx410_1, hx410_2⟩ := at_T45 (Kd.R_reads' HO_15.out).2.2 x55_2 p410 q410
                   cases e410
                   replace p410 := eq_true p410; replace q410 := eq_true q410; have p411 : 0 ≤ (x55_2 : Int) := of_decide_eq_true Zq4; have q411 : x55_2 < (tau.length : Int) := of_decide_eq_true Zq4; obtain ⟨adeN, e411, hx411_0, hx411_1, hx411_2⟩ := at_T45 (Kd.R_reads' HO_15.out).2.2 x55_2 p411 q411
                   obtain rfl : addX = adeN := (by injection e411)
                   replace p411 := eq_true p411; replace q411 := eq_true q411; have p412 : 0 ≤ (x55_2 : Int) := of_decide_eq_true Zq4; have q412 : x55_2 < (tau.length : Int) := of_decide_eq_true Zq4; obtain ⟨adft, e412, hx412_0, hx412_1, hx412_2⟩ := at_T45 (Kd.R_reads' HO_15.out).2.2 x55_2 p412 q412
                   obtain rfl : addX = adft := (by injection e412)
                   replace p412 := eq_true p412; replace q412 := eq_true q412
                   go_wp2_with (first | (go_at_call 51; (with_reducible refine (arboretref12_Whole.calls (IntKind.u64.wrap (((rd_T45 tau x55_2).f1) + (IntKind.u64.wrap (x2_2 - ((rd_T45 tau x55_2).f0))))) a3 false _ A57.out).mono ?_); rintro e w' ⟨rfl, ⟨nd, rfl⟩⟩))
                   go_ret2
                   exact ⟨Zq125, Zq23⟩
                ·rw [if_neg c55] at H; exact absurd H Zq9
               ·rw [if_neg c54] at H; exact absurd H Zq9
              ·replace c53 := Bool.eq_false_iff.mpr c53; subst c53
               have H1 : (arboretref12_Up.l1 kj44 l1 x2_2 a3 x10_1 tau x18_2 (tau.length : Int) (wrap64 (x55_2 + 1)) a0_0 l0_1 a0_2 l0_3 l0_4) = some (r1, r2) := by rw [if_neg (show ¬ (false = true) by decide)] at H; exact H
               clear H; have H := H1; clear H1; have H' := Ak H; clear H
               go_wp2
               first | (go_roundg kj44) | ((try subst hji10); go_roundg kj44)
               case measure => have := HK1.out; have := HK2.out; have := HJ44.out; omega
               case rel => exact ⟨(x2_2), (x18_2), (wrap64 (x55_2 + 1)), Zq6, Zq6, Zq6, H', ⟨by have := HK1.out; have := HK2.out; have := HJ44.out; omega⟩, ⟨Zq78⟩, ⟨Zq97⟩, ⟨Zq98⟩, ⟨Zq99⟩, ⟨Zq100⟩, ⟨Zq13⟩, ⟨Zq15⟩, ⟨Zq45⟩, ⟨Zq23⟩⟩
           ·rw [if_neg c44] at H; have c44b0 : decide (x55_2 < (tau.length : Int)) = false := decide_eq_false c44; clear c44
            by_cases c59 : x18_2 = true
            ·subst c59
             have H1 : (arboretref12_Up.l0 k2 l1 x2_2 a3 (wrap64 (x10_1 - 1)) a0_0 l0_1 a0_2 l0_3 l0_4) = some (r1, r2) := by rw [if_pos rfl] at H; exact H
             clear H; have H := H1; clear H1; have H' := Ak H; clear H
             go_wp2
             first | (go_roundg k2) | ((try subst hji10); go_roundg k2)
             case measure => have := HK1.out; have := HK2.out; omega
             case rel => exact ⟨(x2_2), (wrap64 (x10_1 - 1)), Zq6, Zq6, H', ⟨Zq74⟩, ⟨Zq13⟩, ⟨Zq23⟩⟩
            ·replace c59 := Bool.eq_false_iff.mpr c59; subst c59
             have H1 : (some (0, false)) = some (r1, r2) := by rw [if_neg (show ¬ (false = true) by decide)] at H; exact H
             clear H; have H := H1; clear H1; simp only [Option.some.injEq, Prod.mk.injEq] at H; obtain ⟨rfl, rfl⟩ := H
             go_wp2
             go_ret2
             exact ⟨Zq125, Zq23⟩
        ·replace c15 := Bool.eq_false_iff.mpr c15; subst c15
         have H1 : (some (0, false)) = some (r1, r2) := by rw [if_neg (show ¬ (false = true) by decide)] at H; exact H
         clear H; have H := H1; clear H1; simp only [Option.some.injEq, Prod.mk.injEq] at H; obtain ⟨rfl, rfl⟩ := H
         try go_wp2
         have n0_ := Zq246; have n1_ := Zq178; clear BKab HB; have BKab := n0_; have HB := n1_; clear n0_ n1_; obtain ⟨i061, hi061, _, hsz61, _⟩ := info_parts info3; obtain ⟨hcut61, hA61, hC61⟩ := print_take_of (P := Try.prog) (Value.int .i64) 0 48 3 .i64 Try.underlying48 hi061 hsz61 A1 c1 l1 x10_1 (of_decide_eq_true Zq4) (of_decide_eq_true Zq4) HC1.out; have HRcP := Ak (Kd.C_of_reads (h1 := fun _ => rfl) (hA61 _ (Kd.reads_of_C HR1.out))); have HCcP := Ak hC61; clear hA61 hC61 hi061 hsz61; refine start_ (n := 11) (S := fun w' => w'.cell? ⟨gbab, 0, none⟩ = some (.int .u32 a0_0) ∧ w'.cell? ⟨gbab, 1, none⟩ = some (.slice A0_1 l0_1.length c0_1) ∧ w'.cell? ⟨gbab, 2, none⟩ = some (.string a0_2) ∧ w'.cell? ⟨gbab, 3, none⟩ = some (.slice A0_3 l0_3.length c0_3) ∧ w'.cell? ⟨gbab, 4, none⟩ = some (.slice A0_4 l0_4.length c0_4)) (ds := []) #[false, false, false, false, false, false, false, false, false, false, false] Zq2 rfl rfl ⟨(blk_cell BKab.out 0).trans rfl, (blk_cell BKab.out 1).trans rfl, (blk_cell BKab.out 2).trans rfl, (blk_cell BKab.out 3).trans rfl, (blk_cell BKab.out 4).trans rfl⟩ (fun hHeld => ?_); refine with_tabW arboretref12_Up.tab4 arboretref12_Up.bits4 (fun HT_ HW_ => ?_); generalize wr.drew = w60 at BKab HB HRcP hHeld ⊢; refine pure_ (i := 1) (N := some 29) (v := ?_) (a' := ?_) #[false, true, false, false, false, false, false, false, false, false, false] rfl rfl (any_of HT_.out Zq2) (fun _ _ _ h => h) (Or.inl ⟨Zq3, ?_⟩) ?_ ?_
         rotate_left
         ·intro w'
          go_simp
          with_reducible rfl
         rotate_left
         ·simp only [Sx]
          rfl
         refine pure_ (i := 2) (N := some 30) (v := ?_) (a' := ?_) #[false, true, true, false, false, false, false, false, false, false, false] rfl rfl (any_of HT_.out Zq2) (fun _ _ _ h => h) (Or.inl ⟨Zq3, ?_⟩) ?_ ?_
         rotate_left
         ·intro w'
          go_simp
          with_reducible rfl
         rotate_left
         ·simp only [Sx]
          rfl
         refine pure_ (i := 3) (N := some 31) (v := ?_) (a' := ?_) #[false, true, true, true, false, false, false, false, false, false, false] rfl rfl (any_of HT_.out Zq2) (fun _ _ _ h => h) (Or.inl ⟨Zq3, ?_⟩) ?_ ?_
         rotate_left
         ·intro w'
          go_simp
          with_reducible rfl
         rotate_left
         ·simp only [Sx]
          rfl
         refine take_ (i := 0) (N := some 28) (v := ?_) (a' := ?_) #[true, true, true, true, false, false, false, false, false, false, false] rfl rfl (take_ofW HT_.out HW_.out Zq2) (fun _ _ _ h => h) (Or.inl ⟨Zq3, ?_⟩) hHeld ?_ ?_
         rotate_left
         ·rintro w' ⟨s0, s1, s2, s3, s4⟩
          go_simp
          with_reducible rfl
         rotate_left
         ·simp only [Sx]
          rfl
         refine join_ (σ := Value × Value × Nat) 2 #[true, true, true, true, true, true, true, true, true, false, false] (fun s_ => [(32, .tuple #[.agg #[.string tbc, s_.1, s_.2.1], .bool tdz]), (11, .pointer (some ⟨s_.2.2, 0, none⟩)), (27, .tuple #[.agg #[.string tbc, s_.1, s_.2.1], .bool tdz]), (33, .agg #[.string tbc, s_.1, s_.2.1]), (34, .bool tdz)]) (fun s_ w' => (w'.cell? ⟨gbab, 0, none⟩ = some (.int .u32 a0_0) ∧ w'.cell? ⟨gbab, 1, none⟩ = some (.slice A0_1 l0_1.length c0_1) ∧ w'.cell? ⟨gbab, 2, none⟩ = some (.string a0_2) ∧ w'.cell? ⟨gbab, 3, none⟩ = some (.slice A0_3 l0_3.length c0_3) ∧ w'.cell? ⟨gbab, 4, none⟩ = some (.slice A0_4 l0_4.length c0_4)) ∧ (Kd.V k77 77 w' w.heap.size (fun k_ => k_ ≠ gbab ∧ k_ ≠ s_.2.2) s_.1 taQ) ∧ (Kd.V k30 30 w' w.heap.size (fun k_ => k_ ≠ gbab ∧ k_ ≠ s_.2.2) s_.2.1 taR) ∧ (w'.heap[gbab]? = some (.cells #[.int .u32 a0_0, .slice A0_1 l0_1.length c0_1, .string a0_2, .slice A0_3 l0_3.length c0_3, .slice A0_4 l0_4.length c0_4] 35 (0, 0))) ∧ (w'.heap[s_.2.2]? = some (.cells #[.string (⟨#[]⟩ : ByteArray), .slice none 0 0, .slice none 0 0] 30 (0, 0))) ∧ (w.heap.size ≤ s_.2.2) ∧ (w.heap.size ≤ s_.2.2) ∧ (gbab ≠ s_.2.2) ∧ (s_.2.2 ≠ gbab) ∧ (Below w.heap.size w w')) ?_ ?_
         rotate_left
         ·intro hCont; refine two_ (i := 4) (j := 8) (Ni := some 32) (Nj := some 11) #[true, true, true, true, true, false, false, false, false, false, false] #[true, true, true, true, false, false, false, false, true, false, false] rfl rfl rfl rfl (two_of HT_.out Zq2) Zq7 Zq7 (fun K hK => ?_) (fun K hK => ?_)
          ·skip
           refine goes_ Try.func21 Zq2 rfl #[.agg #[.int .u32 a0_0, .slice A0_1 l0_1.length c0_1, .string a0_2, .slice A0_3 l0_3.length c0_3, .slice A0_4 l0_4.length c0_4], .slice A1 (l1.take (x10_1 : Int).toNat).length c1] Zq3 rfl rfl Zq129 ?_; with_reducible refine (arboretref06_Get.calls k1 a0_0 _ _ l0_1 a0_2 (fun k_ => k_ < w.heap.size) _ _ l0_3 (fun k_ => k_ < w.heap.size) _ _ l0_4 _ _ (l1.take (x10_1 : Int).toNat) tbc taQ taR tdz _ ?side1 ?side2 ?side3 ?side4 ?side5 ?side6 A9.out).mono ?_
           (case side1 => repeat (first | exact Zq142 | (with_reducible refine Kd.C_alloc ?_ _) | (with_reducible refine Kd.C_drewN ?_ _) | (with_reducible refine Kd.C_drew ?_)))
           (case side2 => exact HC0_1.out)
           (case side3 => exact Kd.V_mk HC0_3.out (Kd.F_below (Kd.C_F k77_heap HR0_3.out) Zq28))
           (case side4 => exact Kd.V_mk HC0_4.out (Kd.F_below (Kd.C_F k30_heap HR0_4.out) Zq28))
           (case side5 => repeat (first | exact (Kd.C_below HRcP.out HB.out) | (with_reducible refine Kd.C_alloc ?_ _) | (with_reducible refine Kd.C_drewN ?_ _) | (with_reducible refine Kd.C_drew ?_)))
           (case side6 => exact HCcP.out)
           rintro e w62 ⟨v385, v388, rfl, ho0, ho1, hb⟩
           refine ⟨_, rfl, ?_⟩; have n0_ := Zq266; have n1_ := Zq267; have n2_ := Zq132; have n3_ := Zq247; clear BKab HB; have HObd := n0_; have HObe := n1_; have BKab := n2_; have HB := n3_; clear n0_ n1_ n2_ n3_
           (try clear hb)
           (try clear hb2)
           (try clear hk)
           (try clear hi)
           (try clear ho0)
           (try clear ho1)
           refine hK.out _ _ ⟨(blk_cell BKab.out 0).trans rfl, (blk_cell BKab.out 1).trans rfl, (blk_cell BKab.out 2).trans rfl, (blk_cell BKab.out 3).trans rfl, (blk_cell BKab.out 4).trans rfl⟩ (fun hHeld => ?_); clear hK K; refine norm_ (a' := ?_) ?_ ?_
           rotate_left
           ·show Act.put _ (some 32) _ = _
            simp only [Sx]
            rfl
           refine pure_ (i := 5) (N := some 27) (v := ?_) (a' := ?_) #[true, true, true, true, true, true, false, false, false, false, false] rfl rfl (any_of HT_.out Zq2) (fun _ _ _ h => h) (Or.inl ⟨Zq3, ?_⟩) ?_ ?_
           rotate_left
           ·intro w'
            go_simp
            with_reducible rfl
           rotate_left
           ·simp only [Sx]
            rfl
           refine pure_ (i := 6) (N := some 33) (v := ?_) (a' := ?_) #[true, true, true, true, true, true, true, false, false, false, false] rfl rfl (any_of HT_.out Zq2) (fun _ _ _ h => h) (Or.inl ⟨Zq3, ?_⟩) ?_ ?_
           rotate_left
           ·intro w'
            go_simp
            with_reducible rfl
           rotate_left
           ·simp only [Sx]
            rfl
           refine pure_ (i := 7) (N := some 34) (v := ?_) (a' := ?_) #[true, true, true, true, true, true, true, true, false, false, false] rfl rfl (any_of HT_.out Zq2) (fun _ _ _ h => h) (Or.inl ⟨Zq3, ?_⟩) ?_ ?_
           rotate_left
           ·intro w'
            go_simp
            with_reducible rfl
           rotate_left
           ·simp only [Sx]
            rfl
           refine one_ (i := 8) (N := some 11) #[true, true, true, true, true, true, true, true, true, false, false] rfl rfl (one_of HT_.out Zq2) Zq7 (fun K hK => ?_); refine box_step ?hg (N := 11) ?hd (cs := #[.string (⟨#[]⟩ : ByteArray), .slice none 0 0, .slice none 0 0]) (t := 30) ?hr ?_; (case hd | hg => rfl); (case hr => first | (go_simp; done) | (go_simp; rfl)); intro gbac hg w63 hbox hb; have n0_ := Ak (Kd.V_below (Kd.V_elderB Zq47 gbac (Nat.le_of_eq hg.symm)) hb); have n1_ := Ak (Kd.V_below (Kd.V_elderB Zq48 gbac (Nat.le_of_eq hg.symm)) hb); have n2_ := Zq132; have n3_ := Zq247; have n4_ := Ak (hbox); have n5_ := Zq173; have n6_ := Zq173; have n7_ := Zq278; have n8_ := Zq279; clear HObd HObe BKab HB; have HObd := n0_; have HObe := n1_; have BKab := n2_; have HB := n3_; have BKac := n4_; have GWac := n5_; have GEac := n6_; have NB381_391 := n7_; have NB391_381 := n8_; clear n0_ n1_ n2_ n3_ n4_ n5_ n6_ n7_ n8_ hb hbox hg; refine hK.out _ _ ⟨(blk_cell BKab.out 0).trans rfl, (blk_cell BKab.out 1).trans rfl, (blk_cell BKab.out 2).trans rfl, (blk_cell BKab.out 3).trans rfl, (blk_cell BKab.out 4).trans rfl⟩ (fun hHeld => ?_); clear hK K; refine norm_ (a' := ?_) ?_ ?_
           rotate_left
           ·show Act.put _ (some 11) _ = _
            simp only [Sx]
            rfl
           exact norm_ Zq55 (hCont (v385, v388, gbac) _ ⟨hHeld, Zq47, Zq48, Zq13, Zq15, GWac.out, GEac.out, NB381_391.out, NB391_381.out, Zq16⟩)
          ·skip
           refine box_step ?hg (N := 11) ?hd (cs := #[.string (⟨#[]⟩ : ByteArray), .slice none 0 0, .slice none 0 0]) (t := 30) ?hr ?_; (case hd | hg => rfl); (case hr => first | (go_simp; done) | (go_simp; rfl)); intro gbac hg w62 hbox hb; have n0_ := Zq132; have n1_ := Zq247; have n2_ := Ak (hbox); have n3_ := Zq173; have n4_ := Zq173; have n5_ := Zq278; have n6_ := Zq279; clear BKab HB; have BKab := n0_; have HB := n1_; have BKac := n2_; have GWac := n3_; have GEac := n4_; have NB381_391 := n5_; have NB391_381 := n6_; clear n0_ n1_ n2_ n3_ n4_ n5_ n6_ hb hbox hg; refine hK.out _ _ ⟨(blk_cell BKab.out 0).trans rfl, (blk_cell BKab.out 1).trans rfl, (blk_cell BKab.out 2).trans rfl, (blk_cell BKab.out 3).trans rfl, (blk_cell BKab.out 4).trans rfl⟩ (fun hHeld => ?_); clear hK K; refine norm_ (a' := ?_) ?_ ?_
           rotate_left
           ·show Act.put _ (some 11) _ = _
            simp only [Sx]
            rfl
           refine one_ (i := 4) (N := some 32) #[true, true, true, true, true, false, false, false, true, false, false] rfl rfl (one_of HT_.out Zq2) Zq7 (fun K hK => ?_); refine goes_ Try.func21 Zq2 rfl #[.agg #[.int .u32 a0_0, .slice A0_1 l0_1.length c0_1, .string a0_2, .slice A0_3 l0_3.length c0_3, .slice A0_4 l0_4.length c0_4], .slice A1 (l1.take (x10_1 : Int).toNat).length c1] Zq3 rfl rfl Zq129 ?_; with_reducible refine (arboretref06_Get.calls k1 a0_0 _ _ l0_1 a0_2 (fun k_ => k_ < w.heap.size) _ _ l0_3 (fun k_ => k_ < w.heap.size) _ _ l0_4 _ _ (l1.take (x10_1 : Int).toNat) tbc taQ taR tdz _ ?side1 ?side2 ?side3 ?side4 ?side5 ?side6 A9.out).mono ?_
           (case side1 => repeat (first | exact Zq142 | (with_reducible refine Kd.C_alloc ?_ _) | (with_reducible refine Kd.C_drewN ?_ _) | (with_reducible refine Kd.C_drew ?_)))
           (case side2 => exact HC0_1.out)
           (case side3 => exact Kd.V_mk HC0_3.out (Kd.F_below (Kd.C_F k77_heap HR0_3.out) Zq16))
           (case side4 => exact Kd.V_mk HC0_4.out (Kd.F_below (Kd.C_F k30_heap HR0_4.out) Zq16))
           (case side5 => repeat (first | exact (Kd.C_below HRcP.out HB.out) | (with_reducible refine Kd.C_alloc ?_ _) | (with_reducible refine Kd.C_drewN ?_ _) | (with_reducible refine Kd.C_drew ?_)))
           (case side6 => exact HCcP.out)
           rintro e w63 ⟨v385, v388, rfl, ho0, ho1, hb⟩
           refine ⟨_, rfl, ?_⟩; have n0_ := Zq262; have n1_ := Zq263; have n2_ := Zq132; have n3_ := Zq257; have n4_ := Zq230; clear BKab BKac HB; have HObd := n0_; have HObe := n1_; have BKab := n2_; have BKac := n3_; have HB := n4_; clear n0_ n1_ n2_ n3_ n4_
           (try clear hb)
           (try clear hb2)
           (try clear hk)
           (try clear hi)
           (try clear ho0)
           (try clear ho1)
           refine hK.out _ _ ⟨(blk_cell BKab.out 0).trans rfl, (blk_cell BKab.out 1).trans rfl, (blk_cell BKab.out 2).trans rfl, (blk_cell BKab.out 3).trans rfl, (blk_cell BKab.out 4).trans rfl⟩ (fun hHeld => ?_); clear hK K; refine norm_ (a' := ?_) ?_ ?_
           rotate_left
           ·show Act.put _ (some 32) _ = _
            simp only [Sx]
            rfl
           refine pure_ (i := 5) (N := some 27) (v := ?_) (a' := ?_) #[true, true, true, true, true, true, false, false, true, false, false] rfl rfl (any_of HT_.out Zq2) (fun _ _ _ h => h) (Or.inl ⟨Zq3, ?_⟩) ?_ ?_
           rotate_left
           ·intro w'
            go_simp
            with_reducible rfl
           rotate_left
           ·simp only [Sx]
            rfl
           refine pure_ (i := 6) (N := some 33) (v := ?_) (a' := ?_) #[true, true, true, true, true, true, true, false, true, false, false] rfl rfl (any_of HT_.out Zq2) (fun _ _ _ h => h) (Or.inl ⟨Zq3, ?_⟩) ?_ ?_
           rotate_left
           ·intro w'
            go_simp
            with_reducible rfl
           rotate_left
           ·simp only [Sx]
            rfl
           refine pure_ (i := 7) (N := some 34) (v := ?_) (a' := ?_) #[true, true, true, true, true, true, true, true, true, false, false] rfl rfl (any_of HT_.out Zq2) (fun _ _ _ h => h) (Or.inl ⟨Zq3, ?_⟩) ?_ ?_
           rotate_left
           ·intro w'
            go_simp
            with_reducible rfl
           rotate_left
           ·simp only [Sx]
            rfl
           exact norm_ Zq55 (hCont (v385, v388, gbac) _ ⟨hHeld, Zq47, Zq48, Zq13, Zq15, GWac.out, GEac.out, NB381_391.out, NB391_381.out, Zq16⟩)
         rintro ⟨v385, v388, gbac⟩ w64 ⟨hS_, h0_, h1_, h2_, h3_, h4_, h5_, h6_, h7_, h8_⟩
         have n0_ : Aside0 (Kd.V k77 77 w64 w.heap.size (fun k_ => k_ ≠ gbab ∧ k_ ≠ gbac) v385 taQ) := ⟨h0_⟩
         have n1_ : Aside0 (Kd.V k30 30 w64 w.heap.size (fun k_ => k_ ≠ gbab ∧ k_ ≠ gbac) v388 taR) := ⟨h1_⟩
         have n2_ : Aside0 (w64.heap[gbab]? = some (.cells #[.int .u32 a0_0, .slice A0_1 l0_1.length c0_1, .string a0_2, .slice A0_3 l0_3.length c0_3, .slice A0_4 l0_4.length c0_4] 35 (0, 0))) := ⟨h2_⟩
         have n3_ : Aside0 (w64.heap[gbac]? = some (.cells #[.string (⟨#[]⟩ : ByteArray), .slice none 0 0, .slice none 0 0] 30 (0, 0))) := ⟨h3_⟩
         have n4_ : Aside0 (w.heap.size ≤ gbac) := ⟨h4_⟩
         have n5_ : Aside0 (w.heap.size ≤ gbac) := ⟨h5_⟩
         have n6_ : Aside0 (gbab ≠ gbac) := ⟨h6_⟩
         have n7_ : Aside0 (gbac ≠ gbab) := ⟨h7_⟩
         have n8_ : Aside0 (Below w.heap.size w w64) := ⟨h8_⟩
         clear BKab HB h0_ h1_ h2_ h3_ h4_ h5_ h6_ h7_ h8_; have HObd := n0_; have HObe := n1_; have BKab := n2_; have BKac := n3_; have GWac := n4_; have GEac := n5_; have NB381_391 := n6_; have NB391_381 := n7_; have HB := n8_; clear n0_ n1_ n2_ n3_ n4_ n5_ n6_ n7_ n8_; have hHeld : w64.cell? ⟨gbab, 0, none⟩ = some (.int .u32 a0_0) ∧ w64.cell? ⟨gbab, 1, none⟩ = some (.slice A0_1 l0_1.length c0_1) ∧ w64.cell? ⟨gbab, 2, none⟩ = some (.string a0_2) ∧ w64.cell? ⟨gbab, 3, none⟩ = some (.slice A0_3 l0_3.length c0_3) ∧ w64.cell? ⟨gbab, 4, none⟩ = some (.slice A0_4 l0_4.length c0_4) := hS_; obtain ⟨Ao66, co66, eo66⟩ := Kd.V_slice HObd.out
         (first | subst eo66 | (injection eo66 with f1_ f2_ f3_; have f4_ := f1_.symm; have f5_ := f3_.symm; clear f1_ f2_ f3_; subst f4_; subst f5_))
         obtain ⟨Ao68, co68, eo68⟩ := Kd.V_slice HObe.out
         (first | subst eo68 | (injection eo68 with f1_ f2_ f3_; have f4_ := f1_.symm; have f5_ := f3_.symm; clear f1_ f2_ f3_; subst f4_; subst f5_))
         refine norm_ (a' := ?_) ?_ ?_
         rotate_left
         ·simp only [putAll, Act.put, List.setIfInBounds_toArray, List.set_cons_zero, List.set_cons_succ]
          rfl
         refine one_ (i := 9) (N := none) #[true, true, true, true, true, true, true, true, true, true, false] rfl rfl (one_of HT_.out Zq2) Zq7 (fun K hK => ?_); have hs65 : w64.cell? ⟨gbac, 0, none⟩ = some (.string (⟨#[]⟩ : ByteArray)) := (blk_cell BKac.out 0).trans rfl; have hfs65 := blk_frozen BKac.out 0; have hns65_0 := NB381_391.out; have hms65_0 := NB391_381.out; have hs67 : w64.cell? ⟨gbac, 1, none⟩ = some (.slice none 0 0) := (blk_cell BKac.out 1).trans rfl; have hfs67 := blk_frozen BKac.out 1; have hns67_0 := NB381_391.out; have hms67_0 := NB391_381.out; have hs69 : w64.cell? ⟨gbac, 2, none⟩ = some (.slice none 0 0) := (blk_cell BKac.out 2).trans rfl; have hfs69 := blk_frozen BKac.out 2; have hns69_0 := NB381_391.out; have hms69_0 := NB391_381.out; refine skip_ (w1 := ?_) Zq3 rfl ?_ ?_
         rotate_left
         ·go_simp
          rfl
         refine hK.out _ _ ⟨((cell_far (p := ⟨gbac, _, none⟩) NB381_391.out _).trans (((cell_far (p := ⟨gbac, _, none⟩) NB381_391.out _).trans (((cell_far (p := ⟨gbac, _, none⟩) NB381_391.out _).trans (hHeld.1)))))), ((cell_far (p := ⟨gbac, _, none⟩) NB381_391.out _).trans (((cell_far (p := ⟨gbac, _, none⟩) NB381_391.out _).trans (((cell_far (p := ⟨gbac, _, none⟩) NB381_391.out _).trans (hHeld.2.1)))))), ((cell_far (p := ⟨gbac, _, none⟩) NB381_391.out _).trans (((cell_far (p := ⟨gbac, _, none⟩) NB381_391.out _).trans (((cell_far (p := ⟨gbac, _, none⟩) NB381_391.out _).trans (hHeld.2.2.1)))))), ((cell_far (p := ⟨gbac, _, none⟩) NB381_391.out _).trans (((cell_far (p := ⟨gbac, _, none⟩) NB381_391.out _).trans (((cell_far (p := ⟨gbac, _, none⟩) NB381_391.out _).trans (hHeld.2.2.2.1)))))), ((cell_far (p := ⟨gbac, _, none⟩) NB381_391.out _).trans (((cell_far (p := ⟨gbac, _, none⟩) NB381_391.out _).trans (((cell_far (p := ⟨gbac, _, none⟩) NB381_391.out _).trans (hHeld.2.2.2.2))))))⟩ (fun hHeld => ?_); clear hK K; refine pure_ (i := 10) (N := some 12) (v := ?_) (a' := ?_) #[true, true, true, true, true, true, true, true, true, true, true] rfl rfl (any_of HT_.out Zq2) (fun _ _ _ h => h) (Or.inl ⟨Zq3, ?_⟩) ?_ ?_
         rotate_left
         ·intro w'
          go_simp
          with_reducible rfl
         rotate_left
         ·simp only [Sx]
          rfl
         refine done_ (done_of HT_.out Zq2) ?_
         try go_wp2
         have n0_ : Aside0 (Kd.V k77 77 (((w64.setCell ⟨gbac, 0, none⟩ (.string tbc)).setCell ⟨gbac, 1, none⟩ (.slice Ao66 taQ.length co66)).setCell ⟨gbac, 2, none⟩ (.slice Ao68 taR.length co68)) w.heap.size (fun k_ => k_ ≠ gbab ∧ k_ ≠ gbac) (.slice Ao66 taQ.length co66) taQ) := ⟨by (with_reducible repeat (first | apply Kd.V_alloc | apply Kd.V_drewN | apply Kd.V_drew)); exact Kd.V_mono (Kd.V_far (p := ⟨gbac, 2, none⟩) (Kd.V_far (p := ⟨gbac, 1, none⟩) (Kd.V_far (p := ⟨gbac, 0, none⟩) (Kd.V_mono HObd.out (fun k_ hk => (⟨hk, hk.2⟩ : _ ∧ k_ ≠ gbac))) (fun _ hk => hk.2) (.string tbc)) (fun _ hk => hk.2) (.slice Ao66 taQ.length co66)) (fun _ hk => hk.2) (.slice Ao68 taR.length co68)) (fun _ hk => ⟨hk.1.1, hk.1.2⟩)⟩
         have n1_ : Aside0 (Kd.V k30 30 (((w64.setCell ⟨gbac, 0, none⟩ (.string tbc)).setCell ⟨gbac, 1, none⟩ (.slice Ao66 taQ.length co66)).setCell ⟨gbac, 2, none⟩ (.slice Ao68 taR.length co68)) w.heap.size (fun k_ => k_ ≠ gbab ∧ k_ ≠ gbac) (.slice Ao68 taR.length co68) taR) := ⟨by (with_reducible repeat (first | apply Kd.V_alloc | apply Kd.V_drewN | apply Kd.V_drew)); exact Kd.V_mono (Kd.V_far (p := ⟨gbac, 2, none⟩) (Kd.V_far (p := ⟨gbac, 1, none⟩) (Kd.V_far (p := ⟨gbac, 0, none⟩) (Kd.V_mono HObe.out (fun k_ hk => (⟨hk, hk.2⟩ : _ ∧ k_ ≠ gbac))) (fun _ hk => hk.2) (.string tbc)) (fun _ hk => hk.2) (.slice Ao66 taQ.length co66)) (fun _ hk => hk.2) (.slice Ao68 taR.length co68)) (fun _ hk => ⟨hk.1.1, hk.1.2⟩)⟩
         have n2_ : Aside0 ((((w64.setCell ⟨gbac, 0, none⟩ (.string tbc)).setCell ⟨gbac, 1, none⟩ (.slice Ao66 taQ.length co66)).setCell ⟨gbac, 2, none⟩ (.slice Ao68 taR.length co68)).heap[gbab]? = some (.cells #[.int .u32 a0_0, .slice A0_1 l0_1.length c0_1, .string a0_2, .slice A0_3 l0_3.length c0_3, .slice A0_4 l0_4.length c0_4] 35 (0, 0))) := ⟨by (with_reducible repeat (first | refine blk_drewN ?_ _ | refine blk_drew ?_ | refine blk_alloc ?_ _)); refine blk_far ?_ NB381_391.out _; (with_reducible repeat (first | refine blk_drewN ?_ _ | refine blk_drew ?_ | refine blk_alloc ?_ _)); refine blk_far ?_ NB381_391.out _; (with_reducible repeat (first | refine blk_drewN ?_ _ | refine blk_drew ?_ | refine blk_alloc ?_ _)); refine blk_far ?_ NB381_391.out _; (with_reducible repeat (first | refine blk_drewN ?_ _ | refine blk_drew ?_ | refine blk_alloc ?_ _)); exact BKab.out⟩
         have n3_ : Aside0 ((((w64.setCell ⟨gbac, 0, none⟩ (.string tbc)).setCell ⟨gbac, 1, none⟩ (.slice Ao66 taQ.length co66)).setCell ⟨gbac, 2, none⟩ (.slice Ao68 taR.length co68)).heap[gbac]? = some (.cells #[.string tbc, .slice Ao66 taQ.length co66, .slice Ao68 taR.length co68] 30 (0, 0))) := ⟨by (with_reducible repeat (first | refine blk_drewN ?_ _ | refine blk_drew ?_ | refine blk_alloc ?_ _)); refine blk_put (cs := #[.string tbc, .slice Ao66 taQ.length co66, .slice none 0 0]) ?_ 2 _ rfl; (with_reducible repeat (first | refine blk_drewN ?_ _ | refine blk_drew ?_ | refine blk_alloc ?_ _)); refine blk_put (cs := #[.string tbc, .slice none 0 0, .slice none 0 0]) ?_ 1 _ rfl; (with_reducible repeat (first | refine blk_drewN ?_ _ | refine blk_drew ?_ | refine blk_alloc ?_ _)); refine blk_put (cs := #[.string (⟨#[]⟩ : ByteArray), .slice none 0 0, .slice none 0 0]) ?_ 0 _ rfl; (with_reducible repeat (first | refine blk_drewN ?_ _ | refine blk_drew ?_ | refine blk_alloc ?_ _)); exact BKac.out⟩
         have n4_ : Aside0 (Below w.heap.size w (((w64.setCell ⟨gbac, 0, none⟩ (.string tbc)).setCell ⟨gbac, 1, none⟩ (.slice Ao66 taQ.length co66)).setCell ⟨gbac, 2, none⟩ (.slice Ao68 taR.length co68))) := ⟨Zq16⟩
         (try clear HObd)
         (try clear HObe)
         (try clear BKab)
         (try clear BKac)
         (try clear HB)
         generalize (((w64.setCell ⟨gbac, 0, none⟩ (.string tbc)).setCell ⟨gbac, 1, none⟩ (.slice Ao66 taQ.length co66)).setCell ⟨gbac, 2, none⟩ (.slice Ao68 taR.length co68)) = w70 at n0_ n1_ n2_ n3_ n4_ ⊢; have HObd := n0_; have HObe := n1_; have BKab := n2_; have BKac := n3_; have HB := n4_; clear n0_ n1_ n2_ n3_ n4_; have n0_ := Ak (Kd.V_drew HObd.out); have n1_ := Ak (Kd.V_drew HObe.out); have n2_ := Zq246; have n3_ := Ak (blk_drew BKac.out); have n4_ := Zq178; clear HObd HObe BKab BKac HB; have HObd := n0_; have HObe := n1_; have BKab := n2_; have BKac := n3_; have HB := n4_; clear n0_ n1_ n2_ n3_ n4_; obtain ⟨i072, hi072, _, hsz72, _⟩ := info_parts info3; obtain ⟨hcut72, hA72, hC72⟩ := print_take_of (P := Try.prog) (Value.int .i64) 0 48 3 .i64 Try.underlying48 hi072 hsz72 A1 c1 l1 (ji10) (of_decide_eq_true Zq4) (of_decide_eq_true Zq4) HC1.out; have HRcQ := Ak (Kd.C_of_reads (h1 := fun _ => rfl) (hA72 _ (Kd.reads_of_C HR1.out))); have HCcQ := Ak hC72; clear hA72 hC72 hi072 hsz72; refine start_ (n := 12) (S := fun w' => w'.cell? ⟨gbab, 0, none⟩ = some (.int .u32 a0_0) ∧ w'.cell? ⟨gbab, 1, none⟩ = some (.slice A0_1 l0_1.length c0_1) ∧ w'.cell? ⟨gbab, 2, none⟩ = some (.string a0_2) ∧ w'.cell? ⟨gbab, 3, none⟩ = some (.slice A0_3 l0_3.length c0_3) ∧ w'.cell? ⟨gbab, 4, none⟩ = some (.slice A0_4 l0_4.length c0_4)) (ds := []) #[false, false, false, false, false, false, false, false, false, false, false, false] Zq2 rfl rfl ⟨(blk_cell BKab.out 0).trans rfl, (blk_cell BKab.out 1).trans rfl, (blk_cell BKab.out 2).trans rfl, (blk_cell BKab.out 3).trans rfl, (blk_cell BKab.out 4).trans rfl⟩ (fun hHeld => ?_); refine with_tabW arboretref12_Up.tab5 arboretref12_Up.bits5 (fun HT_ HW_ => ?_); generalize w70.drew = w71 at HObd HObe BKab BKac HB HRcQ hHeld ⊢; refine pure_ (i := 1) (N := some 37) (v := ?_) (a' := ?_) #[false, true, false, false, false, false, false, false, false, false, false, false] rfl rfl (any_of HT_.out Zq2) (fun _ _ _ h => h) (Or.inl ⟨Zq3, ?_⟩) ?_ ?_
         rotate_left
         ·intro w'
          go_simp
          with_reducible rfl
         rotate_left
         ·simp only [Sx]
          rfl
         refine pure_ (i := 2) (N := some 38) (v := ?_) (a' := ?_) #[false, true, true, false, false, false, false, false, false, false, false, false] rfl rfl (any_of HT_.out Zq2) (fun _ _ _ h => h) (Or.inl ⟨Zq3, ?_⟩) ?_ ?_
         rotate_left
         ·intro w'
          go_simp
          with_reducible rfl
         rotate_left
         ·simp only [Sx]
          rfl
         refine pure_ (i := 3) (N := some 39) (v := ?_) (a' := ?_) #[false, true, true, true, false, false, false, false, false, false, false, false] rfl rfl (any_of HT_.out Zq2) (fun _ _ _ h => h) (Or.inl ⟨Zq3, ?_⟩) ?_ ?_
         rotate_left
         ·intro w'
          go_simp
          with_reducible rfl
         rotate_left
         ·simp only [Sx]
          rfl
         refine pure_ (i := 4) (N := some 40) (v := ?_) (a' := ?_) #[false, true, true, true, true, false, false, false, false, false, false, false] rfl rfl (any_of HT_.out Zq2) (fun _ _ _ h => h) (Or.inl ⟨Zq3, ?_⟩) ?_ ?_
         rotate_left
         ·intro w'
          go_simp
          with_reducible rfl
         rotate_left
         ·simp only [Sx]
          rfl
         refine take_ (i := 0) (N := some 36) (v := ?_) (a' := ?_) #[true, true, true, true, true, false, false, false, false, false, false, false] rfl rfl (take_ofW HT_.out HW_.out Zq2) (fun _ _ _ h => h) (Or.inl ⟨Zq3, ?_⟩) hHeld ?_ ?_
         rotate_left
         ·rintro w' ⟨s0, s1, s2, s3, s4⟩
          go_simp
          with_reducible rfl
         rotate_left
         ·simp only [Sx]
          rfl
         refine join_ (σ := Value × Value × Nat) 2 #[true, true, true, true, true, true, true, true, true, true, false, false] (fun s_ => [(41, .tuple #[.agg #[.string tbj, s_.1, s_.2.1], .bool tcO]), (13, .pointer (some ⟨s_.2.2, 0, none⟩)), (35, .tuple #[.agg #[.string tbj, s_.1, s_.2.1], .bool tcO]), (42, .agg #[.string tbj, s_.1, s_.2.1]), (43, .bool tcO)]) (fun s_ w' => (w'.cell? ⟨gbab, 0, none⟩ = some (.int .u32 a0_0) ∧ w'.cell? ⟨gbab, 1, none⟩ = some (.slice A0_1 l0_1.length c0_1) ∧ w'.cell? ⟨gbab, 2, none⟩ = some (.string a0_2) ∧ w'.cell? ⟨gbab, 3, none⟩ = some (.slice A0_3 l0_3.length c0_3) ∧ w'.cell? ⟨gbab, 4, none⟩ = some (.slice A0_4 l0_4.length c0_4)) ∧ (Kd.V k77 77 w' w.heap.size (fun k_ => k_ ≠ gbab ∧ k_ ≠ gbac ∧ k_ ≠ s_.2.2) (.slice Ao66 taQ.length co66) taQ) ∧ (Kd.V k30 30 w' w.heap.size (fun k_ => k_ ≠ gbab ∧ k_ ≠ gbac ∧ k_ ≠ s_.2.2) (.slice Ao68 taR.length co68) taR) ∧ (Kd.V k77 77 w' w.heap.size (fun k_ => k_ ≠ gbab ∧ k_ ≠ gbac ∧ k_ ≠ s_.2.2) s_.1 tbt) ∧ (Kd.V k30 30 w' w.heap.size (fun k_ => k_ ≠ gbab ∧ k_ ≠ gbac ∧ k_ ≠ s_.2.2) s_.2.1 tbv) ∧ (w'.heap[gbab]? = some (.cells #[.int .u32 a0_0, .slice A0_1 l0_1.length c0_1, .string a0_2, .slice A0_3 l0_3.length c0_3, .slice A0_4 l0_4.length c0_4] 35 (0, 0))) ∧ (w'.heap[gbac]? = some (.cells #[.string tbc, .slice Ao66 taQ.length co66, .slice Ao68 taR.length co68] 30 (0, 0))) ∧ (w'.heap[s_.2.2]? = some (.cells #[.string (⟨#[]⟩ : ByteArray), .slice none 0 0, .slice none 0 0] 30 (0, 0))) ∧ (w.heap.size ≤ s_.2.2) ∧ (w.heap.size ≤ s_.2.2) ∧ (gbab ≠ s_.2.2) ∧ (s_.2.2 ≠ gbab) ∧ (gbac ≠ s_.2.2) ∧ (s_.2.2 ≠ gbac) ∧ (Below w.heap.size w w')) ?_ ?_
         rotate_left
         ·intro hCont; refine two_ (i := 5) (j := 9) (Ni := some 41) (Nj := some 13) #[true, true, true, true, true, true, false, false, false, false, false, false] #[true, true, true, true, true, false, false, false, false, true, false, false] rfl rfl rfl rfl (two_of HT_.out Zq2) Zq7 Zq7 (fun K hK => ?_) (fun K hK => ?_)
          ·skip
           refine goes_ Try.func21 Zq2 rfl #[.agg #[.int .u32 a0_0, .slice A0_1 l0_1.length c0_1, .string a0_2, .slice A0_3 l0_3.length c0_3, .slice A0_4 l0_4.length c0_4], .slice A1 (l1.take ((ji10) : Int).toNat).length c1] Zq3 rfl rfl Zq130 ?_; with_reducible refine (arboretref06_Get.calls k1 a0_0 _ _ l0_1 a0_2 (fun k_ => k_ < w.heap.size) _ _ l0_3 (fun k_ => k_ < w.heap.size) _ _ l0_4 _ _ (l1.take ((ji10) : Int).toNat) tbj tbt tbv tcO _ ?side1 ?side2 ?side3 ?side4 ?side5 ?side6 A13.out).mono ?_
           (case side1 => repeat (first | exact Zq142 | (with_reducible refine Kd.C_alloc ?_ _) | (with_reducible refine Kd.C_drewN ?_ _) | (with_reducible refine Kd.C_drew ?_)))
           (case side2 => exact HC0_1.out)
           (case side3 => exact Kd.V_mk HC0_3.out (Kd.F_below (Kd.C_F k77_heap HR0_3.out) Zq16))
           (case side4 => exact Kd.V_mk HC0_4.out (Kd.F_below (Kd.C_F k30_heap HR0_4.out) Zq16))
           (case side5 => repeat (first | exact (Kd.C_below HRcQ.out HB.out) | (with_reducible refine Kd.C_alloc ?_ _) | (with_reducible refine Kd.C_drewN ?_ _) | (with_reducible refine Kd.C_drew ?_)))
           (case side6 => exact HCcQ.out)
           rintro e w73 ⟨v395, v398, rfl, ho0, ho1, hb⟩
           refine ⟨_, rfl, ?_⟩; have n0_ := Ak (Kd.V_below Zq47 hb); have n1_ := Ak (Kd.V_below Zq48 hb); have n2_ := Ak (Kd.V_lower (Kd.V_mono (ok' := fun k_ => k_ ≠ gbab ∧ k_ ≠ gbac) ho0 (fun k_ hk_ => ⟨Or.elim hk_ (fun hs_ => Or.elim hs_ (fun hs_ => fun e_ => Nat.not_le.2 hs_ Zq17) (fun hs_ => fun e_ => Nat.not_le.2 hs_ Zq17)) (fun hn_ => Zq133), Or.elim hk_ (fun hs_ => Or.elim hs_ (fun hs_ => fun e_ => Nat.not_le.2 hs_ Zq29) (fun hs_ => fun e_ => Nat.not_le.2 hs_ Zq29)) (fun hn_ => Zq190)⟩)) (below_size Zq16)); have n3_ := Ak (Kd.V_lower (Kd.V_mono (ok' := fun k_ => k_ ≠ gbab ∧ k_ ≠ gbac) ho1 (fun k_ hk_ => ⟨Or.elim hk_ (fun hs_ => Or.elim hs_ (fun hs_ => fun e_ => Nat.not_le.2 hs_ Zq17) (fun hs_ => fun e_ => Nat.not_le.2 hs_ Zq17)) (fun hn_ => Zq133), Or.elim hk_ (fun hs_ => Or.elim hs_ (fun hs_ => fun e_ => Nat.not_le.2 hs_ Zq29) (fun hs_ => fun e_ => Nat.not_le.2 hs_ Zq29)) (fun hn_ => Zq190)⟩)) (below_size Zq16)); have n4_ := Zq132; have n5_ := Zq188; have n6_ := Zq230; clear HObd HObe BKab BKac HB; have HObd := n0_; have HObe := n1_; have HObP := n2_; have HObQ := n3_; have BKab := n4_; have BKac := n5_; have HB := n6_; clear n0_ n1_ n2_ n3_ n4_ n5_ n6_
           (try clear hb)
           (try clear hb2)
           (try clear hk)
           (try clear hi)
           (try clear ho0)
           (try clear ho1)
           refine hK.out _ _ ⟨(blk_cell BKab.out 0).trans rfl, (blk_cell BKab.out 1).trans rfl, (blk_cell BKab.out 2).trans rfl, (blk_cell BKab.out 3).trans rfl, (blk_cell BKab.out 4).trans rfl⟩ (fun hHeld => ?_); clear hK K; refine norm_ (a' := ?_) ?_ ?_
           rotate_left
           ·show Act.put _ (some 41) _ = _
            simp only [Sx]
            rfl
           refine pure_ (i := 6) (N := some 35) (v := ?_) (a' := ?_) #[true, true, true, true, true, true, true, false, false, false, false, false] rfl rfl (any_of HT_.out Zq2) (fun _ _ _ h => h) (Or.inl ⟨Zq3, ?_⟩) ?_ ?_
           rotate_left
           ·intro w'
            go_simp
            with_reducible rfl
           rotate_left
           ·simp only [Sx]
            rfl
           refine pure_ (i := 7) (N := some 42) (v := ?_) (a' := ?_) #[true, true, true, true, true, true, true, true, false, false, false, false] rfl rfl (any_of HT_.out Zq2) (fun _ _ _ h => h) (Or.inl ⟨Zq3, ?_⟩) ?_ ?_
           rotate_left
           ·intro w'
            go_simp
            with_reducible rfl
           rotate_left
           ·simp only [Sx]
            rfl
           refine pure_ (i := 8) (N := some 43) (v := ?_) (a' := ?_) #[true, true, true, true, true, true, true, true, true, false, false, false] rfl rfl (any_of HT_.out Zq2) (fun _ _ _ h => h) (Or.inl ⟨Zq3, ?_⟩) ?_ ?_
           rotate_left
           ·intro w'
            go_simp
            with_reducible rfl
           rotate_left
           ·simp only [Sx]
            rfl
           refine one_ (i := 9) (N := some 13) #[true, true, true, true, true, true, true, true, true, true, false, false] rfl rfl (one_of HT_.out Zq2) Zq7 (fun K hK => ?_); refine box_step ?hg (N := 13) ?hd (cs := #[.string (⟨#[]⟩ : ByteArray), .slice none 0 0, .slice none 0 0]) (t := 30) ?hr ?_; (case hd | hg => rfl); (case hr => first | (go_simp; done) | (go_simp; rfl)); intro gbad hg w74 hbox hb; have n0_ := Zq215; have n1_ := Zq216; have n2_ := Ak (Kd.V_below (Kd.V_elderB Zq121 gbad (Nat.le_of_eq hg.symm)) hb); have n3_ := Ak (Kd.V_below (Kd.V_elderB Zq122 gbad (Nat.le_of_eq hg.symm)) hb); have n4_ := Zq132; have n5_ := Zq188; have n6_ := Zq230; have n7_ := Ak (hbox); have n8_ := Zq174; have n9_ := Zq174; have n10_ := Zq280; have n11_ := Zq281; have n12_ := Ak ((by rw [hg]; exact Nat.ne_of_lt Zq196 : gbac ≠ gbad)); have n13_ := Ak ((by rw [hg]; exact Nat.ne_of_gt Zq196 : gbad ≠ gbac)); clear HObd HObe HObP HObQ BKab BKac HB; have HObd := n0_; have HObe := n1_; have HObP := n2_; have HObQ := n3_; have BKab := n4_; have BKac := n5_; have HB := n6_; have BKad := n7_; have GWad := n8_; have GEad := n9_; have NB381_401 := n10_; have NB401_381 := n11_; have NB391_401 := n12_; have NB401_391 := n13_; clear n0_ n1_ n2_ n3_ n4_ n5_ n6_ n7_ n8_ n9_ n10_ n11_ n12_ n13_ hb hbox hg; refine hK.out _ _ ⟨(blk_cell BKab.out 0).trans rfl, (blk_cell BKab.out 1).trans rfl, (blk_cell BKab.out 2).trans rfl, (blk_cell BKab.out 3).trans rfl, (blk_cell BKab.out 4).trans rfl⟩ (fun hHeld => ?_); clear hK K; refine norm_ (a' := ?_) ?_ ?_
           rotate_left
           ·show Act.put _ (some 13) _ = _
            simp only [Sx]
            rfl
           exact norm_ Zq55 (hCont (v395, v398, gbad) _ ⟨hHeld, Zq123, Zq124, (by (with_reducible repeat (first | apply Kd.V_alloc | apply Kd.V_drewN | apply Kd.V_drew)); exact Kd.V_mono HObP.out (fun _ hk => ⟨hk.1.1, ⟨hk.1.2, hk.2⟩⟩)), (by (with_reducible repeat (first | apply Kd.V_alloc | apply Kd.V_drewN | apply Kd.V_drew)); exact Kd.V_mono HObQ.out (fun _ hk => ⟨hk.1.1, ⟨hk.1.2, hk.2⟩⟩)), Zq13, Zq15, Zq45, GWad.out, GEad.out, NB381_401.out, NB401_381.out, NB391_401.out, NB401_391.out, Zq23⟩)
          ·skip
           refine box_step ?hg (N := 13) ?hd (cs := #[.string (⟨#[]⟩ : ByteArray), .slice none 0 0, .slice none 0 0]) (t := 30) ?hr ?_; (case hd | hg => rfl); (case hr => first | (go_simp; done) | (go_simp; rfl)); intro gbad hg w73 hbox hb; have n0_ := Zq215; have n1_ := Zq216; have n2_ := Zq132; have n3_ := Zq188; have n4_ := Zq230; have n5_ := Ak (hbox); have n6_ := Zq174; have n7_ := Zq174; have n8_ := Zq280; have n9_ := Zq281; have n10_ := Ak ((by rw [hg]; exact Nat.ne_of_lt Zq196 : gbac ≠ gbad)); have n11_ := Ak ((by rw [hg]; exact Nat.ne_of_gt Zq196 : gbad ≠ gbac)); clear HObd HObe BKab BKac HB; have HObd := n0_; have HObe := n1_; have BKab := n2_; have BKac := n3_; have HB := n4_; have BKad := n5_; have GWad := n6_; have GEad := n7_; have NB381_401 := n8_; have NB401_381 := n9_; have NB391_401 := n10_; have NB401_391 := n11_; clear n0_ n1_ n2_ n3_ n4_ n5_ n6_ n7_ n8_ n9_ n10_ n11_ hb hbox hg; refine hK.out _ _ ⟨(blk_cell BKab.out 0).trans rfl, (blk_cell BKab.out 1).trans rfl, (blk_cell BKab.out 2).trans rfl, (blk_cell BKab.out 3).trans rfl, (blk_cell BKab.out 4).trans rfl⟩ (fun hHeld => ?_); clear hK K; refine norm_ (a' := ?_) ?_ ?_
           rotate_left
           ·show Act.put _ (some 13) _ = _
            simp only [Sx]
            rfl
           refine one_ (i := 5) (N := some 41) #[true, true, true, true, true, true, false, false, false, true, false, false] rfl rfl (one_of HT_.out Zq2) Zq7 (fun K hK => ?_); refine goes_ Try.func21 Zq2 rfl #[.agg #[.int .u32 a0_0, .slice A0_1 l0_1.length c0_1, .string a0_2, .slice A0_3 l0_3.length c0_3, .slice A0_4 l0_4.length c0_4], .slice A1 (l1.take ((ji10) : Int).toNat).length c1] Zq3 rfl rfl Zq130 ?_; with_reducible refine (arboretref06_Get.calls k1 a0_0 _ _ l0_1 a0_2 (fun k_ => k_ < w.heap.size) _ _ l0_3 (fun k_ => k_ < w.heap.size) _ _ l0_4 _ _ (l1.take ((ji10) : Int).toNat) tbj tbt tbv tcO _ ?side1 ?side2 ?side3 ?side4 ?side5 ?side6 A13.out).mono ?_
           (case side1 => repeat (first | exact Zq142 | (with_reducible refine Kd.C_alloc ?_ _) | (with_reducible refine Kd.C_drewN ?_ _) | (with_reducible refine Kd.C_drew ?_)))
           (case side2 => exact HC0_1.out)
           (case side3 => exact Kd.V_mk HC0_3.out (Kd.F_below (Kd.C_F k77_heap HR0_3.out) Zq23))
           (case side4 => exact Kd.V_mk HC0_4.out (Kd.F_below (Kd.C_F k30_heap HR0_4.out) Zq23))
           (case side5 => repeat (first | exact (Kd.C_below HRcQ.out HB.out) | (with_reducible refine Kd.C_alloc ?_ _) | (with_reducible refine Kd.C_drewN ?_ _) | (with_reducible refine Kd.C_drew ?_)))
           (case side6 => exact HCcQ.out)
           rintro e w74 ⟨v395, v398, rfl, ho0, ho1, hb⟩
           refine ⟨_, rfl, ?_⟩; have n0_ := Ak (Kd.V_below Zq47 hb); have n1_ := Ak (Kd.V_below Zq48 hb); have n2_ := Ak (Kd.V_lower (Kd.V_mono (ok' := fun k_ => k_ ≠ gbab ∧ k_ ≠ gbac ∧ k_ ≠ gbad) ho0 (fun k_ hk_ => ⟨Or.elim hk_ (fun hs_ => Or.elim hs_ (fun hs_ => fun e_ => Nat.not_le.2 hs_ Zq17) (fun hs_ => fun e_ => Nat.not_le.2 hs_ Zq17)) (fun hn_ => Zq133), Or.elim hk_ (fun hs_ => Or.elim hs_ (fun hs_ => fun e_ => Nat.not_le.2 hs_ Zq29) (fun hs_ => fun e_ => Nat.not_le.2 hs_ Zq29)) (fun hn_ => Zq190), Or.elim hk_ (fun hs_ => Or.elim hs_ (fun hs_ => fun e_ => Nat.not_le.2 hs_ (by rw [e_]; exact GWad.out)) (fun hs_ => fun e_ => Nat.not_le.2 hs_ (by rw [e_]; exact GWad.out))) (fun hn_ => Zq199)⟩)) (below_size Zq23)); have n3_ := Ak (Kd.V_lower (Kd.V_mono (ok' := fun k_ => k_ ≠ gbab ∧ k_ ≠ gbac ∧ k_ ≠ gbad) ho1 (fun k_ hk_ => ⟨Or.elim hk_ (fun hs_ => Or.elim hs_ (fun hs_ => fun e_ => Nat.not_le.2 hs_ Zq17) (fun hs_ => fun e_ => Nat.not_le.2 hs_ Zq17)) (fun hn_ => Zq133), Or.elim hk_ (fun hs_ => Or.elim hs_ (fun hs_ => fun e_ => Nat.not_le.2 hs_ Zq29) (fun hs_ => fun e_ => Nat.not_le.2 hs_ Zq29)) (fun hn_ => Zq190), Or.elim hk_ (fun hs_ => Or.elim hs_ (fun hs_ => fun e_ => Nat.not_le.2 hs_ (by rw [e_]; exact GWad.out)) (fun hs_ => fun e_ => Nat.not_le.2 hs_ (by rw [e_]; exact GWad.out))) (fun hn_ => Zq199)⟩)) (below_size Zq23)); have n4_ := Zq132; have n5_ := Zq188; have n6_ := Zq258; have n7_ := Ak (below_step Zq23 hb); clear HObd HObe BKab BKac BKad HB; have HObd := n0_; have HObe := n1_; have HObP := n2_; have HObQ := n3_; have BKab := n4_; have BKac := n5_; have BKad := n6_; have HB := n7_; clear n0_ n1_ n2_ n3_ n4_ n5_ n6_ n7_
           (try clear hb)
           (try clear hb2)
           (try clear hk)
           (try clear hi)
           (try clear ho0)
           (try clear ho1)
           refine hK.out _ _ ⟨(blk_cell BKab.out 0).trans rfl, (blk_cell BKab.out 1).trans rfl, (blk_cell BKab.out 2).trans rfl, (blk_cell BKab.out 3).trans rfl, (blk_cell BKab.out 4).trans rfl⟩ (fun hHeld => ?_); clear hK K; refine norm_ (a' := ?_) ?_ ?_
           rotate_left
           ·show Act.put _ (some 41) _ = _
            simp only [Sx]
            rfl
           refine pure_ (i := 6) (N := some 35) (v := ?_) (a' := ?_) #[true, true, true, true, true, true, true, false, false, true, false, false] rfl rfl (any_of HT_.out Zq2) (fun _ _ _ h => h) (Or.inl ⟨Zq3, ?_⟩) ?_ ?_
           rotate_left
           ·intro w'
            go_simp
            with_reducible rfl
           rotate_left
           ·simp only [Sx]
            rfl
           refine pure_ (i := 7) (N := some 42) (v := ?_) (a' := ?_) #[true, true, true, true, true, true, true, true, false, true, false, false] rfl rfl (any_of HT_.out Zq2) (fun _ _ _ h => h) (Or.inl ⟨Zq3, ?_⟩) ?_ ?_
           rotate_left
           ·intro w'
            go_simp
            with_reducible rfl
           rotate_left
           ·simp only [Sx]
            rfl
           refine pure_ (i := 8) (N := some 43) (v := ?_) (a' := ?_) #[true, true, true, true, true, true, true, true, true, true, false, false] rfl rfl (any_of HT_.out Zq2) (fun _ _ _ h => h) (Or.inl ⟨Zq3, ?_⟩) ?_ ?_
           rotate_left
           ·intro w'
            go_simp
            with_reducible rfl
           rotate_left
           ·simp only [Sx]
            rfl
           exact norm_ Zq55 (hCont (v395, v398, gbad) _ ⟨hHeld, Zq123, Zq124, Zq121, Zq122, Zq13, Zq15, Zq45, GWad.out, GEad.out, NB381_401.out, NB401_381.out, NB391_401.out, NB401_391.out, Zq23⟩)
         rintro ⟨v395, v398, gbad⟩ w75 ⟨hS_, h0_, h1_, h2_, h3_, h4_, h5_, h6_, h7_, h8_, h9_, h10_, h11_, h12_, h13_⟩
         have n0_ : Aside0 (Kd.V k77 77 w75 w.heap.size (fun k_ => k_ ≠ gbab ∧ k_ ≠ gbac ∧ k_ ≠ gbad) (.slice Ao66 taQ.length co66) taQ) := ⟨h0_⟩
         have n1_ : Aside0 (Kd.V k30 30 w75 w.heap.size (fun k_ => k_ ≠ gbab ∧ k_ ≠ gbac ∧ k_ ≠ gbad) (.slice Ao68 taR.length co68) taR) := ⟨h1_⟩
         have n2_ : Aside0 (Kd.V k77 77 w75 w.heap.size (fun k_ => k_ ≠ gbab ∧ k_ ≠ gbac ∧ k_ ≠ gbad) v395 tbt) := ⟨h2_⟩
         have n3_ : Aside0 (Kd.V k30 30 w75 w.heap.size (fun k_ => k_ ≠ gbab ∧ k_ ≠ gbac ∧ k_ ≠ gbad) v398 tbv) := ⟨h3_⟩
         have n4_ : Aside0 (w75.heap[gbab]? = some (.cells #[.int .u32 a0_0, .slice A0_1 l0_1.length c0_1, .string a0_2, .slice A0_3 l0_3.length c0_3, .slice A0_4 l0_4.length c0_4] 35 (0, 0))) := ⟨h4_⟩
         have n5_ : Aside0 (w75.heap[gbac]? = some (.cells #[.string tbc, .slice Ao66 taQ.length co66, .slice Ao68 taR.length co68] 30 (0, 0))) := ⟨h5_⟩
         have n6_ : Aside0 (w75.heap[gbad]? = some (.cells #[.string (⟨#[]⟩ : ByteArray), .slice none 0 0, .slice none 0 0] 30 (0, 0))) := ⟨h6_⟩
         have n7_ : Aside0 (w.heap.size ≤ gbad) := ⟨h7_⟩
         have n8_ : Aside0 (w.heap.size ≤ gbad) := ⟨h8_⟩
         have n9_ : Aside0 (gbab ≠ gbad) := ⟨h9_⟩
         have n10_ : Aside0 (gbad ≠ gbab) := ⟨h10_⟩
         have n11_ : Aside0 (gbac ≠ gbad) := ⟨h11_⟩
         have n12_ : Aside0 (gbad ≠ gbac) := ⟨h12_⟩
         have n13_ : Aside0 (Below w.heap.size w w75) := ⟨h13_⟩
         clear HObd HObe BKab BKac HB h0_ h1_ h2_ h3_ h4_ h5_ h6_ h7_ h8_ h9_ h10_ h11_ h12_ h13_; have HObd := n0_; have HObe := n1_; have HObP := n2_; have HObQ := n3_; have BKab := n4_; have BKac := n5_; have BKad := n6_; have GWad := n7_; have GEad := n8_; have NB381_401 := n9_; have NB401_381 := n10_; have NB391_401 := n11_; have NB401_391 := n12_; have HB := n13_; clear n0_ n1_ n2_ n3_ n4_ n5_ n6_ n7_ n8_ n9_ n10_ n11_ n12_ n13_; have hHeld : w75.cell? ⟨gbab, 0, none⟩ = some (.int .u32 a0_0) ∧ w75.cell? ⟨gbab, 1, none⟩ = some (.slice A0_1 l0_1.length c0_1) ∧ w75.cell? ⟨gbab, 2, none⟩ = some (.string a0_2) ∧ w75.cell? ⟨gbab, 3, none⟩ = some (.slice A0_3 l0_3.length c0_3) ∧ w75.cell? ⟨gbab, 4, none⟩ = some (.slice A0_4 l0_4.length c0_4) := hS_; obtain ⟨Ao77, co77, eo77⟩ := Kd.V_slice HObP.out
         (first | subst eo77 | (injection eo77 with f1_ f2_ f3_; have f4_ := f1_.symm; have f5_ := f3_.symm; clear f1_ f2_ f3_; subst f4_; subst f5_))
         obtain ⟨Ao79, co79, eo79⟩ := Kd.V_slice HObQ.out
         (first | subst eo79 | (injection eo79 with f1_ f2_ f3_; have f4_ := f1_.symm; have f5_ := f3_.symm; clear f1_ f2_ f3_; subst f4_; subst f5_))
         refine norm_ (a' := ?_) ?_ ?_
         rotate_left
         ·simp only [putAll, Act.put, List.setIfInBounds_toArray, List.set_cons_zero, List.set_cons_succ]
          rfl
         refine one_ (i := 10) (N := none) #[true, true, true, true, true, true, true, true, true, true, true, false] rfl rfl (one_of HT_.out Zq2) Zq7 (fun K hK => ?_); have hs76 : w75.cell? ⟨gbad, 0, none⟩ = some (.string (⟨#[]⟩ : ByteArray)) := (blk_cell BKad.out 0).trans rfl; have hfs76 := blk_frozen BKad.out 0; have hns76_0 := NB381_401.out; have hns76_1 := NB391_401.out; have hms76_0 := NB401_381.out; have hms76_1 := NB401_391.out; have hs78 : w75.cell? ⟨gbad, 1, none⟩ = some (.slice none 0 0) := (blk_cell BKad.out 1).trans rfl; have hfs78 := blk_frozen BKad.out 1; have hns78_0 := NB381_401.out; have hns78_1 := NB391_401.out; have hms78_0 := NB401_381.out; have hms78_1 := NB401_391.out; have hs80 : w75.cell? ⟨gbad, 2, none⟩ = some (.slice none 0 0) := (blk_cell BKad.out 2).trans rfl; have hfs80 := blk_frozen BKad.out 2; have hns80_0 := NB381_401.out; have hns80_1 := NB391_401.out; have hms80_0 := NB401_381.out; have hms80_1 := NB401_391.out; refine skip_ (w1 := ?_) Zq3 rfl ?_ ?_
         rotate_left
         ·go_simp
          rfl
         refine hK.out _ _ ⟨((cell_far (p := ⟨gbad, _, none⟩) NB381_401.out _).trans (((cell_far (p := ⟨gbad, _, none⟩) NB381_401.out _).trans (((cell_far (p := ⟨gbad, _, none⟩) NB381_401.out _).trans (hHeld.1)))))), ((cell_far (p := ⟨gbad, _, none⟩) NB381_401.out _).trans (((cell_far (p := ⟨gbad, _, none⟩) NB381_401.out _).trans (((cell_far (p := ⟨gbad, _, none⟩) NB381_401.out _).trans (hHeld.2.1)))))), ((cell_far (p := ⟨gbad, _, none⟩) NB381_401.out _).trans (((cell_far (p := ⟨gbad, _, none⟩) NB381_401.out _).trans (((cell_far (p := ⟨gbad, _, none⟩) NB381_401.out _).trans (hHeld.2.2.1)))))), ((cell_far (p := ⟨gbad, _, none⟩) NB381_401.out _).trans (((cell_far (p := ⟨gbad, _, none⟩) NB381_401.out _).trans (((cell_far (p := ⟨gbad, _, none⟩) NB381_401.out _).trans (hHeld.2.2.2.1)))))), ((cell_far (p := ⟨gbad, _, none⟩) NB381_401.out _).trans (((cell_far (p := ⟨gbad, _, none⟩) NB381_401.out _).trans (((cell_far (p := ⟨gbad, _, none⟩) NB381_401.out _).trans (hHeld.2.2.2.2))))))⟩ (fun hHeld => ?_); clear hK K; refine pure_ (i := 11) (N := some 14) (v := ?_) (a' := ?_) #[true, true, true, true, true, true, true, true, true, true, true, true] rfl rfl (any_of HT_.out Zq2) (fun _ _ _ h => h) (Or.inl ⟨Zq3, ?_⟩) ?_ ?_
         rotate_left
         ·intro w'
          go_simp
          with_reducible rfl
         rotate_left
         ·simp only [Sx]
          rfl
         refine done_ (done_of HT_.out Zq2) ?_; have hnb81 := NB401_381.out; have hnc81 := NB381_401.out; have hnb82 := NB401_391.out; have hnc82 := NB391_401.out; have hcz83_0 : w75.cell? ⟨gbad, 0, none⟩ = some (.string (⟨#[]⟩ : ByteArray)) := (blk_cell BKad.out 0).trans rfl; have hcz83_1 : w75.cell? ⟨gbad, 1, none⟩ = some (.slice none 0 0) := (blk_cell BKad.out 1).trans rfl; have hcz83_2 : w75.cell? ⟨gbad, 2, none⟩ = some (.slice none 0 0) := (blk_cell BKad.out 2).trans rfl; have hfz83_0 := blk_frozen BKad.out 0; have hfz83_1 := blk_frozen BKad.out 1; have hfz83_2 := blk_frozen BKad.out 2; have hnb84 := NB391_381.out; have hnc84 := NB381_391.out; have hcz85_0 : w75.cell? ⟨gbac, 0, none⟩ = some (.string tbc) := (blk_cell BKac.out 0).trans rfl; have hcz85_1 : w75.cell? ⟨gbac, 1, none⟩ = some (.slice Ao66 taQ.length co66) := (blk_cell BKac.out 1).trans rfl; have hcz85_2 : w75.cell? ⟨gbac, 2, none⟩ = some (.slice Ao68 taR.length co68) := (blk_cell BKac.out 2).trans rfl; have hfz85_0 := blk_frozen BKac.out 0; have hfz85_1 := blk_frozen BKac.out 1; have hfz85_2 := blk_frozen BKac.out 2
         try go_wp2_with (first | ((with_reducible refine gate_callee (f := 18) rfl ?_); refine goesL_ (some 47) rfl rfl Try.func18 Zq2 rfl #[.agg #[.string tbj, .slice Ao77 tbt.length co77, .slice Ao79 tbv.length co79], .agg #[.string tbc, .slice Ao66 taQ.length co66, .slice Ao68 taR.length co68]] rfl Zq8 ?_; (with_reducible refine (arboretref12_Ranges.calls k1 tbj _ _ tbt _ _ tbv tbc _ _ taQ _ _ taR tau tfV false _ ?side1 ?side2 ?side3 ?side4 ?side5 ?side6 ?side7 ?side8 A14.out).mono ?_); (case side1 => refine (Kd.V_reads' (e := 77) (base := w.heap.size) (ok := fun k_ => (k_ ≠ gbab ∧ (k_ ≠ gbac ∧ k_ ≠ gbad))) (n := tbt.length) (c := co77) ?_).2.2; exact (by (with_reducible repeat (first | apply Kd.V_alloc | apply Kd.V_drewN | apply Kd.V_drew)); exact (Kd.V_mono (Kd.V_far (p := ⟨gbad, 2, none⟩) (Kd.V_far (p := ⟨gbad, 1, none⟩) (Kd.V_far (p := ⟨gbad, 0, none⟩) (Kd.V_mono HObP.out (fun k_ hk => (⟨hk, hk.2.2⟩ : _ ∧ k_ ≠ gbad))) (fun _ hk => hk.2) (.string tbj)) (fun _ hk => hk.2) (.slice Ao77 tbt.length co77)) (fun _ hk => hk.2) (.slice Ao79 tbv.length co79)) (fun _ h_ => h_.1)))); (case side2 => exact (Kd.V_reads' HObP.out).2.1); (case side3 => refine (Kd.V_reads' (e := 30) (base := w.heap.size) (ok := fun k_ => (k_ ≠ gbab ∧ (k_ ≠ gbac ∧ k_ ≠ gbad))) (n := tbv.length) (c := co79) ?_).2.2; exact (by (with_reducible repeat (first | apply Kd.V_alloc | apply Kd.V_drewN | apply Kd.V_drew)); exact (Kd.V_mono (Kd.V_far (p := ⟨gbad, 2, none⟩) (Kd.V_far (p := ⟨gbad, 1, none⟩) (Kd.V_far (p := ⟨gbad, 0, none⟩) (Kd.V_mono HObQ.out (fun k_ hk => (⟨hk, hk.2.2⟩ : _ ∧ k_ ≠ gbad))) (fun _ hk => hk.2) (.string tbj)) (fun _ hk => hk.2) (.slice Ao77 tbt.length co77)) (fun _ hk => hk.2) (.slice Ao79 tbv.length co79)) (fun _ h_ => h_.1)))); (case side4 => exact (Kd.V_reads' HObQ.out).2.1); (case side5 => refine (Kd.V_reads' (e := 77) (base := w.heap.size) (ok := fun k_ => (k_ ≠ gbab ∧ (k_ ≠ gbac ∧ k_ ≠ gbad))) (n := taQ.length) (c := co66) ?_).2.2; exact (by (with_reducible repeat (first | apply Kd.V_alloc | apply Kd.V_drewN | apply Kd.V_drew)); exact (Kd.V_mono (Kd.V_far (p := ⟨gbad, 2, none⟩) (Kd.V_far (p := ⟨gbad, 1, none⟩) (Kd.V_far (p := ⟨gbad, 0, none⟩) (Kd.V_mono HObd.out (fun k_ hk => (⟨hk, hk.2.2⟩ : _ ∧ k_ ≠ gbad))) (fun _ hk => hk.2) (.string tbj)) (fun _ hk => hk.2) (.slice Ao77 tbt.length co77)) (fun _ hk => hk.2) (.slice Ao79 tbv.length co79)) (fun _ h_ => h_.1)))); (case side6 => exact (Kd.V_reads' HObd.out).2.1); (case side7 => refine (Kd.V_reads' (e := 30) (base := w.heap.size) (ok := fun k_ => (k_ ≠ gbab ∧ (k_ ≠ gbac ∧ k_ ≠ gbad))) (n := taR.length) (c := co68) ?_).2.2; exact (by (with_reducible repeat (first | apply Kd.V_alloc | apply Kd.V_drewN | apply Kd.V_drew)); exact (Kd.V_mono (Kd.V_far (p := ⟨gbad, 2, none⟩) (Kd.V_far (p := ⟨gbad, 1, none⟩) (Kd.V_far (p := ⟨gbad, 0, none⟩) (Kd.V_mono HObe.out (fun k_ hk => (⟨hk, hk.2.2⟩ : _ ∧ k_ ≠ gbad))) (fun _ hk => hk.2) (.string tbj)) (fun _ hk => hk.2) (.slice Ao77 tbt.length co77)) (fun _ hk => hk.2) (.slice Ao79 tbv.length co79)) (fun _ h_ => h_.1)))); (case side8 => exact (Kd.V_reads' HObe.out).2.1); rintro e w86 ⟨v403, rfl, ho0, hb⟩; refine ⟨_, rfl, ?_⟩; have n0_ := Ak (Kd.V_elder' (by (with_reducible repeat (first | apply Kd.V_alloc | apply Kd.V_drewN | apply Kd.V_drew)); exact (Kd.V_mono (Kd.V_far (p := ⟨gbad, 2, none⟩) (Kd.V_far (p := ⟨gbad, 1, none⟩) (Kd.V_far (p := ⟨gbad, 0, none⟩) (Kd.V_mono HObd.out (fun k_ hk => (⟨hk, hk.2.2⟩ : _ ∧ k_ ≠ gbad))) (fun _ hk => hk.2) (.string tbj)) (fun _ hk => hk.2) (.slice Ao77 tbt.length co77)) (fun _ hk => hk.2) (.slice Ao79 tbv.length co79)) (fun _ h_ => h_.1))) (Kd.R_base ho0) hb); have n1_ := Ak (Kd.V_elder' (by (with_reducible repeat (first | apply Kd.V_alloc | apply Kd.V_drewN | apply Kd.V_drew)); exact (Kd.V_mono (Kd.V_far (p := ⟨gbad, 2, none⟩) (Kd.V_far (p := ⟨gbad, 1, none⟩) (Kd.V_far (p := ⟨gbad, 0, none⟩) (Kd.V_mono HObe.out (fun k_ hk => (⟨hk, hk.2.2⟩ : _ ∧ k_ ≠ gbad))) (fun _ hk => hk.2) (.string tbj)) (fun _ hk => hk.2) (.slice Ao77 tbt.length co77)) (fun _ hk => hk.2) (.slice Ao79 tbv.length co79)) (fun _ h_ => h_.1))) (Kd.R_base ho0) hb); have n2_ := Ak (Kd.V_elder' (by (with_reducible repeat (first | apply Kd.V_alloc | apply Kd.V_drewN | apply Kd.V_drew)); exact (Kd.V_mono (Kd.V_far (p := ⟨gbad, 2, none⟩) (Kd.V_far (p := ⟨gbad, 1, none⟩) (Kd.V_far (p := ⟨gbad, 0, none⟩) (Kd.V_mono HObP.out (fun k_ hk => (⟨hk, hk.2.2⟩ : _ ∧ k_ ≠ gbad))) (fun _ hk => hk.2) (.string tbj)) (fun _ hk => hk.2) (.slice Ao77 tbt.length co77)) (fun _ hk => hk.2) (.slice Ao79 tbv.length co79)) (fun _ h_ => h_.1))) (Kd.R_base ho0) hb); have n3_ := Ak (Kd.V_elder' (by (with_reducible repeat (first | apply Kd.V_alloc | apply Kd.V_drewN | apply Kd.V_drew)); exact (Kd.V_mono (Kd.V_far (p := ⟨gbad, 2, none⟩) (Kd.V_far (p := ⟨gbad, 1, none⟩) (Kd.V_far (p := ⟨gbad, 0, none⟩) (Kd.V_mono HObQ.out (fun k_ hk => (⟨hk, hk.2.2⟩ : _ ∧ k_ ≠ gbad))) (fun _ hk => hk.2) (.string tbj)) (fun _ hk => hk.2) (.slice Ao77 tbt.length co77)) (fun _ hk => hk.2) (.slice Ao79 tbv.length co79)) (fun _ h_ => h_.1))) (Kd.R_base ho0) hb); have n4_ := Ak (Kd.R_lower ho0 (below_size Zq23)); have n5_ := Ak (blk_below (g := gbab) (o := .cells #[.int .u32 a0_0, .slice A0_1 l0_1.length c0_1, .string a0_2, .slice A0_3 l0_3.length c0_3, .slice A0_4 l0_4.length c0_4] 35 (0, 0)) (by (with_reducible repeat (first | refine blk_drewN ?_ _ | refine blk_drew ?_ | refine blk_alloc ?_ _)); refine blk_far ?_ NB381_401.out _; (with_reducible repeat (first | refine blk_drewN ?_ _ | refine blk_drew ?_ | refine blk_alloc ?_ _)); refine blk_far ?_ NB381_401.out _; (with_reducible repeat (first | refine blk_drewN ?_ _ | refine blk_drew ?_ | refine blk_alloc ?_ _)); refine blk_far ?_ NB381_401.out _; (with_reducible repeat (first | refine blk_drewN ?_ _ | refine blk_drew ?_ | refine blk_alloc ?_ _)); exact BKab.out) hb); have n6_ := Ak (blk_below (g := gbac) (o := .cells #[.string tbc, .slice Ao66 taQ.length co66, .slice Ao68 taR.length co68] 30 (0, 0)) (by (with_reducible repeat (first | refine blk_drewN ?_ _ | refine blk_drew ?_ | refine blk_alloc ?_ _)); refine blk_far ?_ NB391_401.out _; (with_reducible repeat (first | refine blk_drewN ?_ _ | refine blk_drew ?_ | refine blk_alloc ?_ _)); refine blk_far ?_ NB391_401.out _; (with_reducible repeat (first | refine blk_drewN ?_ _ | refine blk_drew ?_ | refine blk_alloc ?_ _)); refine blk_far ?_ NB391_401.out _; (with_reducible repeat (first | refine blk_drewN ?_ _ | refine blk_drew ?_ | refine blk_alloc ?_ _)); exact BKac.out) hb); have n7_ := Ak (blk_below (g := gbad) (o := .cells #[.string tbj, .slice Ao77 tbt.length co77, .slice Ao79 tbv.length co79] 30 (0, 0)) (by (with_reducible repeat (first | refine blk_drewN ?_ _ | refine blk_drew ?_ | refine blk_alloc ?_ _)); refine blk_put (cs := #[.string tbj, .slice Ao77 tbt.length co77, .slice none 0 0]) ?_ 2 _ rfl; (with_reducible repeat (first | refine blk_drewN ?_ _ | refine blk_drew ?_ | refine blk_alloc ?_ _)); refine blk_put (cs := #[.string tbj, .slice none 0 0, .slice none 0 0]) ?_ 1 _ rfl; (with_reducible repeat (first | refine blk_drewN ?_ _ | refine blk_drew ?_ | refine blk_alloc ?_ _)); refine blk_put (cs := #[.string (⟨#[]⟩ : ByteArray), .slice none 0 0, .slice none 0 0]) ?_ 0 _ rfl; (with_reducible repeat (first | refine blk_drewN ?_ _ | refine blk_drew ?_ | refine blk_alloc ?_ _)); exact BKad.out) hb); have n8_ := Ak (below_step Zq23 hb); clear HObd HObe HObP HObQ BKab BKac BKad HB; have HObd := n0_; have HObe := n1_; have HObP := n2_; have HObQ := n3_; have HOfs := n4_; have BKab := n5_; have BKac := n6_; have BKad := n7_; have HB := n8_; clear n0_ n1_ n2_ n3_ n4_ n5_ n6_ n7_ n8_; (try clear hb); (try clear hb2); (try clear hk); (try clear hi); (try clear ho0)))
         go_ret2
         exact ⟨Zq125, Zq23⟩
       ·rw [if_neg c12] at H; exact absurd H Zq9
      ·rw [if_neg c11] at H; exact absurd H Zq9
     ·rw [if_neg c8] at H; exact absurd H Zq9
    ·rw [if_neg c7] at H; exact absurd H Zq9
   ·rw [if_neg c6] at H; have c6b0 : decide (0 < x10_1) = false := decide_eq_false c6; clear c6; simp only [Option.some.injEq, Prod.mk.injEq] at H; obtain ⟨rfl, rfl⟩ := H
    go_wp2
    go_ret2
    exact ⟨Zq11, Zq28⟩
end Go.Proofs.Yteejaaeglfpcmab.PX

namespace Go.Proofs.Yteejaaeglfpcmab.PX
open Go.RowKit Go.Proofs.YteejaaeglfpcmabW.PrintWords Go.Proofs.YteejaaeglfpcmabW.PrintLast Go.Proofs.YteejaaeglfpcmabW.PrintMore
attribute [local go_sem] max2_int min2_int max_two min_two max_three min_three max_four min_four
def arboretlaw13_XlateUp.j0 : Nat → List Int → Int → Int → Bool → Int → List (S94) → ByteArray → List (S77) → List (S30) → Option (Bool)
 | 0, _, _, _, _, _, _, _, _, _ => none
 | k + 1, x1, x2, x3, x31, xfu, xfv, xfw, xfx, xfy => if x31 = true then ((arboretlaw13_awake.f k).bind fun tey => (some tey)) else ((xlate_Up.f k xfu xfv xfw xfx xfy x1 x2 x3).bind fun btbu => ((arboretref06_Get.f k xfu xfv xfw xfx xfy x1).bind fun btbB => (if btbB.2.2.2 = true then ((arboretref12_Up.f k xfu xfv xfw xfx xfy x1 x2 x3).bind fun btbY => (if btbY.2 = true then (if btbu.2 = 0 then (some (btbu.1 == btbY.1)) else (some false)) else (if btbu.1 = 0 then (if btbu.2 = 12 then (some true) else (some (btbu.2 == 10))) else (some false)))) else (if btbu.2 = 8 then (some (btbu.1 == 0)) else (some false)))))
def arboretlaw13_XlateUp.f (k : Nat) (a0_0 : Int) (l0_1 : List (S94)) (a0_2 : ByteArray) (l0_3 : List (S77)) (l0_4 : List (S30)) (l1 : List Int) (a2 : Int) (a3 : Int) : Option (Bool) := (arboretlaw13_awake.f k).bind fun tez => (if tez = true then ((arboretlaw03_Few.f k a0_0 l0_1 a0_2 l0_3 l0_4).bind fun tdA => (if tdA = true then (if (l1.length : Int) > 40 then (arboretlaw13_XlateUp.j0 k l1 a2 a3 true a0_0 l0_1 a0_2 l0_3 l0_4) else ((arboretref01_Check.f k a0_0 l0_1 a0_2 l0_3 l0_4).bind fun tcF => (arboretlaw13_XlateUp.j0 k l1 a2 a3 (tcF != 0) a0_0 l0_1 a0_2 l0_3 l0_4))) else (arboretlaw13_XlateUp.j0 k l1 a2 a3 true a0_0 l0_1 a0_2 l0_3 l0_4))) else (arboretlaw13_XlateUp.j0 k l1 a2 a3 true a0_0 l0_1 a0_2 l0_3 l0_4))
theorem arboretlaw13_XlateUp.mono_l : ∀ k, (∀ y0 y1 y2 y3 y4 y5 y6 y7 y8, LeO (arboretlaw13_XlateUp.j0 k y0 y1 y2 y3 y4 y5 y6 y7 y8) (arboretlaw13_XlateUp.j0 (k + 1) y0 y1 y2 y3 y4 y5 y6 y7 y8))
 | 0 => fun _ _ _ _ _ _ _ _ _ r h => by simp [arboretlaw13_XlateUp.j0] at h
 | k + 1 => by
  have ih0 := arboretlaw13_XlateUp.mono_l k
  ·intro y0 y1 y2 y3 y4 y5 y6 y7 y8; unfold arboretlaw13_XlateUp.j0
   repeat' first | (with_reducible first | exact ih0 _ _ _ _ _ _ _ _ _ | exact arboretlaw03_Few.mono _ _ _ _ _ _ | exact arboretlaw13_awake.mono _ | exact arboretref01_Check.mono _ _ _ _ _ _ | exact arboretref06_Get.mono _ _ _ _ _ _ _ | exact arboretref12_Up.mono _ _ _ _ _ _ _ _ _ | exact xlate_Up.mono _ _ _ _ _ _ _ _ _ | exact LeO.refl _ | exact LeO.none _ | refine LeO.ite ?_ ?_ | refine LeO.bind ?_ (fun _ => ?_))
theorem arboretlaw13_XlateUp.mono : ∀ a0 a1 a2 a3 a4 a5 a6 a7 k, LeO (arboretlaw13_XlateUp.f k a0 a1 a2 a3 a4 a5 a6 a7) (arboretlaw13_XlateUp.f (k + 1) a0 a1 a2 a3 a4 a5 a6 a7) := by
 intro a0 a1 a2 a3 a4 a5 a6 a7 k; have ih0 := arboretlaw13_XlateUp.mono_l k; unfold arboretlaw13_XlateUp.f
 repeat' first | (with_reducible first | exact ih0 _ _ _ _ _ _ _ _ _ | exact arboretlaw03_Few.mono _ _ _ _ _ _ | exact arboretlaw13_awake.mono _ | exact arboretref01_Check.mono _ _ _ _ _ _ | exact arboretref06_Get.mono _ _ _ _ _ _ _ | exact arboretref12_Up.mono _ _ _ _ _ _ _ _ _ | exact xlate_Up.mono _ _ _ _ _ _ _ _ _ | exact LeO.refl _ | exact LeO.none _ | refine LeO.ite ?_ ?_ | refine LeO.bind ?_ (fun _ => ?_))
end Go.Proofs.Yteejaaeglfpcmab.PX
