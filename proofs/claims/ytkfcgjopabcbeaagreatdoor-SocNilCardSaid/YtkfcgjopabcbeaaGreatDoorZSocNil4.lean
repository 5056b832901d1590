/- SocNil: texts of this session's, and what the kit's print laid for this seat, as far as the law's row uses them (PVx_valid_Enabled, PVx_path_Path, PVx_region_count, PVx_region_Counts, PVx_prop_Cells, PVx_prop_Wide, PVx_region_Reg, PVx_xlate_Ranges, PVx_region_whole, PVx_region_Inside, PVx_xlate_step, PVx_xlate_Up, PVx_xlate_Windows, PVx_handle_Find, PVx_irq_extended, PVx_irq_Parent, PVx_irq_Lines, PVx_irq_Controller, PVx_irq_mapped, PVx_irq_Through, PVx_irq_Root, PVx_arboretlaw03_size, PVx_arboretlaw03_Few, Aid, Rdr, TreeC, Val1, Soc7, PVx_valid_beyond, PVx_region_last, PVx_region_Meet, PVx_slices_Equal_int_int, Val2, Val3, Val4, Soc1, Soc2, Soc3, Soc4, Soc5, Soc6, PVKinds, PVStateSocNil, PureSocNil, LawSocNil). -/
import Derived.Lib.EndianBits
import Derived.Test.YtkfcgjopabcbeaaGreatDoorRows
import Derived.ChangeArms
import Derived.DataReads
import Derived.Deep.Slices
import Derived.Test.YtkfcgjopabcbeaaGreatDoorCards
import Derived.Test.YtkfcgjopabcbeaaGreatDoorTie
import Derived.Deep.DeepHandedRow
import Derived.ProofKit
import Derived.OpenShut
import Derived.ShutString
import Derived.ChangeOld
import Derived.JoinedCond
import Derived.Deep.CondSized
import Derived.LaidLaws
import Derived.LaidHandle
import Derived.LaidSub
import Derived.Test.YtkfcgjopabcbeaaGreatDoorZSocNil3
set_option linter.unusedVariables false
set_option linter.unusedSimpArgs false
namespace Go.Proofs.YtkfcgjopabcbeaaGreatDoor.PV
open Go.RowKit Go.Proofs.YtkfcgjopabcbeaaGreatDoorW.PrintWords Go.Proofs.YtkfcgjopabcbeaaGreatDoorW.PrintLast Go.Proofs.YtkfcgjopabcbeaaGreatDoorW.PrintMore
attribute [local go_sem] max2_int min2_int max_two min_two max_three min_three max_four min_four   -- for this text's walks alone
set_option linter.unusedVariables false
set_option linter.unusedSimpArgs false
def valid_Enabled.l0 : Nat → List Int → Bool → Int → ByteArray → List (S158) → List (S27) → Option (Bool × Int)
  | 0, _, _, _, _, _, _ => none
  | k + 1, x1, x9, x10, x401000, x401001, x401002 => (valid_status.f k x401000 x401001 x401002).bind fun bt401 => (if bt401.2 = 0 then (if x9 = true then (if x10 = (x1.length : Int) then (some (bt401.1, 0)) else (if 0 ≤ x10 then (if x10 < (x1.length : Int) then (if 0 ≤ (rd x1 x10) then (if (rd x1 x10) < (x401002.length : Int) then (valid_Enabled.l0 k x1 bt401.1 (wrap64 (x10 + 1)) ((rd_T27 x401002 (rd x1 x10)).f0) ((rd_T27 x401002 (rd x1 x10)).f1) ((rd_T27 x401002 (rd x1 x10)).f2)) else (none)) else (none)) else (none)) else (none))) else (if x10 = (x1.length : Int) then (some (false, 0)) else (if 0 ≤ x10 then (if x10 < (x1.length : Int) then (if 0 ≤ (rd x1 x10) then (if (rd x1 x10) < (x401002.length : Int) then (valid_Enabled.l0 k x1 false (wrap64 (x10 + 1)) ((rd_T27 x401002 (rd x1 x10)).f0) ((rd_T27 x401002 (rd x1 x10)).f1) ((rd_T27 x401002 (rd x1 x10)).f2)) else (none)) else (none)) else (none)) else (none)))) else (some (false, bt401.2)))
def valid_Enabled.f (k : Nat) (a0_0 : Int) (l0_1 : List (S76)) (a0_2 : ByteArray) (l0_3 : List (S158)) (l0_4 : List (S27)) (l1 : List Int) : Option (Bool × Int) := (path_Get.f k a0_0 l0_1 a0_2 l0_3 l0_4 l1).bind fun bt391 => (if bt391.2.2.2 = 0 then (valid_Enabled.l0 k l1 true 0 a0_2 l0_3 l0_4) else (some (false, bt391.2.2.2)))
def valid_Enabled.T13 : Bool × List (List Nat × List Nat) := (true, [([], []), ([0], [0]), ([], []), ([], []), ([2, 3], [2, 3]), ([4], [4]), ([1, 5], [1, 5]), ([6], [6]), ([7, 0, 1, 2, 3, 4, 5, 6, 7], [7])])
def valid_Enabled.B13 : List Nat := [0, 1, 0, 0, 12, 28, 63, 127, 255]
theorem valid_Enabled.tab13 : rtab .any (opsOf Tryz.f82 13) = valid_Enabled.T13 := by kernel_rfl
theorem valid_Enabled.bits13 : waitsOk valid_Enabled.T13.2 valid_Enabled.B13 = true := by kernel_rfl
set_option maxHeartbeats 8000000 in
set_option maxRecDepth 100000 in
theorem valid_Enabled.calls (k : Nat) (a0_0 : Int) (A0_1 : Option Addr) (c0_1 : Nat) (l0_1 : List (S76)) (a0_2 : ByteArray) (P0_3_ : Nat → Prop) (A0_3 : Option Addr) (c0_3 : Nat) (l0_3 : List (S158)) (P0_4_ : Nat → Prop) (A0_4 : Option Addr) (c0_4 : Nat) (l0_4 : List (S27)) (A1 : Option Addr) (c1 : Nat) (l1 : List Int) (r1 : Bool) (r2 : Int) (w : World) (hr0_1 : Kd.C k76 w A0_1 l0_1.length l0_1) (hc0_1 : l0_1.length ≤ c0_1) (hs0_3 : Kd.V k158 158 w w.heap.size (fun k_ => P0_3_ k_) (.slice A0_3 l0_3.length c0_3) l0_3) (hs0_4 : Kd.V k27 27 w w.heap.size (fun k_ => P0_4_ k_) (.slice A0_4 l0_4.length c0_4) l0_4) (hr1 : Kd.C (Kd.int .i64) w A1 l1.length l1) (hc1 : l1.length ≤ c1) (h : valid_Enabled.f k a0_0 l0_1 a0_2 l0_3 l0_4 l1 = some (r1, r2)) :
    Calls Tryz.prog 82 #[.agg #[.int .u32 a0_0, .slice A0_1 l0_1.length c0_1, .string a0_2, .slice A0_3 l0_3.length c0_3, .slice A0_4 l0_4.length c0_4], .slice A1 l1.length c1] w fun e w' => e = .returned (.tuple #[.bool r1, .int .i64 r2]) ∧ Below w.heap.size w w' := by
  have hu29 := Tryz.underlying29
  have hu27 := Tryz.underlying27
  have HR0_1 := Aside0.mk hr0_1
  have HC0_1 := Aside0.mk hc0_1
  clear hr0_1 hc0_1
  have HO0_3 := Aside0.mk (show Kd.V k158 158 w w.heap.size (fun k_ => ((P0_3_ k_ ∨ P0_4_ k_) ∨ w.heap.size ≤ k_)) (.slice A0_3 l0_3.length c0_3) l0_3 from Kd.V_mono hs0_3 (fun k_ hk => .inl (.inl hk)))
  have HO0_4 := Aside0.mk (show Kd.V k27 27 w w.heap.size (fun k_ => ((P0_3_ k_ ∨ P0_4_ k_) ∨ w.heap.size ≤ k_)) (.slice A0_4 l0_4.length c0_4) l0_4 from Kd.V_mono hs0_4 (fun k_ hk => .inl (.inr hk)))
  have HR1 := Aside0.mk hr1
  have HC1 := Aside0.mk hc1
  clear hr1 hc1
  have HB := Aside0.mk (Below.refl w.heap.size w)
  have H : ((path_Get.f k a0_0 l0_1 a0_2 l0_3 l0_4 l1).bind fun bt391 => (if bt391.2.2.2 = 0 then (valid_Enabled.l0 k l1 true 0 a0_2 l0_3 l0_4) else (some (false, bt391.2.2.2)))) = some (r1, r2) := h
  clear h
  replace H := Option.bind_eq_some_iff.mp H
  obtain ⟨⟨t391, t392, t395, t398⟩, A30, H⟩ := H
  replace H : (if t398 = 0 then (valid_Enabled.l0 k l1 true 0 a0_2 l0_3 l0_4) else (some (false, t398))) = some (r1, r2) := H
  have A3 := Aside0.mk A30
  clear A30
  by_cases c4 : t398 = 0
  · rw [if_pos c4] at H
    have c4b0 : (t398 == 0) = true := beq_iff_eq.mpr c4
    have c4b1 : (t398 != 0) = false := bne_eq_false_iff_eq.mpr c4
    clear c4
    have H' := Aside0.mk H
    clear H
    go_enter Tryz.func82, Tryz.ntmps82
    go_wp2_with (first | ((with_reducible refine gate_dst (N := 2) rfl ?_); refine box_event ?hg (N := 2) ?hd (cs := #[.int .u32 a0_0, .slice A0_1 l0_1.length c0_1, .string a0_2, .slice A0_3 l0_3.length c0_3, .slice A0_4 l0_4.length c0_4]) (t := 29) ?hr ?_; (case hd => rfl); (case hg => rfl); (case hr => first | (go_simp; done) | (go_simp; rfl)); intro gb390 hg w5 hbox hb; have n0_ := Aside0.mk (Kd.V_below (Kd.V_elderB (by (with_reducible repeat (first | apply Kd.V_alloc | apply Kd.V_drewN | apply Kd.V_drew)); exact HO0_3.out) gb390 (Nat.le_of_eq hg.symm)) hb); have n1_ := Aside0.mk (Kd.V_below (Kd.V_elderB (by (with_reducible repeat (first | apply Kd.V_alloc | apply Kd.V_drewN | apply Kd.V_drew)); exact HO0_4.out) gb390 (Nat.le_of_eq hg.symm)) hb); have n2_ := Aside0.mk (below_step (by repeat (first | (with_reducible first | exact HB.out | apply below_alloc | apply pw_below_drewN | apply below_drew1) | exact HB.out)) hb); have n3_ := Aside0.mk (hbox); have n4_ := Aside0.mk ((by rw [hg]; exact (below_size (by repeat (first | (with_reducible first | exact HB.out | apply below_alloc | apply pw_below_drewN | apply below_drew1) | exact HB.out))) : w.heap.size ≤ gb390)); have n5_ := Aside0.mk ((by rw [hg]; exact (below_size (by repeat (first | (with_reducible first | exact HB.out | apply below_alloc | apply pw_below_drewN | apply below_drew1) | exact HB.out))) : w.heap.size ≤ gb390)); clear HO0_3; clear HO0_4; clear HB; have HO0_3 := n0_; have HO0_4 := n1_; have HB := n2_; have BK390 := n3_; have GW390 := n4_; have GE390 := n5_; clear n0_ n1_ n2_ n3_ n4_ n5_; clear hb hbox hg; have hcz6_0 : w5.cell? ⟨gb390, 0, none⟩ = some (.int .u32 a0_0) := (blk_cell BK390.out 0).trans rfl; have hcz6_1 : w5.cell? ⟨gb390, 1, none⟩ = some (.slice A0_1 l0_1.length c0_1) := (blk_cell BK390.out 1).trans rfl; have hcz6_2 : w5.cell? ⟨gb390, 2, none⟩ = some (.string a0_2) := (blk_cell BK390.out 2).trans rfl; have hcz6_3 : w5.cell? ⟨gb390, 3, none⟩ = some (.slice A0_3 l0_3.length c0_3) := (blk_cell BK390.out 3).trans rfl; have hcz6_4 : w5.cell? ⟨gb390, 4, none⟩ = some (.slice A0_4 l0_4.length c0_4) := (blk_cell BK390.out 4).trans rfl; have hfz6_0 := blk_frozen BK390.out 0; have hfz6_1 := blk_frozen BK390.out 1; have hfz6_2 := blk_frozen BK390.out 2; have hfz6_3 := blk_frozen BK390.out 3; have hfz6_4 := blk_frozen BK390.out 4) | ((with_reducible refine gate_callee (f := 80) rfl ?_); refine goesL_ (some 16) rfl rfl Tryz.func80 (by kernel_rfl) rfl #[.agg #[.int .u32 a0_0, .slice A0_1 l0_1.length c0_1, .string a0_2, .slice A0_3 l0_3.length c0_3, .slice A0_4 l0_4.length c0_4], .slice A1 l1.length c1] rfl (by (try simp only [List.map_toArray, List.map_cons, List.map_nil]); first | done | rfl | (simp only [List.length_drop, List.length_take]; rfl)) ?_; (with_reducible refine (path_Get.calls k a0_0 _ _ l0_1 a0_2 (fun k_ => (((P0_3_ k_ ∨ P0_4_ k_) ∨ w.heap.size ≤ k_) ∧ k_ ≠ gb390)) _ _ l0_3 (fun k_ => (((P0_3_ k_ ∨ P0_4_ k_) ∨ w.heap.size ≤ k_) ∧ k_ ≠ gb390)) _ _ l0_4 _ _ l1 t391 t392 t395 t398 _ ?side1 ?side2 ?side3 ?side4 ?side5 ?side6 A3.out).mono ?_); (case side1 => repeat (first | exact (Kd.C_below HR0_1.out HB.out) | (with_reducible refine Kd.C_alloc ?_ _) | (with_reducible refine Kd.C_drewN ?_ _) | (with_reducible refine Kd.C_drew ?_))); (case side2 => exact HC0_1.out); (case side3 => exact HO0_3.out); (case side4 => exact HO0_4.out); (case side5 => repeat (first | exact (Kd.C_below HR1.out HB.out) | (with_reducible refine Kd.C_alloc ?_ _) | (with_reducible refine Kd.C_drewN ?_ _) | (with_reducible refine Kd.C_drew ?_))); (case side6 => exact HC1.out); rintro e w7 ⟨v393, v396, rfl, ho0, ho1, hb⟩; refine ⟨_, rfl, ?_⟩; have n0_ := Aside0.mk (Kd.V_mono (Kd.V_told (Kd.V_told (Kd.V_old (by (with_reducible repeat (first | apply Kd.V_alloc | apply Kd.V_drewN | apply Kd.V_drew)); exact HO0_3.out) hb) (Kd.S_base ho0)) (Kd.R_base ho1)) (fun _ h_ => h_.1)); have n1_ := Aside0.mk (Kd.V_mono (Kd.V_told (Kd.V_told (Kd.V_old (by (with_reducible repeat (first | apply Kd.V_alloc | apply Kd.V_drewN | apply Kd.V_drew)); exact HO0_4.out) hb) (Kd.S_base ho0)) (Kd.R_base ho1)) (fun _ h_ => h_.1)); have n2_ := Aside0.mk (Kd.S_lower (Kd.S_newM (M := fun k_ => (w.heap.size ≤ k_)) (Kd.S_mono (ok' := fun k_ => True) ho0 (fun _ hk_ => trivial)) (below_size (by repeat (first | (with_reducible first | exact HB.out | apply below_alloc | apply pw_below_drewN | apply below_drew1 | refine below_set ?_ GE390.out) | exact HB.out))) (fun k_ h_ => h_)) (below_size (by repeat (first | (with_reducible first | exact HB.out | apply below_alloc | apply pw_below_drewN | apply below_drew1 | refine below_set ?_ GE390.out) | exact HB.out)))); have n3_ := Aside0.mk (Kd.R_lower (Kd.R_newM (M := fun k_ => (w.heap.size ≤ k_)) (Kd.R_mono (ok' := fun k_ => some k_ ≠ (v393 : Value).ownBlock) ho1 (fun _ hk_ => hk_.2)) (below_size (by repeat (first | (with_reducible first | exact HB.out | apply below_alloc | apply pw_below_drewN | apply below_drew1 | refine below_set ?_ GE390.out) | exact HB.out))) (fun k_ h_ => h_)) (below_size (by repeat (first | (with_reducible first | exact HB.out | apply below_alloc | apply pw_below_drewN | apply below_drew1 | refine below_set ?_ GE390.out) | exact HB.out)))); have n4_ := Aside0.mk (blk_below (g := gb390) (o := .cells #[.int .u32 a0_0, .slice A0_1 l0_1.length c0_1, .string a0_2, .slice A0_3 l0_3.length c0_3, .slice A0_4 l0_4.length c0_4] 29 (0, 0)) (by (with_reducible repeat (first | refine blk_drewN ?_ _ | refine blk_drew ?_ | refine blk_alloc ?_ _)); exact BK390.out) hb); have n5_ := Aside0.mk (below_step (by repeat (first | (with_reducible first | exact HB.out | apply below_alloc | apply pw_below_drewN | apply below_drew1 | refine below_set ?_ GE390.out) | exact HB.out)) hb); clear HO0_3; clear HO0_4; clear BK390; clear HB; have HO0_3 := n0_; have HO0_4 := n1_; have HO394 := n2_; have HO397 := n3_; have BK390 := n4_; have HB := n5_; clear n0_ n1_ n2_ n3_ n4_ n5_; (try clear hb); (try clear hb2); (try clear hk); (try clear hi); (try clear ho0); (try clear ho1)) | ((with_reducible refine gate_dst (N := 6) rfl ?_); refine box_event ?hg (N := 6) ?hd (cs := #[.string (⟨#[]⟩ : ByteArray), .slice none 0 0, .slice none 0 0]) (t := 27) ?hr ?_; (case hd => rfl); (case hg => rfl); (case hr => first | (go_simp; done) | (go_simp; rfl)); intro gb399 hg w8 hbox hb; have n0_ := Aside0.mk (Kd.V_below (Kd.V_elderB (by (with_reducible repeat (first | apply Kd.V_alloc | apply Kd.V_drewN | apply Kd.V_drew)); exact HO0_3.out) gb399 (Nat.le_of_eq hg.symm)) hb); have n1_ := Aside0.mk (Kd.V_below (Kd.V_elderB (by (with_reducible repeat (first | apply Kd.V_alloc | apply Kd.V_drewN | apply Kd.V_drew)); exact HO0_4.out) gb399 (Nat.le_of_eq hg.symm)) hb); have n2_ := Aside0.mk (Kd.S_below (by (with_reducible repeat (first | apply Kd.S_alloc | apply Kd.S_drewN | apply Kd.S_drew)); exact HO394.out) hb); have n3_ := Aside0.mk (Kd.R_below (Kd.R_elderB (by (with_reducible repeat (first | apply Kd.R_alloc | apply Kd.R_drewN | apply Kd.R_drew)); exact HO397.out) gb399 (Nat.le_of_eq hg.symm)) hb); have n4_ := Aside0.mk (blk_below (g := gb390) (o := .cells #[.int .u32 a0_0, .slice A0_1 l0_1.length c0_1, .string a0_2, .slice A0_3 l0_3.length c0_3, .slice A0_4 l0_4.length c0_4] 29 (0, 0)) (by (with_reducible repeat (first | refine blk_drewN ?_ _ | refine blk_drew ?_ | refine blk_alloc ?_ _)); exact BK390.out) hb); have n5_ := Aside0.mk (below_step (by repeat (first | (with_reducible first | exact HB.out | apply below_alloc | apply pw_below_drewN | apply below_drew1 | refine below_set ?_ GE390.out) | exact HB.out)) hb); have n6_ := Aside0.mk (hbox); have n7_ := Aside0.mk ((by rw [hg]; exact (below_size (by repeat (first | (with_reducible first | exact HB.out | apply below_alloc | apply pw_below_drewN | apply below_drew1 | refine below_set ?_ GE390.out) | exact HB.out))) : w.heap.size ≤ gb399)); have n8_ := Aside0.mk ((by rw [hg]; exact (below_size (by repeat (first | (with_reducible first | exact HB.out | apply below_alloc | apply pw_below_drewN | apply below_drew1 | refine below_set ?_ GE390.out) | exact HB.out))) : w.heap.size ≤ gb399)); have n9_ := Aside0.mk ((by rw [hg]; exact Nat.ne_of_lt (blk_lt (g := gb390) (o := .cells #[.int .u32 a0_0, .slice A0_1 l0_1.length c0_1, .string a0_2, .slice A0_3 l0_3.length c0_3, .slice A0_4 l0_4.length c0_4] 29 (0, 0)) (by (with_reducible repeat (first | refine blk_drewN ?_ _ | refine blk_drew ?_ | refine blk_alloc ?_ _)); exact BK390.out)) : gb390 ≠ gb399)); have n10_ := Aside0.mk ((by rw [hg]; exact Nat.ne_of_gt (blk_lt (g := gb390) (o := .cells #[.int .u32 a0_0, .slice A0_1 l0_1.length c0_1, .string a0_2, .slice A0_3 l0_3.length c0_3, .slice A0_4 l0_4.length c0_4] 29 (0, 0)) (by (with_reducible repeat (first | refine blk_drewN ?_ _ | refine blk_drew ?_ | refine blk_alloc ?_ _)); exact BK390.out)) : gb399 ≠ gb390)); clear HO0_3; clear HO0_4; clear HO394; clear HO397; clear BK390; clear HB; have HO0_3 := n0_; have HO0_4 := n1_; have HO394 := n2_; have HO397 := n3_; have BK390 := n4_; have HB := n5_; have BK399 := n6_; have GW399 := n7_; have GE399 := n8_; have NB390_399 := n9_; have NB399_390 := n10_; clear n0_ n1_ n2_ n3_ n4_ n5_ n6_ n7_ n8_ n9_ n10_; clear hb hbox hg; have hnb9 := NB399_390.out; have hnc9 := NB390_399.out; have hcz10_0 : w8.cell? ⟨gb399, 0, none⟩ = some (.string (⟨#[]⟩ : ByteArray)) := (blk_cell BK399.out 0).trans rfl; have hcz10_1 : w8.cell? ⟨gb399, 1, none⟩ = some (.slice none 0 0) := (blk_cell BK399.out 1).trans rfl; have hcz10_2 : w8.cell? ⟨gb399, 2, none⟩ = some (.slice none 0 0) := (blk_cell BK399.out 2).trans rfl; have hfz10_0 := blk_frozen BK399.out 0; have hfz10_1 := blk_frozen BK399.out 1; have hfz10_2 := blk_frozen BK399.out 2; obtain ⟨Ao11, co11, eo11⟩ := Kd.S_slice HO394.out; subst eo11; obtain ⟨Ao12, co12, eo12⟩ := Kd.R_slice HO397.out; subst eo12; have hcz13_0 : w8.cell? ⟨gb390, 0, none⟩ = some (.int .u32 a0_0) := (blk_cell BK390.out 0).trans rfl; have hcz13_1 : w8.cell? ⟨gb390, 1, none⟩ = some (.slice A0_1 l0_1.length c0_1) := (blk_cell BK390.out 1).trans rfl; have hcz13_2 : w8.cell? ⟨gb390, 2, none⟩ = some (.string a0_2) := (blk_cell BK390.out 2).trans rfl; have hcz13_3 : w8.cell? ⟨gb390, 3, none⟩ = some (.slice A0_3 l0_3.length c0_3) := (blk_cell BK390.out 3).trans rfl; have hcz13_4 : w8.cell? ⟨gb390, 4, none⟩ = some (.slice A0_4 l0_4.length c0_4) := (blk_cell BK390.out 4).trans rfl; have hfz13_0 := blk_frozen BK390.out 0; have hfz13_1 := blk_frozen BK390.out 1; have hfz13_2 := blk_frozen BK390.out 2; have hfz13_3 := blk_frozen BK390.out 3; have hfz13_4 := blk_frozen BK390.out 4) | ((with_reducible refine gate_dst (N := 8) rfl ?_); refine box_event ?hg (N := 8) ?hd (cs := #[.string (⟨#[]⟩ : ByteArray), .slice none 0 0, .slice none 0 0]) (t := 27) ?hr ?_; (case hd => rfl); (case hg => rfl); (case hr => first | (go_simp; done) | (go_simp; rfl)); intro gb400 hg w14 hbox hb; have n0_ := Aside0.mk (Kd.V_below (Kd.V_elderB (by (with_reducible repeat (first | apply Kd.V_alloc | apply Kd.V_drewN | apply Kd.V_drew)); exact (Kd.V_mono (Kd.V_far (p := ⟨gb399, 2, none⟩) (Kd.V_far (p := ⟨gb399, 1, none⟩) (Kd.V_far (p := ⟨gb399, 0, none⟩) (Kd.V_mono HO0_3.out (fun k_ hk => (⟨hk, hk.2⟩ : _ ∧ k_ ≠ gb399))) (fun _ hk => hk.2) (.string t391)) (fun _ hk => hk.2) (.slice Ao11 t392.length co11)) (fun _ hk => hk.2) (.slice Ao12 t395.length co12)) (fun _ h_ => h_.1))) gb400 (Nat.le_of_eq hg.symm)) hb); have n1_ := Aside0.mk (Kd.V_below (Kd.V_elderB (by (with_reducible repeat (first | apply Kd.V_alloc | apply Kd.V_drewN | apply Kd.V_drew)); exact (Kd.V_mono (Kd.V_far (p := ⟨gb399, 2, none⟩) (Kd.V_far (p := ⟨gb399, 1, none⟩) (Kd.V_far (p := ⟨gb399, 0, none⟩) (Kd.V_mono HO0_4.out (fun k_ hk => (⟨hk, hk.2⟩ : _ ∧ k_ ≠ gb399))) (fun _ hk => hk.2) (.string t391)) (fun _ hk => hk.2) (.slice Ao11 t392.length co11)) (fun _ hk => hk.2) (.slice Ao12 t395.length co12)) (fun _ h_ => h_.1))) gb400 (Nat.le_of_eq hg.symm)) hb); have n2_ := Aside0.mk (Kd.S_below (by (with_reducible repeat (first | apply Kd.S_alloc | apply Kd.S_drewN | apply Kd.S_drew)); exact (Kd.S_mono (Kd.S_far (p := ⟨gb399, 2, none⟩) (Kd.S_far (p := ⟨gb399, 1, none⟩) (Kd.S_far (p := ⟨gb399, 0, none⟩) (Kd.S_types HO394.out BK399.out (by decide)) (fun _ hk => hk.2) (.string t391)) (fun _ hk => hk.2) (.slice Ao11 t392.length co11)) (fun _ hk => hk.2) (.slice Ao12 t395.length co12)) (fun _ h_ => h_.1))) hb); have n3_ := Aside0.mk (Kd.R_below (Kd.R_elderB (by (with_reducible repeat (first | apply Kd.R_alloc | apply Kd.R_drewN | apply Kd.R_drew)); exact (Kd.R_mono (Kd.R_far (p := ⟨gb399, 2, none⟩) (Kd.R_far (p := ⟨gb399, 1, none⟩) (Kd.R_far (p := ⟨gb399, 0, none⟩) (Kd.R_mono HO397.out (fun k_ hk => (⟨hk, hk.2⟩ : _ ∧ k_ ≠ gb399))) (fun _ hk => hk.2) (.string t391)) (fun _ hk => hk.2) (.slice Ao11 t392.length co11)) (fun _ hk => hk.2) (.slice Ao12 t395.length co12)) (fun _ h_ => h_.1))) gb400 (Nat.le_of_eq hg.symm)) hb); have n4_ := Aside0.mk (blk_below (g := gb390) (o := .cells #[.int .u32 a0_0, .slice A0_1 l0_1.length c0_1, .string a0_2, .slice A0_3 l0_3.length c0_3, .slice A0_4 l0_4.length c0_4] 29 (0, 0)) (by (with_reducible repeat (first | refine blk_drewN ?_ _ | refine blk_drew ?_ | refine blk_alloc ?_ _)); refine blk_far ?_ NB390_399.out _; (with_reducible repeat (first | refine blk_drewN ?_ _ | refine blk_drew ?_ | refine blk_alloc ?_ _)); refine blk_far ?_ NB390_399.out _; (with_reducible repeat (first | refine blk_drewN ?_ _ | refine blk_drew ?_ | refine blk_alloc ?_ _)); refine blk_far ?_ NB390_399.out _; (with_reducible repeat (first | refine blk_drewN ?_ _ | refine blk_drew ?_ | refine blk_alloc ?_ _)); exact BK390.out) hb); have n5_ := Aside0.mk (blk_below (g := gb399) (o := .cells #[.string t391, .slice Ao11 t392.length co11, .slice Ao12 t395.length co12] 27 (0, 0)) (by (with_reducible repeat (first | refine blk_drewN ?_ _ | refine blk_drew ?_ | refine blk_alloc ?_ _)); refine blk_put (cs := #[.string t391, .slice Ao11 t392.length co11, .slice none 0 0]) ?_ 2 _ rfl; (with_reducible repeat (first | refine blk_drewN ?_ _ | refine blk_drew ?_ | refine blk_alloc ?_ _)); refine blk_put (cs := #[.string t391, .slice none 0 0, .slice none 0 0]) ?_ 1 _ rfl; (with_reducible repeat (first | refine blk_drewN ?_ _ | refine blk_drew ?_ | refine blk_alloc ?_ _)); refine blk_put (cs := #[.string (⟨#[]⟩ : ByteArray), .slice none 0 0, .slice none 0 0]) ?_ 0 _ rfl; (with_reducible repeat (first | refine blk_drewN ?_ _ | refine blk_drew ?_ | refine blk_alloc ?_ _)); exact BK399.out) hb); have n6_ := Aside0.mk (below_step (by repeat (first | (with_reducible first | exact HB.out | apply below_alloc | apply pw_below_drewN | apply below_drew1 | refine below_set ?_ GE390.out | refine below_set ?_ GE399.out) | exact HB.out)) hb); have n7_ := Aside0.mk (hbox); have n8_ := Aside0.mk ((by rw [hg]; exact (below_size (by repeat (first | (with_reducible first | exact HB.out | apply below_alloc | apply pw_below_drewN | apply below_drew1 | refine below_set ?_ GE390.out | refine below_set ?_ GE399.out) | exact HB.out))) : w.heap.size ≤ gb400)); have n9_ := Aside0.mk ((by rw [hg]; exact (below_size (by repeat (first | (with_reducible first | exact HB.out | apply below_alloc | apply pw_below_drewN | apply below_drew1 | refine below_set ?_ GE390.out | refine below_set ?_ GE399.out) | exact HB.out))) : w.heap.size ≤ gb400)); have n10_ := Aside0.mk ((by rw [hg]; exact Nat.ne_of_lt (blk_lt (g := gb390) (o := .cells #[.int .u32 a0_0, .slice A0_1 l0_1.length c0_1, .string a0_2, .slice A0_3 l0_3.length c0_3, .slice A0_4 l0_4.length c0_4] 29 (0, 0)) (by (with_reducible repeat (first | refine blk_drewN ?_ _ | refine blk_drew ?_ | refine blk_alloc ?_ _)); refine blk_far ?_ NB390_399.out _; (with_reducible repeat (first | refine blk_drewN ?_ _ | refine blk_drew ?_ | refine blk_alloc ?_ _)); refine blk_far ?_ NB390_399.out _; (with_reducible repeat (first | refine blk_drewN ?_ _ | refine blk_drew ?_ | refine blk_alloc ?_ _)); refine blk_far ?_ NB390_399.out _; (with_reducible repeat (first | refine blk_drewN ?_ _ | refine blk_drew ?_ | refine blk_alloc ?_ _)); exact BK390.out)) : gb390 ≠ gb400)); have n11_ := Aside0.mk ((by rw [hg]; exact Nat.ne_of_gt (blk_lt (g := gb390) (o := .cells #[.int .u32 a0_0, .slice A0_1 l0_1.length c0_1, .string a0_2, .slice A0_3 l0_3.length c0_3, .slice A0_4 l0_4.length c0_4] 29 (0, 0)) (by (with_reducible repeat (first | refine blk_drewN ?_ _ | refine blk_drew ?_ | refine blk_alloc ?_ _)); refine blk_far ?_ NB390_399.out _; (with_reducible repeat (first | refine blk_drewN ?_ _ | refine blk_drew ?_ | refine blk_alloc ?_ _)); refine blk_far ?_ NB390_399.out _; (with_reducible repeat (first | refine blk_drewN ?_ _ | refine blk_drew ?_ | refine blk_alloc ?_ _)); refine blk_far ?_ NB390_399.out _; (with_reducible repeat (first | refine blk_drewN ?_ _ | refine blk_drew ?_ | refine blk_alloc ?_ _)); exact BK390.out)) : gb400 ≠ gb390)); have n12_ := Aside0.mk ((by rw [hg]; exact Nat.ne_of_lt (blk_lt (g := gb399) (o := .cells #[.string t391, .slice Ao11 t392.length co11, .slice Ao12 t395.length co12] 27 (0, 0)) (by (with_reducible repeat (first | refine blk_drewN ?_ _ | refine blk_drew ?_ | refine blk_alloc ?_ _)); refine blk_put (cs := #[.string t391, .slice Ao11 t392.length co11, .slice none 0 0]) ?_ 2 _ rfl; (with_reducible repeat (first | refine blk_drewN ?_ _ | refine blk_drew ?_ | refine blk_alloc ?_ _)); refine blk_put (cs := #[.string t391, .slice none 0 0, .slice none 0 0]) ?_ 1 _ rfl; (with_reducible repeat (first | refine blk_drewN ?_ _ | refine blk_drew ?_ | refine blk_alloc ?_ _)); refine blk_put (cs := #[.string (⟨#[]⟩ : ByteArray), .slice none 0 0, .slice none 0 0]) ?_ 0 _ rfl; (with_reducible repeat (first | refine blk_drewN ?_ _ | refine blk_drew ?_ | refine blk_alloc ?_ _)); exact BK399.out)) : gb399 ≠ gb400)); have n13_ := Aside0.mk ((by rw [hg]; exact Nat.ne_of_gt (blk_lt (g := gb399) (o := .cells #[.string t391, .slice Ao11 t392.length co11, .slice Ao12 t395.length co12] 27 (0, 0)) (by (with_reducible repeat (first | refine blk_drewN ?_ _ | refine blk_drew ?_ | refine blk_alloc ?_ _)); refine blk_put (cs := #[.string t391, .slice Ao11 t392.length co11, .slice none 0 0]) ?_ 2 _ rfl; (with_reducible repeat (first | refine blk_drewN ?_ _ | refine blk_drew ?_ | refine blk_alloc ?_ _)); refine blk_put (cs := #[.string t391, .slice none 0 0, .slice none 0 0]) ?_ 1 _ rfl; (with_reducible repeat (first | refine blk_drewN ?_ _ | refine blk_drew ?_ | refine blk_alloc ?_ _)); refine blk_put (cs := #[.string (⟨#[]⟩ : ByteArray), .slice none 0 0, .slice none 0 0]) ?_ 0 _ rfl; (with_reducible repeat (first | refine blk_drewN ?_ _ | refine blk_drew ?_ | refine blk_alloc ?_ _)); exact BK399.out)) : gb400 ≠ gb399)); clear HO0_3; clear HO0_4; clear HO394; clear HO397; clear BK390; clear BK399; clear HB; have HO0_3 := n0_; have HO0_4 := n1_; have HO394 := n2_; have HO397 := n3_; have BK390 := n4_; have BK399 := n5_; have HB := n6_; have BK400 := n7_; have GW400 := n8_; have GE400 := n9_; have NB390_400 := n10_; have NB400_390 := n11_; have NB399_400 := n12_; have NB400_399 := n13_; clear n0_ n1_ n2_ n3_ n4_ n5_ n6_ n7_ n8_ n9_ n10_ n11_ n12_ n13_; clear hb hbox hg; have hnb15 := NB400_390.out; have hnc15 := NB390_400.out; have hnb16 := NB400_399.out; have hnc16 := NB399_400.out; have hcz17_0 : w14.cell? ⟨gb400, 0, none⟩ = some (.string (⟨#[]⟩ : ByteArray)) := (blk_cell BK400.out 0).trans rfl; have hcz17_1 : w14.cell? ⟨gb400, 1, none⟩ = some (.slice none 0 0) := (blk_cell BK400.out 1).trans rfl; have hcz17_2 : w14.cell? ⟨gb400, 2, none⟩ = some (.slice none 0 0) := (blk_cell BK400.out 2).trans rfl; have hfz17_0 := blk_frozen BK400.out 0; have hfz17_1 := blk_frozen BK400.out 1; have hfz17_2 := blk_frozen BK400.out 2))
    go_loopg [9, 10] k (fun kq v9 v10 w' => ∃ (x9_1 : Bool) (x10_1 : Int) (x401000_1 : ByteArray) (x401001_1 : List (S158)) (x401002_1 : List (S27)) (u401001 : Value) (u401002 : Value), v9 = .bool x9_1 ∧ v10 = .int .i64 x10_1 ∧ Aside0 (valid_Enabled.l0 kq l1 x9_1 x10_1 x401000_1 x401001_1 x401002_1 = some (r1, r2)) ∧ Aside0 (kq ≤ k) ∧ Aside0 (Kd.V k158 158 w' w.heap.size (fun k_ => ((P0_3_ k_ ∨ P0_4_ k_) ∨ w.heap.size ≤ k_) ∧ some k_ ≠ ((.slice Ao11 t392.length co11) : Value).ownBlock ∧ some k_ ≠ ((.slice Ao12 t395.length co12) : Value).ownBlock ∧ k_ ≠ gb390 ∧ k_ ≠ gb399 ∧ k_ ≠ gb400) (.slice A0_3 l0_3.length c0_3) l0_3) ∧ Aside0 (Kd.V k27 27 w' w.heap.size (fun k_ => ((P0_3_ k_ ∨ P0_4_ k_) ∨ w.heap.size ≤ k_) ∧ some k_ ≠ ((.slice Ao11 t392.length co11) : Value).ownBlock ∧ some k_ ≠ ((.slice Ao12 t395.length co12) : Value).ownBlock ∧ k_ ≠ gb390 ∧ k_ ≠ gb399 ∧ k_ ≠ gb400) (.slice A0_4 l0_4.length c0_4) l0_4) ∧ Aside0 (Kd.S k158 158 w' w.heap.size (fun k_ => (w.heap.size ≤ k_)) (.slice Ao11 t392.length co11) t392) ∧ Aside0 (Kd.R k27 27 w' w.heap.size (fun k_ => (w.heap.size ≤ k_) ∧ some k_ ≠ ((.slice Ao11 t392.length co11) : Value).ownBlock ∧ k_ ≠ gb399 ∧ k_ ≠ gb400) (.slice Ao12 t395.length co12) t395) ∧ Aside0 (Kd.V k158 158 w' w.heap.size (fun k_ => ((P0_3_ k_ ∨ P0_4_ k_) ∨ w.heap.size ≤ k_) ∧ some k_ ≠ ((.slice Ao11 t392.length co11) : Value).ownBlock ∧ some k_ ≠ ((.slice Ao12 t395.length co12) : Value).ownBlock ∧ k_ ≠ gb390 ∧ k_ ≠ gb399 ∧ k_ ≠ gb400) u401001 x401001_1) ∧ Aside0 (Kd.V k27 27 w' w.heap.size (fun k_ => ((P0_3_ k_ ∨ P0_4_ k_) ∨ w.heap.size ≤ k_) ∧ some k_ ≠ ((.slice Ao11 t392.length co11) : Value).ownBlock ∧ some k_ ≠ ((.slice Ao12 t395.length co12) : Value).ownBlock ∧ k_ ≠ gb390 ∧ k_ ≠ gb399 ∧ k_ ≠ gb400) u401002 x401002_1) ∧ Aside0 (w'.heap[gb390]? = some (.cells #[.int .u32 a0_0, (.slice A0_1 l0_1.length c0_1), .string a0_2, (.slice A0_3 l0_3.length c0_3), (.slice A0_4 l0_4.length c0_4)] 29 (0, 0))) ∧ Aside0 (w'.heap[gb399]? = some (.cells #[.string t391, (.slice Ao11 t392.length co11), (.slice Ao12 t395.length co12)] 27 (0, 0))) ∧ Aside0 (w'.heap[gb400]? = some (.cells #[.string x401000_1, u401001, u401002] 27 (0, 0))) ∧ Aside0 (Below w.heap.size w w'))
    case atStart => exact ⟨(true), (0), (a0_2), (l0_3), (l0_4), (.slice A0_3 l0_3.length c0_3), (.slice A0_4 l0_4.length c0_4), (by first | rfl | (simp; done) | (simp [*]; done)), (by first | rfl | (simp; done) | (simp [*]; done)), H', ⟨Nat.le_refl _⟩, ⟨by (with_reducible repeat (first | apply Kd.V_alloc | apply Kd.V_drewN | apply Kd.V_drew)); exact Kd.V_mono (Kd.V_far (p := ⟨gb400, 2, none⟩) (Kd.V_far (p := ⟨gb400, 1, none⟩) (Kd.V_far (p := ⟨gb400, 0, none⟩) (Kd.V_mono HO0_3.out (fun k_ hk => (⟨hk, hk.2⟩ : _ ∧ k_ ≠ gb400))) (fun _ hk => hk.2) (.string a0_2)) (fun _ hk => hk.2) (.slice A0_3 l0_3.length c0_3)) (fun _ hk => hk.2) (.slice A0_4 l0_4.length c0_4)) (fun _ hk => ⟨hk.1.1.1.1.1.1, ⟨hk.1.1.1.1.2, ⟨hk.1.1.1.2, ⟨hk.1.1.1.1.1.2, ⟨hk.1.1.2, hk.1.2⟩⟩⟩⟩⟩)⟩, ⟨by (with_reducible repeat (first | apply Kd.V_alloc | apply Kd.V_drewN | apply Kd.V_drew)); exact Kd.V_mono (Kd.V_far (p := ⟨gb400, 2, none⟩) (Kd.V_far (p := ⟨gb400, 1, none⟩) (Kd.V_far (p := ⟨gb400, 0, none⟩) (Kd.V_mono HO0_4.out (fun k_ hk => (⟨hk, hk.2⟩ : _ ∧ k_ ≠ gb400))) (fun _ hk => hk.2) (.string a0_2)) (fun _ hk => hk.2) (.slice A0_3 l0_3.length c0_3)) (fun _ hk => hk.2) (.slice A0_4 l0_4.length c0_4)) (fun _ hk => ⟨hk.1.1.1.1.1.1, ⟨hk.1.1.1.1.2, ⟨hk.1.1.1.2, ⟨hk.1.1.1.1.1.2, ⟨hk.1.1.2, hk.1.2⟩⟩⟩⟩⟩)⟩, ⟨by (with_reducible repeat (first | apply Kd.S_alloc | apply Kd.S_drewN | apply Kd.S_drew)); exact Kd.S_mono (Kd.S_far (p := ⟨gb400, 2, none⟩) (Kd.S_far (p := ⟨gb400, 1, none⟩) (Kd.S_far (p := ⟨gb400, 0, none⟩) (Kd.S_types HO394.out BK400.out (by decide)) (fun _ hk => hk.2) (.string a0_2)) (fun _ hk => hk.2) (.slice A0_3 l0_3.length c0_3)) (fun _ hk => hk.2) (.slice A0_4 l0_4.length c0_4)) (fun _ hk => hk.1.1)⟩, ⟨by (with_reducible repeat (first | apply Kd.R_alloc | apply Kd.R_drewN | apply Kd.R_drew)); exact Kd.R_mono (Kd.R_far (p := ⟨gb400, 2, none⟩) (Kd.R_far (p := ⟨gb400, 1, none⟩) (Kd.R_far (p := ⟨gb400, 0, none⟩) (Kd.R_mono HO397.out (fun k_ hk => (⟨hk, hk.2⟩ : _ ∧ k_ ≠ gb400))) (fun _ hk => hk.2) (.string a0_2)) (fun _ hk => hk.2) (.slice A0_3 l0_3.length c0_3)) (fun _ hk => hk.2) (.slice A0_4 l0_4.length c0_4)) (fun _ hk => ⟨hk.1.1.1.1, ⟨hk.1.1.1.2, ⟨hk.1.1.2, hk.1.2⟩⟩⟩)⟩, ⟨by (with_reducible repeat (first | apply Kd.V_alloc | apply Kd.V_drewN | apply Kd.V_drew)); exact Kd.V_mono (Kd.V_far (p := ⟨gb400, 2, none⟩) (Kd.V_far (p := ⟨gb400, 1, none⟩) (Kd.V_far (p := ⟨gb400, 0, none⟩) (Kd.V_mono HO0_3.out (fun k_ hk => (⟨hk, hk.2⟩ : _ ∧ k_ ≠ gb400))) (fun _ hk => hk.2) (.string a0_2)) (fun _ hk => hk.2) (.slice A0_3 l0_3.length c0_3)) (fun _ hk => hk.2) (.slice A0_4 l0_4.length c0_4)) (fun _ hk => ⟨hk.1.1.1.1.1.1, ⟨hk.1.1.1.1.2, ⟨hk.1.1.1.2, ⟨hk.1.1.1.1.1.2, ⟨hk.1.1.2, hk.1.2⟩⟩⟩⟩⟩)⟩, ⟨by (with_reducible repeat (first | apply Kd.V_alloc | apply Kd.V_drewN | apply Kd.V_drew)); exact Kd.V_mono (Kd.V_far (p := ⟨gb400, 2, none⟩) (Kd.V_far (p := ⟨gb400, 1, none⟩) (Kd.V_far (p := ⟨gb400, 0, none⟩) (Kd.V_mono HO0_4.out (fun k_ hk => (⟨hk, hk.2⟩ : _ ∧ k_ ≠ gb400))) (fun _ hk => hk.2) (.string a0_2)) (fun _ hk => hk.2) (.slice A0_3 l0_3.length c0_3)) (fun _ hk => hk.2) (.slice A0_4 l0_4.length c0_4)) (fun _ hk => ⟨hk.1.1.1.1.1.1, ⟨hk.1.1.1.1.2, ⟨hk.1.1.1.2, ⟨hk.1.1.1.1.1.2, ⟨hk.1.1.2, hk.1.2⟩⟩⟩⟩⟩)⟩, ⟨by (with_reducible repeat (first | refine blk_drewN ?_ _ | refine blk_drew ?_ | refine blk_alloc ?_ _)); refine blk_far ?_ NB390_400.out _; (with_reducible repeat (first | refine blk_drewN ?_ _ | refine blk_drew ?_ | refine blk_alloc ?_ _)); refine blk_far ?_ NB390_400.out _; (with_reducible repeat (first | refine blk_drewN ?_ _ | refine blk_drew ?_ | refine blk_alloc ?_ _)); refine blk_far ?_ NB390_400.out _; (with_reducible repeat (first | refine blk_drewN ?_ _ | refine blk_drew ?_ | refine blk_alloc ?_ _)); exact BK390.out⟩, ⟨by (with_reducible repeat (first | refine blk_drewN ?_ _ | refine blk_drew ?_ | refine blk_alloc ?_ _)); refine blk_far ?_ NB399_400.out _; (with_reducible repeat (first | refine blk_drewN ?_ _ | refine blk_drew ?_ | refine blk_alloc ?_ _)); refine blk_far ?_ NB399_400.out _; (with_reducible repeat (first | refine blk_drewN ?_ _ | refine blk_drew ?_ | refine blk_alloc ?_ _)); refine blk_far ?_ NB399_400.out _; (with_reducible repeat (first | refine blk_drewN ?_ _ | refine blk_drew ?_ | refine blk_alloc ?_ _)); exact BK399.out⟩, ⟨by (with_reducible repeat (first | refine blk_drewN ?_ _ | refine blk_drew ?_ | refine blk_alloc ?_ _)); refine blk_put (cs := #[.string a0_2, .slice A0_3 l0_3.length c0_3, .slice none 0 0]) ?_ 2 _ rfl; (with_reducible repeat (first | refine blk_drewN ?_ _ | refine blk_drew ?_ | refine blk_alloc ?_ _)); refine blk_put (cs := #[.string a0_2, .slice none 0 0, .slice none 0 0]) ?_ 1 _ rfl; (with_reducible repeat (first | refine blk_drewN ?_ _ | refine blk_drew ?_ | refine blk_alloc ?_ _)); refine blk_put (cs := #[.string (⟨#[]⟩ : ByteArray), .slice none 0 0, .slice none 0 0]) ?_ 0 _ rfl; (with_reducible repeat (first | refine blk_drewN ?_ _ | refine blk_drew ?_ | refine blk_alloc ?_ _)); exact BK400.out⟩, ⟨by repeat (first | (with_reducible first | exact HB.out | apply below_alloc | apply pw_below_drewN | apply below_drew1 | refine below_set ?_ GE390.out | refine below_set ?_ GE399.out | refine below_set ?_ GE400.out) | exact HB.out)⟩⟩
    case round =>
      clear H'
      try clear c1
      try clear p2
      try clear c4
      try clear c4b0
      try clear c4b1
      try clear c8
      try clear c9
      try clear c15
      try clear c16
      try clear hcz10_0
      try clear hcz10_1
      try clear hcz10_2
      try clear hcz13_0
      try clear hcz13_1
      try clear hcz13_2
      try clear hcz13_3
      try clear hcz13_4
      try clear hcz17_0
      try clear hcz17_1
      try clear hcz17_2
      try clear hcz6_0
      try clear hcz6_1
      try clear hcz6_2
      try clear hcz6_3
      try clear hcz6_4
      try clear hfz10_0
      try clear hfz10_1
      try clear hfz10_2
      try clear hfz13_0
      try clear hfz13_1
      try clear hfz13_2
      try clear hfz13_3
      try clear hfz13_4
      try clear hfz17_0
      try clear hfz17_1
      try clear hfz17_2
      try clear hfz6_0
      try clear hfz6_1
      try clear hfz6_2
      try clear hfz6_3
      try clear hfz6_4
      obtain ⟨x9_1, x10_1, x401000_1, x401001_1, x401002_1, u401001, u401002, rfl, rfl, HA, HK1, HO_391003, HO_391004, HO_400001, HO_400002, HO_401001, HO_401002, BK390, BK399, BK400, HB⟩ := hrel
      cases gk with
      | zero => exact absurd HA.out (by simp [valid_Enabled.l0])
      | succ k1 =>
        have H := HA.out
        clear HA
        simp only [valid_Enabled.l0] at H
        replace H := Option.bind_eq_some_iff.mp H
        obtain ⟨⟨t401, t402⟩, A180, H⟩ := H
        replace H : (if t402 = 0 then (if x9_1 = true then (if x10_1 = (l1.length : Int) then (some (t401, 0)) else (if 0 ≤ x10_1 then (if x10_1 < (l1.length : Int) then (if 0 ≤ (rd l1 x10_1) then (if (rd l1 x10_1) < (x401002_1.length : Int) then (valid_Enabled.l0 k1 l1 t401 (wrap64 (x10_1 + 1)) ((rd_T27 x401002_1 (rd l1 x10_1)).f0) ((rd_T27 x401002_1 (rd l1 x10_1)).f1) ((rd_T27 x401002_1 (rd l1 x10_1)).f2)) else (none)) else (none)) else (none)) else (none))) else (if x10_1 = (l1.length : Int) then (some (false, 0)) else (if 0 ≤ x10_1 then (if x10_1 < (l1.length : Int) then (if 0 ≤ (rd l1 x10_1) then (if (rd l1 x10_1) < (x401002_1.length : Int) then (valid_Enabled.l0 k1 l1 false (wrap64 (x10_1 + 1)) ((rd_T27 x401002_1 (rd l1 x10_1)).f0) ((rd_T27 x401002_1 (rd l1 x10_1)).f1) ((rd_T27 x401002_1 (rd l1 x10_1)).f2)) else (none)) else (none)) else (none)) else (none)))) else (some (false, t402))) = some (r1, r2) := H
        have A18 := Aside0.mk A180
        clear A180
        by_cases c19 : t402 = 0
        · rw [if_pos c19] at H
          have c19b0 : (t402 == 0) = true := beq_iff_eq.mpr c19
          have c19b1 : (t402 != 0) = false := bne_eq_false_iff_eq.mpr c19
          clear c19
          by_cases c20 : x9_1 = true
          · subst c20
            have H1 : (if x10_1 = (l1.length : Int) then (some (t401, 0)) else (if 0 ≤ x10_1 then (if x10_1 < (l1.length : Int) then (if 0 ≤ (rd l1 x10_1) then (if (rd l1 x10_1) < (x401002_1.length : Int) then (valid_Enabled.l0 k1 l1 t401 (wrap64 (x10_1 + 1)) ((rd_T27 x401002_1 (rd l1 x10_1)).f0) ((rd_T27 x401002_1 (rd l1 x10_1)).f1) ((rd_T27 x401002_1 (rd l1 x10_1)).f2)) else (none)) else (none)) else (none)) else (none))) = some (r1, r2) := by rw [if_pos rfl] at H; exact H
            clear H
            have H := H1
            clear H1
            by_cases c21 : x10_1 = (l1.length : Int)
            · rw [if_pos c21] at H
              have c21b0 : (x10_1 == (l1.length : Int)) = true := beq_iff_eq.mpr c21
              have c21b1 : (x10_1 != (l1.length : Int)) = false := bne_eq_false_iff_eq.mpr c21
              clear c21
              simp only [Option.some.injEq, Prod.mk.injEq] at H
              obtain ⟨rfl, rfl⟩ := H
              have hnb22 := NB400_390.out
              have hnc22 := NB390_400.out
              have hnb23 := NB400_399.out
              have hnc23 := NB399_400.out
              have hcz24_0 : wr.cell? ⟨gb400, 0, none⟩ = some (.string x401000_1) := (blk_cell BK400.out 0).trans rfl
              have hcz24_1 : wr.cell? ⟨gb400, 1, none⟩ = some (u401001) := (blk_cell BK400.out 1).trans rfl
              have hcz24_2 : wr.cell? ⟨gb400, 2, none⟩ = some (u401002) := (blk_cell BK400.out 2).trans rfl
              have hfz24_0 := blk_frozen BK400.out 0
              have hfz24_1 := blk_frozen BK400.out 1
              have hfz24_2 := blk_frozen BK400.out 2
              obtain ⟨Ao25, co25, eo25⟩ := Kd.V_slice HO_401001.out
              subst eo25
              obtain ⟨Ao26, co26, eo26⟩ := Kd.V_slice HO_401002.out
              subst eo26
              go_wp2_with (first | ((with_reducible refine gate_callee (f := 81) rfl ?_); refine goesL_ (some 28) rfl rfl Tryz.func81 (by kernel_rfl) rfl #[.agg #[.string x401000_1, .slice Ao25 x401001_1.length co25, .slice Ao26 x401002_1.length co26]] rfl (by (try simp only [List.map_toArray, List.map_cons, List.map_nil]); first | done | rfl | (simp only [List.length_drop, List.length_take]; rfl)) ?_; (with_reducible refine (valid_status.calls k1 x401000_1 _ _ x401001_1 _ _ x401002_1 t401 t402 _ ?side1 ?side2 ?side3 ?side4 A18.out).mono ?_); (case side1 => repeat (first | exact (Kd.V_reads' HO_401001.out).2.2 | (with_reducible refine Kd.C_alloc ?_ _) | (with_reducible refine Kd.C_drewN ?_ _) | (with_reducible refine Kd.C_drew ?_))); (case side2 => exact (Kd.V_reads' HO_401001.out).2.1); (case side3 => repeat (first | exact (Kd.V_reads' HO_401002.out).2.2 | (with_reducible refine Kd.C_alloc ?_ _) | (with_reducible refine Kd.C_drewN ?_ _) | (with_reducible refine Kd.C_drew ?_))); (case side4 => exact (Kd.V_reads' HO_401002.out).2.1); rintro e w27 ⟨rfl, hb⟩; refine ⟨_, rfl, ?_⟩; have n0_ := Aside0.mk (Kd.V_below (by (with_reducible repeat (first | apply Kd.V_alloc | apply Kd.V_drewN | apply Kd.V_drew)); exact HO_391003.out) hb); have n1_ := Aside0.mk (Kd.V_below (by (with_reducible repeat (first | apply Kd.V_alloc | apply Kd.V_drewN | apply Kd.V_drew)); exact HO_391004.out) hb); have n2_ := Aside0.mk (Kd.S_below (by (with_reducible repeat (first | apply Kd.S_alloc | apply Kd.S_drewN | apply Kd.S_drew)); exact HO_400001.out) hb); have n3_ := Aside0.mk (Kd.R_below (by (with_reducible repeat (first | apply Kd.R_alloc | apply Kd.R_drewN | apply Kd.R_drew)); exact HO_400002.out) hb); have n4_ := Aside0.mk (Kd.V_below (by (with_reducible repeat (first | apply Kd.V_alloc | apply Kd.V_drewN | apply Kd.V_drew)); exact HO_401001.out) hb); have n5_ := Aside0.mk (Kd.V_below (by (with_reducible repeat (first | apply Kd.V_alloc | apply Kd.V_drewN | apply Kd.V_drew)); exact HO_401002.out) hb); have n6_ := Aside0.mk (blk_below (g := gb390) (o := .cells #[.int .u32 a0_0, .slice A0_1 l0_1.length c0_1, .string a0_2, .slice A0_3 l0_3.length c0_3, .slice A0_4 l0_4.length c0_4] 29 (0, 0)) (by (with_reducible repeat (first | refine blk_drewN ?_ _ | refine blk_drew ?_ | refine blk_alloc ?_ _)); exact BK390.out) hb); have n7_ := Aside0.mk (blk_below (g := gb399) (o := .cells #[.string t391, .slice Ao11 t392.length co11, .slice Ao12 t395.length co12] 27 (0, 0)) (by (with_reducible repeat (first | refine blk_drewN ?_ _ | refine blk_drew ?_ | refine blk_alloc ?_ _)); exact BK399.out) hb); have n8_ := Aside0.mk (blk_below (g := gb400) (o := .cells #[.string x401000_1, .slice Ao25 x401001_1.length co25, .slice Ao26 x401002_1.length co26] 27 (0, 0)) (by (with_reducible repeat (first | refine blk_drewN ?_ _ | refine blk_drew ?_ | refine blk_alloc ?_ _)); exact BK400.out) hb); have n9_ := Aside0.mk (below_step (by repeat (first | (with_reducible first | exact HB.out | apply below_alloc | apply pw_below_drewN | apply below_drew1 | refine below_set ?_ GE390.out | refine below_set ?_ GE399.out | refine below_set ?_ GE400.out) | exact HB.out)) hb); clear HO_391003; clear HO_391004; clear HO_400001; clear HO_400002; clear HO_401001; clear HO_401002; clear BK390; clear BK399; clear BK400; clear HB; have HO_391003 := n0_; have HO_391004 := n1_; have HO_400001 := n2_; have HO_400002 := n3_; have HO_401001 := n4_; have HO_401002 := n5_; have BK390 := n6_; have BK399 := n7_; have BK400 := n8_; have HB := n9_; clear n0_ n1_ n2_ n3_ n4_ n5_ n6_ n7_ n8_ n9_; (try clear hb); (try clear hb2); (try clear hk); (try clear hi)))
              go_ret2
              exact ⟨by first | rfl | (simp [errW_none, errW_some] <;> rfl) | (simp [*, errW_none, errW_some] <;> rfl), by repeat (first | (with_reducible first | exact HB.out | apply below_alloc | apply pw_below_drewN | apply below_drew1 | refine below_set ?_ GE390.out | refine below_set ?_ GE399.out | refine below_set ?_ GE400.out) | exact HB.out)⟩
            · rw [if_neg c21] at H
              have c21b0 : (x10_1 == (l1.length : Int)) = false := beq_eq_false_iff_ne.mpr c21
              have c21b1 : (x10_1 != (l1.length : Int)) = true := bne_iff_ne.mpr c21
              by_cases c28 : 0 ≤ x10_1
              · rw [if_pos c28] at H
                have c28b0 : decide (0 ≤ x10_1) = true := decide_eq_true c28
                clear c28
                by_cases c29 : x10_1 < (l1.length : Int)
                · rw [if_pos c29] at H
                  have c29b0 : decide (x10_1 < (l1.length : Int)) = true := decide_eq_true c29
                  clear c29
                  by_cases c30 : 0 ≤ (rd l1 x10_1)
                  · rw [if_pos c30] at H
                    have c30b0 : decide (0 ≤ (rd l1 x10_1)) = true := decide_eq_true c30
                    clear c30
                    by_cases c31 : (rd l1 x10_1) < (x401002_1.length : Int)
                    · rw [if_pos c31] at H
                      have c31b0 : decide ((rd l1 x10_1) < (x401002_1.length : Int)) = true := decide_eq_true c31
                      clear c31
                      have H' := Aside0.mk H
                      clear H
                      have hnb32 := NB400_390.out
                      have hnc32 := NB390_400.out
                      have hnb33 := NB400_399.out
                      have hnc33 := NB399_400.out
                      have hcz34_0 : wr.cell? ⟨gb400, 0, none⟩ = some (.string x401000_1) := (blk_cell BK400.out 0).trans rfl
                      have hcz34_1 : wr.cell? ⟨gb400, 1, none⟩ = some (u401001) := (blk_cell BK400.out 1).trans rfl
                      have hcz34_2 : wr.cell? ⟨gb400, 2, none⟩ = some (u401002) := (blk_cell BK400.out 2).trans rfl
                      have hfz34_0 := blk_frozen BK400.out 0
                      have hfz34_1 := blk_frozen BK400.out 1
                      have hfz34_2 := blk_frozen BK400.out 2
                      obtain ⟨Ao35, co35, eo35⟩ := Kd.V_slice HO_401001.out
                      subst eo35
                      obtain ⟨Ao36, co36, eo36⟩ := Kd.V_slice HO_401002.out
                      subst eo36
                      try go_wp2_with (first | ((with_reducible refine gate_callee (f := 81) rfl ?_); refine goesL_ (some 28) rfl rfl Tryz.func81 (by kernel_rfl) rfl #[.agg #[.string x401000_1, .slice Ao35 x401001_1.length co35, .slice Ao36 x401002_1.length co36]] rfl (by (try simp only [List.map_toArray, List.map_cons, List.map_nil]); first | done | rfl | (simp only [List.length_drop, List.length_take]; rfl)) ?_; (with_reducible refine (valid_status.calls k1 x401000_1 _ _ x401001_1 _ _ x401002_1 t401 t402 _ ?side1 ?side2 ?side3 ?side4 A18.out).mono ?_); (case side1 => repeat (first | exact (Kd.V_reads' HO_401001.out).2.2 | (with_reducible refine Kd.C_alloc ?_ _) | (with_reducible refine Kd.C_drewN ?_ _) | (with_reducible refine Kd.C_drew ?_))); (case side2 => exact (Kd.V_reads' HO_401001.out).2.1); (case side3 => repeat (first | exact (Kd.V_reads' HO_401002.out).2.2 | (with_reducible refine Kd.C_alloc ?_ _) | (with_reducible refine Kd.C_drewN ?_ _) | (with_reducible refine Kd.C_drew ?_))); (case side4 => exact (Kd.V_reads' HO_401002.out).2.1); rintro e w37 ⟨rfl, hb⟩; refine ⟨_, rfl, ?_⟩; have n0_ := Aside0.mk (Kd.V_below (by (with_reducible repeat (first | apply Kd.V_alloc | apply Kd.V_drewN | apply Kd.V_drew)); exact HO_391003.out) hb); have n1_ := Aside0.mk (Kd.V_below (by (with_reducible repeat (first | apply Kd.V_alloc | apply Kd.V_drewN | apply Kd.V_drew)); exact HO_391004.out) hb); have n2_ := Aside0.mk (Kd.S_below (by (with_reducible repeat (first | apply Kd.S_alloc | apply Kd.S_drewN | apply Kd.S_drew)); exact HO_400001.out) hb); have n3_ := Aside0.mk (Kd.R_below (by (with_reducible repeat (first | apply Kd.R_alloc | apply Kd.R_drewN | apply Kd.R_drew)); exact HO_400002.out) hb); have n4_ := Aside0.mk (Kd.V_below (by (with_reducible repeat (first | apply Kd.V_alloc | apply Kd.V_drewN | apply Kd.V_drew)); exact HO_401001.out) hb); have n5_ := Aside0.mk (Kd.V_below (by (with_reducible repeat (first | apply Kd.V_alloc | apply Kd.V_drewN | apply Kd.V_drew)); exact HO_401002.out) hb); have n6_ := Aside0.mk (blk_below (g := gb390) (o := .cells #[.int .u32 a0_0, .slice A0_1 l0_1.length c0_1, .string a0_2, .slice A0_3 l0_3.length c0_3, .slice A0_4 l0_4.length c0_4] 29 (0, 0)) (by (with_reducible repeat (first | refine blk_drewN ?_ _ | refine blk_drew ?_ | refine blk_alloc ?_ _)); exact BK390.out) hb); have n7_ := Aside0.mk (blk_below (g := gb399) (o := .cells #[.string t391, .slice Ao11 t392.length co11, .slice Ao12 t395.length co12] 27 (0, 0)) (by (with_reducible repeat (first | refine blk_drewN ?_ _ | refine blk_drew ?_ | refine blk_alloc ?_ _)); exact BK399.out) hb); have n8_ := Aside0.mk (blk_below (g := gb400) (o := .cells #[.string x401000_1, .slice Ao35 x401001_1.length co35, .slice Ao36 x401002_1.length co36] 27 (0, 0)) (by (with_reducible repeat (first | refine blk_drewN ?_ _ | refine blk_drew ?_ | refine blk_alloc ?_ _)); exact BK400.out) hb); have n9_ := Aside0.mk (below_step (by repeat (first | (with_reducible first | exact HB.out | apply below_alloc | apply pw_below_drewN | apply below_drew1 | refine below_set ?_ GE390.out | refine below_set ?_ GE399.out | refine below_set ?_ GE400.out) | exact HB.out)) hb); clear HO_391003; clear HO_391004; clear HO_400001; clear HO_400002; clear HO_401001; clear HO_401002; clear BK390; clear BK399; clear BK400; clear HB; have HO_391003 := n0_; have HO_391004 := n1_; have HO_400001 := n2_; have HO_400002 := n3_; have HO_401001 := n4_; have HO_401002 := n5_; have BK390 := n6_; have BK399 := n7_; have BK400 := n8_; have HB := n9_; clear n0_ n1_ n2_ n3_ n4_ n5_ n6_ n7_ n8_ n9_; (try clear hb); (try clear hb2); (try clear hk); (try clear hi)))
                      have n0_ := Aside0.mk (Kd.V_drew HO_391003.out)
                      have n1_ := Aside0.mk (Kd.V_drew HO_391004.out)
                      have n2_ := Aside0.mk (Kd.S_drew HO_400001.out)
                      have n3_ := Aside0.mk (Kd.R_drew HO_400002.out)
                      have n4_ := Aside0.mk (Kd.V_drew HO_401001.out)
                      have n5_ := Aside0.mk (Kd.V_drew HO_401002.out)
                      have n6_ := Aside0.mk (blk_drew BK390.out)
                      have n7_ := Aside0.mk (blk_drew BK399.out)
                      have n8_ := Aside0.mk (blk_drew BK400.out)
                      have n9_ := Aside0.mk (below_drew1 HB.out)
                      clear HO_391003
                      clear HO_391004
                      clear HO_400001
                      clear HO_400002
                      clear HO_401001
                      clear HO_401002
                      clear BK390
                      clear BK399
                      clear BK400
                      clear HB
                      have HO_391003 := n0_
                      have HO_391004 := n1_
                      have HO_400001 := n2_
                      have HO_400002 := n3_
                      have HO_401001 := n4_
                      have HO_401002 := n5_
                      have BK390 := n6_
                      have BK399 := n7_
                      have BK400 := n8_
                      have HB := n9_
                      clear n0_ n1_ n2_ n3_ n4_ n5_ n6_ n7_ n8_ n9_
                      have p403 : 0 ≤ (x10_1 : Int) := of_decide_eq_true (by first | (with_reducible assumption) | assumption)
                      have q403 : x10_1 < (l1.length : Int) := of_decide_eq_true (by first | (with_reducible assumption) | assumption)
                      obtain ⟨ad403, e403, hx403_0⟩ := Kd.at_int HR1.out x10_1 p403 q403
                      have hw403_0 := hx403_0
                      cases e403
                      replace hx403_0 := (HB.out.cell (World.block_lt_of_cell? w _ hx403_0)).trans hx403_0
                      replace p403 := eq_true p403
                      replace q403 := eq_true q403
                      have p404 : 0 ≤ ((rd l1 x10_1) : Int) := of_decide_eq_true (by first | (with_reducible assumption) | assumption)
                      have q404 : (rd l1 x10_1) < (x401002_1.length : Int) := of_decide_eq_true (by first | (with_reducible assumption) | assumption)
                      obtain ⟨ad404, A404_1, c404_1, A404_2, c404_2, e404, hx404_0, hx404_1, hx404_2, hl404_1, hi404_1, hl404_2, hi404_2⟩ := at_T27 (Kd.V_reads' HO_401002.out).2.2 (rd l1 x10_1) p404 q404
                      cases e404
                      obtain ⟨ce404, hce404, hMe404, hcc404⟩ := Kd.V_get HO_401002.out z27 (rd l1 x10_1) p404 (by first | exact q404 | exact of_decide_eq_true (by first | (with_reducible assumption) | assumption) | (have e_ := (Kd.V_reads' HO_401002.out).1; omega))
                      obtain ⟨ua404_1, uc404_1, ua404_2, uc404_2, rfl, ul404_1, ge404_1, ul404_2, ge404_2⟩ := k27_openF hMe404
                      have hv404_1 := hcc404 1 _ rfl
                      rw [add_field _ _ 1 (by omega)] at hv404_1
                      replace hv404_1 := Option.some.inj (hv404_1.symm.trans hx404_1)
                      injection hv404_1 with hva_ hvn_ hvc_
                      rw [hva_] at ge404_1
                      rw [hvc_] at ul404_1
                      have HL404_1 := Aside0.mk (show Kd.V k158 158 _ w.heap.size _ _ ((rd_T27 x401002_1 (rd l1 x10_1)).f1) from Kd.V_mk ul404_1 ge404_1)
                      clear hva_ hvn_ hvc_ ge404_1 ul404_1
                      have hv404_2 := hcc404 2 _ rfl
                      rw [add_field _ _ 2 (by omega)] at hv404_2
                      replace hv404_2 := Option.some.inj (hv404_2.symm.trans hx404_2)
                      injection hv404_2 with hva_ hvn_ hvc_
                      rw [hva_] at ge404_2
                      rw [hvc_] at ul404_2
                      have HL404_2 := Aside0.mk (show Kd.V k27 27 _ w.heap.size _ _ ((rd_T27 x401002_1 (rd l1 x10_1)).f2) from Kd.V_mk ul404_2 ge404_2)
                      clear hva_ hvn_ hvc_ ge404_2 ul404_2
                      clear hcc404 hce404
                      have HR404_1 := Aside0.mk hi404_1
                      have HC404_1 := Aside0.mk hl404_1
                      clear hi404_1 hl404_1
                      have HR404_2 := Aside0.mk hi404_2
                      have HC404_2 := Aside0.mk hl404_2
                      clear hi404_2 hl404_2
                      replace p404 := eq_true p404
                      replace q404 := eq_true q404
                      refine start_ (n := 9) (S := fun w' => w'.cell? ⟨gb400, 0, none⟩ = some (.string x401000_1) ∧ w'.cell? ⟨gb400, 1, none⟩ = some (.slice Ao35 x401001_1.length co35) ∧ w'.cell? ⟨gb400, 2, none⟩ = some (.slice (some ad404) x401002_1.length co36) ∧ w'.cell? (ad403.add (x10_1).toNat) = some (.int .i64 (rd l1 x10_1)) ∧ w'.cell? (ad404.add (((rd l1 x10_1)).toNat * 3)) = some (.string ((rd_T27 x401002_1 (rd l1 x10_1)).f0)) ∧ w'.cell? ⟨(ad404.add (((rd l1 x10_1)).toNat * 3)).block, (ad404.add (((rd l1 x10_1)).toNat * 3)).off + 1, none⟩ = some (.slice A404_1 ((rd_T27 x401002_1 (rd l1 x10_1)).f1).length c404_1) ∧ w'.cell? ⟨(ad404.add (((rd l1 x10_1)).toNat * 3)).block, (ad404.add (((rd l1 x10_1)).toNat * 3)).off + 2, none⟩ = some (.slice A404_2 ((rd_T27 x401002_1 (rd l1 x10_1)).f2).length c404_2)) (ds := [8]) #[false, false, false, false, false, false, false, false, false] (by kernel_rfl) rfl rfl ⟨(blk_cell BK400.out 0).trans rfl, (blk_cell BK400.out 1).trans rfl, (blk_cell BK400.out 2).trans rfl, ((HB.out.cell (World.block_lt_of_cell? w _ hw403_0)).trans hw403_0), hx404_0, hx404_1, hx404_2⟩ (fun hHeld => ?_); refine with_tabW valid_Enabled.tab13 valid_Enabled.bits13 (fun HT_ HW_ => ?_)
                      generalize w37.drew = w38 at HO_391003 HO_391004 HO_400001 HO_400002 HO_401001 HO_401002 BK390 BK399 BK400 HB HL404_1 HL404_2 HR404_1 HR404_2 hx403_0 hx404_0 hx404_1 hx404_2 hHeld ⊢
                      refine pure_ (i := 0) (N := some 43) (v := ?_) (a' := ?_) #[true, false, false, false, false, false, false, false, false] rfl rfl (any_of HT_.out (by kernel_rfl)) (fun _ _ _ h => h) (Or.inl ⟨by rfl, ?_⟩) ?_ ?_
                      rotate_left
                      · intro w'
                        go_simp
                        with_reducible rfl
                      rotate_left
                      · simp only [Act.put, List.setIfInBounds_toArray, List.set_cons_zero, List.set_cons_succ, i64_w, i32_w]
                        rfl
                      refine pure_ (i := 2) (N := some 45) (v := ?_) (a' := ?_) #[true, false, true, false, false, false, false, false, false] rfl rfl (any_of HT_.out (by kernel_rfl)) (fun _ _ _ h => h) (Or.inl ⟨by rfl, ?_⟩) ?_ ?_
                      rotate_left
                      · intro w'
                        go_simp
                        with_reducible rfl
                      rotate_left
                      · simp only [Act.put, List.setIfInBounds_toArray, List.set_cons_zero, List.set_cons_succ, i64_w, i32_w]
                        rfl
                      refine pure_ (i := 3) (N := some 46) (v := ?_) (a' := ?_) #[true, false, true, true, false, false, false, false, false] rfl rfl (any_of HT_.out (by kernel_rfl)) (fun _ _ _ h => h) (Or.inl ⟨by rfl, ?_⟩) ?_ ?_
                      rotate_left
                      · intro w'
                        go_simp
                        with_reducible rfl
                      rotate_left
                      · simp only [Act.put, List.setIfInBounds_toArray, List.set_cons_zero, List.set_cons_succ, i64_w, i32_w]
                        rfl
                      refine pure_ (i := 4) (N := some 47) (v := ?_) (a' := ?_) #[true, false, true, true, true, false, false, false, false] rfl rfl (any_of HT_.out (by kernel_rfl)) (fun _ _ _ h => h) (Or.inl ⟨by rfl, ?_⟩) ?_ ?_
                      rotate_left
                      · intro w'
                        go_simp
                        with_reducible rfl
                      rotate_left
                      · simp only [Act.put, List.setIfInBounds_toArray, List.set_cons_zero, List.set_cons_succ, i64_w, i32_w]
                        rfl
                      refine take_ (i := 1) (N := some 44) (v := ?_) (a' := ?_) #[true, true, true, true, true, false, false, false, false] rfl rfl (take_ofW HT_.out HW_.out (by kernel_rfl)) (fun _ _ _ h => h) (Or.inl ⟨by rfl, ?_⟩) hHeld ?_ ?_
                      rotate_left
                      · rintro w' ⟨s0, s1, s2, s3, s4, s5, s6⟩
                        go_simp
                        with_reducible rfl
                      rotate_left
                      · simp only [Act.put, List.setIfInBounds_toArray, List.set_cons_zero, List.set_cons_succ, i64_w, i32_w]
                        rfl
                      refine take_ (i := 5) (N := some 48) (v := ?_) (a' := ?_) #[true, true, true, true, true, true, false, false, false] rfl rfl (take_ofW HT_.out HW_.out (by kernel_rfl)) (fun _ _ _ h => h) (Or.inl ⟨by rfl, ?_⟩) hHeld ?_ ?_
                      rotate_left
                      · rintro w' ⟨s0, s1, s2, s3, s4, s5, s6⟩
                        go_simp
                        with_reducible rfl
                      rotate_left
                      · simp only [Act.put, List.setIfInBounds_toArray, List.set_cons_zero, List.set_cons_succ, i64_w, i32_w]
                        rfl
                      refine pure_ (i := 6) (N := some 49) (v := ?_) (a' := ?_) #[true, true, true, true, true, true, true, false, false] rfl rfl (any_of HT_.out (by kernel_rfl)) (fun _ _ _ h => h) (Or.inl ⟨by rfl, ?_⟩) ?_ ?_
                      rotate_left
                      · intro w'
                        go_simp
                        with_reducible rfl
                      rotate_left
                      · simp only [Act.put, List.setIfInBounds_toArray, List.set_cons_zero, List.set_cons_succ, i64_w, i32_w]
                        rfl
                      refine take_ (i := 7) (N := some 50) (v := ?_) (a' := ?_) #[true, true, true, true, true, true, true, true, false] rfl rfl (take_ofW HT_.out HW_.out (by kernel_rfl)) (fun _ _ _ h => h) (Or.inl ⟨by rfl, ?_⟩) hHeld ?_ ?_
                      rotate_left
                      · rintro w' ⟨s0, s1, s2, s3, s4, s5, s6⟩
                        go_simp
                        with_reducible rfl
                      rotate_left
                      · simp only [Act.put, List.setIfInBounds_toArray, List.set_cons_zero, List.set_cons_succ, i64_w, i32_w]
                        rfl
                      refine last_ (i := 8) (N := none) #[true, true, true, true, true, true, true, true, true] rfl rfl (one_of HT_.out (by kernel_rfl)) (by decide) (fun K hK => ?_)
                      have hs39 : w38.cell? ⟨gb400, 0, none⟩ = some (.string x401000_1) := (blk_cell BK400.out 0).trans rfl
                      have hfs39 := blk_frozen BK400.out 0
                      have hns39_0 := NB390_400.out
                      have hns39_1 := NB399_400.out
                      have hms39_0 := NB400_390.out
                      have hms39_1 := NB400_399.out
                      have hs40 : w38.cell? ⟨gb400, 1, none⟩ = some (.slice Ao35 x401001_1.length co35) := (blk_cell BK400.out 1).trans rfl
                      have hfs40 := blk_frozen BK400.out 1
                      have hns40_0 := NB390_400.out
                      have hns40_1 := NB399_400.out
                      have hms40_0 := NB400_390.out
                      have hms40_1 := NB400_399.out
                      have hs41 : w38.cell? ⟨gb400, 2, none⟩ = some (.slice (some ad404) x401002_1.length co36) := (blk_cell BK400.out 2).trans rfl
                      have hfs41 := blk_frozen BK400.out 2
                      have hns41_0 := NB390_400.out
                      have hns41_1 := NB399_400.out
                      have hms41_0 := NB400_390.out
                      have hms41_1 := NB400_399.out
                      refine skip_ (w1 := ?_) (by rfl) rfl ?_ ?_
                      rotate_left
                      · go_simp
                        rfl
                      refine hK.out _ _ ?_
                      clear hK K
                      refine done_ (done_of HT_.out (by kernel_rfl)) ?_
                      try go_wp2
                      go_roundg k1
                      case measure => have := HK1.out; omega
                      case rel => exact ⟨(t401), (wrap64 (x10_1 + 1)), ((rd_T27 x401002_1 (rd l1 x10_1)).f0), ((rd_T27 x401002_1 (rd l1 x10_1)).f1), ((rd_T27 x401002_1 (rd l1 x10_1)).f2), (.slice A404_1 ((rd_T27 x401002_1 (rd l1 x10_1)).f1).length c404_1), (.slice A404_2 ((rd_T27 x401002_1 (rd l1 x10_1)).f2).length c404_2), (by first | rfl | (simp; done) | (simp [*]; done)), (by first | rfl | (simp; done) | (simp [*]; done)), H', ⟨by have := HK1.out; omega⟩, ⟨by (with_reducible repeat (first | apply Kd.V_alloc | apply Kd.V_drewN | apply Kd.V_drew)); exact Kd.V_mono (Kd.V_far (p := ⟨gb400, 2, none⟩) (Kd.V_far (p := ⟨gb400, 1, none⟩) (Kd.V_far (p := ⟨gb400, 0, none⟩) (Kd.V_mono HO_391003.out (fun k_ hk => (⟨hk, hk.2.2.2.2.2⟩ : _ ∧ k_ ≠ gb400))) (fun _ hk => hk.2) (.string ((rd_T27 x401002_1 (rd l1 x10_1)).f0))) (fun _ hk => hk.2) (.slice A404_1 ((rd_T27 x401002_1 (rd l1 x10_1)).f1).length c404_1)) (fun _ hk => hk.2) (.slice A404_2 ((rd_T27 x401002_1 (rd l1 x10_1)).f2).length c404_2)) (fun _ hk => ⟨hk.1.1, ⟨hk.1.2.1, ⟨hk.1.2.2.1, ⟨hk.1.2.2.2.1, ⟨hk.1.2.2.2.2.1, hk.1.2.2.2.2.2⟩⟩⟩⟩⟩)⟩, ⟨by (with_reducible repeat (first | apply Kd.V_alloc | apply Kd.V_drewN | apply Kd.V_drew)); exact Kd.V_mono (Kd.V_far (p := ⟨gb400, 2, none⟩) (Kd.V_far (p := ⟨gb400, 1, none⟩) (Kd.V_far (p := ⟨gb400, 0, none⟩) (Kd.V_mono HO_391004.out (fun k_ hk => (⟨hk, hk.2.2.2.2.2⟩ : _ ∧ k_ ≠ gb400))) (fun _ hk => hk.2) (.string ((rd_T27 x401002_1 (rd l1 x10_1)).f0))) (fun _ hk => hk.2) (.slice A404_1 ((rd_T27 x401002_1 (rd l1 x10_1)).f1).length c404_1)) (fun _ hk => hk.2) (.slice A404_2 ((rd_T27 x401002_1 (rd l1 x10_1)).f2).length c404_2)) (fun _ hk => ⟨hk.1.1, ⟨hk.1.2.1, ⟨hk.1.2.2.1, ⟨hk.1.2.2.2.1, ⟨hk.1.2.2.2.2.1, hk.1.2.2.2.2.2⟩⟩⟩⟩⟩)⟩, ⟨by (with_reducible repeat (first | apply Kd.S_alloc | apply Kd.S_drewN | apply Kd.S_drew)); exact Kd.S_mono (Kd.S_far (p := ⟨gb400, 2, none⟩) (Kd.S_far (p := ⟨gb400, 1, none⟩) (Kd.S_far (p := ⟨gb400, 0, none⟩) (Kd.S_types HO_400001.out BK400.out (by decide)) (fun _ hk => hk.2) (.string ((rd_T27 x401002_1 (rd l1 x10_1)).f0))) (fun _ hk => hk.2) (.slice A404_1 ((rd_T27 x401002_1 (rd l1 x10_1)).f1).length c404_1)) (fun _ hk => hk.2) (.slice A404_2 ((rd_T27 x401002_1 (rd l1 x10_1)).f2).length c404_2)) (fun _ hk => hk.1)⟩, ⟨by (with_reducible repeat (first | apply Kd.R_alloc | apply Kd.R_drewN | apply Kd.R_drew)); exact Kd.R_mono (Kd.R_far (p := ⟨gb400, 2, none⟩) (Kd.R_far (p := ⟨gb400, 1, none⟩) (Kd.R_far (p := ⟨gb400, 0, none⟩) (Kd.R_mono HO_400002.out (fun k_ hk => (⟨hk, hk.2.2.2⟩ : _ ∧ k_ ≠ gb400))) (fun _ hk => hk.2) (.string ((rd_T27 x401002_1 (rd l1 x10_1)).f0))) (fun _ hk => hk.2) (.slice A404_1 ((rd_T27 x401002_1 (rd l1 x10_1)).f1).length c404_1)) (fun _ hk => hk.2) (.slice A404_2 ((rd_T27 x401002_1 (rd l1 x10_1)).f2).length c404_2)) (fun _ hk => ⟨hk.1.1, ⟨hk.1.2.1, ⟨hk.1.2.2.1, hk.1.2.2.2⟩⟩⟩)⟩, ⟨by (with_reducible repeat (first | apply Kd.V_alloc | apply Kd.V_drewN | apply Kd.V_drew)); exact Kd.V_mono (Kd.V_far (p := ⟨gb400, 2, none⟩) (Kd.V_far (p := ⟨gb400, 1, none⟩) (Kd.V_far (p := ⟨gb400, 0, none⟩) (Kd.V_mono HL404_1.out (fun k_ hk => (⟨hk, hk.2.2.2.2.2⟩ : _ ∧ k_ ≠ gb400))) (fun _ hk => hk.2) (.string ((rd_T27 x401002_1 (rd l1 x10_1)).f0))) (fun _ hk => hk.2) (.slice A404_1 ((rd_T27 x401002_1 (rd l1 x10_1)).f1).length c404_1)) (fun _ hk => hk.2) (.slice A404_2 ((rd_T27 x401002_1 (rd l1 x10_1)).f2).length c404_2)) (fun _ hk => ⟨hk.1.1, ⟨hk.1.2.1, ⟨hk.1.2.2.1, ⟨hk.1.2.2.2.1, ⟨hk.1.2.2.2.2.1, hk.1.2.2.2.2.2⟩⟩⟩⟩⟩)⟩, ⟨by (with_reducible repeat (first | apply Kd.V_alloc | apply Kd.V_drewN | apply Kd.V_drew)); exact Kd.V_mono (Kd.V_far (p := ⟨gb400, 2, none⟩) (Kd.V_far (p := ⟨gb400, 1, none⟩) (Kd.V_far (p := ⟨gb400, 0, none⟩) (Kd.V_mono HL404_2.out (fun k_ hk => (⟨hk, hk.2.2.2.2.2⟩ : _ ∧ k_ ≠ gb400))) (fun _ hk => hk.2) (.string ((rd_T27 x401002_1 (rd l1 x10_1)).f0))) (fun _ hk => hk.2) (.slice A404_1 ((rd_T27 x401002_1 (rd l1 x10_1)).f1).length c404_1)) (fun _ hk => hk.2) (.slice A404_2 ((rd_T27 x401002_1 (rd l1 x10_1)).f2).length c404_2)) (fun _ hk => ⟨hk.1.1, ⟨hk.1.2.1, ⟨hk.1.2.2.1, ⟨hk.1.2.2.2.1, ⟨hk.1.2.2.2.2.1, hk.1.2.2.2.2.2⟩⟩⟩⟩⟩)⟩, ⟨by (with_reducible repeat (first | refine blk_drewN ?_ _ | refine blk_drew ?_ | refine blk_alloc ?_ _)); refine blk_far ?_ NB390_400.out _; (with_reducible repeat (first | refine blk_drewN ?_ _ | refine blk_drew ?_ | refine blk_alloc ?_ _)); refine blk_far ?_ NB390_400.out _; (with_reducible repeat (first | refine blk_drewN ?_ _ | refine blk_drew ?_ | refine blk_alloc ?_ _)); refine blk_far ?_ NB390_400.out _; (with_reducible repeat (first | refine blk_drewN ?_ _ | refine blk_drew ?_ | refine blk_alloc ?_ _)); exact BK390.out⟩, ⟨by (with_reducible repeat (first | refine blk_drewN ?_ _ | refine blk_drew ?_ | refine blk_alloc ?_ _)); refine blk_far ?_ NB399_400.out _; (with_reducible repeat (first | refine blk_drewN ?_ _ | refine blk_drew ?_ | refine blk_alloc ?_ _)); refine blk_far ?_ NB399_400.out _; (with_reducible repeat (first | refine blk_drewN ?_ _ | refine blk_drew ?_ | refine blk_alloc ?_ _)); refine blk_far ?_ NB399_400.out _; (with_reducible repeat (first | refine blk_drewN ?_ _ | refine blk_drew ?_ | refine blk_alloc ?_ _)); exact BK399.out⟩, ⟨by (with_reducible repeat (first | refine blk_drewN ?_ _ | refine blk_drew ?_ | refine blk_alloc ?_ _)); refine blk_put (cs := #[.string ((rd_T27 x401002_1 (rd l1 x10_1)).f0), .slice A404_1 ((rd_T27 x401002_1 (rd l1 x10_1)).f1).length c404_1, .slice (some ad404) x401002_1.length co36]) ?_ 2 _ rfl; (with_reducible repeat (first | refine blk_drewN ?_ _ | refine blk_drew ?_ | refine blk_alloc ?_ _)); refine blk_put (cs := #[.string ((rd_T27 x401002_1 (rd l1 x10_1)).f0), .slice Ao35 x401001_1.length co35, .slice (some ad404) x401002_1.length co36]) ?_ 1 _ rfl; (with_reducible repeat (first | refine blk_drewN ?_ _ | refine blk_drew ?_ | refine blk_alloc ?_ _)); refine blk_put (cs := #[.string x401000_1, .slice Ao35 x401001_1.length co35, .slice (some ad404) x401002_1.length co36]) ?_ 0 _ rfl; (with_reducible repeat (first | refine blk_drewN ?_ _ | refine blk_drew ?_ | refine blk_alloc ?_ _)); exact BK400.out⟩, ⟨by repeat (first | (with_reducible first | exact HB.out | apply below_alloc | apply pw_below_drewN | apply below_drew1 | refine below_set ?_ GE390.out | refine below_set ?_ GE399.out | refine below_set ?_ GE400.out) | exact HB.out)⟩⟩
                    · rw [if_neg c31] at H
                      exact absurd H (by simp)
                  · rw [if_neg c30] at H
                    exact absurd H (by simp)
                · rw [if_neg c29] at H
                  exact absurd H (by simp)
              · rw [if_neg c28] at H
                exact absurd H (by simp)
          · replace c20 := Bool.eq_false_iff.mpr c20
            subst c20
            have H1 : (if x10_1 = (l1.length : Int) then (some (false, 0)) else (if 0 ≤ x10_1 then (if x10_1 < (l1.length : Int) then (if 0 ≤ (rd l1 x10_1) then (if (rd l1 x10_1) < (x401002_1.length : Int) then (valid_Enabled.l0 k1 l1 false (wrap64 (x10_1 + 1)) ((rd_T27 x401002_1 (rd l1 x10_1)).f0) ((rd_T27 x401002_1 (rd l1 x10_1)).f1) ((rd_T27 x401002_1 (rd l1 x10_1)).f2)) else (none)) else (none)) else (none)) else (none))) = some (r1, r2) := by rw [if_neg (show ¬ (false = true) by decide)] at H; exact H
            clear H
            have H := H1
            clear H1
            by_cases c42 : x10_1 = (l1.length : Int)
            · rw [if_pos c42] at H
              have c42b0 : (x10_1 == (l1.length : Int)) = true := beq_iff_eq.mpr c42
              have c42b1 : (x10_1 != (l1.length : Int)) = false := bne_eq_false_iff_eq.mpr c42
              clear c42
              simp only [Option.some.injEq, Prod.mk.injEq] at H
              obtain ⟨rfl, rfl⟩ := H
              have hnb43 := NB400_390.out
              have hnc43 := NB390_400.out
              have hnb44 := NB400_399.out
              have hnc44 := NB399_400.out
              have hcz45_0 : wr.cell? ⟨gb400, 0, none⟩ = some (.string x401000_1) := (blk_cell BK400.out 0).trans rfl
              have hcz45_1 : wr.cell? ⟨gb400, 1, none⟩ = some (u401001) := (blk_cell BK400.out 1).trans rfl
              have hcz45_2 : wr.cell? ⟨gb400, 2, none⟩ = some (u401002) := (blk_cell BK400.out 2).trans rfl
              have hfz45_0 := blk_frozen BK400.out 0
              have hfz45_1 := blk_frozen BK400.out 1
              have hfz45_2 := blk_frozen BK400.out 2
              obtain ⟨Ao46, co46, eo46⟩ := Kd.V_slice HO_401001.out
              subst eo46
              obtain ⟨Ao47, co47, eo47⟩ := Kd.V_slice HO_401002.out
              subst eo47
              go_wp2_with (first | ((with_reducible refine gate_callee (f := 81) rfl ?_); refine goesL_ (some 28) rfl rfl Tryz.func81 (by kernel_rfl) rfl #[.agg #[.string x401000_1, .slice Ao46 x401001_1.length co46, .slice Ao47 x401002_1.length co47]] rfl (by (try simp only [List.map_toArray, List.map_cons, List.map_nil]); first | done | rfl | (simp only [List.length_drop, List.length_take]; rfl)) ?_; (with_reducible refine (valid_status.calls k1 x401000_1 _ _ x401001_1 _ _ x401002_1 t401 t402 _ ?side1 ?side2 ?side3 ?side4 A18.out).mono ?_); (case side1 => repeat (first | exact (Kd.V_reads' HO_401001.out).2.2 | (with_reducible refine Kd.C_alloc ?_ _) | (with_reducible refine Kd.C_drewN ?_ _) | (with_reducible refine Kd.C_drew ?_))); (case side2 => exact (Kd.V_reads' HO_401001.out).2.1); (case side3 => repeat (first | exact (Kd.V_reads' HO_401002.out).2.2 | (with_reducible refine Kd.C_alloc ?_ _) | (with_reducible refine Kd.C_drewN ?_ _) | (with_reducible refine Kd.C_drew ?_))); (case side4 => exact (Kd.V_reads' HO_401002.out).2.1); rintro e w48 ⟨rfl, hb⟩; refine ⟨_, rfl, ?_⟩; have n0_ := Aside0.mk (Kd.V_below (by (with_reducible repeat (first | apply Kd.V_alloc | apply Kd.V_drewN | apply Kd.V_drew)); exact HO_391003.out) hb); have n1_ := Aside0.mk (Kd.V_below (by (with_reducible repeat (first | apply Kd.V_alloc | apply Kd.V_drewN | apply Kd.V_drew)); exact HO_391004.out) hb); have n2_ := Aside0.mk (Kd.S_below (by (with_reducible repeat (first | apply Kd.S_alloc | apply Kd.S_drewN | apply Kd.S_drew)); exact HO_400001.out) hb); have n3_ := Aside0.mk (Kd.R_below (by (with_reducible repeat (first | apply Kd.R_alloc | apply Kd.R_drewN | apply Kd.R_drew)); exact HO_400002.out) hb); have n4_ := Aside0.mk (Kd.V_below (by (with_reducible repeat (first | apply Kd.V_alloc | apply Kd.V_drewN | apply Kd.V_drew)); exact HO_401001.out) hb); have n5_ := Aside0.mk (Kd.V_below (by (with_reducible repeat (first | apply Kd.V_alloc | apply Kd.V_drewN | apply Kd.V_drew)); exact HO_401002.out) hb); have n6_ := Aside0.mk (blk_below (g := gb390) (o := .cells #[.int .u32 a0_0, .slice A0_1 l0_1.length c0_1, .string a0_2, .slice A0_3 l0_3.length c0_3, .slice A0_4 l0_4.length c0_4] 29 (0, 0)) (by (with_reducible repeat (first | refine blk_drewN ?_ _ | refine blk_drew ?_ | refine blk_alloc ?_ _)); exact BK390.out) hb); have n7_ := Aside0.mk (blk_below (g := gb399) (o := .cells #[.string t391, .slice Ao11 t392.length co11, .slice Ao12 t395.length co12] 27 (0, 0)) (by (with_reducible repeat (first | refine blk_drewN ?_ _ | refine blk_drew ?_ | refine blk_alloc ?_ _)); exact BK399.out) hb); have n8_ := Aside0.mk (blk_below (g := gb400) (o := .cells #[.string x401000_1, .slice Ao46 x401001_1.length co46, .slice Ao47 x401002_1.length co47] 27 (0, 0)) (by (with_reducible repeat (first | refine blk_drewN ?_ _ | refine blk_drew ?_ | refine blk_alloc ?_ _)); exact BK400.out) hb); have n9_ := Aside0.mk (below_step (by repeat (first | (with_reducible first | exact HB.out | apply below_alloc | apply pw_below_drewN | apply below_drew1 | refine below_set ?_ GE390.out | refine below_set ?_ GE399.out | refine below_set ?_ GE400.out) | exact HB.out)) hb); clear HO_391003; clear HO_391004; clear HO_400001; clear HO_400002; clear HO_401001; clear HO_401002; clear BK390; clear BK399; clear BK400; clear HB; have HO_391003 := n0_; have HO_391004 := n1_; have HO_400001 := n2_; have HO_400002 := n3_; have HO_401001 := n4_; have HO_401002 := n5_; have BK390 := n6_; have BK399 := n7_; have BK400 := n8_; have HB := n9_; clear n0_ n1_ n2_ n3_ n4_ n5_ n6_ n7_ n8_ n9_; (try clear hb); (try clear hb2); (try clear hk); (try clear hi)))
              go_ret2
              exact ⟨by first | rfl | (simp [errW_none, errW_some] <;> rfl) | (simp [*, errW_none, errW_some] <;> rfl), by repeat (first | (with_reducible first | exact HB.out | apply below_alloc | apply pw_below_drewN | apply below_drew1 | refine below_set ?_ GE390.out | refine below_set ?_ GE399.out | refine below_set ?_ GE400.out) | exact HB.out)⟩
            · rw [if_neg c42] at H
              have c42b0 : (x10_1 == (l1.length : Int)) = false := beq_eq_false_iff_ne.mpr c42
              have c42b1 : (x10_1 != (l1.length : Int)) = true := bne_iff_ne.mpr c42
              by_cases c49 : 0 ≤ x10_1
              · rw [if_pos c49] at H
                have c49b0 : decide (0 ≤ x10_1) = true := decide_eq_true c49
                clear c49
                by_cases c50 : x10_1 < (l1.length : Int)
                · rw [if_pos c50] at H
                  have c50b0 : decide (x10_1 < (l1.length : Int)) = true := decide_eq_true c50
                  clear c50
                  by_cases c51 : 0 ≤ (rd l1 x10_1)
                  · rw [if_pos c51] at H
                    have c51b0 : decide (0 ≤ (rd l1 x10_1)) = true := decide_eq_true c51
                    clear c51
                    by_cases c52 : (rd l1 x10_1) < (x401002_1.length : Int)
                    · rw [if_pos c52] at H
                      have c52b0 : decide ((rd l1 x10_1) < (x401002_1.length : Int)) = true := decide_eq_true c52
                      clear c52
                      have H' := Aside0.mk H
                      clear H
                      have hnb53 := NB400_390.out
                      have hnc53 := NB390_400.out
                      have hnb54 := NB400_399.out
                      have hnc54 := NB399_400.out
                      have hcz55_0 : wr.cell? ⟨gb400, 0, none⟩ = some (.string x401000_1) := (blk_cell BK400.out 0).trans rfl
                      have hcz55_1 : wr.cell? ⟨gb400, 1, none⟩ = some (u401001) := (blk_cell BK400.out 1).trans rfl
                      have hcz55_2 : wr.cell? ⟨gb400, 2, none⟩ = some (u401002) := (blk_cell BK400.out 2).trans rfl
                      have hfz55_0 := blk_frozen BK400.out 0
                      have hfz55_1 := blk_frozen BK400.out 1
                      have hfz55_2 := blk_frozen BK400.out 2
                      obtain ⟨Ao56, co56, eo56⟩ := Kd.V_slice HO_401001.out
                      subst eo56
                      obtain ⟨Ao57, co57, eo57⟩ := Kd.V_slice HO_401002.out
                      subst eo57
                      try go_wp2_with (first | ((with_reducible refine gate_callee (f := 81) rfl ?_); refine goesL_ (some 28) rfl rfl Tryz.func81 (by kernel_rfl) rfl #[.agg #[.string x401000_1, .slice Ao56 x401001_1.length co56, .slice Ao57 x401002_1.length co57]] rfl (by (try simp only [List.map_toArray, List.map_cons, List.map_nil]); first | done | rfl | (simp only [List.length_drop, List.length_take]; rfl)) ?_; (with_reducible refine (valid_status.calls k1 x401000_1 _ _ x401001_1 _ _ x401002_1 t401 t402 _ ?side1 ?side2 ?side3 ?side4 A18.out).mono ?_); (case side1 => repeat (first | exact (Kd.V_reads' HO_401001.out).2.2 | (with_reducible refine Kd.C_alloc ?_ _) | (with_reducible refine Kd.C_drewN ?_ _) | (with_reducible refine Kd.C_drew ?_))); (case side2 => exact (Kd.V_reads' HO_401001.out).2.1); (case side3 => repeat (first | exact (Kd.V_reads' HO_401002.out).2.2 | (with_reducible refine Kd.C_alloc ?_ _) | (with_reducible refine Kd.C_drewN ?_ _) | (with_reducible refine Kd.C_drew ?_))); (case side4 => exact (Kd.V_reads' HO_401002.out).2.1); rintro e w58 ⟨rfl, hb⟩; refine ⟨_, rfl, ?_⟩; have n0_ := Aside0.mk (Kd.V_below (by (with_reducible repeat (first | apply Kd.V_alloc | apply Kd.V_drewN | apply Kd.V_drew)); exact HO_391003.out) hb); have n1_ := Aside0.mk (Kd.V_below (by (with_reducible repeat (first | apply Kd.V_alloc | apply Kd.V_drewN | apply Kd.V_drew)); exact HO_391004.out) hb); have n2_ := Aside0.mk (Kd.S_below (by (with_reducible repeat (first | apply Kd.S_alloc | apply Kd.S_drewN | apply Kd.S_drew)); exact HO_400001.out) hb); have n3_ := Aside0.mk (Kd.R_below (by (with_reducible repeat (first | apply Kd.R_alloc | apply Kd.R_drewN | apply Kd.R_drew)); exact HO_400002.out) hb); have n4_ := Aside0.mk (Kd.V_below (by (with_reducible repeat (first | apply Kd.V_alloc | apply Kd.V_drewN | apply Kd.V_drew)); exact HO_401001.out) hb); have n5_ := Aside0.mk (Kd.V_below (by (with_reducible repeat (first | apply Kd.V_alloc | apply Kd.V_drewN | apply Kd.V_drew)); exact HO_401002.out) hb); have n6_ := Aside0.mk (blk_below (g := gb390) (o := .cells #[.int .u32 a0_0, .slice A0_1 l0_1.length c0_1, .string a0_2, .slice A0_3 l0_3.length c0_3, .slice A0_4 l0_4.length c0_4] 29 (0, 0)) (by (with_reducible repeat (first | refine blk_drewN ?_ _ | refine blk_drew ?_ | refine blk_alloc ?_ _)); exact BK390.out) hb); have n7_ := Aside0.mk (blk_below (g := gb399) (o := .cells #[.string t391, .slice Ao11 t392.length co11, .slice Ao12 t395.length co12] 27 (0, 0)) (by (with_reducible repeat (first | refine blk_drewN ?_ _ | refine blk_drew ?_ | refine blk_alloc ?_ _)); exact BK399.out) hb); have n8_ := Aside0.mk (blk_below (g := gb400) (o := .cells #[.string x401000_1, .slice Ao56 x401001_1.length co56, .slice Ao57 x401002_1.length co57] 27 (0, 0)) (by (with_reducible repeat (first | refine blk_drewN ?_ _ | refine blk_drew ?_ | refine blk_alloc ?_ _)); exact BK400.out) hb); have n9_ := Aside0.mk (below_step (by repeat (first | (with_reducible first | exact HB.out | apply below_alloc | apply pw_below_drewN | apply below_drew1 | refine below_set ?_ GE390.out | refine below_set ?_ GE399.out | refine below_set ?_ GE400.out) | exact HB.out)) hb); clear HO_391003; clear HO_391004; clear HO_400001; clear HO_400002; clear HO_401001; clear HO_401002; clear BK390; clear BK399; clear BK400; clear HB; have HO_391003 := n0_; have HO_391004 := n1_; have HO_400001 := n2_; have HO_400002 := n3_; have HO_401001 := n4_; have HO_401002 := n5_; have BK390 := n6_; have BK399 := n7_; have BK400 := n8_; have HB := n9_; clear n0_ n1_ n2_ n3_ n4_ n5_ n6_ n7_ n8_ n9_; (try clear hb); (try clear hb2); (try clear hk); (try clear hi)))
                      have n0_ := Aside0.mk (Kd.V_drew HO_391003.out)
                      have n1_ := Aside0.mk (Kd.V_drew HO_391004.out)
                      have n2_ := Aside0.mk (Kd.S_drew HO_400001.out)
                      have n3_ := Aside0.mk (Kd.R_drew HO_400002.out)
                      have n4_ := Aside0.mk (Kd.V_drew HO_401001.out)
                      have n5_ := Aside0.mk (Kd.V_drew HO_401002.out)
                      have n6_ := Aside0.mk (blk_drew BK390.out)
                      have n7_ := Aside0.mk (blk_drew BK399.out)
                      have n8_ := Aside0.mk (blk_drew BK400.out)
                      have n9_ := Aside0.mk (below_drew1 HB.out)
                      clear HO_391003
                      clear HO_391004
                      clear HO_400001
                      clear HO_400002
                      clear HO_401001
                      clear HO_401002
                      clear BK390
                      clear BK399
                      clear BK400
                      clear HB
                      have HO_391003 := n0_
                      have HO_391004 := n1_
                      have HO_400001 := n2_
                      have HO_400002 := n3_
                      have HO_401001 := n4_
                      have HO_401002 := n5_
                      have BK390 := n6_
                      have BK399 := n7_
                      have BK400 := n8_
                      have HB := n9_
                      clear n0_ n1_ n2_ n3_ n4_ n5_ n6_ n7_ n8_ n9_
                      have p405 : 0 ≤ (x10_1 : Int) := of_decide_eq_true (by first | (with_reducible assumption) | assumption)
                      have q405 : x10_1 < (l1.length : Int) := of_decide_eq_true (by first | (with_reducible assumption) | assumption)
                      obtain ⟨ad405, e405, hx405_0⟩ := Kd.at_int HR1.out x10_1 p405 q405
                      have hw405_0 := hx405_0
                      cases e405
                      replace hx405_0 := (HB.out.cell (World.block_lt_of_cell? w _ hx405_0)).trans hx405_0
                      replace p405 := eq_true p405
                      replace q405 := eq_true q405
                      have p406 : 0 ≤ ((rd l1 x10_1) : Int) := of_decide_eq_true (by first | (with_reducible assumption) | assumption)
                      have q406 : (rd l1 x10_1) < (x401002_1.length : Int) := of_decide_eq_true (by first | (with_reducible assumption) | assumption)
                      obtain ⟨ad406, A406_1, c406_1, A406_2, c406_2, e406, hx406_0, hx406_1, hx406_2, hl406_1, hi406_1, hl406_2, hi406_2⟩ := at_T27 (Kd.V_reads' HO_401002.out).2.2 (rd l1 x10_1) p406 q406
                      cases e406
                      obtain ⟨ce406, hce406, hMe406, hcc406⟩ := Kd.V_get HO_401002.out z27 (rd l1 x10_1) p406 (by first | exact q406 | exact of_decide_eq_true (by first | (with_reducible assumption) | assumption) | (have e_ := (Kd.V_reads' HO_401002.out).1; omega))
                      obtain ⟨ua406_1, uc406_1, ua406_2, uc406_2, rfl, ul406_1, ge406_1, ul406_2, ge406_2⟩ := k27_openF hMe406
                      have hv406_1 := hcc406 1 _ rfl
                      rw [add_field _ _ 1 (by omega)] at hv406_1
                      replace hv406_1 := Option.some.inj (hv406_1.symm.trans hx406_1)
                      injection hv406_1 with hva_ hvn_ hvc_
                      rw [hva_] at ge406_1
                      rw [hvc_] at ul406_1
                      have HL406_1 := Aside0.mk (show Kd.V k158 158 _ w.heap.size _ _ ((rd_T27 x401002_1 (rd l1 x10_1)).f1) from Kd.V_mk ul406_1 ge406_1)
                      clear hva_ hvn_ hvc_ ge406_1 ul406_1
                      have hv406_2 := hcc406 2 _ rfl
                      rw [add_field _ _ 2 (by omega)] at hv406_2
                      replace hv406_2 := Option.some.inj (hv406_2.symm.trans hx406_2)
                      injection hv406_2 with hva_ hvn_ hvc_
                      rw [hva_] at ge406_2
                      rw [hvc_] at ul406_2
                      have HL406_2 := Aside0.mk (show Kd.V k27 27 _ w.heap.size _ _ ((rd_T27 x401002_1 (rd l1 x10_1)).f2) from Kd.V_mk ul406_2 ge406_2)
                      clear hva_ hvn_ hvc_ ge406_2 ul406_2
                      clear hcc406 hce406
                      have HR406_1 := Aside0.mk hi406_1
                      have HC406_1 := Aside0.mk hl406_1
                      clear hi406_1 hl406_1
                      have HR406_2 := Aside0.mk hi406_2
                      have HC406_2 := Aside0.mk hl406_2
                      clear hi406_2 hl406_2
                      replace p406 := eq_true p406
                      replace q406 := eq_true q406
                      refine start_ (n := 9) (S := fun w' => w'.cell? ⟨gb400, 0, none⟩ = some (.string x401000_1) ∧ w'.cell? ⟨gb400, 1, none⟩ = some (.slice Ao56 x401001_1.length co56) ∧ w'.cell? ⟨gb400, 2, none⟩ = some (.slice (some ad406) x401002_1.length co57) ∧ w'.cell? (ad405.add (x10_1).toNat) = some (.int .i64 (rd l1 x10_1)) ∧ w'.cell? (ad406.add (((rd l1 x10_1)).toNat * 3)) = some (.string ((rd_T27 x401002_1 (rd l1 x10_1)).f0)) ∧ w'.cell? ⟨(ad406.add (((rd l1 x10_1)).toNat * 3)).block, (ad406.add (((rd l1 x10_1)).toNat * 3)).off + 1, none⟩ = some (.slice A406_1 ((rd_T27 x401002_1 (rd l1 x10_1)).f1).length c406_1) ∧ w'.cell? ⟨(ad406.add (((rd l1 x10_1)).toNat * 3)).block, (ad406.add (((rd l1 x10_1)).toNat * 3)).off + 2, none⟩ = some (.slice A406_2 ((rd_T27 x401002_1 (rd l1 x10_1)).f2).length c406_2)) (ds := [8]) #[false, false, false, false, false, false, false, false, false] (by kernel_rfl) rfl rfl ⟨(blk_cell BK400.out 0).trans rfl, (blk_cell BK400.out 1).trans rfl, (blk_cell BK400.out 2).trans rfl, ((HB.out.cell (World.block_lt_of_cell? w _ hw405_0)).trans hw405_0), hx406_0, hx406_1, hx406_2⟩ (fun hHeld => ?_); refine with_tabW valid_Enabled.tab13 valid_Enabled.bits13 (fun HT_ HW_ => ?_)
                      generalize w58.drew = w59 at HO_391003 HO_391004 HO_400001 HO_400002 HO_401001 HO_401002 BK390 BK399 BK400 HB HL406_1 HL406_2 HR406_1 HR406_2 hx405_0 hx406_0 hx406_1 hx406_2 hHeld ⊢
                      refine pure_ (i := 0) (N := some 43) (v := ?_) (a' := ?_) #[true, false, false, false, false, false, false, false, false] rfl rfl (any_of HT_.out (by kernel_rfl)) (fun _ _ _ h => h) (Or.inl ⟨by rfl, ?_⟩) ?_ ?_
                      rotate_left
                      · intro w'
                        go_simp
                        with_reducible rfl
                      rotate_left
                      · simp only [Act.put, List.setIfInBounds_toArray, List.set_cons_zero, List.set_cons_succ, i64_w, i32_w]
                        rfl
                      refine pure_ (i := 2) (N := some 45) (v := ?_) (a' := ?_) #[true, false, true, false, false, false, false, false, false] rfl rfl (any_of HT_.out (by kernel_rfl)) (fun _ _ _ h => h) (Or.inl ⟨by rfl, ?_⟩) ?_ ?_
                      rotate_left
                      · intro w'
                        go_simp
                        with_reducible rfl
                      rotate_left
                      · simp only [Act.put, List.setIfInBounds_toArray, List.set_cons_zero, List.set_cons_succ, i64_w, i32_w]
                        rfl
                      refine pure_ (i := 3) (N := some 46) (v := ?_) (a' := ?_) #[true, false, true, true, false, false, false, false, false] rfl rfl (any_of HT_.out (by kernel_rfl)) (fun _ _ _ h => h) (Or.inl ⟨by rfl, ?_⟩) ?_ ?_
                      rotate_left
                      · intro w'
                        go_simp
                        with_reducible rfl
                      rotate_left
                      · simp only [Act.put, List.setIfInBounds_toArray, List.set_cons_zero, List.set_cons_succ, i64_w, i32_w]
                        rfl
                      refine pure_ (i := 4) (N := some 47) (v := ?_) (a' := ?_) #[true, false, true, true, true, false, false, false, false] rfl rfl (any_of HT_.out (by kernel_rfl)) (fun _ _ _ h => h) (Or.inl ⟨by rfl, ?_⟩) ?_ ?_
                      rotate_left
                      · intro w'
                        go_simp
                        with_reducible rfl
                      rotate_left
                      · simp only [Act.put, List.setIfInBounds_toArray, List.set_cons_zero, List.set_cons_succ, i64_w, i32_w]
                        rfl
                      refine take_ (i := 1) (N := some 44) (v := ?_) (a' := ?_) #[true, true, true, true, true, false, false, false, false] rfl rfl (take_ofW HT_.out HW_.out (by kernel_rfl)) (fun _ _ _ h => h) (Or.inl ⟨by rfl, ?_⟩) hHeld ?_ ?_
                      rotate_left
                      · rintro w' ⟨s0, s1, s2, s3, s4, s5, s6⟩
                        go_simp
                        with_reducible rfl
                      rotate_left
                      · simp only [Act.put, List.setIfInBounds_toArray, List.set_cons_zero, List.set_cons_succ, i64_w, i32_w]
                        rfl
                      refine take_ (i := 5) (N := some 48) (v := ?_) (a' := ?_) #[true, true, true, true, true, true, false, false, false] rfl rfl (take_ofW HT_.out HW_.out (by kernel_rfl)) (fun _ _ _ h => h) (Or.inl ⟨by rfl, ?_⟩) hHeld ?_ ?_
                      rotate_left
                      · rintro w' ⟨s0, s1, s2, s3, s4, s5, s6⟩
                        go_simp
                        with_reducible rfl
                      rotate_left
                      · simp only [Act.put, List.setIfInBounds_toArray, List.set_cons_zero, List.set_cons_succ, i64_w, i32_w]
                        rfl
                      refine pure_ (i := 6) (N := some 49) (v := ?_) (a' := ?_) #[true, true, true, true, true, true, true, false, false] rfl rfl (any_of HT_.out (by kernel_rfl)) (fun _ _ _ h => h) (Or.inl ⟨by rfl, ?_⟩) ?_ ?_
                      rotate_left
                      · intro w'
                        go_simp
                        with_reducible rfl
                      rotate_left
                      · simp only [Act.put, List.setIfInBounds_toArray, List.set_cons_zero, List.set_cons_succ, i64_w, i32_w]
                        rfl
                      refine take_ (i := 7) (N := some 50) (v := ?_) (a' := ?_) #[true, true, true, true, true, true, true, true, false] rfl rfl (take_ofW HT_.out HW_.out (by kernel_rfl)) (fun _ _ _ h => h) (Or.inl ⟨by rfl, ?_⟩) hHeld ?_ ?_
                      rotate_left
                      · rintro w' ⟨s0, s1, s2, s3, s4, s5, s6⟩
                        go_simp
                        with_reducible rfl
                      rotate_left
                      · simp only [Act.put, List.setIfInBounds_toArray, List.set_cons_zero, List.set_cons_succ, i64_w, i32_w]
                        rfl
                      refine last_ (i := 8) (N := none) #[true, true, true, true, true, true, true, true, true] rfl rfl (one_of HT_.out (by kernel_rfl)) (by decide) (fun K hK => ?_)
                      have hs60 : w59.cell? ⟨gb400, 0, none⟩ = some (.string x401000_1) := (blk_cell BK400.out 0).trans rfl
                      have hfs60 := blk_frozen BK400.out 0
                      have hns60_0 := NB390_400.out
                      have hns60_1 := NB399_400.out
                      have hms60_0 := NB400_390.out
                      have hms60_1 := NB400_399.out
                      have hs61 : w59.cell? ⟨gb400, 1, none⟩ = some (.slice Ao56 x401001_1.length co56) := (blk_cell BK400.out 1).trans rfl
                      have hfs61 := blk_frozen BK400.out 1
                      have hns61_0 := NB390_400.out
                      have hns61_1 := NB399_400.out
                      have hms61_0 := NB400_390.out
                      have hms61_1 := NB400_399.out
                      have hs62 : w59.cell? ⟨gb400, 2, none⟩ = some (.slice (some ad406) x401002_1.length co57) := (blk_cell BK400.out 2).trans rfl
                      have hfs62 := blk_frozen BK400.out 2
                      have hns62_0 := NB390_400.out
                      have hns62_1 := NB399_400.out
                      have hms62_0 := NB400_390.out
                      have hms62_1 := NB400_399.out
                      refine skip_ (w1 := ?_) (by rfl) rfl ?_ ?_
                      rotate_left
                      · go_simp
                        rfl
                      refine hK.out _ _ ?_
                      clear hK K
                      refine done_ (done_of HT_.out (by kernel_rfl)) ?_
                      try go_wp2
                      go_roundg k1
                      case measure => have := HK1.out; omega
                      case rel => exact ⟨(false), (wrap64 (x10_1 + 1)), ((rd_T27 x401002_1 (rd l1 x10_1)).f0), ((rd_T27 x401002_1 (rd l1 x10_1)).f1), ((rd_T27 x401002_1 (rd l1 x10_1)).f2), (.slice A406_1 ((rd_T27 x401002_1 (rd l1 x10_1)).f1).length c406_1), (.slice A406_2 ((rd_T27 x401002_1 (rd l1 x10_1)).f2).length c406_2), (by first | rfl | (simp; done) | (simp [*]; done)), (by first | rfl | (simp; done) | (simp [*]; done)), H', ⟨by have := HK1.out; omega⟩, ⟨by (with_reducible repeat (first | apply Kd.V_alloc | apply Kd.V_drewN | apply Kd.V_drew)); exact Kd.V_mono (Kd.V_far (p := ⟨gb400, 2, none⟩) (Kd.V_far (p := ⟨gb400, 1, none⟩) (Kd.V_far (p := ⟨gb400, 0, none⟩) (Kd.V_mono HO_391003.out (fun k_ hk => (⟨hk, hk.2.2.2.2.2⟩ : _ ∧ k_ ≠ gb400))) (fun _ hk => hk.2) (.string ((rd_T27 x401002_1 (rd l1 x10_1)).f0))) (fun _ hk => hk.2) (.slice A406_1 ((rd_T27 x401002_1 (rd l1 x10_1)).f1).length c406_1)) (fun _ hk => hk.2) (.slice A406_2 ((rd_T27 x401002_1 (rd l1 x10_1)).f2).length c406_2)) (fun _ hk => ⟨hk.1.1, ⟨hk.1.2.1, ⟨hk.1.2.2.1, ⟨hk.1.2.2.2.1, ⟨hk.1.2.2.2.2.1, hk.1.2.2.2.2.2⟩⟩⟩⟩⟩)⟩, ⟨by (with_reducible repeat (first | apply Kd.V_alloc | apply Kd.V_drewN | apply Kd.V_drew)); exact Kd.V_mono (Kd.V_far (p := ⟨gb400, 2, none⟩) (Kd.V_far (p := ⟨gb400, 1, none⟩) (Kd.V_far (p := ⟨gb400, 0, none⟩) (Kd.V_mono HO_391004.out (fun k_ hk => (⟨hk, hk.2.2.2.2.2⟩ : _ ∧ k_ ≠ gb400))) (fun _ hk => hk.2) (.string ((rd_T27 x401002_1 (rd l1 x10_1)).f0))) (fun _ hk => hk.2) (.slice A406_1 ((rd_T27 x401002_1 (rd l1 x10_1)).f1).length c406_1)) (fun _ hk => hk.2) (.slice A406_2 ((rd_T27 x401002_1 (rd l1 x10_1)).f2).length c406_2)) (fun _ hk => ⟨hk.1.1, ⟨hk.1.2.1, ⟨hk.1.2.2.1, ⟨hk.1.2.2.2.1, ⟨hk.1.2.2.2.2.1, hk.1.2.2.2.2.2⟩⟩⟩⟩⟩)⟩, ⟨by (with_reducible repeat (first | apply Kd.S_alloc | apply Kd.S_drewN | apply Kd.S_drew)); exact Kd.S_mono (Kd.S_far (p := ⟨gb400, 2, none⟩) (Kd.S_far (p := ⟨gb400, 1, none⟩) (Kd.S_far (p := ⟨gb400, 0, none⟩) (Kd.S_types HO_400001.out BK400.out (by decide)) (fun _ hk => hk.2) (.string ((rd_T27 x401002_1 (rd l1 x10_1)).f0))) (fun _ hk => hk.2) (.slice A406_1 ((rd_T27 x401002_1 (rd l1 x10_1)).f1).length c406_1)) (fun _ hk => hk.2) (.slice A406_2 ((rd_T27 x401002_1 (rd l1 x10_1)).f2).length c406_2)) (fun _ hk => hk.1)⟩, ⟨by (with_reducible repeat (first | apply Kd.R_alloc | apply Kd.R_drewN | apply Kd.R_drew)); exact Kd.R_mono (Kd.R_far (p := ⟨gb400, 2, none⟩) (Kd.R_far (p := ⟨gb400, 1, none⟩) (Kd.R_far (p := ⟨gb400, 0, none⟩) (Kd.R_mono HO_400002.out (fun k_ hk => (⟨hk, hk.2.2.2⟩ : _ ∧ k_ ≠ gb400))) (fun _ hk => hk.2) (.string ((rd_T27 x401002_1 (rd l1 x10_1)).f0))) (fun _ hk => hk.2) (.slice A406_1 ((rd_T27 x401002_1 (rd l1 x10_1)).f1).length c406_1)) (fun _ hk => hk.2) (.slice A406_2 ((rd_T27 x401002_1 (rd l1 x10_1)).f2).length c406_2)) (fun _ hk => ⟨hk.1.1, ⟨hk.1.2.1, ⟨hk.1.2.2.1, hk.1.2.2.2⟩⟩⟩)⟩, ⟨by (with_reducible repeat (first | apply Kd.V_alloc | apply Kd.V_drewN | apply Kd.V_drew)); exact Kd.V_mono (Kd.V_far (p := ⟨gb400, 2, none⟩) (Kd.V_far (p := ⟨gb400, 1, none⟩) (Kd.V_far (p := ⟨gb400, 0, none⟩) (Kd.V_mono HL406_1.out (fun k_ hk => (⟨hk, hk.2.2.2.2.2⟩ : _ ∧ k_ ≠ gb400))) (fun _ hk => hk.2) (.string ((rd_T27 x401002_1 (rd l1 x10_1)).f0))) (fun _ hk => hk.2) (.slice A406_1 ((rd_T27 x401002_1 (rd l1 x10_1)).f1).length c406_1)) (fun _ hk => hk.2) (.slice A406_2 ((rd_T27 x401002_1 (rd l1 x10_1)).f2).length c406_2)) (fun _ hk => ⟨hk.1.1, ⟨hk.1.2.1, ⟨hk.1.2.2.1, ⟨hk.1.2.2.2.1, ⟨hk.1.2.2.2.2.1, hk.1.2.2.2.2.2⟩⟩⟩⟩⟩)⟩, ⟨by (with_reducible repeat (first | apply Kd.V_alloc | apply Kd.V_drewN | apply Kd.V_drew)); exact Kd.V_mono (Kd.V_far (p := ⟨gb400, 2, none⟩) (Kd.V_far (p := ⟨gb400, 1, none⟩) (Kd.V_far (p := ⟨gb400, 0, none⟩) (Kd.V_mono HL406_2.out (fun k_ hk => (⟨hk, hk.2.2.2.2.2⟩ : _ ∧ k_ ≠ gb400))) (fun _ hk => hk.2) (.string ((rd_T27 x401002_1 (rd l1 x10_1)).f0))) (fun _ hk => hk.2) (.slice A406_1 ((rd_T27 x401002_1 (rd l1 x10_1)).f1).length c406_1)) (fun _ hk => hk.2) (.slice A406_2 ((rd_T27 x401002_1 (rd l1 x10_1)).f2).length c406_2)) (fun _ hk => ⟨hk.1.1, ⟨hk.1.2.1, ⟨hk.1.2.2.1, ⟨hk.1.2.2.2.1, ⟨hk.1.2.2.2.2.1, hk.1.2.2.2.2.2⟩⟩⟩⟩⟩)⟩, ⟨by (with_reducible repeat (first | refine blk_drewN ?_ _ | refine blk_drew ?_ | refine blk_alloc ?_ _)); refine blk_far ?_ NB390_400.out _; (with_reducible repeat (first | refine blk_drewN ?_ _ | refine blk_drew ?_ | refine blk_alloc ?_ _)); refine blk_far ?_ NB390_400.out _; (with_reducible repeat (first | refine blk_drewN ?_ _ | refine blk_drew ?_ | refine blk_alloc ?_ _)); refine blk_far ?_ NB390_400.out _; (with_reducible repeat (first | refine blk_drewN ?_ _ | refine blk_drew ?_ | refine blk_alloc ?_ _)); exact BK390.out⟩, ⟨by (with_reducible repeat (first | refine blk_drewN ?_ _ | refine blk_drew ?_ | refine blk_alloc ?_ _)); refine blk_far ?_ NB399_400.out _; (with_reducible repeat (first | refine blk_drewN ?_ _ | refine blk_drew ?_ | refine blk_alloc ?_ _)); refine blk_far ?_ NB399_400.out _; (with_reducible repeat (first | refine blk_drewN ?_ _ | refine blk_drew ?_ | refine blk_alloc ?_ _)); refine blk_far ?_ NB399_400.out _; (with_reducible repeat (first | refine blk_drewN ?_ _ | refine blk_drew ?_ | refine blk_alloc ?_ _)); exact BK399.out⟩, ⟨by (with_reducible repeat (first | refine blk_drewN ?_ _ | refine blk_drew ?_ | refine blk_alloc ?_ _)); refine blk_put (cs := #[.string ((rd_T27 x401002_1 (rd l1 x10_1)).f0), .slice A406_1 ((rd_T27 x401002_1 (rd l1 x10_1)).f1).length c406_1, .slice (some ad406) x401002_1.length co57]) ?_ 2 _ rfl; (with_reducible repeat (first | refine blk_drewN ?_ _ | refine blk_drew ?_ | refine blk_alloc ?_ _)); refine blk_put (cs := #[.string ((rd_T27 x401002_1 (rd l1 x10_1)).f0), .slice Ao56 x401001_1.length co56, .slice (some ad406) x401002_1.length co57]) ?_ 1 _ rfl; (with_reducible repeat (first | refine blk_drewN ?_ _ | refine blk_drew ?_ | refine blk_alloc ?_ _)); refine blk_put (cs := #[.string x401000_1, .slice Ao56 x401001_1.length co56, .slice (some ad406) x401002_1.length co57]) ?_ 0 _ rfl; (with_reducible repeat (first | refine blk_drewN ?_ _ | refine blk_drew ?_ | refine blk_alloc ?_ _)); exact BK400.out⟩, ⟨by repeat (first | (with_reducible first | exact HB.out | apply below_alloc | apply pw_below_drewN | apply below_drew1 | refine below_set ?_ GE390.out | refine below_set ?_ GE399.out | refine below_set ?_ GE400.out) | exact HB.out)⟩⟩
                    · rw [if_neg c52] at H
                      exact absurd H (by simp)
                  · rw [if_neg c51] at H
                    exact absurd H (by simp)
                · rw [if_neg c50] at H
                  exact absurd H (by simp)
              · rw [if_neg c49] at H
                exact absurd H (by simp)
        · rw [if_neg c19] at H
          have c19b0 : (t402 == 0) = false := beq_eq_false_iff_ne.mpr c19
          have c19b1 : (t402 != 0) = true := bne_iff_ne.mpr c19
          simp only [Option.some.injEq, Prod.mk.injEq] at H
          obtain ⟨rfl, rfl⟩ := H
          have hnb63 := NB400_390.out
          have hnc63 := NB390_400.out
          have hnb64 := NB400_399.out
          have hnc64 := NB399_400.out
          have hcz65_0 : wr.cell? ⟨gb400, 0, none⟩ = some (.string x401000_1) := (blk_cell BK400.out 0).trans rfl
          have hcz65_1 : wr.cell? ⟨gb400, 1, none⟩ = some (u401001) := (blk_cell BK400.out 1).trans rfl
          have hcz65_2 : wr.cell? ⟨gb400, 2, none⟩ = some (u401002) := (blk_cell BK400.out 2).trans rfl
          have hfz65_0 := blk_frozen BK400.out 0
          have hfz65_1 := blk_frozen BK400.out 1
          have hfz65_2 := blk_frozen BK400.out 2
          obtain ⟨Ao66, co66, eo66⟩ := Kd.V_slice HO_401001.out
          subst eo66
          obtain ⟨Ao67, co67, eo67⟩ := Kd.V_slice HO_401002.out
          subst eo67
          go_wp2_with (first | ((with_reducible refine gate_callee (f := 81) rfl ?_); refine goesL_ (some 28) rfl rfl Tryz.func81 (by kernel_rfl) rfl #[.agg #[.string x401000_1, .slice Ao66 x401001_1.length co66, .slice Ao67 x401002_1.length co67]] rfl (by (try simp only [List.map_toArray, List.map_cons, List.map_nil]); first | done | rfl | (simp only [List.length_drop, List.length_take]; rfl)) ?_; (with_reducible refine (valid_status.calls k1 x401000_1 _ _ x401001_1 _ _ x401002_1 t401 t402 _ ?side1 ?side2 ?side3 ?side4 A18.out).mono ?_); (case side1 => repeat (first | exact (Kd.V_reads' HO_401001.out).2.2 | (with_reducible refine Kd.C_alloc ?_ _) | (with_reducible refine Kd.C_drewN ?_ _) | (with_reducible refine Kd.C_drew ?_))); (case side2 => exact (Kd.V_reads' HO_401001.out).2.1); (case side3 => repeat (first | exact (Kd.V_reads' HO_401002.out).2.2 | (with_reducible refine Kd.C_alloc ?_ _) | (with_reducible refine Kd.C_drewN ?_ _) | (with_reducible refine Kd.C_drew ?_))); (case side4 => exact (Kd.V_reads' HO_401002.out).2.1); rintro e w68 ⟨rfl, hb⟩; refine ⟨_, rfl, ?_⟩; have n0_ := Aside0.mk (Kd.V_below (by (with_reducible repeat (first | apply Kd.V_alloc | apply Kd.V_drewN | apply Kd.V_drew)); exact HO_391003.out) hb); have n1_ := Aside0.mk (Kd.V_below (by (with_reducible repeat (first | apply Kd.V_alloc | apply Kd.V_drewN | apply Kd.V_drew)); exact HO_391004.out) hb); have n2_ := Aside0.mk (Kd.S_below (by (with_reducible repeat (first | apply Kd.S_alloc | apply Kd.S_drewN | apply Kd.S_drew)); exact HO_400001.out) hb); have n3_ := Aside0.mk (Kd.R_below (by (with_reducible repeat (first | apply Kd.R_alloc | apply Kd.R_drewN | apply Kd.R_drew)); exact HO_400002.out) hb); have n4_ := Aside0.mk (Kd.V_below (by (with_reducible repeat (first | apply Kd.V_alloc | apply Kd.V_drewN | apply Kd.V_drew)); exact HO_401001.out) hb); have n5_ := Aside0.mk (Kd.V_below (by (with_reducible repeat (first | apply Kd.V_alloc | apply Kd.V_drewN | apply Kd.V_drew)); exact HO_401002.out) hb); have n6_ := Aside0.mk (blk_below (g := gb390) (o := .cells #[.int .u32 a0_0, .slice A0_1 l0_1.length c0_1, .string a0_2, .slice A0_3 l0_3.length c0_3, .slice A0_4 l0_4.length c0_4] 29 (0, 0)) (by (with_reducible repeat (first | refine blk_drewN ?_ _ | refine blk_drew ?_ | refine blk_alloc ?_ _)); exact BK390.out) hb); have n7_ := Aside0.mk (blk_below (g := gb399) (o := .cells #[.string t391, .slice Ao11 t392.length co11, .slice Ao12 t395.length co12] 27 (0, 0)) (by (with_reducible repeat (first | refine blk_drewN ?_ _ | refine blk_drew ?_ | refine blk_alloc ?_ _)); exact BK399.out) hb); have n8_ := Aside0.mk (blk_below (g := gb400) (o := .cells #[.string x401000_1, .slice Ao66 x401001_1.length co66, .slice Ao67 x401002_1.length co67] 27 (0, 0)) (by (with_reducible repeat (first | refine blk_drewN ?_ _ | refine blk_drew ?_ | refine blk_alloc ?_ _)); exact BK400.out) hb); have n9_ := Aside0.mk (below_step (by repeat (first | (with_reducible first | exact HB.out | apply below_alloc | apply pw_below_drewN | apply below_drew1 | refine below_set ?_ GE390.out | refine below_set ?_ GE399.out | refine below_set ?_ GE400.out) | exact HB.out)) hb); clear HO_391003; clear HO_391004; clear HO_400001; clear HO_400002; clear HO_401001; clear HO_401002; clear BK390; clear BK399; clear BK400; clear HB; have HO_391003 := n0_; have HO_391004 := n1_; have HO_400001 := n2_; have HO_400002 := n3_; have HO_401001 := n4_; have HO_401002 := n5_; have BK390 := n6_; have BK399 := n7_; have BK400 := n8_; have HB := n9_; clear n0_ n1_ n2_ n3_ n4_ n5_ n6_ n7_ n8_ n9_; (try clear hb); (try clear hb2); (try clear hk); (try clear hi)))
          go_ret2
          exact ⟨by first | rfl | (simp [errW_none, errW_some] <;> rfl) | (simp [*, errW_none, errW_some] <;> rfl), by repeat (first | (with_reducible first | exact HB.out | apply below_alloc | apply pw_below_drewN | apply below_drew1 | refine below_set ?_ GE390.out | refine below_set ?_ GE399.out | refine below_set ?_ GE400.out) | exact HB.out)⟩
  · rw [if_neg c4] at H
    have c4b0 : (t398 == 0) = false := beq_eq_false_iff_ne.mpr c4
    have c4b1 : (t398 != 0) = true := bne_iff_ne.mpr c4
    simp only [Option.some.injEq, Prod.mk.injEq] at H
    obtain ⟨rfl, rfl⟩ := H
    go_enter Tryz.func82, Tryz.ntmps82
    go_wp2_with (first | ((with_reducible refine gate_dst (N := 2) rfl ?_); refine box_event ?hg (N := 2) ?hd (cs := #[.int .u32 a0_0, .slice A0_1 l0_1.length c0_1, .string a0_2, .slice A0_3 l0_3.length c0_3, .slice A0_4 l0_4.length c0_4]) (t := 29) ?hr ?_; (case hd => rfl); (case hg => rfl); (case hr => first | (go_simp; done) | (go_simp; rfl)); intro gb390 hg w69 hbox hb; have n0_ := Aside0.mk (Kd.V_below (Kd.V_elderB (by (with_reducible repeat (first | apply Kd.V_alloc | apply Kd.V_drewN | apply Kd.V_drew)); exact HO0_3.out) gb390 (Nat.le_of_eq hg.symm)) hb); have n1_ := Aside0.mk (Kd.V_below (Kd.V_elderB (by (with_reducible repeat (first | apply Kd.V_alloc | apply Kd.V_drewN | apply Kd.V_drew)); exact HO0_4.out) gb390 (Nat.le_of_eq hg.symm)) hb); have n2_ := Aside0.mk (below_step (by repeat (first | (with_reducible first | exact HB.out | apply below_alloc | apply pw_below_drewN | apply below_drew1) | exact HB.out)) hb); have n3_ := Aside0.mk (hbox); have n4_ := Aside0.mk ((by rw [hg]; exact (below_size (by repeat (first | (with_reducible first | exact HB.out | apply below_alloc | apply pw_below_drewN | apply below_drew1) | exact HB.out))) : w.heap.size ≤ gb390)); have n5_ := Aside0.mk ((by rw [hg]; exact (below_size (by repeat (first | (with_reducible first | exact HB.out | apply below_alloc | apply pw_below_drewN | apply below_drew1) | exact HB.out))) : w.heap.size ≤ gb390)); clear HO0_3; clear HO0_4; clear HB; have HO0_3 := n0_; have HO0_4 := n1_; have HB := n2_; have BK390 := n3_; have GW390 := n4_; have GE390 := n5_; clear n0_ n1_ n2_ n3_ n4_ n5_; clear hb hbox hg; have hcz70_0 : w69.cell? ⟨gb390, 0, none⟩ = some (.int .u32 a0_0) := (blk_cell BK390.out 0).trans rfl; have hcz70_1 : w69.cell? ⟨gb390, 1, none⟩ = some (.slice A0_1 l0_1.length c0_1) := (blk_cell BK390.out 1).trans rfl; have hcz70_2 : w69.cell? ⟨gb390, 2, none⟩ = some (.string a0_2) := (blk_cell BK390.out 2).trans rfl; have hcz70_3 : w69.cell? ⟨gb390, 3, none⟩ = some (.slice A0_3 l0_3.length c0_3) := (blk_cell BK390.out 3).trans rfl; have hcz70_4 : w69.cell? ⟨gb390, 4, none⟩ = some (.slice A0_4 l0_4.length c0_4) := (blk_cell BK390.out 4).trans rfl; have hfz70_0 := blk_frozen BK390.out 0; have hfz70_1 := blk_frozen BK390.out 1; have hfz70_2 := blk_frozen BK390.out 2; have hfz70_3 := blk_frozen BK390.out 3; have hfz70_4 := blk_frozen BK390.out 4) | ((with_reducible refine gate_callee (f := 80) rfl ?_); refine goesL_ (some 16) rfl rfl Tryz.func80 (by kernel_rfl) rfl #[.agg #[.int .u32 a0_0, .slice A0_1 l0_1.length c0_1, .string a0_2, .slice A0_3 l0_3.length c0_3, .slice A0_4 l0_4.length c0_4], .slice A1 l1.length c1] rfl (by (try simp only [List.map_toArray, List.map_cons, List.map_nil]); first | done | rfl | (simp only [List.length_drop, List.length_take]; rfl)) ?_; (with_reducible refine (path_Get.calls k a0_0 _ _ l0_1 a0_2 (fun k_ => (((P0_3_ k_ ∨ P0_4_ k_) ∨ w.heap.size ≤ k_) ∧ k_ ≠ gb390)) _ _ l0_3 (fun k_ => (((P0_3_ k_ ∨ P0_4_ k_) ∨ w.heap.size ≤ k_) ∧ k_ ≠ gb390)) _ _ l0_4 _ _ l1 t391 t392 t395 t398 _ ?side1 ?side2 ?side3 ?side4 ?side5 ?side6 A3.out).mono ?_); (case side1 => repeat (first | exact (Kd.C_below HR0_1.out HB.out) | (with_reducible refine Kd.C_alloc ?_ _) | (with_reducible refine Kd.C_drewN ?_ _) | (with_reducible refine Kd.C_drew ?_))); (case side2 => exact HC0_1.out); (case side3 => exact HO0_3.out); (case side4 => exact HO0_4.out); (case side5 => repeat (first | exact (Kd.C_below HR1.out HB.out) | (with_reducible refine Kd.C_alloc ?_ _) | (with_reducible refine Kd.C_drewN ?_ _) | (with_reducible refine Kd.C_drew ?_))); (case side6 => exact HC1.out); rintro e w71 ⟨v393, v396, rfl, ho0, ho1, hb⟩; refine ⟨_, rfl, ?_⟩; have n0_ := Aside0.mk (Kd.V_mono (Kd.V_told (Kd.V_told (Kd.V_old (by (with_reducible repeat (first | apply Kd.V_alloc | apply Kd.V_drewN | apply Kd.V_drew)); exact HO0_3.out) hb) (Kd.S_base ho0)) (Kd.R_base ho1)) (fun _ h_ => h_.1)); have n1_ := Aside0.mk (Kd.V_mono (Kd.V_told (Kd.V_told (Kd.V_old (by (with_reducible repeat (first | apply Kd.V_alloc | apply Kd.V_drewN | apply Kd.V_drew)); exact HO0_4.out) hb) (Kd.S_base ho0)) (Kd.R_base ho1)) (fun _ h_ => h_.1)); have n2_ := Aside0.mk (Kd.S_lower (Kd.S_newM (M := fun k_ => (w.heap.size ≤ k_)) (Kd.S_mono (ok' := fun k_ => True) ho0 (fun _ hk_ => trivial)) (below_size (by repeat (first | (with_reducible first | exact HB.out | apply below_alloc | apply pw_below_drewN | apply below_drew1 | refine below_set ?_ GE390.out) | exact HB.out))) (fun k_ h_ => h_)) (below_size (by repeat (first | (with_reducible first | exact HB.out | apply below_alloc | apply pw_below_drewN | apply below_drew1 | refine below_set ?_ GE390.out) | exact HB.out)))); have n3_ := Aside0.mk (Kd.R_lower (Kd.R_newM (M := fun k_ => (w.heap.size ≤ k_)) (Kd.R_mono (ok' := fun k_ => some k_ ≠ (v393 : Value).ownBlock) ho1 (fun _ hk_ => hk_.2)) (below_size (by repeat (first | (with_reducible first | exact HB.out | apply below_alloc | apply pw_below_drewN | apply below_drew1 | refine below_set ?_ GE390.out) | exact HB.out))) (fun k_ h_ => h_)) (below_size (by repeat (first | (with_reducible first | exact HB.out | apply below_alloc | apply pw_below_drewN | apply below_drew1 | refine below_set ?_ GE390.out) | exact HB.out)))); have n4_ := Aside0.mk (blk_below (g := gb390) (o := .cells #[.int .u32 a0_0, .slice A0_1 l0_1.length c0_1, .string a0_2, .slice A0_3 l0_3.length c0_3, .slice A0_4 l0_4.length c0_4] 29 (0, 0)) (by (with_reducible repeat (first | refine blk_drewN ?_ _ | refine blk_drew ?_ | refine blk_alloc ?_ _)); exact BK390.out) hb); have n5_ := Aside0.mk (below_step (by repeat (first | (with_reducible first | exact HB.out | apply below_alloc | apply pw_below_drewN | apply below_drew1 | refine below_set ?_ GE390.out) | exact HB.out)) hb); clear HO0_3; clear HO0_4; clear BK390; clear HB; have HO0_3 := n0_; have HO0_4 := n1_; have HO394 := n2_; have HO397 := n3_; have BK390 := n4_; have HB := n5_; clear n0_ n1_ n2_ n3_ n4_ n5_; (try clear hb); (try clear hb2); (try clear hk); (try clear hi); (try clear ho0); (try clear ho1)) | ((with_reducible refine gate_dst (N := 6) rfl ?_); refine box_event ?hg (N := 6) ?hd (cs := #[.string (⟨#[]⟩ : ByteArray), .slice none 0 0, .slice none 0 0]) (t := 27) ?hr ?_; (case hd => rfl); (case hg => rfl); (case hr => first | (go_simp; done) | (go_simp; rfl)); intro gb399 hg w72 hbox hb; have n0_ := Aside0.mk (Kd.V_below (Kd.V_elderB (by (with_reducible repeat (first | apply Kd.V_alloc | apply Kd.V_drewN | apply Kd.V_drew)); exact HO0_3.out) gb399 (Nat.le_of_eq hg.symm)) hb); have n1_ := Aside0.mk (Kd.V_below (Kd.V_elderB (by (with_reducible repeat (first | apply Kd.V_alloc | apply Kd.V_drewN | apply Kd.V_drew)); exact HO0_4.out) gb399 (Nat.le_of_eq hg.symm)) hb); have n2_ := Aside0.mk (Kd.S_below (by (with_reducible repeat (first | apply Kd.S_alloc | apply Kd.S_drewN | apply Kd.S_drew)); exact HO394.out) hb); have n3_ := Aside0.mk (Kd.R_below (Kd.R_elderB (by (with_reducible repeat (first | apply Kd.R_alloc | apply Kd.R_drewN | apply Kd.R_drew)); exact HO397.out) gb399 (Nat.le_of_eq hg.symm)) hb); have n4_ := Aside0.mk (blk_below (g := gb390) (o := .cells #[.int .u32 a0_0, .slice A0_1 l0_1.length c0_1, .string a0_2, .slice A0_3 l0_3.length c0_3, .slice A0_4 l0_4.length c0_4] 29 (0, 0)) (by (with_reducible repeat (first | refine blk_drewN ?_ _ | refine blk_drew ?_ | refine blk_alloc ?_ _)); exact BK390.out) hb); have n5_ := Aside0.mk (below_step (by repeat (first | (with_reducible first | exact HB.out | apply below_alloc | apply pw_below_drewN | apply below_drew1 | refine below_set ?_ GE390.out) | exact HB.out)) hb); have n6_ := Aside0.mk (hbox); have n7_ := Aside0.mk ((by rw [hg]; exact (below_size (by repeat (first | (with_reducible first | exact HB.out | apply below_alloc | apply pw_below_drewN | apply below_drew1 | refine below_set ?_ GE390.out) | exact HB.out))) : w.heap.size ≤ gb399)); have n8_ := Aside0.mk ((by rw [hg]; exact (below_size (by repeat (first | (with_reducible first | exact HB.out | apply below_alloc | apply pw_below_drewN | apply below_drew1 | refine below_set ?_ GE390.out) | exact HB.out))) : w.heap.size ≤ gb399)); have n9_ := Aside0.mk ((by rw [hg]; exact Nat.ne_of_lt (blk_lt (g := gb390) (o := .cells #[.int .u32 a0_0, .slice A0_1 l0_1.length c0_1, .string a0_2, .slice A0_3 l0_3.length c0_3, .slice A0_4 l0_4.length c0_4] 29 (0, 0)) (by (with_reducible repeat (first | refine blk_drewN ?_ _ | refine blk_drew ?_ | refine blk_alloc ?_ _)); exact BK390.out)) : gb390 ≠ gb399)); have n10_ := Aside0.mk ((by rw [hg]; exact Nat.ne_of_gt (blk_lt (g := gb390) (o := .cells #[.int .u32 a0_0, .slice A0_1 l0_1.length c0_1, .string a0_2, .slice A0_3 l0_3.length c0_3, .slice A0_4 l0_4.length c0_4] 29 (0, 0)) (by (with_reducible repeat (first | refine blk_drewN ?_ _ | refine blk_drew ?_ | refine blk_alloc ?_ _)); exact BK390.out)) : gb399 ≠ gb390)); clear HO0_3; clear HO0_4; clear HO394; clear HO397; clear BK390; clear HB; have HO0_3 := n0_; have HO0_4 := n1_; have HO394 := n2_; have HO397 := n3_; have BK390 := n4_; have HB := n5_; have BK399 := n6_; have GW399 := n7_; have GE399 := n8_; have NB390_399 := n9_; have NB399_390 := n10_; clear n0_ n1_ n2_ n3_ n4_ n5_ n6_ n7_ n8_ n9_ n10_; clear hb hbox hg; have hnb73 := NB399_390.out; have hnc73 := NB390_399.out; have hcz74_0 : w72.cell? ⟨gb399, 0, none⟩ = some (.string (⟨#[]⟩ : ByteArray)) := (blk_cell BK399.out 0).trans rfl; have hcz74_1 : w72.cell? ⟨gb399, 1, none⟩ = some (.slice none 0 0) := (blk_cell BK399.out 1).trans rfl; have hcz74_2 : w72.cell? ⟨gb399, 2, none⟩ = some (.slice none 0 0) := (blk_cell BK399.out 2).trans rfl; have hfz74_0 := blk_frozen BK399.out 0; have hfz74_1 := blk_frozen BK399.out 1; have hfz74_2 := blk_frozen BK399.out 2; obtain ⟨Ao75, co75, eo75⟩ := Kd.S_slice HO394.out; subst eo75; obtain ⟨Ao76, co76, eo76⟩ := Kd.R_slice HO397.out; subst eo76))
    go_ret2
    exact ⟨by first | rfl | (simp [errW_none, errW_some] <;> rfl) | (simp [*, errW_none, errW_some] <;> rfl), by repeat (first | (with_reducible first | exact HB.out | apply below_alloc | apply pw_below_drewN | apply below_drew1 | refine below_set ?_ GE390.out | refine below_set ?_ GE399.out) | exact HB.out)⟩
end Go.Proofs.YtkfcgjopabcbeaaGreatDoor.PV

namespace Go.Proofs.YtkfcgjopabcbeaaGreatDoor.PV
open Go.RowKit Go.Proofs.YtkfcgjopabcbeaaGreatDoorW.PrintWords Go.Proofs.YtkfcgjopabcbeaaGreatDoorW.PrintLast Go.Proofs.YtkfcgjopabcbeaaGreatDoorW.PrintMore
attribute [local go_sem] max2_int min2_int max_two min_two max_three min_three max_four min_four   -- for this text's walks alone
set_option linter.unusedVariables false
set_option linter.unusedSimpArgs false
def path_Path.l0 : Nat → ByteArray → List Int → Int → Int → ByteArray → List (S158) → List (S27) → Option (ByteArray × Int)
  | 0, _, _, _, _, _, _, _ => none
  | k + 1, x9, x26, x27, x28, x373000, x373001, x373002 => if x28 < x27 then (if 0 ≤ x28 then (if x28 < (x26.length : Int) then (if 0 ≤ (rd x26 x28) then (if (rd x26 x28) < (x373002.length : Int) then (if 1 + ((rd_T27 x373002 (rd x26 x28)).f0).size ≤ 9223372036854775807 then (if x9.size + ((⟨#[47]⟩ : ByteArray) ++ ((rd_T27 x373002 (rd x26 x28)).f0)).size ≤ 9223372036854775807 then (path_Path.l0 k (x9 ++ ((⟨#[47]⟩ : ByteArray) ++ ((rd_T27 x373002 (rd x26 x28)).f0))) x26 x27 (wrap64 (x28 + 1)) ((rd_T27 x373002 (rd x26 x28)).f0) ((rd_T27 x373002 (rd x26 x28)).f1) ((rd_T27 x373002 (rd x26 x28)).f2)) else (none)) else (none)) else (none)) else (none)) else (none)) else (none)) else (some (x9, 0))
def path_Path.f (k : Nat) (a0_0 : Int) (l0_1 : List (S76)) (a0_2 : ByteArray) (l0_3 : List (S158)) (l0_4 : List (S27)) (l1 : List Int) : Option (ByteArray × Int) := (path_Get.f k a0_0 l0_1 a0_2 l0_3 l0_4 l1).bind fun bt363 => (if bt363.2.2.2 = 0 then (if (l1.length : Int) = 0 then (some ((⟨#[47]⟩ : ByteArray), 0)) else (path_Path.l0 k (⟨#[]⟩ : ByteArray) l1 (l1.length : Int) 0 a0_2 l0_3 l0_4)) else (some ((⟨#[]⟩ : ByteArray), bt363.2.2.2)))
end Go.Proofs.YtkfcgjopabcbeaaGreatDoor.PV

namespace Go.Proofs.YtkfcgjopabcbeaaGreatDoor.PV
open Go.RowKit Go.Proofs.YtkfcgjopabcbeaaGreatDoorW.PrintWords Go.Proofs.YtkfcgjopabcbeaaGreatDoorW.PrintLast Go.Proofs.YtkfcgjopabcbeaaGreatDoorW.PrintMore
attribute [local go_sem] max2_int min2_int max_two min_two max_three min_three max_four min_four   -- for this text's walks alone
set_option linter.unusedVariables false
set_option linter.unusedSimpArgs false
def region_count.j0 : Nat → Int → Int → Bool → Bool → Option (Int × Int)
  | 0, _, _, _, _ => none
  | k + 1, x2, x8, x9, x18 => if x18 = true then (some (0, 10)) else (if x9 = true then (some (wrap64 (x8), 0)) else (some (x2, 0)))
def region_count.f (k : Nat) (a0_0 : ByteArray) (l0_1 : List (S158)) (l0_2 : List (S27)) (a1 : ByteArray) (a2 : Int) : Option (Int × Int) := (prop_One.f k a0_0 l0_1 l0_2 a1).bind fun bt420 => (if bt420.2.2 = 0 then (region_count.j0 k a2 bt420.1 bt420.2.1 (decide (bt420.1 > 2))) else (region_count.j0 k a2 bt420.1 bt420.2.1 true))
end Go.Proofs.YtkfcgjopabcbeaaGreatDoor.PV

namespace Go.Proofs.YtkfcgjopabcbeaaGreatDoor.PV
open Go.RowKit Go.Proofs.YtkfcgjopabcbeaaGreatDoorW.PrintWords Go.Proofs.YtkfcgjopabcbeaaGreatDoorW.PrintLast Go.Proofs.YtkfcgjopabcbeaaGreatDoorW.PrintMore
attribute [local go_sem] max2_int min2_int max_two min_two max_three min_three max_four min_four   -- for this text's walks alone
set_option linter.unusedVariables false
set_option linter.unusedSimpArgs false
def region_Counts.f (k : Nat) (a0_0 : ByteArray) (l0_1 : List (S158)) (l0_2 : List (S27)) : Option (Int × Int × Int) := (region_count.f k a0_0 l0_1 l0_2 (⟨#[35, 97, 100, 100, 114, 101, 115, 115, 45, 99, 101, 108, 108, 115]⟩ : ByteArray) 2).bind fun bt424 => (if bt424.2 = 0 then ((region_count.f k a0_0 l0_1 l0_2 (⟨#[35, 115, 105, 122, 101, 45, 99, 101, 108, 108, 115]⟩ : ByteArray) 1).bind fun bt426 => (if bt426.2 = 0 then (some (bt424.1, bt426.1, 0)) else (some (0, 0, bt426.2)))) else (some (0, 0, bt424.2)))
end Go.Proofs.YtkfcgjopabcbeaaGreatDoor.PV

namespace Go.Proofs.YtkfcgjopabcbeaaGreatDoor.PV
open Go.RowKit Go.Proofs.YtkfcgjopabcbeaaGreatDoorW.PrintWords Go.Proofs.YtkfcgjopabcbeaaGreatDoorW.PrintLast Go.Proofs.YtkfcgjopabcbeaaGreatDoorW.PrintMore
attribute [local go_sem] max2_int min2_int max_two min_two max_three min_three max_four min_four   -- for this text's walks alone
set_option linter.unusedVariables false
set_option linter.unusedSimpArgs false
def prop_Cells.l0 : Nat → List Int → List Int → Int → Option (List Int × Int)
  | 0, _, _, _ => none
  | k + 1, x0, x4, x5 => if x5 < (x0.length : Int) then ((words_Get.f x0 x5).bind fun bt428 => (if x4.length < 35184372088832 then (prop_Cells.l0 k x0 (x4 ++ [bt428.1]) (wrap64 (x5 + 4))) else (none))) else (some (x4, 0))
def prop_Cells.f (k : Nat) (l0 : List Int) : Option (List Int × Int) := if ((l0.length : Int) % 4) = 0 then (prop_Cells.l0 k l0 ([] : List Int) 0) else (some (([] : List Int), 4))
end Go.Proofs.YtkfcgjopabcbeaaGreatDoor.PV

namespace Go.Proofs.YtkfcgjopabcbeaaGreatDoor.PV
open Go.RowKit Go.Proofs.YtkfcgjopabcbeaaGreatDoorW.PrintWords Go.Proofs.YtkfcgjopabcbeaaGreatDoorW.PrintLast Go.Proofs.YtkfcgjopabcbeaaGreatDoorW.PrintMore
attribute [local go_sem] max2_int min2_int max_two min_two max_three min_three max_four min_four   -- for this text's walks alone
set_option linter.unusedVariables false
set_option linter.unusedSimpArgs false
def prop_Wide.l0 : Nat → Int → List Int → Int → Int → Option (Int × Int)
  | 0, _, _, _, _ => none
  | k + 1, x4, x10, x11, x12 => if x12 < x11 then (if 0 ≤ x12 then (if x12 < (x10.length : Int) then (prop_Wide.l0 k (Go.bits .or .u64 (IntKind.u64.wrap (x4 * 4294967296)) (IntKind.u64.wrap (rd x10 x12))) x10 x11 (wrap64 (x12 + 1))) else (none)) else (none)) else (some (x4, 0))
def prop_Wide.f (k : Nat) (l0 : List Int) : Option (Int × Int) := if (l0.length : Int) > 2 then (some (0, 10)) else (prop_Wide.l0 k 0 l0 (l0.length : Int) 0)
end Go.Proofs.YtkfcgjopabcbeaaGreatDoor.PV

namespace Go.Proofs.YtkfcgjopabcbeaaGreatDoor.PV
open Go.RowKit Go.Proofs.YtkfcgjopabcbeaaGreatDoorW.PrintWords Go.Proofs.YtkfcgjopabcbeaaGreatDoorW.PrintLast Go.Proofs.YtkfcgjopabcbeaaGreatDoorW.PrintMore
attribute [local go_sem] max2_int min2_int max_two min_two max_three min_three max_four min_four   -- for this text's walks alone
set_option linter.unusedVariables false
set_option linter.unusedSimpArgs false
def region_Reg.l0 : Nat → Int → Int → List Int → List (S212) → Option ((List (S212)) × Int)
  | 0, _, _, _, _ => none
  | k + 1, x8, x9, x11, x13 => if (x11.length : Int) > 0 then (if 0 ≤ x8 then (if x8 ≤ (x11.length : Int) then ((prop_Wide.f k (x11.take (x8 : Int).toNat)).bind fun bt530 => (if x8 ≤ (wrap64 (x8 + x9)) then (if (wrap64 (x8 + x9)) ≤ (x11.length : Int) then ((prop_Wide.f k ((x11.take ((wrap64 (x8 + x9)) : Int).toNat).drop (x8 : Int).toNat)).bind fun bt536 => (if x13.length < 8796093022208 then (if 0 ≤ (wrap64 (x8 + x9)) then (region_Reg.l0 k x8 x9 (x11.drop ((wrap64 (x8 + x9)) : Int).toNat) (x13 ++ [(⟨bt530.1, bt536.1⟩ : S212)])) else (none)) else (none))) else (none)) else (none))) else (none)) else (none)) else (some (x13, 0))
def region_Reg.f (k : Nat) (a0_0 : ByteArray) (l0_1 : List (S158)) (l0_2 : List (S27)) (a1_0 : ByteArray) (l1_1 : List (S158)) (l1_2 : List (S27)) : Option ((List (S212)) × Int) := (tree_Find.f k a1_0 l1_1 l1_2 (⟨#[114, 101, 103]⟩ : ByteArray)).bind fun bt515 => (if bt515.2 = true then ((region_Counts.f k a0_0 l0_1 l0_2).bind fun bt519 => (if bt519.2.2 = 0 then (if bt519.1 = 0 then (some (([] : List (S212)), 10)) else (if (wrap64 (4 * (wrap64 (bt519.1 + bt519.2.1)))) = 0 then (none) else (if ((bt515.1.length : Int) % (wrap64 (4 * (wrap64 (bt519.1 + bt519.2.1))))) = 0 then ((prop_Cells.f k bt515.1).bind fun bt522 => (region_Reg.l0 k bt519.1 bt519.2.1 bt522.1 ([] : List (S212)))) else (some (([] : List (S212)), 10))))) else (some (([] : List (S212)), bt519.2.2)))) else (some (([] : List (S212)), 0)))
end Go.Proofs.YtkfcgjopabcbeaaGreatDoor.PV

namespace Go.Proofs.YtkfcgjopabcbeaaGreatDoor.PV
open Go.RowKit Go.Proofs.YtkfcgjopabcbeaaGreatDoorW.PrintWords Go.Proofs.YtkfcgjopabcbeaaGreatDoorW.PrintLast Go.Proofs.YtkfcgjopabcbeaaGreatDoorW.PrintMore
attribute [local go_sem] max2_int min2_int max_two min_two max_three min_three max_four min_four   -- for this text's walks alone
set_option linter.unusedVariables false
set_option linter.unusedSimpArgs false
mutual
def xlate_Ranges.j0 : Nat → List Int → Int → Int → Int → Bool → Option ((List (S263)) × Bool × Int)
  | 0, _, _, _, _, _ => none
  | k + 1, x7, x9, x10, x12, x49 => if x49 = true then (some (([] : List (S263)), false, 10)) else (if (x7.length : Int) = 0 then (some ((([(⟨0, 0, 18446744073709551615⟩ : S263)] : List (S263))), true, 0)) else ((prop_Cells.f k x7).bind fun bt449 => (xlate_Ranges.l0 k x9 x10 x12 bt449.1 ([] : List (S263)))))
def xlate_Ranges.l0 : Nat → Int → Int → Int → List Int → List (S263) → Option ((List (S263)) × Bool × Int)
  | 0, _, _, _, _, _ => none
  | k + 1, x9, x10, x12, x14, x16 => if (x14.length : Int) > 0 then (if 0 ≤ x9 then (if x9 ≤ (x14.length : Int) then ((prop_Wide.f k (x14.take (x9 : Int).toNat)).bind fun bt457 => (if x9 ≤ (wrap64 (x9 + x12)) then (if (wrap64 (x9 + x12)) ≤ (x14.length : Int) then ((prop_Wide.f k ((x14.take ((wrap64 (x9 + x12)) : Int).toNat).drop (x9 : Int).toNat)).bind fun bt463 => (if 0 ≤ (wrap64 (x9 + x12)) then (if (wrap64 (x9 + x12)) ≤ (wrap64 ((wrap64 (x9 + x12)) + x10)) then (if (wrap64 ((wrap64 (x9 + x12)) + x10)) ≤ (x14.length : Int) then ((prop_Wide.f k ((x14.take ((wrap64 ((wrap64 (x9 + x12)) + x10)) : Int).toNat).drop ((wrap64 (x9 + x12)) : Int).toNat)).bind fun bt469 => (if x16.length < 5864062014805 then (if 0 ≤ (wrap64 ((wrap64 (x9 + x12)) + x10)) then (xlate_Ranges.l0 k x9 x10 x12 (x14.drop ((wrap64 ((wrap64 (x9 + x12)) + x10)) : Int).toNat) (x16 ++ [(⟨bt457.1, bt463.1, bt469.1⟩ : S263)])) else (none)) else (none))) else (none)) else (none)) else (none))) else (none)) else (none))) else (none)) else (none)) else (some (x16, true, 0))
end
def xlate_Ranges.f (k : Nat) (a0_0 : ByteArray) (l0_1 : List (S158)) (l0_2 : List (S27)) (a1_0 : ByteArray) (l1_1 : List (S158)) (l1_2 : List (S27)) : Option ((List (S263)) × Bool × Int) := (tree_Find.f k a1_0 l1_1 l1_2 (⟨#[114, 97, 110, 103, 101, 115]⟩ : ByteArray)).bind fun bt436 => (if bt436.2 = true then ((region_Counts.f k a1_0 l1_1 l1_2).bind fun bt440 => (if bt440.2.2 = 0 then ((region_Counts.f k a0_0 l0_1 l0_2).bind fun bt443 => (if bt443.2.2 = 0 then (if bt440.1 = 0 then (xlate_Ranges.j0 k bt436.1 bt440.1 bt440.2.1 bt443.1 true) else (if bt443.1 = 0 then (xlate_Ranges.j0 k bt436.1 bt440.1 bt440.2.1 bt443.1 true) else (if (wrap64 (4 * (wrap64 ((wrap64 (bt440.1 + bt443.1)) + bt440.2.1)))) = 0 then (none) else (xlate_Ranges.j0 k bt436.1 bt440.1 bt440.2.1 bt443.1 (((bt436.1.length : Int) % (wrap64 (4 * (wrap64 ((wrap64 (bt440.1 + bt443.1)) + bt440.2.1))))) != 0))))) else (some (([] : List (S263)), false, bt443.2.2)))) else (some (([] : List (S263)), false, bt440.2.2)))) else (some (([] : List (S263)), false, 0)))
end Go.Proofs.YtkfcgjopabcbeaaGreatDoor.PV

namespace Go.Proofs.YtkfcgjopabcbeaaGreatDoor.PV
open Go.RowKit Go.Proofs.YtkfcgjopabcbeaaGreatDoorW.PrintWords Go.Proofs.YtkfcgjopabcbeaaGreatDoorW.PrintLast Go.Proofs.YtkfcgjopabcbeaaGreatDoorW.PrintMore
attribute [local go_sem] max2_int min2_int max_two min_two max_three min_three max_four min_four   -- for this text's walks alone
set_option linter.unusedVariables false
set_option linter.unusedSimpArgs false
def region_whole.f (a0_0 : Int) (a0_1 : Int) : Option (Bool) := if a0_1 = 0 then (some true) else (some (decide ((IntKind.u64.wrap (a0_1 - 1)) ≤ (IntKind.u64.wrap (18446744073709551615 - a0_0)))))
end Go.Proofs.YtkfcgjopabcbeaaGreatDoor.PV

namespace Go.Proofs.YtkfcgjopabcbeaaGreatDoor.PV
open Go.RowKit Go.Proofs.YtkfcgjopabcbeaaGreatDoorW.PrintWords Go.Proofs.YtkfcgjopabcbeaaGreatDoorW.PrintLast Go.Proofs.YtkfcgjopabcbeaaGreatDoorW.PrintMore
attribute [local go_sem] max2_int min2_int max_two min_two max_three min_three max_four min_four   -- for this text's walks alone
set_option linter.unusedVariables false
set_option linter.unusedSimpArgs false
def region_Inside.f (a0_0 : Int) (a0_1 : Int) (a1 : Int) (a2 : Int) : Option (Bool) := (region_whole.f a0_0 a0_1).bind fun t511 => (if t511 = true then ((region_whole.f a1 a2).bind fun t512 => (if t512 = true then (if a2 > 0 then (if a1 ≥ a0_0 then (if (IntKind.u64.wrap (a1 - a0_0)) < a0_1 then (some (decide (a2 ≤ (IntKind.u64.wrap (a0_1 - (IntKind.u64.wrap (a1 - a0_0))))))) else (some false)) else (some false)) else (some false)) else (some false))) else (some false))
end Go.Proofs.YtkfcgjopabcbeaaGreatDoor.PV

namespace Go.Proofs.YtkfcgjopabcbeaaGreatDoor.PV
open Go.RowKit Go.Proofs.YtkfcgjopabcbeaaGreatDoorW.PrintWords Go.Proofs.YtkfcgjopabcbeaaGreatDoorW.PrintLast Go.Proofs.YtkfcgjopabcbeaaGreatDoorW.PrintMore
attribute [local go_sem] max2_int min2_int max_two min_two max_three min_three max_four min_four   -- for this text's walks alone
set_option linter.unusedVariables false
set_option linter.unusedSimpArgs false
def xlate_step.l0 : Nat → Int → Int → List (S263) → Int → Int → Option (Int × Int)
  | 0, _, _, _, _, _ => none
  | k + 1, x2, x3, x26, x27, x28 => if x28 < x27 then (if 0 ≤ x28 then (if x28 < (x26.length : Int) then ((region_Inside.f ((rd_T263 x26 x28).f0) ((rd_T263 x26 x28).f2) x2 x3).bind fun t553 => (if t553 = true then (if (IntKind.u64.wrap (x2 - ((rd_T263 x26 x28).f0))) > (IntKind.u64.wrap (18446744073709551615 - ((rd_T263 x26 x28).f1))) then (some (0, 12)) else (if (IntKind.u64.wrap (x3 - 1)) > (IntKind.u64.wrap (18446744073709551615 - (IntKind.u64.wrap (((rd_T263 x26 x28).f1) + (IntKind.u64.wrap (x2 - ((rd_T263 x26 x28).f0))))))) then (some (0, 12)) else (some (IntKind.u64.wrap (((rd_T263 x26 x28).f1) + (IntKind.u64.wrap (x2 - ((rd_T263 x26 x28).f0)))), 0)))) else (xlate_step.l0 k x2 x3 x26 x27 (wrap64 (x28 + 1))))) else (none)) else (none)) else (some (0, 12))
def xlate_step.f (k : Nat) (a0_0 : ByteArray) (l0_1 : List (S158)) (l0_2 : List (S27)) (a1_0 : ByteArray) (l1_1 : List (S158)) (l1_2 : List (S27)) (a2 : Int) (a3 : Int) : Option (Int × Int) := (xlate_Ranges.f k a0_0 l0_1 l0_2 a1_0 l1_1 l1_2).bind fun bt546 => (if bt546.2.2 = 0 then (xlate_step.l0 k a2 a3 bt546.1 (bt546.1.length : Int) 0) else (some (0, bt546.2.2)))
end Go.Proofs.YtkfcgjopabcbeaaGreatDoor.PV

namespace Go.Proofs.YtkfcgjopabcbeaaGreatDoor.PV
open Go.RowKit Go.Proofs.YtkfcgjopabcbeaaGreatDoorW.PrintWords Go.Proofs.YtkfcgjopabcbeaaGreatDoorW.PrintLast Go.Proofs.YtkfcgjopabcbeaaGreatDoorW.PrintMore
attribute [local go_sem] max2_int min2_int max_two min_two max_three min_three max_four min_four   -- for this text's walks alone
set_option linter.unusedVariables false
set_option linter.unusedSimpArgs false
def xlate_Up.l0 : Nat → List Int → Int → Int → Int → Int → List (S76) → ByteArray → List (S158) → List (S27) → ByteArray → List (S158) → List (S27) → Option (Int × Int)
  | 0, _, _, _, _, _, _, _, _, _, _, _, _ => none
  | k + 1, x1, x2, x3, x12, x555000, x555001, x555002, x555003, x555004, x564000, x564001, x564002 => if x12 > 0 then (if 0 ≤ (wrap64 (x12 - 1)) then (if (wrap64 (x12 - 1)) ≤ (x1.length : Int) then ((path_Get.f k x555000 x555001 x555002 x555003 x555004 (x1.take ((wrap64 (x12 - 1)) : Int).toNat)).bind fun bt565 => ((xlate_step.f k bt565.1 bt565.2.1 bt565.2.2.1 x564000 x564001 x564002 x2 x3).bind fun bt574 => (if bt574.2 = 0 then (xlate_Up.l0 k x1 bt574.1 x3 (wrap64 (x12 - 1)) x555000 x555001 x555002 x555003 x555004 bt565.1 bt565.2.1 bt565.2.2.1) else (some (0, bt574.2))))) else (none)) else (none)) else (some (x2, 0))
def xlate_Up.f (k : Nat) (a0_0 : Int) (l0_1 : List (S76)) (a0_2 : ByteArray) (l0_3 : List (S158)) (l0_4 : List (S27)) (l1 : List Int) (a2 : Int) (a3 : Int) : Option (Int × Int) := (path_Get.f k a0_0 l0_1 a0_2 l0_3 l0_4 l1).bind fun bt555 => (if bt555.2.2.2 = 0 then (xlate_Up.l0 k l1 a2 a3 (l1.length : Int) a0_0 l0_1 a0_2 l0_3 l0_4 bt555.1 bt555.2.1 bt555.2.2.1) else (some (0, 8)))
end Go.Proofs.YtkfcgjopabcbeaaGreatDoor.PV

namespace Go.Proofs.YtkfcgjopabcbeaaGreatDoor.PV
open Go.RowKit Go.Proofs.YtkfcgjopabcbeaaGreatDoorW.PrintWords Go.Proofs.YtkfcgjopabcbeaaGreatDoorW.PrintLast Go.Proofs.YtkfcgjopabcbeaaGreatDoorW.PrintMore
attribute [local go_sem] max2_int min2_int max_two min_two max_three min_three max_four min_four   -- for this text's walks alone
set_option linter.unusedVariables false
set_option linter.unusedSimpArgs false
def xlate_Windows.l0 : Nat → List Int → List (S212) → Int → Int → Int → List (S76) → ByteArray → List (S158) → List (S27) → Option ((List (S212)) × Int)
  | 0, _, _, _, _, _, _, _, _, _ => none
  | k + 1, x8, x11, x47, x48, x577000, x577001, x577002, x577003, x577004 => if x48 < x47 then (if 0 ≤ x48 then (if x48 < (x11.length : Int) then ((xlate_Up.f k x577000 x577001 x577002 x577003 x577004 x8 ((rd_T212 x11 x48).f0) ((rd_T212 x11 x48).f1)).bind fun bt602 => (if bt602.2 = 0 then (xlate_Windows.l0 k x8 (x11.set (x48 : Int).toNat (⟨bt602.1, (rd_T212 x11 x48).f1⟩ : S212)) x47 (wrap64 (x48 + 1)) x577000 x577001 x577002 x577003 x577004) else (some (([] : List (S212)), bt602.2)))) else (none)) else (none)) else (some (x11, 0))
def xlate_Windows.f (k : Nat) (a0_0 : Int) (l0_1 : List (S76)) (a0_2 : ByteArray) (l0_3 : List (S158)) (l0_4 : List (S27)) (l1 : List Int) : Option ((List (S212)) × Int) := (path_Get.f k a0_0 l0_1 a0_2 l0_3 l0_4 l1).bind fun bt577 => (if bt577.2.2.2 = 0 then (if (l1.length : Int) = 0 then (some (([] : List (S212)), 1)) else (if 0 ≤ (wrap64 ((l1.length : Int) - 1)) then (if (wrap64 ((l1.length : Int) - 1)) ≤ (l1.length : Int) then ((path_Get.f k a0_0 l0_1 a0_2 l0_3 l0_4 (l1.take ((wrap64 ((l1.length : Int) - 1)) : Int).toNat)).bind fun bt587 => ((region_Reg.f k bt587.1 bt587.2.1 bt587.2.2.1 bt577.1 bt577.2.1 bt577.2.2.1).bind fun bt596 => (if bt596.2 = 0 then (xlate_Windows.l0 k (l1.take ((wrap64 ((l1.length : Int) - 1)) : Int).toNat) bt596.1 (bt596.1.length : Int) 0 a0_0 l0_1 a0_2 l0_3 l0_4) else (some (([] : List (S212)), bt596.2))))) else (none)) else (none))) else (some (([] : List (S212)), 8)))
end Go.Proofs.YtkfcgjopabcbeaaGreatDoor.PV

namespace Go.Proofs.YtkfcgjopabcbeaaGreatDoor.PV
open Go.RowKit Go.Proofs.YtkfcgjopabcbeaaGreatDoorW.PrintWords Go.Proofs.YtkfcgjopabcbeaaGreatDoorW.PrintLast Go.Proofs.YtkfcgjopabcbeaaGreatDoorW.PrintMore
attribute [local go_sem] max2_int min2_int max_two min_two max_three min_three max_four min_four   -- for this text's walks alone
set_option linter.unusedVariables false
set_option linter.unusedSimpArgs false
def handle_Find.l0 : Nat → Int → List (S255) → Int → Int → Option (List Int × Int)
  | 0, _, _, _, _ => none
  | k + 1, x1, x18, x19, x20 => if x20 < x19 then (if 0 ≤ x20 then (if x20 < (x18.length : Int) then (if ((rd_T255 x18 x20).f0) = x1 then (some ((rd_T255 x18 x20).f1, 0)) else (handle_Find.l0 k x1 x18 x19 (wrap64 (x20 + 1)))) else (none)) else (none)) else (some (([] : List Int), 11))
def handle_Find.f (k : Nat) (a0_0 : Int) (l0_1 : List (S76)) (a0_2 : ByteArray) (l0_3 : List (S158)) (l0_4 : List (S27)) (a1 : Int) : Option (List Int × Int) := (handle_Index.f k a0_0 l0_1 a0_2 l0_3 l0_4).bind fun bt618 => (if bt618.2 = 0 then (handle_Find.l0 k a1 bt618.1 (bt618.1.length : Int) 0) else (some (([] : List Int), bt618.2)))
end Go.Proofs.YtkfcgjopabcbeaaGreatDoor.PV

namespace Go.Proofs.YtkfcgjopabcbeaaGreatDoor.PV
open Go.RowKit Go.Proofs.YtkfcgjopabcbeaaGreatDoorW.PrintWords Go.Proofs.YtkfcgjopabcbeaaGreatDoorW.PrintLast Go.Proofs.YtkfcgjopabcbeaaGreatDoorW.PrintMore
attribute [local go_sem] max2_int min2_int max_two min_two max_three min_three max_four min_four   -- for this text's walks alone
set_option linter.unusedVariables false
set_option linter.unusedSimpArgs false
mutual
def irq_extended.j0 : Nat → List Int → Bool → Int → List (S76) → ByteArray → List (S158) → List (S27) → Option ((List (S272)) × Int)
  | 0, _, _, _, _, _, _, _ => none
  | k + 1, x6, x23, x625000, x625001, x625002, x625003, x625004 => if x23 = true then (some (([] : List (S272)), 4)) else (irq_extended.l0 k x6 ([] : List (S272)) x625000 x625001 x625002 x625003 x625004)
def irq_extended.l0 : Nat → List Int → List (S272) → Int → List (S76) → ByteArray → List (S158) → List (S27) → Option ((List (S272)) × Int)
  | 0, _, _, _, _, _, _, _ => none
  | k + 1, x6, x8, x625000, x625001, x625002, x625003, x625004 => if (x6.length : Int) > 0 then (if 0 < (x6.length : Int) then ((handle_Find.f k x625000 x625001 x625002 x625003 x625004 (rd x6 0)).bind fun bt630 => (if bt630.2 = 0 then (if 1 < (x6.length : Int) then (if x8.length < 4398046511104 then (if 2 ≤ (x6.length : Int) then (irq_extended.l0 k (x6.drop (2 : Int).toNat) (x8 ++ [(⟨bt630.1, rd x6 1⟩ : S272)]) x625000 x625001 x625002 x625003 x625004) else (none)) else (none)) else (none)) else (some (([] : List (S272)), bt630.2)))) else (none)) else (some (x8, 0))
end
def irq_extended.f (k : Nat) (a0_0 : Int) (l0_1 : List (S76)) (a0_2 : ByteArray) (l0_3 : List (S158)) (l0_4 : List (S27)) (l1 : List Int) : Option ((List (S272)) × Int) := (prop_Cells.f k l1).bind fun bt625 => (if bt625.2 = 0 then (irq_extended.j0 k bt625.1 (((bt625.1.length : Int) % 2) != 0) a0_0 l0_1 a0_2 l0_3 l0_4) else (irq_extended.j0 k bt625.1 true a0_0 l0_1 a0_2 l0_3 l0_4))
end Go.Proofs.YtkfcgjopabcbeaaGreatDoor.PV

namespace Go.Proofs.YtkfcgjopabcbeaaGreatDoor.PV
open Go.RowKit Go.Proofs.YtkfcgjopabcbeaaGreatDoorW.PrintWords Go.Proofs.YtkfcgjopabcbeaaGreatDoorW.PrintLast Go.Proofs.YtkfcgjopabcbeaaGreatDoorW.PrintMore
attribute [local go_sem] max2_int min2_int max_two min_two max_three min_three max_four min_four   -- for this text's walks alone
set_option linter.unusedVariables false
set_option linter.unusedSimpArgs false
def irq_Parent.l0 : Nat → List Int → Int → Int → List (S76) → ByteArray → List (S158) → List (S27) → Option (List Int × Int)
  | 0, _, _, _, _, _, _, _ => none
  | k + 1, x1, x8, x642000, x642001, x642002, x642003, x642004 => if x8 ≥ 0 then (if 0 ≤ x8 then (if x8 ≤ (x1.length : Int) then ((path_Get.f k x642000 x642001 x642002 x642003 x642004 (x1.take (x8 : Int).toNat)).bind fun bt652 => ((prop_One.f k bt652.1 bt652.2.1 bt652.2.2.1 (⟨#[105, 110, 116, 101, 114, 114, 117, 112, 116, 45, 112, 97, 114, 101, 110, 116]⟩ : ByteArray)).bind fun bt661 => (if bt661.2.2 = 0 then (if bt661.2.1 = true then ((handle_Find.f k x642000 x642001 x642002 x642003 x642004 bt661.1).bind fun bt664 => (some (bt664.1, bt664.2))) else (irq_Parent.l0 k x1 (wrap64 (x8 - 1)) x642000 x642001 x642002 x642003 x642004)) else (some (([] : List Int), bt661.2.2))))) else (none)) else (none)) else (some (([] : List Int), 8))
def irq_Parent.f (k : Nat) (a0_0 : Int) (l0_1 : List (S76)) (a0_2 : ByteArray) (l0_3 : List (S158)) (l0_4 : List (S27)) (l1 : List Int) : Option (List Int × Int) := (path_Get.f k a0_0 l0_1 a0_2 l0_3 l0_4 l1).bind fun bt642 => (if bt642.2.2.2 = 0 then (irq_Parent.l0 k l1 (l1.length : Int) a0_0 l0_1 a0_2 l0_3 l0_4) else (some (([] : List Int), bt642.2.2.2)))
end Go.Proofs.YtkfcgjopabcbeaaGreatDoor.PV

namespace Go.Proofs.YtkfcgjopabcbeaaGreatDoor.PV
open Go.RowKit Go.Proofs.YtkfcgjopabcbeaaGreatDoorW.PrintWords Go.Proofs.YtkfcgjopabcbeaaGreatDoorW.PrintLast Go.Proofs.YtkfcgjopabcbeaaGreatDoorW.PrintMore
attribute [local go_sem] max2_int min2_int max_two min_two max_three min_three max_four min_four   -- for this text's walks alone
set_option linter.unusedVariables false
set_option linter.unusedSimpArgs false
mutual
def irq_Lines.j0 : Nat → List Int → Int → List Int → Bool → Int → List (S76) → ByteArray → List (S158) → List (S27) → Option ((List (S272)) × Int)
  | 0, _, _, _, _, _, _, _, _, _ => none
  | k + 1, x1, x7, x12, x53, x669000, x669001, x669002, x669003, x669004 => if x53 = true then (some (([] : List (S272)), x7)) else ((irq_Parent.f k x669000 x669001 x669002 x669003 x669004 x1).bind fun bt694 => (if bt694.2 = 0 then (irq_Lines.l0 k bt694.1 ([] : List (S272)) x12 (x12.length : Int) 0) else (some (([] : List (S272)), bt694.2))))
def irq_Lines.l0 : Nat → List Int → List (S272) → List Int → Int → Int → Option ((List (S272)) × Int)
  | 0, _, _, _, _, _ => none
  | k + 1, x13, x14, x64, x65, x66 => if x66 < x65 then (if 0 ≤ x66 then (if x66 < (x64.length : Int) then ((slices_Clone_int_int.f x13).bind fun t699 => (if x14.length < 4398046511104 then (irq_Lines.l0 k x13 (x14 ++ [(⟨t699, rd x64 x66⟩ : S272)]) x64 x65 (wrap64 (x66 + 1))) else (none))) else (none)) else (none)) else (some (x14, 0))
end
def irq_Lines.f (k : Nat) (a0_0 : Int) (l0_1 : List (S76)) (a0_2 : ByteArray) (l0_3 : List (S158)) (l0_4 : List (S27)) (l1 : List Int) : Option ((List (S272)) × Int) := (path_Get.f k a0_0 l0_1 a0_2 l0_3 l0_4 l1).bind fun bt669 => (if bt669.2.2.2 = 0 then ((tree_Find.f k bt669.1 bt669.2.1 bt669.2.2.1 (⟨#[105, 110, 116, 101, 114, 114, 117, 112, 116, 115, 45, 101, 120, 116, 101, 110, 100, 101, 100]⟩ : ByteArray)).bind fun bt678 => (if bt678.2 = true then ((irq_extended.f k a0_0 l0_1 a0_2 l0_3 l0_4 bt678.1).bind fun bt682 => (some (bt682.1, bt682.2))) else ((tree_Find.f k bt669.1 bt669.2.1 bt669.2.2.1 (⟨#[105, 110, 116, 101, 114, 114, 117, 112, 116, 115]⟩ : ByteArray)).bind fun bt686 => ((prop_Cells.f k bt686.1).bind fun bt690 => (if bt690.2 = 0 then (irq_Lines.j0 k l1 bt690.2 bt690.1 ((bt690.1.length : Int) == 0) a0_0 l0_1 a0_2 l0_3 l0_4) else (irq_Lines.j0 k l1 bt690.2 bt690.1 true a0_0 l0_1 a0_2 l0_3 l0_4)))))) else (some (([] : List (S272)), bt669.2.2.2)))
end Go.Proofs.YtkfcgjopabcbeaaGreatDoor.PV

namespace Go.Proofs.YtkfcgjopabcbeaaGreatDoor.PV
open Go.RowKit Go.Proofs.YtkfcgjopabcbeaaGreatDoorW.PrintWords Go.Proofs.YtkfcgjopabcbeaaGreatDoorW.PrintLast Go.Proofs.YtkfcgjopabcbeaaGreatDoorW.PrintMore
attribute [local go_sem] max2_int min2_int max_two min_two max_three min_three max_four min_four   -- for this text's walks alone
set_option linter.unusedVariables false
set_option linter.unusedSimpArgs false
def irq_Controller.f (k : Nat) (a0_0 : ByteArray) (l0_1 : List (S158)) (l0_2 : List (S27)) : Option (Bool) := (tree_Find.f k a0_0 l0_1 l0_2 (⟨#[105, 110, 116, 101, 114, 114, 117, 112, 116, 45, 99, 111, 110, 116, 114, 111, 108, 108, 101, 114]⟩ : ByteArray)).bind fun bt706 => ((prop_One.f k a0_0 l0_1 l0_2 (⟨#[35, 105, 110, 116, 101, 114, 114, 117, 112, 116, 45, 99, 101, 108, 108, 115]⟩ : ByteArray)).bind fun bt710 => (if bt706.2 = true then (if bt710.2.1 = true then (if bt710.2.2 = 0 then (some (bt710.1 == 1)) else (some false)) else (some false)) else (some false)))
end Go.Proofs.YtkfcgjopabcbeaaGreatDoor.PV

namespace Go.Proofs.YtkfcgjopabcbeaaGreatDoor.PV
open Go.RowKit Go.Proofs.YtkfcgjopabcbeaaGreatDoorW.PrintWords Go.Proofs.YtkfcgjopabcbeaaGreatDoorW.PrintLast Go.Proofs.YtkfcgjopabcbeaaGreatDoorW.PrintMore
attribute [local go_sem] max2_int min2_int max_two min_two max_three min_three max_four min_four   -- for this text's walks alone
set_option linter.unusedVariables false
set_option linter.unusedSimpArgs false
mutual
def irq_mapped.j0 : Nat → Int → List Int → Int → Bool → Bool → Int → List (S76) → ByteArray → List (S158) → List (S27) → Option (List Int × Int × Int)
  | 0, _, _, _, _, _, _, _, _, _, _ => none
  | k + 1, x2, x10, x12, x13, x47, x714000, x714001, x714002, x714003, x714004 => if x47 = true then (some (([] : List Int), 0, 4)) else (if x13 = true then (irq_mapped.j1 k x2 x10 x12 x714000 x714001 x714002 x714003 x714004) else (irq_mapped.j1 k x2 x10 4294967295 x714000 x714001 x714002 x714003 x714004))
def irq_mapped.j1 : Nat → Int → List Int → Int → Int → List (S76) → ByteArray → List (S158) → List (S27) → Option (List Int × Int × Int)
  | 0, _, _, _, _, _, _, _, _ => none
  | k + 1, x2, x10, x12, x714000, x714001, x714002, x714003, x714004 => irq_mapped.l0 k x2 x10 x12 x714000 x714001 x714002 x714003 x714004
def irq_mapped.l0 : Nat → Int → List Int → Int → Int → List (S76) → ByteArray → List (S158) → List (S27) → Option (List Int × Int × Int)
  | 0, _, _, _, _, _, _, _, _ => none
  | k + 1, x2, x10, x12, x714000, x714001, x714002, x714003, x714004 => if (x10.length : Int) > 0 then (if 0 < (x10.length : Int) then (if (Go.bits .and .u32 (rd x10 0) x12) = (Go.bits .and .u32 x2 x12) then (if 1 < (x10.length : Int) then ((handle_Find.f k x714000 x714001 x714002 x714003 x714004 (rd x10 1)).bind fun bt729 => (if bt729.2 = 0 then (if 2 < (x10.length : Int) then (some (bt729.1, rd x10 2, 0)) else (none)) else (some (([] : List Int), 0, bt729.2)))) else (none)) else (if 3 ≤ (x10.length : Int) then (irq_mapped.l0 k x2 (x10.drop (3 : Int).toNat) x12 x714000 x714001 x714002 x714003 x714004) else (none))) else (none)) else (some (([] : List Int), 0, 8))
end
def irq_mapped.f (k : Nat) (a0_0 : Int) (l0_1 : List (S76)) (a0_2 : ByteArray) (l0_3 : List (S158)) (l0_4 : List (S27)) (a1_0 : ByteArray) (l1_1 : List (S158)) (l1_2 : List (S27)) (a2 : Int) : Option (List Int × Int × Int) := (tree_Find.f k a1_0 l1_1 l1_2 (⟨#[105, 110, 116, 101, 114, 114, 117, 112, 116, 45, 109, 97, 112]⟩ : ByteArray)).bind fun bt716 => (if bt716.2 = true then ((prop_Cells.f k bt716.1).bind fun bt720 => ((prop_One.f k a1_0 l1_1 l1_2 (⟨#[105, 110, 116, 101, 114, 114, 117, 112, 116, 45, 109, 97, 112, 45, 109, 97, 115, 107]⟩ : ByteArray)).bind fun bt724 => (if bt720.2 = 0 then (if bt724.2.2 = 0 then (irq_mapped.j0 k a2 bt720.1 bt724.1 bt724.2.1 (((bt720.1.length : Int) % 3) != 0) a0_0 l0_1 a0_2 l0_3 l0_4) else (irq_mapped.j0 k a2 bt720.1 bt724.1 bt724.2.1 true a0_0 l0_1 a0_2 l0_3 l0_4)) else (irq_mapped.j0 k a2 bt720.1 bt724.1 bt724.2.1 true a0_0 l0_1 a0_2 l0_3 l0_4)))) else (some (([] : List Int), 0, 8)))
end Go.Proofs.YtkfcgjopabcbeaaGreatDoor.PV

namespace Go.Proofs.YtkfcgjopabcbeaaGreatDoor.PV
open Go.RowKit Go.Proofs.YtkfcgjopabcbeaaGreatDoorW.PrintWords Go.Proofs.YtkfcgjopabcbeaaGreatDoorW.PrintLast Go.Proofs.YtkfcgjopabcbeaaGreatDoorW.PrintMore
attribute [local go_sem] max2_int min2_int max_two min_two max_three min_three max_four min_four   -- for this text's walks alone
set_option linter.unusedVariables false
set_option linter.unusedSimpArgs false
def irq_Through.l0 : Nat → Int → Int → List (S76) → ByteArray → List (S158) → List (S27) → List Int → Int → Option (List Int × Int × Int)
  | 0, _, _, _, _, _, _, _, _ => none
  | k + 1, x8, x738000, x738001, x738002, x738003, x738004, x739000, x739001 => if x8 < 16 then ((path_Get.f k x738000 x738001 x738002 x738003 x738004 x739000).bind fun bt740 => (if bt740.2.2.2 = 0 then ((irq_Controller.f k bt740.1 bt740.2.1 bt740.2.2.1).bind fun t749 => (if t749 = true then ((slices_Clone_int_int.f x739000).bind fun t750 => (some (t750, x739001, 0))) else ((irq_mapped.f k x738000 x738001 x738002 x738003 x738004 bt740.1 bt740.2.1 bt740.2.2.1 x739001).bind fun bt753 => (if bt753.2.2 = 0 then (irq_Through.l0 k (wrap64 (x8 + 1)) x738000 x738001 x738002 x738003 x738004 bt753.1 bt753.2.1) else (some (([] : List Int), 0, bt753.2.2)))))) else (some (([] : List Int), 0, bt740.2.2.2)))) else (some (([] : List Int), 0, 14))
def irq_Through.f (k : Nat) (a0_0 : Int) (l0_1 : List (S76)) (a0_2 : ByteArray) (l0_3 : List (S158)) (l0_4 : List (S27)) (l1_0 : List Int) (a1_1 : Int) : Option (List Int × Int × Int) := irq_Through.l0 k 0 a0_0 l0_1 a0_2 l0_3 l0_4 l1_0 a1_1
end Go.Proofs.YtkfcgjopabcbeaaGreatDoor.PV

namespace Go.Proofs.YtkfcgjopabcbeaaGreatDoor.PV
open Go.RowKit Go.Proofs.YtkfcgjopabcbeaaGreatDoorW.PrintWords Go.Proofs.YtkfcgjopabcbeaaGreatDoorW.PrintLast Go.Proofs.YtkfcgjopabcbeaaGreatDoorW.PrintMore
attribute [local go_sem] max2_int min2_int max_two min_two max_three min_three max_four min_four   -- for this text's walks alone
set_option linter.unusedVariables false
set_option linter.unusedSimpArgs false
def irq_Root.l0 : Nat → List (S272) → Int → Int → List (S76) → ByteArray → List (S158) → List (S27) → List Int → Int → Option (List Int × Int × (List (S272)) × Int)
  | 0, _, _, _, _, _, _, _, _, _ => none
  | k + 1, x7, x11, x759000, x759001, x759002, x759003, x759004, x760000, x760001 => if x11 < 16 then ((irq_Through.f k x759000 x759001 x759002 x759003 x759004 x760000 x760001).bind fun bt761 => (if bt761.2.2 = 0 then (if x7.length < 4398046511104 then ((some (x7 ++ [(⟨bt761.1, bt761.2.1⟩ : S272)] : List (S272))).bind fun y767 => ((irq_Lines.f k x759000 x759001 x759002 x759003 x759004 bt761.1).bind fun bt770 => (if bt770.2 = 0 then (if (bt770.1.length : Int) = 0 then ((slices_Clone_int_int.f bt761.1).bind fun t774 => (some (t774, bt761.2.1, y767, 0))) else (if 0 < (bt770.1.length : Int) then (irq_Root.l0 k y767 (wrap64 (x11 + 1)) x759000 x759001 x759002 x759003 x759004 ((rd_T272 bt770.1 0).f0) ((rd_T272 bt770.1 0).f1)) else (none))) else (some (([] : List Int), 0, ([] : List (S272)), bt770.2))))) else (none)) else (some (([] : List Int), 0, ([] : List (S272)), bt761.2.2)))) else (some (([] : List Int), 0, ([] : List (S272)), 14))
def irq_Root.f (k : Nat) (a0_0 : Int) (l0_1 : List (S76)) (a0_2 : ByteArray) (l0_3 : List (S158)) (l0_4 : List (S27)) (l1_0 : List Int) (a1_1 : Int) : Option (List Int × Int × (List (S272)) × Int) := irq_Root.l0 k ([] : List (S272)) 0 a0_0 l0_1 a0_2 l0_3 l0_4 l1_0 a1_1
end Go.Proofs.YtkfcgjopabcbeaaGreatDoor.PV

namespace Go.Proofs.YtkfcgjopabcbeaaGreatDoor.PV
open Go.RowKit Go.Proofs.YtkfcgjopabcbeaaGreatDoorW.PrintWords Go.Proofs.YtkfcgjopabcbeaaGreatDoorW.PrintLast Go.Proofs.YtkfcgjopabcbeaaGreatDoorW.PrintMore
attribute [local go_sem] max2_int min2_int max_two min_two max_three min_three max_four min_four   -- for this text's walks alone
set_option linter.unusedVariables false
set_option linter.unusedSimpArgs false
mutual
def arboretlaw03_size.l0 : Nat → Int → Int → Int → Int → ByteArray → List (S158) → List (S27) → Option (Int)
  | 0, _, _, _, _, _, _, _ => none
  | k + 1, x1, x5, x14, x15, x860000, x860001, x860002 => if x15 < x14 then (if 0 ≤ x15 then (if x15 < (x860001.length : Int) then (arboretlaw03_size.l0 k x1 (wrap64 ((wrap64 ((wrap64 (x5 + 1)) + (((rd_T158 x860001 x15).f0).size : Int))) + (((rd_T158 x860001 x15).f1).length : Int))) x14 (wrap64 (x15 + 1)) x860000 x860001 x860002) else (none)) else (none)) else (arboretlaw03_size.l1 k x1 x5 (x860002.length : Int) 0 x860000 x860001 x860002)
def arboretlaw03_size.l1 : Nat → Int → Int → Int → Int → ByteArray → List (S158) → List (S27) → Option (Int)
  | 0, _, _, _, _, _, _, _ => none
  | k + 1, x1, x5, x39, x40, x860000, x860001, x860002 => if x40 < x39 then (if x1 > 20 then (some 1048576) else (if x5 > 100000 then (some 1048576) else (if 0 ≤ x40 then (if x40 < (x860002.length : Int) then ((arboretlaw03_size.f k ((rd_T27 x860002 x40).f0) ((rd_T27 x860002 x40).f1) ((rd_T27 x860002 x40).f2) (wrap64 (x1 + 1))).bind fun t863 => (arboretlaw03_size.l1 k x1 (wrap64 (x5 + t863)) x39 (wrap64 (x40 + 1)) x860000 x860001 x860002)) else (none)) else (none)))) else (some x5)
def arboretlaw03_size.f : Nat → ByteArray → List (S158) → List (S27) → Int → Option (Int)
  | 0, _, _, _, _ => none
  | k + 1, a0_0, l0_1, l0_2, a1 => arboretlaw03_size.l0 k a1 (wrap64 (1 + (a0_0.size : Int))) (l0_1.length : Int) 0 a0_0 l0_1 l0_2
end
end Go.Proofs.YtkfcgjopabcbeaaGreatDoor.PV

namespace Go.Proofs.YtkfcgjopabcbeaaGreatDoor.PV
open Go.RowKit Go.Proofs.YtkfcgjopabcbeaaGreatDoorW.PrintWords Go.Proofs.YtkfcgjopabcbeaaGreatDoorW.PrintLast Go.Proofs.YtkfcgjopabcbeaaGreatDoorW.PrintMore
attribute [local go_sem] max2_int min2_int max_two min_two max_three min_three max_four min_four   -- for this text's walks alone
set_option linter.unusedVariables false
set_option linter.unusedSimpArgs false
def arboretlaw03_Few.f (k : Nat) (a0_0 : Int) (l0_1 : List (S76)) (a0_2 : ByteArray) (l0_3 : List (S158)) (l0_4 : List (S27)) : Option (Bool) := (arboretlaw03_size.f k a0_2 l0_3 l0_4 0).bind fun t865 => (if t865 ≤ 100000 then (some (decide ((l0_1.length : Int) ≤ 200))) else (some false))
end Go.Proofs.YtkfcgjopabcbeaaGreatDoor.PV

set_option linter.unusedVariables false
set_option linter.unusedSimpArgs false
namespace Go.Proofs.YtkfcgjopabcbeaaGreatDoor.Aid
open Go.RowKit Go.Proofs.YtkfcgjopabcbeaaGreatDoorW.PrintWords
section
variable {α β : Type} {r : α}
theorem Ev.succ {g : Nat → Option α} (h : Ev (fun k => g (k + 1)) r) : Ev g r := Ev.step (fun _ => rfl) h
theorem Ev.some (r : α) : Ev (fun _ => some r) r := ⟨0, fun _ _ => rfl⟩
theorem Ev.then {g : Nat → Option α} {f : Nat → α → Option β} {a : α} {b : β} (h : Ev g a) (k : Ev (fun n => f n a) b) : Ev (fun n => (g n).bind (f n)) b := Ev.bind h k
theorem Ev.out {g : Nat → Option α} (h : Ev g r) : ∃ k, g k = Option.some r := Ev.rounds h
end
end Go.Proofs.YtkfcgjopabcbeaaGreatDoor.Aid

set_option linter.unusedVariables false
namespace Go.Proofs.YtkfcgjopabcbeaaGreatDoor.Rdr
open Go.RowKit Go.Proofs.YtkfcgjopabcbeaaGreatDoorW.PrintWords Go.ChangeShapes Go.WideShapes
section
variable {P : Program} {W : World} {n : Nat}
def wfI (k : IntKind) (x : Int) : Prop := (Lit.int k x).wf = true
end
end Go.Proofs.YtkfcgjopabcbeaaGreatDoor.Rdr

namespace Go.Proofs.YtkfcgjopabcbeaaGreatDoor.PV
open Go.RowKit Go.Proofs.YtkfcgjopabcbeaaGreatDoorW.PrintWords Go.Proofs.YtkfcgjopabcbeaaGreatDoorW.PrintLast Go.Proofs.YtkfcgjopabcbeaaGreatDoorW.PrintMore
attribute [local go_sem] max2_int min2_int max_two min_two max_three min_three max_four min_four
set_option linter.unusedVariables false
set_option linter.unusedSimpArgs false
open Go.Proofs.YtkfcgjopabcbeaaGreatDoor.Aid Go.Proofs.YtkfcgjopabcbeaaGreatDoor.Rdr
structure TreeC (W : World) (t : S29) (A1 : Option Addr) (c1 : Nat) (A3 : Option Addr) (c3 : Nat) (A4 : Option Addr) (c4 : Nat) : Prop where
  r1 : Kd.C k76 W A1 t.f1.length t.f1
  l1 : t.f1.length ≤ c1
  r3 : Kd.C k158 W A3 t.f2.f1.length t.f2.f1
  l3 : t.f2.f1.length ≤ c3
  r4 : Kd.C k27 W A4 t.f2.f2.length t.f2.f2
  l4 : t.f2.f2.length ≤ c4
theorem TreeC.below {W W' : World} {t : S29} {A1 A3 A4 : Option Addr} {c1 c3 c4 : Nat} (h : TreeC W t A1 c1 A3 c3 A4 c4) (hb : Below W.heap.size W W') : TreeC W' t A1 c1 A3 c3 A4 c4 := ⟨Kd.C_below h.r1 hb, h.l1, Kd.C_below h.r3 hb, h.l3, Kd.C_below h.r4 hb, h.l4⟩
abbrev treeV (t : S29) (A1 : Option Addr) (c1 : Nat) (A3 : Option Addr) (c3 : Nat) (A4 : Option Addr) (c4 : Nat) : Value := .agg #[.int .u32 t.f0, .slice A1 t.f1.length c1, .string t.f2.f0, .slice A3 t.f2.f1.length c3, .slice A4 t.f2.f2.length c4]
end Go.Proofs.YtkfcgjopabcbeaaGreatDoor.PV

namespace Go.Proofs.YtkfcgjopabcbeaaGreatDoor.PV
open Go.RowKit Go.Proofs.YtkfcgjopabcbeaaGreatDoorW.PrintWords Go.Proofs.YtkfcgjopabcbeaaGreatDoorW.PrintLast Go.Proofs.YtkfcgjopabcbeaaGreatDoorW.PrintMore
attribute [local go_sem] max2_int min2_int max_two min_two max_three min_three max_four min_four
set_option linter.unusedVariables false
set_option linter.unusedSimpArgs false
open Go.Proofs.YtkfcgjopabcbeaaGreatDoor.Aid Go.Proofs.YtkfcgjopabcbeaaGreatDoor.Rdr
section
variable {W : World} {t : S29} {A1 : Option Addr} {c1 : Nat} {A3 : Option Addr} {c3 : Nat} {A4 : Option Addr} {c4 : Nat} {A : Option Addr} {c : Nat} {pl : List Int} {k : Nat}
theorem of_T (hT : TreeC W t A1 c1 A3 c3 A4 c4) (hp : Kd.C (Kd.int .i64) W A pl.length pl) (hc : pl.length ≤ c) {r1} {r2} (h : valid_Of.f k t.f0 t.f1 t.f2.f0 t.f2.f1 t.f2.f2 pl = some (r1, r2)) : Calls Tryz.prog 88 #[treeV t A1 c1 A3 c3 A4 c4, .slice A pl.length c] W fun e w' => e = .returned (.tuple #[.int .i64 r1, .int .i64 r2]) ∧ Below W.heap.size W w' :=
  valid_Of.calls k t.f0 A1 c1 t.f1 t.f2.f0 A3 c3 t.f2.f1 A4 c4 t.f2.f2 A c pl r1 r2 W hT.r1 hT.l1 hT.r3 hT.l3 hT.r4 hT.l4 hp hc h
theorem en_T (hT : TreeC W t A1 c1 A3 c3 A4 c4) (hp : Kd.C (Kd.int .i64) W A pl.length pl) (hc : pl.length ≤ c) {r1} {r2} (h : valid_Enabled.f k t.f0 t.f1 t.f2.f0 t.f2.f1 t.f2.f2 pl = some (r1, r2)) : Calls Tryz.prog 82 #[treeV t A1 c1 A3 c3 A4 c4, .slice A pl.length c] W fun e w' => e = .returned (.tuple #[.bool r1, .int .i64 r2]) ∧ Below W.heap.size W w' :=
  valid_Enabled.calls k t.f0 A1 c1 t.f1 t.f2.f0 (fun k => k < W.heap.size) A3 c3 t.f2.f1 (fun k => k < W.heap.size) A4 c4 t.f2.f2 A c pl r1 r2 W hT.r1 hT.l1 (Kd.V_mk hT.l3 (Kd.C_F k158_heap hT.r3)) (Kd.V_mk hT.l4 (Kd.C_F k27_heap hT.r4)) hp hc h
theorem get_T (hT : TreeC W t A1 c1 A3 c3 A4 c4) (hp : Kd.C (Kd.int .i64) W A pl.length pl) (hc : pl.length ≤ c) {r1} {r2} {r3} {r4} (h : path_Get.f k t.f0 t.f1 t.f2.f0 t.f2.f1 t.f2.f2 pl = some (r1, r2, r3, r4)) : Calls Tryz.prog 80 #[treeV t A1 c1 A3 c3 A4 c4, .slice A pl.length c] W fun e w' => ∃ v1_ v2_ : Value, e = .returned (.tuple #[.agg #[.string r1, v1_, v2_], .int .i64 r4]) ∧ Kd.S k158 158 w' W.heap.size (fun k_ => (W.heap.size ≤ k_)) v1_ r2 ∧ Kd.R k27 27 w' W.heap.size (fun k_ => (W.heap.size ≤ k_) ∧ some k_ ≠ (v1_ : Value).ownBlock) v2_ r3 ∧ Below W.heap.size W w' :=
  path_Get.calls k t.f0 A1 c1 t.f1 t.f2.f0 (fun k => k < W.heap.size) A3 c3 t.f2.f1 (fun k => k < W.heap.size) A4 c4 t.f2.f2 A c pl r1 r2 r3 r4 W hT.r1 hT.l1 (Kd.V_mk hT.l3 (Kd.C_F k158_heap hT.r3)) (Kd.V_mk hT.l4 (Kd.C_F k27_heap hT.r4)) hp hc h
theorem all_T (hT : TreeC W t A1 c1 A3 c3 A4 c4) {r : List (List Int)} (h : path_All.f k t.f0 t.f1 t.f2.f0 t.f2.f1 t.f2.f2 = some r) : Calls Tryz.prog 40 #[treeV t A1 c1 A3 c3 A4 c4] W fun e w' => ∃ v0_ : Value, e = .returned (v0_) ∧ Kd.N (Kd.slice 3 (Kd.int .i64)) 81 w' W.heap.size (fun k_ => (W.heap.size ≤ k_)) v0_ r ∧ Below W.heap.size W w' :=
  path_All.calls k t.f0 A1 c1 t.f1 t.f2.f0 A3 c3 t.f2.f1 A4 c4 t.f2.f2 r W hT.r1 hT.l1 hT.r3 hT.l3 hT.r4 hT.l4 h
theorem idx_T (hT : TreeC W t A1 c1 A3 c3 A4 c4) {r1 : List S255} {r2 : Int} (h : handle_Index.f k t.f0 t.f1 t.f2.f0 t.f2.f1 t.f2.f2 = some (r1, r2)) : Calls Tryz.prog 39 #[treeV t A1 c1 A3 c3 A4 c4] W fun e w' => ∃ v0_ : Value, e = .returned (.tuple #[v0_, .int .i64 r2]) ∧ Kd.S k255 255 w' W.heap.size (fun _ => True) v0_ r1 ∧ Below W.heap.size W w' :=
  handle_Index.calls k t.f0 A1 c1 t.f1 t.f2.f0 A3 c3 t.f2.f1 A4 c4 t.f2.f2 r1 r2 W hT.r1 hT.l1 hT.r3 hT.l3 hT.r4 hT.l4 h
theorem chk_T (hT : TreeC W t A1 c1 A3 c3 A4 c4) {r : Int} (h : tree_Check.f k t.f0 t.f1 t.f2.f0 t.f2.f1 t.f2.f2 = some r) : Calls Tryz.prog 38 #[treeV t A1 c1 A3 c3 A4 c4] W fun e w' => e = .returned (.int .i64 r) ∧ Below W.heap.size W w' :=
  tree_Check.calls k t.f0 A1 c1 t.f1 t.f2.f0 A3 c3 t.f2.f1 A4 c4 t.f2.f2 r W hT.r1 hT.l1 hT.r3 hT.l3 hT.r4 hT.l4 h
end
structure LookS (W : World) (g : Nat) (t : S29) (A1 : Option Addr) (c1 : Nat) (A3 : Option Addr) (c3 : Nat) (A4 : Option Addr) (c4 : Nat) (n : Int) (v : Value) : Prop where
  blk : W.heap[g]? = some (.cells #[.int .u32 t.f0, .slice A1 t.f1.length c1, .string t.f2.f0, .slice A3 t.f2.f1.length c3, .slice A4 t.f2.f2.length c4, .int .i64 n, v] 99 (0, 0))
  tr : TreeC W t A1 c1 A3 c3 A4 c4
section
variable {W W' : World} {g : Nat} {t : S29} {A1 : Option Addr} {c1 : Nat} {A3 : Option Addr} {c3 : Nat} {A4 : Option Addr} {c4 : Nat} {n : Int} {v : Value}
theorem LookS.below (h : LookS W g t A1 c1 A3 c3 A4 c4 n v) (hb : Below W.heap.size W W') : LookS W' g t A1 c1 A3 c3 A4 c4 n v := ⟨blk_below h.blk hb, h.tr.below hb⟩
theorem LookS.z0 (h : LookS W g t A1 c1 A3 c3 A4 c4 n v) : W.cell? ⟨g, 0, none⟩ = some (.int .u32 t.f0) := (blk_cell h.blk 0).trans rfl
theorem LookS.z1 (h : LookS W g t A1 c1 A3 c3 A4 c4 n v) : W.cell? ⟨g, 1, none⟩ = some (.slice A1 t.f1.length c1) := (blk_cell h.blk 1).trans rfl
theorem LookS.z2 (h : LookS W g t A1 c1 A3 c3 A4 c4 n v) : W.cell? ⟨g, 2, none⟩ = some (.string t.f2.f0) := (blk_cell h.blk 2).trans rfl
theorem LookS.z3 (h : LookS W g t A1 c1 A3 c3 A4 c4 n v) : W.cell? ⟨g, 3, none⟩ = some (.slice A3 t.f2.f1.length c3) := (blk_cell h.blk 3).trans rfl
theorem LookS.z4 (h : LookS W g t A1 c1 A3 c3 A4 c4 n v) : W.cell? ⟨g, 4, none⟩ = some (.slice A4 t.f2.f2.length c4) := (blk_cell h.blk 4).trans rfl
theorem LookS.z5 (h : LookS W g t A1 c1 A3 c3 A4 c4 n v) : W.cell? ⟨g, 5, none⟩ = some (.int .i64 n) := (blk_cell h.blk 5).trans rfl
theorem LookS.z6 (h : LookS W g t A1 c1 A3 c3 A4 c4 n v) : W.cell? ⟨g, 6, none⟩ = some (v) := (blk_cell h.blk 6).trans rfl
end
end Go.Proofs.YtkfcgjopabcbeaaGreatDoor.PV

namespace Go.Proofs.YtkfcgjopabcbeaaGreatDoor.PV
open Go.RowKit Go.Proofs.YtkfcgjopabcbeaaGreatDoorW.PrintWords Go.Proofs.YtkfcgjopabcbeaaGreatDoorW.PrintLast Go.Proofs.YtkfcgjopabcbeaaGreatDoorW.PrintMore
attribute [local go_sem] max2_int min2_int max_two min_two max_three min_three max_four min_four
set_option linter.unusedVariables false
set_option linter.unusedSimpArgs false
open Go.Proofs.YtkfcgjopabcbeaaGreatDoor.Aid Go.Proofs.YtkfcgjopabcbeaaGreatDoor.Rdr
theorem neqI0 (W : World) : Sem.run Tryz.prog (binOp BinOp.neq 41 .nilIface .nilIface) W = .ok (.bool false) W := by kernel_rfl
theorem neq_nilR (W : World) : Sem.run Tryz.prog (binOp BinOp.neq 81 (.slice none 0 0) (.slice none 0 0)) W = .ok (.bool false) W := by kernel_rfl
theorem C_nil {α : Type} (d : Kd α) (e : Nat) (w : World) : Kd.C d w none 0 [] := (Kd.R_reads' (Kd.R_nil d e w 0 (fun _ => True))).2.2
theorem overlap0 (w : World) : Calls Tryz.prog 90 #[.slice none 0 0] w fun e w' => e = .returned (.bool false) ∧ Below w.heap.size w w' := by
  go_enter Tryz.func90, Tryz.ntmps90
  go_wp2
  refine wp_loop_rounds 1 ?_
  rw [rounds_succ]
  go_wp2
  go_ret
  exact ⟨rfl, Below.refl _ _⟩
theorem twice0 {w : World} {g : Nat} {t : S29} {A1 : Option Addr} {c1 : Nat} {A3 : Option Addr} {c3 : Nat} {A4 : Option Addr} {c4 : Nat} {n : Int} (hL : LookS w g t A1 c1 A3 c3 A4 c4 n (.slice none 0 0)) : Calls Tryz.prog 91 #[.pointer (some ⟨g, 0, none⟩)] w fun e w' => e = .returned (.slice none 0 0) ∧ Below w.heap.size w w' := by
  have hu := Tryz.underlying99
  have y6 := hL.z6
  clear hL
  go_enter Tryz.func91, Tryz.ntmps91
  go_wp2
  refine wp_loop_rounds 1 ?_
  rw [rounds_succ]
  go_wp2
  go_ret
  exact ⟨rfl, Below.refl _ _⟩
set_option maxRecDepth 100000 in
theorem entries00 {w : World} {t : S29} {A1 : Option Addr} {c1 : Nat} {A3 : Option Addr} {c3 : Nat} {A4 : Option Addr} {c4 : Nat} (hT : TreeC w t A1 c1 A3 c3 A4 c4) {A : Option Addr} {c : Nat} (hp : Kd.C (Kd.int .i64) w A ([] : List Int).length []) (hc : ([] : List Int).length ≤ c) {k : Nat} {g1 : ByteArray} {g2 : List S158} (h : path_Get.f k t.f0 t.f1 t.f2.f0 t.f2.f1 t.f2.f2 [] = some (g1, g2, [], 0)) :
    Calls Tryz.prog 89 #[treeV t A1 c1 A3 c3 A4 c4, .slice A 0 c] w fun e w' => e = .returned (.tuple #[.slice none 0 0, .int .i64 0]) ∧ Below w.heap.size w w' := by
  have hu2 := Tryz.underlying29
  have hu4 := Tryz.underlying27
  have HBT := Aside0.mk (below_alloc (Below.refl w.heap.size w) (.cells #[.int .u32 t.f0, .slice A1 t.f1.length c1, .string t.f2.f0, .slice A3 t.f2.f1.length c3, .slice A4 t.f2.f2.length c4] 29))
  have HQ1 := Aside0.mk (get_T (hT.below HBT.out) (Kd.C_below hp HBT.out) hc h)
  clear hT hp hc h
  go_enter Tryz.func89, Tryz.ntmps89
  go_wp2_with (go_at_call 80; refine HQ1.out.mono ?_; rintro e w1 ⟨u1, u2, rfl, h1, h2, hb⟩; obtain ⟨N1, m1, rfl⟩ := Kd.R_slice (Kd.S_R h1); obtain ⟨N2, m2, rfl⟩ := Kd.R_slice h2; have HB1 := Aside0.mk (below_step HBT.out hb); clear h1 h2 hb)
  refine wp_loop_rounds 1 ?_
  rw [rounds_succ]
  go_wp2
  go_ret2
  exact ⟨rfl, below_alloc HB1.out _⟩
set_option maxRecDepth 100000 in
set_option maxHeartbeats 4000000 in
theorem whole0 {w : World} {g : Nat} {t : S29} {A1 : Option Addr} {c1 : Nat} {A3 : Option Addr} {c3 : Nat} {A4 : Option Addr} {c4 : Nat} (hL0 : LookS w g t A1 c1 A3 c3 A4 c4 0 (.slice none 0 0)) {k : Nat} (hpa : path_All.f k t.f0 t.f1 t.f2.f0 t.f2.f1 t.f2.f2 = some [[]]) {n1 : Bool} {n2 : Int} (hen : valid_Enabled.f k t.f0 t.f1 t.f2.f0 t.f2.f1 t.f2.f2 [] = some (n1, n2)) {o1 o2 : Int} (hof : valid_Of.f k t.f0 t.f1 t.f2.f0 t.f2.f1 t.f2.f2 [] = some (o1, o2)) {g1 : ByteArray} {g2 : List S158} (hge : path_Get.f k t.f0 t.f1 t.f2.f0 t.f2.f1 t.f2.f2 [] = some (g1, g2, [], 0)) :
    Calls Tryz.prog 43 #[.pointer (some ⟨g, 0, none⟩)] w fun e w' => e = .returned .nilIface ∧ Below w.heap.size w w' := by
  have hu := Tryz.underlying99
  have hu2 := Tryz.underlying29
  have hu7 := Tryz.underlying81
  have hneq := neq_nilR
  have hL := Aside0.mk hL0
  have HPA := Aside0.mk hpa
  have HEN := Aside0.mk hen
  have HOF := Aside0.mk hof
  have HGE := Aside0.mk hge
  have z0 := hL0.z0
  have z1 := hL0.z1
  have z2 := hL0.z2
  have z3 := hL0.z3
  have z4 := hL0.z4
  clear hL0 hpa hen hof hge
  go_enter Tryz.func43, Tryz.ntmps43
  go_wp2_with (go_at_call 40; refine (all_T hL.out.tr HPA.out).mono ?_; rintro e w1 ⟨u1, rfl, h1, hb⟩; obtain ⟨P, d, rfl⟩ := Kd.N_slice h1; have HN1 := Aside0.mk (Kd.N_reads' h1).2.2; have HL1 := Aside0.mk (hL.out.below hb); have HB1 := Aside0.mk hb; clear h1 hb z0 z1 z2 z3 z4; have z0 : w1.cell? ⟨g, 0, none⟩ = some (.int .u32 t.f0) := (blk_cell HL1.out.blk 0).trans rfl; have z1 : w1.cell? ⟨g, 1, none⟩ = some (.slice A1 t.f1.length c1) := (blk_cell HL1.out.blk 1).trans rfl; have z2 : w1.cell? ⟨g, 2, none⟩ = some (.string t.f2.f0) := (blk_cell HL1.out.blk 2).trans rfl; have z3 : w1.cell? ⟨g, 3, none⟩ = some (.slice A3 t.f2.f1.length c3) := (blk_cell HL1.out.blk 3).trans rfl; have z4 : w1.cell? ⟨g, 4, none⟩ = some (.slice A4 t.f2.f2.length c4) := (blk_cell HL1.out.blk 4).trans rfl)
  obtain ⟨ad, P0, d0, e1, hx0, hl0, hC0⟩ := at_L1 HN1.out (0 : Int) (by decide) (by decide)
  subst e1
  rw [show ((0 : Int)).toNat = 0 from rfl, Addr.add_zero'] at hx0
  replace hx0 : w1.cell? ad = some (.slice P0 0 d0) := hx0
  have HL0 : Aside0 (([] : List Int).length ≤ d0) := ⟨hl0⟩
  have HP0 : Aside0 (Kd.C (Kd.int .i64) w1 P0 ([] : List Int).length []) := ⟨hC0⟩
  clear hl0 hC0
  refine wp_loop_rounds 2 ?_
  rw [rounds_succ]
  go_wp2_with (first | (go_at_call 82; refine (en_T HL1.out.tr HP0.out HL0.out HEN.out).mono ?_; rintro e w2 ⟨rfl, hb⟩; have HL2 := Aside0.mk (HL1.out.below hb); have HB2 := Aside0.mk (below_step HB1.out hb); have HP2 := Aside0.mk (Kd.C_below HP0.out hb); clear hb z0 z1 z2 z3 z4; have z0 : w2.cell? ⟨g, 0, none⟩ = some (.int .u32 t.f0) := (blk_cell HL2.out.blk 0).trans rfl; have z1 : w2.cell? ⟨g, 1, none⟩ = some (.slice A1 t.f1.length c1) := (blk_cell HL2.out.blk 1).trans rfl; have z2 : w2.cell? ⟨g, 2, none⟩ = some (.string t.f2.f0) := (blk_cell HL2.out.blk 2).trans rfl; have z3 : w2.cell? ⟨g, 3, none⟩ = some (.slice A3 t.f2.f1.length c3) := (blk_cell HL2.out.blk 3).trans rfl; have z4 : w2.cell? ⟨g, 4, none⟩ = some (.slice A4 t.f2.f2.length c4) := (blk_cell HL2.out.blk 4).trans rfl) | (go_at_call 88; refine (of_T HL2.out.tr HP2.out HL0.out HOF.out).mono ?_; rintro e w3 ⟨rfl, hb⟩; have HL3 := Aside0.mk (HL2.out.below hb); have HB3 := Aside0.mk (below_step HB2.out hb); have HP3 := Aside0.mk (Kd.C_below HP2.out hb); clear hb z0 z1 z2 z3 z4; have z0 : w3.cell? ⟨g, 0, none⟩ = some (.int .u32 t.f0) := (blk_cell HL3.out.blk 0).trans rfl; have z1 : w3.cell? ⟨g, 1, none⟩ = some (.slice A1 t.f1.length c1) := (blk_cell HL3.out.blk 1).trans rfl; have z2 : w3.cell? ⟨g, 2, none⟩ = some (.string t.f2.f0) := (blk_cell HL3.out.blk 2).trans rfl; have z3 : w3.cell? ⟨g, 3, none⟩ = some (.slice A3 t.f2.f1.length c3) := (blk_cell HL3.out.blk 3).trans rfl; have z4 : w3.cell? ⟨g, 4, none⟩ = some (.slice A4 t.f2.f2.length c4) := (blk_cell HL3.out.blk 4).trans rfl) | (go_at_call 89; refine (entries00 HL3.out.tr HP3.out HL0.out HGE.out).mono ?_; rintro e w4 ⟨rfl, hb⟩; have HL4 := Aside0.mk (HL3.out.below hb); have HB4 := Aside0.mk (below_step HB3.out hb); clear hb z0 z1 z2 z3 z4) | (go_at_call 90; refine (overlap0 w4).mono ?_; rintro e w5 ⟨rfl, hb⟩; have HL5 := Aside0.mk (HL4.out.below hb); have HB5 := Aside0.mk (below_step HB4.out hb); clear hb))
  rw [rounds_succ]
  go_wp2_with (go_at_call 91; refine (twice0 HL5.out).mono ?_; rintro e w6 ⟨rfl, hb⟩; have HB6 := Aside0.mk (below_step HB5.out hb); have z5 := (HL5.out.below hb).z5; clear hb)
  go_ret
  exact ⟨rfl, HB6.out⟩
set_option maxRecDepth 100000 in
set_option maxHeartbeats 4000000 in
theorem check0 {w : World} {t : S29} {A1 : Option Addr} {c1 : Nat} {A3 : Option Addr} {c3 : Nat} {A4 : Option Addr} {c4 : Nat} (hT : TreeC w t A1 c1 A3 c3 A4 c4) {k : Nat} (hck : tree_Check.f k t.f0 t.f1 t.f2.f0 t.f2.f1 t.f2.f2 = some 0) {l : List S255} (hix : handle_Index.f k t.f0 t.f1 t.f2.f0 t.f2.f1 t.f2.f2 = some (l, 0)) (hpa : path_All.f k t.f0 t.f1 t.f2.f0 t.f2.f1 t.f2.f2 = some [[]]) {n1 : Bool} {n2 : Int} (hen : valid_Enabled.f k t.f0 t.f1 t.f2.f0 t.f2.f1 t.f2.f2 [] = some (n1, n2)) {o1 o2 : Int} (hof : valid_Of.f k t.f0 t.f1 t.f2.f0 t.f2.f1 t.f2.f2 [] = some (o1, o2)) {g1 : ByteArray} {g2 : List S158} (hge : path_Get.f k t.f0 t.f1 t.f2.f0 t.f2.f1 t.f2.f2 [] = some (g1, g2, [], 0)) :
    Calls Tryz.prog 11 #[treeV t A1 c1 A3 c3 A4 c4] w fun e w' => e = .returned .nilIface ∧ Below w.heap.size w w' := by
  have hu := Tryz.underlying99
  have hu2 := Tryz.underlying29
  have HBT := Aside0.mk (below_alloc (Below.refl w.heap.size w) (.cells #[.int .u32 t.f0, .slice A1 t.f1.length c1, .string t.f2.f0, .slice A3 t.f2.f1.length c3, .slice A4 t.f2.f2.length c4] 29))
  have KT := Aside0.mk (blk_new w (.cells #[.int .u32 t.f0, .slice A1 t.f1.length c1, .string t.f2.f0, .slice A3 t.f2.f1.length c3, .slice A4 t.f2.f2.length c4] 29 (0, 0)))
  have HT := Aside0.mk hT
  have HQ1 := Aside0.mk (chk_T (hT.below HBT.out) hck)
  have HIX := Aside0.mk hix
  have HPA := Aside0.mk hpa
  have HEN := Aside0.mk hen
  have HOF := Aside0.mk hof
  have HGE := Aside0.mk hge
  clear hT hck hix hpa hen hof hge
  go_enter Tryz.func11, Tryz.ntmps11
  go_wp2_with (first | (go_at_call 38; refine HQ1.out.mono ?_; rintro e w1 ⟨rfl, hb⟩; have HB1 := Aside0.mk (below_step HBT.out hb); have KT1 := Aside0.mk (blk_below KT.out hb); clear hb; have z0 : w1.cell? ⟨w.heap.size, 0, none⟩ = some (.int .u32 t.f0) := (blk_cell KT1.out 0).trans rfl; have z1 : w1.cell? ⟨w.heap.size, 1, none⟩ = some (.slice A1 t.f1.length c1) := (blk_cell KT1.out 1).trans rfl; have z2 : w1.cell? ⟨w.heap.size, 2, none⟩ = some (.string t.f2.f0) := (blk_cell KT1.out 2).trans rfl; have z3 : w1.cell? ⟨w.heap.size, 3, none⟩ = some (.slice A3 t.f2.f1.length c3) := (blk_cell KT1.out 3).trans rfl; have z4 : w1.cell? ⟨w.heap.size, 4, none⟩ = some (.slice A4 t.f2.f2.length c4) := (blk_cell KT1.out 4).trans rfl) | (go_at_call 39; refine (idx_T (HT.out.below HB1.out) HIX.out).mono ?_; rintro e w2 ⟨u2, rfl, -, hb⟩; have HB2 := Aside0.mk (below_step HB1.out hb); have KT2 := Aside0.mk (blk_below KT1.out hb); clear hb z0 z1 z2 z3 z4; have z0 : w2.cell? ⟨w.heap.size, 0, none⟩ = some (.int .u32 t.f0) := (blk_cell KT2.out 0).trans rfl; have z1 : w2.cell? ⟨w.heap.size, 1, none⟩ = some (.slice A1 t.f1.length c1) := (blk_cell KT2.out 1).trans rfl; have z2 : w2.cell? ⟨w.heap.size, 2, none⟩ = some (.string t.f2.f0) := (blk_cell KT2.out 2).trans rfl; have z3 : w2.cell? ⟨w.heap.size, 3, none⟩ = some (.slice A3 t.f2.f1.length c3) := (blk_cell KT2.out 3).trans rfl; have z4 : w2.cell? ⟨w.heap.size, 4, none⟩ = some (.slice A4 t.f2.f2.length c4) := (blk_cell KT2.out 4).trans rfl; have k0 : (w2.alloc (.cells #[.int .u32 t.f0, .slice A1 t.f1.length c1, .string t.f2.f0, .slice A3 t.f2.f1.length c3, .slice A4 t.f2.f2.length c4, .int .i64 0, .slice none 0 0] 99)).cell? ⟨w.heap.size, 0, none⟩ = some (.int .u32 t.f0) := (blk_cell (blk_alloc KT2.out (.cells #[.int .u32 t.f0, .slice A1 t.f1.length c1, .string t.f2.f0, .slice A3 t.f2.f1.length c3, .slice A4 t.f2.f2.length c4, .int .i64 0, .slice none 0 0] 99)) 0).trans rfl; have k1 : (w2.alloc (.cells #[.int .u32 t.f0, .slice A1 t.f1.length c1, .string t.f2.f0, .slice A3 t.f2.f1.length c3, .slice A4 t.f2.f2.length c4, .int .i64 0, .slice none 0 0] 99)).cell? ⟨w.heap.size, 1, none⟩ = some (.slice A1 t.f1.length c1) := (blk_cell (blk_alloc KT2.out (.cells #[.int .u32 t.f0, .slice A1 t.f1.length c1, .string t.f2.f0, .slice A3 t.f2.f1.length c3, .slice A4 t.f2.f2.length c4, .int .i64 0, .slice none 0 0] 99)) 1).trans rfl; have k2 : (w2.alloc (.cells #[.int .u32 t.f0, .slice A1 t.f1.length c1, .string t.f2.f0, .slice A3 t.f2.f1.length c3, .slice A4 t.f2.f2.length c4, .int .i64 0, .slice none 0 0] 99)).cell? ⟨w.heap.size, 2, none⟩ = some (.string t.f2.f0) := (blk_cell (blk_alloc KT2.out (.cells #[.int .u32 t.f0, .slice A1 t.f1.length c1, .string t.f2.f0, .slice A3 t.f2.f1.length c3, .slice A4 t.f2.f2.length c4, .int .i64 0, .slice none 0 0] 99)) 2).trans rfl; have k3 : (w2.alloc (.cells #[.int .u32 t.f0, .slice A1 t.f1.length c1, .string t.f2.f0, .slice A3 t.f2.f1.length c3, .slice A4 t.f2.f2.length c4, .int .i64 0, .slice none 0 0] 99)).cell? ⟨w.heap.size, 3, none⟩ = some (.slice A3 t.f2.f1.length c3) := (blk_cell (blk_alloc KT2.out (.cells #[.int .u32 t.f0, .slice A1 t.f1.length c1, .string t.f2.f0, .slice A3 t.f2.f1.length c3, .slice A4 t.f2.f2.length c4, .int .i64 0, .slice none 0 0] 99)) 3).trans rfl; have k4 : (w2.alloc (.cells #[.int .u32 t.f0, .slice A1 t.f1.length c1, .string t.f2.f0, .slice A3 t.f2.f1.length c3, .slice A4 t.f2.f2.length c4, .int .i64 0, .slice none 0 0] 99)).cell? ⟨w.heap.size, 4, none⟩ = some (.slice A4 t.f2.f2.length c4) := (blk_cell (blk_alloc KT2.out (.cells #[.int .u32 t.f0, .slice A1 t.f1.length c1, .string t.f2.f0, .slice A3 t.f2.f1.length c3, .slice A4 t.f2.f2.length c4, .int .i64 0, .slice none 0 0] 99)) 4).trans rfl) | (go_at_call 40; refine (all_T (HT.out.below (below_alloc HB2.out (.cells #[.int .u32 t.f0, .slice A1 t.f1.length c1, .string t.f2.f0, .slice A3 t.f2.f1.length c3, .slice A4 t.f2.f2.length c4, .int .i64 0, .slice none 0 0] 99))) HPA.out).mono ?_; rintro e w3 ⟨u3, rfl, h3, hb⟩; obtain ⟨P, d, rfl⟩ := Kd.N_slice h3; have HN3 := Aside0.mk (Kd.N_reads' h3).2.2; have HB3 := Aside0.mk (below_step (below_alloc HB2.out (.cells #[.int .u32 t.f0, .slice A1 t.f1.length c1, .string t.f2.f0, .slice A3 t.f2.f1.length c3, .slice A4 t.f2.f2.length c4, .int .i64 0, .slice none 0 0] 99)) hb); have HLK := Aside0.mk (blk_below (blk_new w2 (.cells #[.int .u32 t.f0, .slice A1 t.f1.length c1, .string t.f2.f0, .slice A3 t.f2.f1.length c3, .slice A4 t.f2.f2.length c4, .int .i64 0, .slice none 0 0] 99 (0, 0))) hb); clear h3 hb z0 z1 z2 z3 z4 k0 k1 k2 k3 k4))
  obtain ⟨ad, P0, d0, e1, hx0, hl0, hC0⟩ := at_L1 HN3.out (0 : Int) (by decide) (by decide)
  subst e1
  rw [show ((0 : Int)).toNat = 0 from rfl, Addr.add_zero'] at hx0
  replace hx0 : w3.cell? ad = some (.slice P0 0 d0) := hx0
  clear hl0 hC0
  refine wp_loop_rounds 2 ?_
  rw [rounds_succ]
  go_wp2
  rw [rounds_succ]
  go_wp2_with (go_at_call 43; refine (whole0 ⟨HLK.out, HT.out.below HB3.out⟩ HPA.out HEN.out HOF.out HGE.out).mono ?_; rintro e w4 ⟨rfl, hb⟩; have HB4 := Aside0.mk (below_step HB3.out hb); clear hb)
  go_ret
  exact ⟨rfl, HB4.out⟩
end Go.Proofs.YtkfcgjopabcbeaaGreatDoor.PV

namespace Go.Proofs.YtkfcgjopabcbeaaGreatDoor.PV
open Go.RowKit Go.Proofs.YtkfcgjopabcbeaaGreatDoorW.PrintWords Go.Proofs.YtkfcgjopabcbeaaGreatDoorW.PrintLast Go.Proofs.YtkfcgjopabcbeaaGreatDoorW.PrintMore
attribute [local go_sem] max2_int min2_int max_two min_two max_three min_three max_four min_four   -- for this text's walks alone
set_option linter.unusedVariables false
set_option linter.unusedSimpArgs false
def valid_beyond.f (a0_0 : Int) (a0_1 : Int) (a0_2 : Int) : Option (Bool) := if a0_2 > 0 then (if (IntKind.u64.wrap (a0_2 - 1)) > (IntKind.u64.wrap (18446744073709551615 - a0_0)) then (some true) else (some (decide ((IntKind.u64.wrap (a0_2 - 1)) > (IntKind.u64.wrap (18446744073709551615 - a0_1)))))) else (some false)
end Go.Proofs.YtkfcgjopabcbeaaGreatDoor.PV

namespace Go.Proofs.YtkfcgjopabcbeaaGreatDoor.PV
open Go.RowKit Go.Proofs.YtkfcgjopabcbeaaGreatDoorW.PrintWords Go.Proofs.YtkfcgjopabcbeaaGreatDoorW.PrintLast Go.Proofs.YtkfcgjopabcbeaaGreatDoorW.PrintMore
attribute [local go_sem] max2_int min2_int max_two min_two max_three min_three max_four min_four   -- for this text's walks alone
set_option linter.unusedVariables false
set_option linter.unusedSimpArgs false
def region_last.f (a0_0 : Int) (a0_1 : Int) : Option (Int) := (region_whole.f a0_0 a0_1).bind fun t109 => (if t109 = true then (some (IntKind.u64.wrap (a0_0 + (IntKind.u64.wrap (a0_1 - 1))))) else (some 18446744073709551615))
end Go.Proofs.YtkfcgjopabcbeaaGreatDoor.PV

namespace Go.Proofs.YtkfcgjopabcbeaaGreatDoor.PV
open Go.RowKit Go.Proofs.YtkfcgjopabcbeaaGreatDoorW.PrintWords Go.Proofs.YtkfcgjopabcbeaaGreatDoorW.PrintLast Go.Proofs.YtkfcgjopabcbeaaGreatDoorW.PrintMore
attribute [local go_sem] max2_int min2_int max_two min_two max_three min_three max_four min_four   -- for this text's walks alone
set_option linter.unusedVariables false
set_option linter.unusedSimpArgs false
def region_Meet.f (a0_0 : Int) (a0_1 : Int) (a1_0 : Int) (a1_1 : Int) : Option (Bool) := if a0_1 > 0 then (if a1_1 > 0 then ((region_last.f a1_0 a1_1).bind fun t112 => (if a0_0 ≤ t112 then ((region_last.f a0_0 a0_1).bind fun t113 => (some (decide (a1_0 ≤ t113)))) else (some false))) else (some false)) else (some false)
end Go.Proofs.YtkfcgjopabcbeaaGreatDoor.PV

namespace Go.Proofs.YtkfcgjopabcbeaaGreatDoor.PV
open Go.RowKit Go.Proofs.YtkfcgjopabcbeaaGreatDoorW.PrintWords Go.Proofs.YtkfcgjopabcbeaaGreatDoorW.PrintLast Go.Proofs.YtkfcgjopabcbeaaGreatDoorW.PrintMore
attribute [local go_sem] max2_int min2_int max_two min_two max_three min_three max_four min_four   -- for this text's walks alone
set_option linter.unusedVariables false
set_option linter.unusedSimpArgs false
def slices_Equal_int_int.l0 : Nat → List Int → List Int → Int → Int → Option (Bool)
  | 0, _, _, _, _ => none
  | k + 1, x0, x1, x12, x13 => if x13 < x12 then (if 0 ≤ x13 then (if x13 < (x0.length : Int) then (if x13 < (x1.length : Int) then (if (rd x0 x13) = (rd x1 x13) then (slices_Equal_int_int.l0 k x0 x1 x12 (wrap64 (x13 + 1))) else (some false)) else (none)) else (none)) else (none)) else (some true)
def slices_Equal_int_int.f (k : Nat) (l0 : List Int) (l1 : List Int) : Option (Bool) := if (l0.length : Int) = (l1.length : Int) then (slices_Equal_int_int.l0 k l0 l1 (l0.length : Int) 0) else (some false)
end Go.Proofs.YtkfcgjopabcbeaaGreatDoor.PV

namespace Go.Proofs.YtkfcgjopabcbeaaGreatDoor.PV
end Go.Proofs.YtkfcgjopabcbeaaGreatDoor.PV

namespace Go.Proofs.YtkfcgjopabcbeaaGreatDoor.PV
end Go.Proofs.YtkfcgjopabcbeaaGreatDoor.PV

namespace Go.Proofs.YtkfcgjopabcbeaaGreatDoor.PV
end Go.Proofs.YtkfcgjopabcbeaaGreatDoor.PV

namespace Go.Proofs.YtkfcgjopabcbeaaGreatDoor.PV
open Go.RowKit Go.Proofs.YtkfcgjopabcbeaaGreatDoorW.PrintWords Go.Proofs.YtkfcgjopabcbeaaGreatDoorW.PrintLast Go.Proofs.YtkfcgjopabcbeaaGreatDoorW.PrintMore
attribute [local go_sem] max2_int min2_int max_two min_two max_three min_three max_four min_four
set_option linter.unusedVariables false
set_option linter.unusedSimpArgs false
theorem nil_Tick (w : World) : Calls Tryz.prog 13 #[.pointer none] w fun e w' => e = .returned (.tuple #[]) ∧ Below w.heap.size w w' := by
  go_enter Tryz.func13, Tryz.ntmps13
  go_wp2
  first | go_end0 | ((try simp only [Exit.inBlock, Exit.then]); refine bodyPost_ret (results_none rfl _ _ _) rfl ?_)
  exact ⟨rfl, Below.refl _ _⟩
theorem nil_Where (a n : Int) (w : World) : Calls Tryz.prog 15 #[.pointer none, .int .u64 a, .int .i64 n] w fun e w' => e = .returned (.tuple #[.int .i64 0, .int .u64 0, .int .i64 1]) ∧ Below w.heap.size w w' := by
  go_enter Tryz.func15, Tryz.ntmps15
  go_wp2
  go_ret3
  exact ⟨rfl, Below.refl _ _⟩
theorem nil_Load (a n : Int) (w : World) : Calls Tryz.prog 14 #[.pointer none, .int .u64 a, .int .i64 n] w fun e w' => e = .returned (.tuple #[.int .u64 0, .int .i64 1]) ∧ Below w.heap.size w w' := by
  go_enter Tryz.func14, Tryz.ntmps14
  go_wp2_with (go_at_call 15; refine (nil_Where a n w).mono ?_; rintro e w2 ⟨rfl, hb⟩; have HB2 := Aside0.mk hb; clear hb)
  go_ret2
  exact ⟨rfl, HB2.out⟩
theorem nil_Store (a n v : Int) (w : World) : Calls Tryz.prog 16 #[.pointer none, .int .u64 a, .int .i64 n, .int .u64 v] w fun e w' => e = .returned (.int .i64 1) ∧ Below w.heap.size w w' := by
  go_enter Tryz.func16, Tryz.ntmps16
  go_wp2_with (go_at_call 15; refine (nil_Where a n w).mono ?_; rintro e w2 ⟨rfl, hb⟩; have HB2 := Aside0.mk hb; clear hb)
  go_ret
  exact ⟨rfl, HB2.out⟩
theorem nil_of (n kd : Int) (w : World) : Calls Tryz.prog 51 #[.pointer none, .int .i64 n, .int .i64 kd] w fun e w' => e = .returned (.pointer none) ∧ Below w.heap.size w w' := by
  go_enter Tryz.func51, Tryz.ntmps51
  go_wp2
  go_ret
  exact ⟨rfl, Below.refl _ _⟩
theorem nil_Come (n v : Int) (w : World) : Calls Tryz.prog 17 #[.pointer none, .int .i64 n, .int .u8 v] w fun e w' => e = .returned (.int .i64 1) ∧ Below w.heap.size w w' := by
  go_enter Tryz.func17, Tryz.ntmps17
  go_wp2_with (go_at_call 51; refine (nil_of _ _ _).mono ?_; rintro e w2 ⟨rfl, hb⟩; have HB2 := Aside0.mk hb; clear hb)
  go_ret
  exact ⟨rfl, HB2.out⟩
theorem nil_Pin (n p : Int) (b : Bool) (w : World) : Calls Tryz.prog 18 #[.pointer none, .int .i64 n, .int .i64 p, .bool b] w fun e w' => e = .returned (.int .i64 1) ∧ Below w.heap.size w w' := by
  go_enter Tryz.func18, Tryz.ntmps18
  go_wp2_with (go_at_call 51; refine (nil_of _ _ _).mono ?_; rintro e w2 ⟨rfl, hb⟩; have HB2 := Aside0.mk hb; clear hb)
  go_ret
  exact ⟨rfl, HB2.out⟩
theorem nil_Sent (n : Int) (w : World) : Calls Tryz.prog 19 #[.pointer none, .int .i64 n] w fun e w' => e = .returned (.slice none 0 0) ∧ Below w.heap.size w w' := by
  go_enter Tryz.func19, Tryz.ntmps19
  go_wp2_with (go_at_call 51; refine (nil_of _ _ _).mono ?_; rintro e w2 ⟨rfl, hb⟩; have HB2 := Aside0.mk hb; clear hb)
  go_ret
  exact ⟨rfl, HB2.out⟩
theorem nil_Outside (n : Int) (w : World) : Calls Tryz.prog 20 #[.pointer none, .int .i64 n] w fun e w' => e = .returned (.int .u32 0) ∧ Below w.heap.size w w' := by
  go_enter Tryz.func20, Tryz.ntmps20
  go_wp2_with (go_at_call 51; refine (nil_of _ _ _).mono ?_; rintro e w2 ⟨rfl, hb⟩; have HB2 := Aside0.mk hb; clear hb)
  go_ret
  exact ⟨rfl, HB2.out⟩
theorem nil_High (w : World) : Calls Tryz.prog 21 #[.pointer none] w fun e w' => e = .returned (.bool false) ∧ Below w.heap.size w w' := by
  go_enter Tryz.func21, Tryz.ntmps21
  go_wp2
  refine start_ (n := 23) (S := fun w' => True) (ds := []) #[false, false, false, false, false, false, false, false, false, false, false, false, false, false, false, false, false, false, false, false, false, false, false] (by kernel_rfl) rfl rfl trivial (fun hHeld => ?_)
  refine pure_ (i := 0) (N := some 3) (v := ?_) (a' := ?_) #[true, false, false, false, false, false, false, false, false, false, false, false, false, false, false, false, false, false, false, false, false, false, false] rfl rfl (by kernel_rfl) (fun _ _ _ h => h) (Or.inl ⟨by rfl, ?_⟩) ?_ ?_
  rotate_left
  · intro w'
    go_simp
    with_reducible rfl
  rotate_left
  · simp only [Act.put, List.setIfInBounds_toArray, List.set_cons_zero, List.set_cons_succ, i64_w, i32_w]
    rfl
  refine pure_ (i := 1) (N := some 4) (v := ?_) (a' := ?_) #[true, true, false, false, false, false, false, false, false, false, false, false, false, false, false, false, false, false, false, false, false, false, false] rfl rfl (by kernel_rfl) (fun _ _ _ h => h) (Or.inl ⟨by rfl, ?_⟩) ?_ ?_
  rotate_left
  · intro w'
    go_simp
    with_reducible rfl
  rotate_left
  · simp only [Act.put, List.setIfInBounds_toArray, List.set_cons_zero, List.set_cons_succ, i64_w, i32_w]
    rfl
  refine pure_ (i := 2) (N := some 5) (v := ?_) (a' := ?_) #[true, true, true, false, false, false, false, false, false, false, false, false, false, false, false, false, false, false, false, false, false, false, false] rfl rfl (by kernel_rfl) (fun _ _ _ h => h) (Or.inl ⟨by rfl, ?_⟩) ?_ ?_
  rotate_left
  · intro w'
    go_simp
    with_reducible rfl
  rotate_left
  · simp only [Act.put, List.setIfInBounds_toArray, List.set_cons_zero, List.set_cons_succ, i64_w, i32_w]
    rfl
  refine pure_ (i := 3) (N := some 6) (v := undef) (a' := ?_) #[true, true, true, true, false, false, false, false, false, false, false, false, false, false, false, false, false, false, false, false, false, false, false] rfl rfl (by kernel_rfl) (fun _ _ _ h => h) (Or.inr ⟨by rfl, rfl⟩) ?_ ?_
  rotate_left
  · simp only [Act.put, List.setIfInBounds_toArray, List.set_cons_zero, List.set_cons_succ, i64_w, i32_w]
    rfl
  refine pure_ (i := 4) (N := some 7) (v := undef) (a' := ?_) #[true, true, true, true, true, false, false, false, false, false, false, false, false, false, false, false, false, false, false, false, false, false, false] rfl rfl (by kernel_rfl) (fun _ _ _ h => h) (Or.inr ⟨by rfl, rfl⟩) ?_ ?_
  rotate_left
  · simp only [Act.put, List.setIfInBounds_toArray, List.set_cons_zero, List.set_cons_succ, i64_w, i32_w]
    rfl
  refine pure_ (i := 5) (N := some 8) (v := undef) (a' := ?_) #[true, true, true, true, true, true, false, false, false, false, false, false, false, false, false, false, false, false, false, false, false, false, false] rfl rfl (by kernel_rfl) (fun _ _ _ h => h) (Or.inr ⟨by rfl, rfl⟩) ?_ ?_
  rotate_left
  · simp only [Act.put, List.setIfInBounds_toArray, List.set_cons_zero, List.set_cons_succ, i64_w, i32_w]
    rfl
  refine pure_ (i := 6) (N := some 9) (v := undef) (a' := ?_) #[true, true, true, true, true, true, true, false, false, false, false, false, false, false, false, false, false, false, false, false, false, false, false] rfl rfl (by kernel_rfl) (fun _ _ _ h => h) (Or.inr ⟨by rfl, rfl⟩) ?_ ?_
  rotate_left
  · simp only [Act.put, List.setIfInBounds_toArray, List.set_cons_zero, List.set_cons_succ, i64_w, i32_w]
    rfl
  refine pure_ (i := 7) (N := some 10) (v := undef) (a' := ?_) #[true, true, true, true, true, true, true, true, false, false, false, false, false, false, false, false, false, false, false, false, false, false, false] rfl rfl (by kernel_rfl) (fun _ _ _ h => h) (Or.inr ⟨by rfl, rfl⟩) ?_ ?_
  rotate_left
  · simp only [Act.put, List.setIfInBounds_toArray, List.set_cons_zero, List.set_cons_succ, i64_w, i32_w]
    rfl
  refine pure_ (i := 8) (N := some 11) (v := ?_) (a' := ?_) #[true, true, true, true, true, true, true, true, true, false, false, false, false, false, false, false, false, false, false, false, false, false, false] rfl rfl (by kernel_rfl) (fun _ _ _ h => h) (Or.inl ⟨by rfl, ?_⟩) ?_ ?_
  rotate_left
  · intro w'
    go_simp
    with_reducible rfl
  rotate_left
  · simp only [Act.put, List.setIfInBounds_toArray, List.set_cons_zero, List.set_cons_succ, i64_w, i32_w]
    rfl
  refine pure_ (i := 9) (N := some 12) (v := ?_) (a' := ?_) #[true, true, true, true, true, true, true, true, true, true, false, false, false, false, false, false, false, false, false, false, false, false, false] rfl rfl (by kernel_rfl) (fun _ _ _ h => h) (Or.inl ⟨by rfl, ?_⟩) ?_ ?_
  rotate_left
  · intro w'
    go_simp
    with_reducible rfl
  rotate_left
  · simp only [Act.put, List.setIfInBounds_toArray, List.set_cons_zero, List.set_cons_succ, i64_w, i32_w]
    rfl
  refine pure_ (i := 10) (N := some 13) (v := undef) (a' := ?_) #[true, true, true, true, true, true, true, true, true, true, true, false, false, false, false, false, false, false, false, false, false, false, false] rfl rfl (by kernel_rfl) (fun _ _ _ h => h) (Or.inr ⟨by rfl, rfl⟩) ?_ ?_
  rotate_left
  · simp only [Act.put, List.setIfInBounds_toArray, List.set_cons_zero, List.set_cons_succ, i64_w, i32_w]
    rfl
  refine pure_ (i := 11) (N := some 14) (v := undef) (a' := ?_) #[true, true, true, true, true, true, true, true, true, true, true, true, false, false, false, false, false, false, false, false, false, false, false] rfl rfl (by kernel_rfl) (fun _ _ _ h => h) (Or.inr ⟨by rfl, rfl⟩) ?_ ?_
  rotate_left
  · simp only [Act.put, List.setIfInBounds_toArray, List.set_cons_zero, List.set_cons_succ, i64_w, i32_w]
    rfl
  refine pure_ (i := 12) (N := some 15) (v := undef) (a' := ?_) #[true, true, true, true, true, true, true, true, true, true, true, true, true, false, false, false, false, false, false, false, false, false, false] rfl rfl (by kernel_rfl) (fun _ _ _ h => h) (Or.inr ⟨by rfl, rfl⟩) ?_ ?_
  rotate_left
  · simp only [Act.put, List.setIfInBounds_toArray, List.set_cons_zero, List.set_cons_succ, i64_w, i32_w]
    rfl
  refine pure_ (i := 13) (N := some 16) (v := undef) (a' := ?_) #[true, true, true, true, true, true, true, true, true, true, true, true, true, true, false, false, false, false, false, false, false, false, false] rfl rfl (by kernel_rfl) (fun _ _ _ h => h) (Or.inr ⟨by rfl, rfl⟩) ?_ ?_
  rotate_left
  · simp only [Act.put, List.setIfInBounds_toArray, List.set_cons_zero, List.set_cons_succ, i64_w, i32_w]
    rfl
  refine pure_ (i := 14) (N := some 17) (v := undef) (a' := ?_) #[true, true, true, true, true, true, true, true, true, true, true, true, true, true, true, false, false, false, false, false, false, false, false] rfl rfl (by kernel_rfl) (fun _ _ _ h => h) (Or.inr ⟨by rfl, rfl⟩) ?_ ?_
  rotate_left
  · simp only [Act.put, List.setIfInBounds_toArray, List.set_cons_zero, List.set_cons_succ, i64_w, i32_w]
    rfl
  refine pure_ (i := 15) (N := some 18) (v := undef) (a' := ?_) #[true, true, true, true, true, true, true, true, true, true, true, true, true, true, true, true, false, false, false, false, false, false, false] rfl rfl (by kernel_rfl) (fun _ _ _ h => h) (Or.inr ⟨by rfl, rfl⟩) ?_ ?_
  rotate_left
  · simp only [Act.put, List.setIfInBounds_toArray, List.set_cons_zero, List.set_cons_succ, i64_w, i32_w]
    rfl
  refine pure_ (i := 16) (N := some 19) (v := undef) (a' := ?_) #[true, true, true, true, true, true, true, true, true, true, true, true, true, true, true, true, true, false, false, false, false, false, false] rfl rfl (by kernel_rfl) (fun _ _ _ h => h) (Or.inr ⟨by rfl, rfl⟩) ?_ ?_
  rotate_left
  · simp only [Act.put, List.setIfInBounds_toArray, List.set_cons_zero, List.set_cons_succ, i64_w, i32_w]
    rfl
  refine pure_ (i := 17) (N := some 20) (v := undef) (a' := ?_) #[true, true, true, true, true, true, true, true, true, true, true, true, true, true, true, true, true, true, false, false, false, false, false] rfl rfl (by kernel_rfl) (fun _ _ _ h => h) (Or.inr ⟨by rfl, rfl⟩) ?_ ?_
  rotate_left
  · simp only [Act.put, List.setIfInBounds_toArray, List.set_cons_zero, List.set_cons_succ, i64_w, i32_w]
    rfl
  refine pure_ (i := 18) (N := some 21) (v := undef) (a' := ?_) #[true, true, true, true, true, true, true, true, true, true, true, true, true, true, true, true, true, true, true, false, false, false, false] rfl rfl (by kernel_rfl) (fun _ _ _ h => h) (Or.inr ⟨by rfl, rfl⟩) ?_ ?_
  rotate_left
  · simp only [Act.put, List.setIfInBounds_toArray, List.set_cons_zero, List.set_cons_succ, i64_w, i32_w]
    rfl
  refine pure_ (i := 19) (N := some 22) (v := undef) (a' := ?_) #[true, true, true, true, true, true, true, true, true, true, true, true, true, true, true, true, true, true, true, true, false, false, false] rfl rfl (by kernel_rfl) (fun _ _ _ h => h) (Or.inr ⟨by rfl, rfl⟩) ?_ ?_
  rotate_left
  · simp only [Act.put, List.setIfInBounds_toArray, List.set_cons_zero, List.set_cons_succ, i64_w, i32_w]
    rfl
  refine pure_ (i := 20) (N := some 23) (v := undef) (a' := ?_) #[true, true, true, true, true, true, true, true, true, true, true, true, true, true, true, true, true, true, true, true, true, false, false] rfl rfl (by kernel_rfl) (fun _ _ _ h => h) (Or.inr ⟨by rfl, rfl⟩) ?_ ?_
  rotate_left
  · simp only [Act.put, List.setIfInBounds_toArray, List.set_cons_zero, List.set_cons_succ, i64_w, i32_w]
    rfl
  refine pure_ (i := 21) (N := some 24) (v := ?_) (a' := ?_) #[true, true, true, true, true, true, true, true, true, true, true, true, true, true, true, true, true, true, true, true, true, true, false] rfl rfl (by kernel_rfl) (fun _ _ _ h => h) (Or.inl ⟨by rfl, ?_⟩) ?_ ?_
  rotate_left
  · intro w'
    go_simp
    with_reducible rfl
  rotate_left
  · simp only [Act.put, List.setIfInBounds_toArray, List.set_cons_zero, List.set_cons_succ, i64_w, i32_w]
    rfl
  refine pure_ (i := 22) (N := some 2) (v := ?_) (a' := ?_) #[true, true, true, true, true, true, true, true, true, true, true, true, true, true, true, true, true, true, true, true, true, true, true] rfl rfl (by kernel_rfl) (fun _ _ _ h => h) (Or.inl ⟨by rfl, ?_⟩) ?_ ?_
  rotate_left
  · intro w'
    go_simp
    with_reducible rfl
  rotate_left
  · simp only [Act.put, List.setIfInBounds_toArray, List.set_cons_zero, List.set_cons_succ, i64_w, i32_w]
    rfl
  refine done_ (by kernel_rfl) ?_
  go_wp2
  go_ret
  exact ⟨rfl, below_drew1 (Below.refl _ _)⟩
theorem nil_Line (n : Int) (w : World) : Calls Tryz.prog 22 #[.pointer none, .int .i64 n] w fun e w' => e = .returned (.bool false) ∧ Below w.heap.size w w' := by
  go_enter Tryz.func22, Tryz.ntmps22
  go_wp2
  go_ret
  exact ⟨rfl, Below.refl _ _⟩
theorem nil_All (w : World) : Calls Tryz.prog 23 #[.pointer none] w fun e w' => e = .returned (.slice none 0 0) ∧ Below w.heap.size w w' := by
  go_enter Tryz.func23, Tryz.ntmps23
  go_wp2
  go_ret
  exact ⟨rfl, Below.refl _ _⟩
theorem nil_Fabric (w : World) : Calls Tryz.prog 24 #[.pointer none] w fun e w' => e = .returned (.slice none 0 0) ∧ Below w.heap.size w w' := by
  go_enter Tryz.func24, Tryz.ntmps24
  go_wp2
  go_ret
  exact ⟨rfl, Below.refl _ _⟩
end Go.Proofs.YtkfcgjopabcbeaaGreatDoor.PV

namespace Go.Proofs.YtkfcgjopabcbeaaGreatDoor.PV
open Go.RowKit Go.Proofs.YtkfcgjopabcbeaaGreatDoorW.PrintWords Go.Proofs.YtkfcgjopabcbeaaGreatDoorW.PrintLast Go.Proofs.YtkfcgjopabcbeaaGreatDoorW.PrintMore
attribute [local go_sem] max2_int min2_int max_two min_two max_three min_three max_four min_four
set_option linter.unusedVariables false
set_option linter.unusedSimpArgs false
set_option maxHeartbeats 4000000 in
theorem rb0 (a : Addr) (c : Nat) (w : World) {P0 : Option Addr} {d0 : Nat} (h : w.cell? a = some (.slice P0 0 d0)) : Calls Tryz.prog 176 #[.slice (some a) 1 c, .int .i64 0] w fun e w' => e = .returned (.bool true) ∧ Below w.heap.size w w' := by
  go_enter Tryz.func176, Tryz.ntmps176
  go_wp2
  refine wp_loop_rounds 1 ?_
  rw [rounds_succ]
  go_wp2
  go_ret
  exact ⟨rfl, Below.refl _ _⟩
theorem right0 (a : Addr) (c : Nat) (w : World) {P0 : Option Addr} {d0 : Nat} (h : w.cell? a = some (.slice P0 0 d0)) : Calls Tryz.prog 105 #[.slice (some a) 1 c] w fun e w' => e = .returned (.bool true) ∧ Below w.heap.size w w' := by
  go_enter Tryz.func105, Tryz.ntmps105
  go_wp2
  refine wp_loop_rounds 2 ?_
  rw [rounds_succ]
  go_wp2_with (go_at_call 176; refine (rb0 a c w h).mono ?_; rintro e w2 ⟨rfl, hb⟩; have HB2 := Aside0.mk hb; clear hb)
  rw [rounds_succ]
  go_wp2
  go_ret
  exact ⟨rfl, HB2.out⟩
theorem idxE (P0 : Option Addr) (d0 : Nat) (f : Value) (w : World) : Calls Tryz.prog 106 #[.slice P0 0 d0, f] w fun e w' => e = .returned (.int .i64 (-1)) ∧ Below w.heap.size w w' := by
  go_enter Tryz.func106, Tryz.ntmps106
  go_wp2
  refine wp_loop_rounds 1 ?_
  rw [rounds_succ]
  go_wp2
  go_ret
  exact ⟨rfl, Below.refl _ _⟩
set_option maxHeartbeats 4000000 in
theorem dec0 (a : Addr) (c : Nat) (w : World) {P0 : Option Addr} {d0 : Nat} (h : w.cell? a = some (.slice P0 0 d0)) : Calls Tryz.prog 49 #[.slice (some a) 1 c, .int .u64 0, .int .i64 4] w fun e w' => ∃ x y z, e = .returned (.tuple #[.agg #[.int .i64 x, .int .u64 y, .int .i64 z], .int .i64 17]) ∧ Below w.heap.size w w' := by
  have hu := Tryz.underlying125
  have hb1 := below_alloc (below_alloc (below_alloc (Below.refl w.heap.size w) (.cells #[.int .u64 0] 43)) (.cells #[.int .i64 4] 3)) (.cells #[.int .i64 0, .int .u64 0, .int .i64 0] 125)
  have h1 := (hb1.cell (World.block_lt_of_cell? w _ h)).trans h
  have HB1 := Aside0.mk hb1
  have H1 := Aside0.mk h1
  have q := right0 a c _ h1
  have hx0 : ((((w.alloc (.cells #[.int .u64 0] 43)).alloc (.cells #[.int .i64 4] 3)).alloc (.cells #[.int .i64 0, .int .u64 0, .int .i64 0] 125))).heap[w.heap.size + 1]? = some (.cells #[.int .i64 4] 3 (0, 0)) := by
    have := blk_alloc (blk_new (w.alloc (.cells #[.int .u64 0] 43)) (.cells #[.int .i64 4] 3 (0, 0))) (.cells #[.int .i64 0, .int .u64 0, .int .i64 0] 125)
    simpa using this
  have hx1 : ((((w.alloc (.cells #[.int .u64 0] 43)).alloc (.cells #[.int .i64 4] 3)).alloc (.cells #[.int .i64 0, .int .u64 0, .int .i64 0] 125))).heap[w.heap.size + 1 + 1]? = some (.cells #[.int .i64 0, .int .u64 0, .int .i64 0] 125 (0, 0)) := by
    have := blk_new ((w.alloc (.cells #[.int .u64 0] 43)).alloc (.cells #[.int .i64 4] 3)) (.cells #[.int .i64 0, .int .u64 0, .int .i64 0] 125 (0, 0))
    simpa using this
  have HX0 := Aside0.mk hx0
  have HX1 := Aside0.mk hx1
  clear hb1 h1 hx0 hx1
  go_enter Tryz.func49, Tryz.ntmps49
  go_wp2_with (go_at_call 105; refine q.mono ?_; rintro e w2 ⟨rfl, hb⟩; have HB2 := Aside0.mk (HB1.out.trans (hb.mono HB1.out.size)); have h2 := (hb.cell (World.block_lt_of_cell? _ _ H1.out)).trans H1.out; have k0 := blk_below HX0.out hb; have k1 := blk_below HX1.out hb; have z0 : w2.cell? ⟨w.heap.size + 1, 0, none⟩ = some (.int .i64 4) := (blk_cell k0 0).trans rfl; have K1 := Aside0.mk k1; clear hb k0 k1)
  refine wp_loop_rounds 1 ?_
  rw [rounds_succ]
  go_wp2_with (go_at_call 106; refine (idxE _ _ _ _).mono ?_; rintro e w3 ⟨rfl, hb⟩; have HB3 := Aside0.mk (below_step HB2.out hb); have K3 := Aside0.mk (blk_below K1.out hb); have y0 : w3.cell? ⟨w.heap.size + 1 + 1, 0, none⟩ = some (.int .i64 0) := (blk_cell K3.out 0).trans rfl; have y1 : w3.cell? ⟨w.heap.size + 1 + 1, 1, none⟩ = some (.int .u64 0) := (blk_cell K3.out 1).trans rfl; have y2 : w3.cell? ⟨w.heap.size + 1 + 1, 2, none⟩ = some (.int .i64 0) := (blk_cell K3.out 2).trans rfl; have g0 := blk_frozen K3.out 0; have g1 := blk_frozen K3.out 1; have g2 := blk_frozen K3.out 2; clear hb)
  refine bodyPost_ret (results_ct rfl _ _ (w.heap.size + 1 + 1) 125 #[.int .i64 0, .int .u64 0, .int .i64 0] (0, 0) _ rfl (blk_set (blk_set (blk_set K3.out 0 _) 1 _) 2 _) hu rfl (by kernel_rfl)) rfl ?_
  exact ⟨_, _, _, rfl, below_set (below_set (below_set HB3.out (by show w.heap.size ≤ w.heap.size + 1 + 1; omega)) (by show w.heap.size ≤ w.heap.size + 1 + 1; omega)) (by show w.heap.size ≤ w.heap.size + 1 + 1; omega)⟩
end Go.Proofs.YtkfcgjopabcbeaaGreatDoor.PV

namespace Go.Proofs.YtkfcgjopabcbeaaGreatDoor.PV
open Go.RowKit Go.Proofs.YtkfcgjopabcbeaaGreatDoorW.PrintWords Go.Proofs.YtkfcgjopabcbeaaGreatDoorW.PrintLast Go.Proofs.YtkfcgjopabcbeaaGreatDoorW.PrintMore
attribute [local go_sem] max2_int min2_int max_two min_two max_three min_three max_four min_four
set_option linter.unusedVariables false
set_option linter.unusedSimpArgs false
theorem where0 (sb : Nat) (a : Addr) (c : Nat) (l : Int) (w : World) (hs : w.heap[sb]? = some (.cells #[.slice (some a) 1 c, .slice none 0 0, .slice none 0 0, .int .i64 l] 108 (0, 0))) {P0 : Option Addr} {d0 : Nat} (h : w.cell? a = some (.slice P0 0 d0)) : Calls Tryz.prog 15 #[.pointer (some ⟨sb, 0, none⟩), .int .u64 0, .int .i64 4] w fun e w' => ∃ x y, e = .returned (.tuple #[.int .i64 x, .int .u64 y, .int .i64 17]) ∧ Below w.heap.size w w' := by
  have hu := Tryz.underlying108
  have hu2 := Tryz.underlying125
  have s0 : w.cell? ⟨sb, 0, none⟩ = some (.slice (some a) 1 c) := (blk_cell hs 0).trans rfl
  have q := dec0 a c w h
  go_enter Tryz.func15, Tryz.ntmps15
  go_wp2_with (go_at_call 49; refine q.mono ?_; rintro e w2 ⟨x, y, z, rfl, hb⟩; have HB2 := Aside0.mk hb; clear hb)
  have HZ := Aside0.mk (blk_new w2 (.cells #[.int .i64 x, .int .u64 y, .int .i64 z] 125 (0, 0)))
  have HB3 := Aside0.mk (below_alloc HB2.out (.cells #[.int .i64 x, .int .u64 y, .int .i64 z] 125))
  replace HZ : Aside0 ((w2.alloc (.cells #[.int .i64 x, .int .u64 y, .int .i64 z] 125)).heap[w2.heap.size]? = some (.cells #[.int .i64 x, .int .u64 y, .int .i64 z] 125 (0, 0))) := HZ
  generalize w2.alloc (.cells #[.int .i64 x, .int .u64 y, .int .i64 z] 125) = wz at HZ HB3 ⊢
  refine start_ (n := 8) (S := fun w' => w'.cell? ⟨w2.heap.size, 0, none⟩ = some (.int .i64 x) ∧ w'.cell? ⟨w2.heap.size, 1, none⟩ = some (.int .u64 y)) (ds := []) #[false, false, false, false, false, false, false, false] (by kernel_rfl) rfl rfl ⟨((blk_cell HZ.out 0).trans rfl), ((blk_cell HZ.out 1).trans rfl)⟩ (fun hHeld => ?_)
  refine pure_ (i := 0) (N := some 23) (v := ?_) (a' := ?_) #[true, false, false, false, false, false, false, false] rfl rfl (by kernel_rfl) (fun _ _ _ h => h) (Or.inl ⟨by rfl, ?_⟩) ?_ ?_
  rotate_left
  · intro w'
    go_simp
    with_reducible rfl
  rotate_left
  · simp only [Act.put, List.setIfInBounds_toArray, List.set_cons_zero, List.set_cons_succ, i64_w, i32_w]
    rfl
  refine pure_ (i := 2) (N := some 25) (v := ?_) (a' := ?_) #[true, false, true, false, false, false, false, false] rfl rfl (by kernel_rfl) (fun _ _ _ h => h) (Or.inl ⟨by rfl, ?_⟩) ?_ ?_
  rotate_left
  · intro w'
    go_simp
    with_reducible rfl
  rotate_left
  · simp only [Act.put, List.setIfInBounds_toArray, List.set_cons_zero, List.set_cons_succ, i64_w, i32_w]
    rfl
  refine pure_ (i := 4) (N := some 27) (v := ?_) (a' := ?_) #[true, false, true, false, true, false, false, false] rfl rfl (by kernel_rfl) (fun _ _ _ h => h) (Or.inl ⟨by rfl, ?_⟩) ?_ ?_
  rotate_left
  · intro w'
    go_simp
    with_reducible rfl
  rotate_left
  · simp only [Act.put, List.setIfInBounds_toArray, List.set_cons_zero, List.set_cons_succ, i64_w, i32_w]
    rfl
  refine take_ (i := 1) (N := some 24) (v := ?_) (a' := ?_) #[true, true, true, false, true, false, false, false] rfl rfl (by kernel_rfl) (fun _ _ _ h => h) (Or.inl ⟨by rfl, ?_⟩) hHeld ?_ ?_
  rotate_left
  · rintro w' ⟨s0, s1⟩
    go_simp
    with_reducible rfl
  rotate_left
  · simp only [Act.put, List.setIfInBounds_toArray, List.set_cons_zero, List.set_cons_succ, i64_w, i32_w]
    rfl
  refine pure_ (i := 5) (N := some 6) (v := ?_) (a' := ?_) #[true, true, true, false, true, true, false, false] rfl rfl (by kernel_rfl) (fun _ _ _ h => h) (Or.inl ⟨by rfl, ?_⟩) ?_ ?_
  rotate_left
  · intro w'
    go_simp
    with_reducible rfl
  rotate_left
  · simp only [Act.put, List.setIfInBounds_toArray, List.set_cons_zero, List.set_cons_succ, i64_w, i32_w]
    rfl
  refine take_ (i := 3) (N := some 26) (v := ?_) (a' := ?_) #[true, true, true, true, true, true, false, false] rfl rfl (by kernel_rfl) (fun _ _ _ h => h) (Or.inl ⟨by rfl, ?_⟩) hHeld ?_ ?_
  rotate_left
  · rintro w' ⟨s0, s1⟩
    go_simp
    with_reducible rfl
  rotate_left
  · simp only [Act.put, List.setIfInBounds_toArray, List.set_cons_zero, List.set_cons_succ, i64_w, i32_w]
    rfl
  refine pure_ (i := 6) (N := some 7) (v := ?_) (a' := ?_) #[true, true, true, true, true, true, true, false] rfl rfl (by kernel_rfl) (fun _ _ _ h => h) (Or.inl ⟨by rfl, ?_⟩) ?_ ?_
  rotate_left
  · intro w'
    go_simp
    with_reducible rfl
  rotate_left
  · simp only [Act.put, List.setIfInBounds_toArray, List.set_cons_zero, List.set_cons_succ, i64_w, i32_w]
    rfl
  refine pure_ (i := 7) (N := some 8) (v := ?_) (a' := ?_) #[true, true, true, true, true, true, true, true] rfl rfl (by kernel_rfl) (fun _ _ _ h => h) (Or.inl ⟨by rfl, ?_⟩) ?_ ?_
  rotate_left
  · intro w'
    go_simp
    with_reducible rfl
  rotate_left
  · simp only [Act.put, List.setIfInBounds_toArray, List.set_cons_zero, List.set_cons_succ, i64_w, i32_w]
    rfl
  refine done_ (by kernel_rfl) ?_
  go_wp2
  go_ret3
  exact ⟨_, _, rfl, below_drew1 HB3.out⟩
theorem load0 (sb : Nat) (a : Addr) (c : Nat) (l : Int) (w : World) (hs : w.heap[sb]? = some (.cells #[.slice (some a) 1 c, .slice none 0 0, .slice none 0 0, .int .i64 l] 108 (0, 0))) {P0 : Option Addr} {d0 : Nat} (h : w.cell? a = some (.slice P0 0 d0)) : Calls Tryz.prog 14 #[.pointer (some ⟨sb, 0, none⟩), .int .u64 0, .int .i64 4] w fun e w' => e = .returned (.tuple #[.int .u64 0, .int .i64 17]) ∧ Below w.heap.size w w' := by
  have q := where0 sb a c l w hs h
  go_enter Tryz.func14, Tryz.ntmps14
  go_wp2_with (go_at_call 15; refine q.mono ?_; rintro e w2 ⟨x, y, rfl, hb⟩; have HB2 := Aside0.mk hb; clear hb)
  go_ret2
  exact ⟨rfl, HB2.out⟩
end Go.Proofs.YtkfcgjopabcbeaaGreatDoor.PV

namespace Go.Proofs.YtkfcgjopabcbeaaGreatDoor.PV
open Go.RowKit Go.Proofs.YtkfcgjopabcbeaaGreatDoorW.PrintWords Go.Proofs.YtkfcgjopabcbeaaGreatDoorW.PrintLast Go.Proofs.YtkfcgjopabcbeaaGreatDoorW.PrintMore
attribute [local go_sem] max2_int min2_int max_two min_two max_three min_three max_four min_four
set_option linter.unusedVariables false
set_option linter.unusedSimpArgs false
open Go.Proofs.YtkfcgjopabcbeaaGreatDoor.Aid Go.Proofs.YtkfcgjopabcbeaaGreatDoor.Rdr
set_option maxRecDepth 100000 in
set_option maxHeartbeats 4000000 in
theorem gather0 {w0 w : World} {t : S29} {A1 : Option Addr} {c1 : Nat} {A3 : Option Addr} {c3 : Nat} {A4 : Option Addr} {c4 : Nat} (hT : TreeC w0 t A1 c1 A3 c3 A4 c4) (hb0 : Below w0.heap.size w0 w) {bb sb : Nat} (hlt : w0.heap.size ≤ bb) (hK : w.heap[bb]? = some (.cells #[.int .u32 t.f0, .slice A1 t.f1.length c1, .string t.f2.f0, .slice A3 t.f2.f1.length c3, .slice A4 t.f2.f2.length c4, .pointer (some ⟨sb, 0, none⟩), .slice none 0 0, .slice none 0 0] 203 (0, 0)))
    {k : Nat} (hpa : path_All.f k t.f0 t.f1 t.f2.f0 t.f2.f1 t.f2.f2 = some [[]]) {o1 o2 : Int} (hof : valid_Of.f k t.f0 t.f1 t.f2.f0 t.f2.f1 t.f2.f2 [] = some (o1, o2)) {n1 : Bool} {n2 : Int} (hen : valid_Enabled.f k t.f0 t.f1 t.f2.f0 t.f2.f1 t.f2.f2 [] = some (n1, n2)) :
    Calls Tryz.prog 93 #[.pointer (some ⟨bb, 0, none⟩)] w fun e w' => e = .returned (.tuple #[]) ∧ w'.heap[bb]? = some (.cells #[.int .u32 t.f0, .slice A1 t.f1.length c1, .string t.f2.f0, .slice A3 t.f2.f1.length c3, .slice A4 t.f2.f2.length c4, .pointer (some ⟨sb, 0, none⟩), .slice (some ⟨w.heap.size, 0, none⟩) 1 1, .slice none 0 0] 203 (0, 0)) ∧ w'.heap[w.heap.size]? = some (.cells #[.slice none 0 0] 81 (0, 0)) ∧ w.heap.size ≤ w'.heap.size ∧ (∀ k, k < w.heap.size → k ≠ bb → w'.heap[k]? = w.heap[k]?) ∧ Below w0.heap.size w0 w' := by
  have hu := Tryz.underlying203
  have hu2 := Tryz.underlying29
  have hbl := blk_lt hK
  have hk1 : ((w.setCell ⟨bb, 6, none⟩ (.slice (some ⟨w.heap.size, 0, none⟩) 1 1)).alloc (.cells #[.slice none 0 0] 81)).heap[bb]? = some (.cells #[.int .u32 t.f0, .slice A1 t.f1.length c1, .string t.f2.f0, .slice A3 t.f2.f1.length c3, .slice A4 t.f2.f2.length c4, .pointer (some ⟨sb, 0, none⟩), .slice (some ⟨w.heap.size, 0, none⟩) 1 1, .slice none 0 0] 203 (0, 0)) := blk_alloc (blk_set hK 6 _) (.cells #[.slice none 0 0] 81)
  have hr1 : ((w.setCell ⟨bb, 6, none⟩ (.slice (some ⟨w.heap.size, 0, none⟩) 1 1)).alloc (.cells #[.slice none 0 0] 81)).heap[w.heap.size]? = some (.cells #[.slice none 0 0] 81 (0, 0)) := by
    have := blk_new (w.setCell ⟨bb, 6, none⟩ (.slice (some ⟨w.heap.size, 0, none⟩) 1 1)) (.cells #[.slice none 0 0] 81 (0, 0))
    rwa [show (w.setCell ⟨bb, 6, none⟩ (.slice (some ⟨w.heap.size, 0, none⟩) 1 1)).heap.size = w.heap.size from by simp] at this
  have hf : (w.alloc (.cells #[.slice none 0 0] 81)).frozen? ⟨bb, 6, none⟩ = false := blk_frozen (blk_alloc hK (.cells #[.slice none 0 0] 81)) 6
  have hc : (w.alloc (.cells #[.slice none 0 0] 81)).cell? ⟨bb, 6, none⟩ = some (.slice none 0 0) := (blk_cell (blk_alloc hK (.cells #[.slice none 0 0] 81)) 6).trans rfl
  have KB1 := Aside0.mk hk1
  have KR1 := Aside0.mk hr1
  have HSZ : Aside0 (w.heap.size ≤ ((w.setCell ⟨bb, 6, none⟩ (.slice (some ⟨w.heap.size, 0, none⟩) 1 1)).alloc (.cells #[.slice none 0 0] 81)).heap.size) := ⟨Nat.le_of_lt (blk_lt hr1)⟩
  have HB1 := Aside0.mk (show Below w0.heap.size w0 ((w.setCell ⟨bb, 6, none⟩ (.slice (some ⟨w.heap.size, 0, none⟩) 1 1)).alloc (.cells #[.slice none 0 0] 81)) from below_alloc (below_set hb0 hlt) (.cells #[.slice none 0 0] 81))
  have HEL : Aside0 (∀ k, k < w.heap.size → k ≠ bb → ((w.setCell ⟨bb, 6, none⟩ (.slice (some ⟨w.heap.size, 0, none⟩) 1 1)).alloc (.cells #[.slice none 0 0] 81)).heap[k]? = w.heap[k]?) := ⟨fun k hk hne => (Below.heap_alloc _ _ k (by simpa using hk)).trans (Below.heap_setCell w ⟨bb, 6, none⟩ _ k hne)⟩
  have HT := Aside0.mk hT
  have HPA := Aside0.mk hpa
  have HOF := Aside0.mk hof
  have HEN := Aside0.mk hen
  have z0 : ((w.setCell ⟨bb, 6, none⟩ (.slice (some ⟨w.heap.size, 0, none⟩) 1 1)).alloc (.cells #[.slice none 0 0] 81)).cell? ⟨bb, 0, none⟩ = some (.int .u32 t.f0) := (blk_cell KB1.out 0).trans rfl
  have z1 : ((w.setCell ⟨bb, 6, none⟩ (.slice (some ⟨w.heap.size, 0, none⟩) 1 1)).alloc (.cells #[.slice none 0 0] 81)).cell? ⟨bb, 1, none⟩ = some (.slice A1 t.f1.length c1) := (blk_cell KB1.out 1).trans rfl
  have z2 : ((w.setCell ⟨bb, 6, none⟩ (.slice (some ⟨w.heap.size, 0, none⟩) 1 1)).alloc (.cells #[.slice none 0 0] 81)).cell? ⟨bb, 2, none⟩ = some (.string t.f2.f0) := (blk_cell KB1.out 2).trans rfl
  have z3 : ((w.setCell ⟨bb, 6, none⟩ (.slice (some ⟨w.heap.size, 0, none⟩) 1 1)).alloc (.cells #[.slice none 0 0] 81)).cell? ⟨bb, 3, none⟩ = some (.slice A3 t.f2.f1.length c3) := (blk_cell KB1.out 3).trans rfl
  have z4 : ((w.setCell ⟨bb, 6, none⟩ (.slice (some ⟨w.heap.size, 0, none⟩) 1 1)).alloc (.cells #[.slice none 0 0] 81)).cell? ⟨bb, 4, none⟩ = some (.slice A4 t.f2.f2.length c4) := (blk_cell KB1.out 4).trans rfl
  clear hT hb0 hK hpa hof hen hk1 hr1
  go_enter Tryz.func93, Tryz.ntmps93
  go_wp2_with (go_at_call 40; refine (all_T (HT.out.below HB1.out) HPA.out).mono ?_; rintro e w2 ⟨u2, rfl, h2, hb⟩; obtain ⟨P, d, rfl⟩ := Kd.N_slice h2; have HN2 := Aside0.mk (Kd.N_reads' h2).2.2; have HB2 := Aside0.mk (below_step HB1.out hb); have K2 := Aside0.mk (blk_below KB1.out hb); have R2 := Aside0.mk (blk_below KR1.out hb); have E2 := Aside0.mk (fun k hk => (hb.block k (Nat.lt_of_lt_of_le hk HSZ.out)) : ∀ k, k < w.heap.size → w2.heap[k]? = ((w.setCell ⟨bb, 6, none⟩ (.slice (some ⟨w.heap.size, 0, none⟩) 1 1)).alloc (.cells #[.slice none 0 0] 81)).heap[k]?); clear h2 hb z0 z1 z2 z3 z4; have z0 : w2.cell? ⟨bb, 0, none⟩ = some (.int .u32 t.f0) := (blk_cell K2.out 0).trans rfl; have z1 : w2.cell? ⟨bb, 1, none⟩ = some (.slice A1 t.f1.length c1) := (blk_cell K2.out 1).trans rfl; have z2 : w2.cell? ⟨bb, 2, none⟩ = some (.string t.f2.f0) := (blk_cell K2.out 2).trans rfl; have z3 : w2.cell? ⟨bb, 3, none⟩ = some (.slice A3 t.f2.f1.length c3) := (blk_cell K2.out 3).trans rfl; have z4 : w2.cell? ⟨bb, 4, none⟩ = some (.slice A4 t.f2.f2.length c4) := (blk_cell K2.out 4).trans rfl)
  obtain ⟨ad, P0, d0, e1, hx0, hl0, hC0⟩ := at_L1 HN2.out (0 : Int) (by decide) (by decide)
  subst e1
  rw [show ((0 : Int)).toNat = 0 from rfl, Addr.add_zero'] at hx0
  replace hx0 : w2.cell? ad = some (.slice P0 0 d0) := hx0
  have HL0 : Aside0 (([] : List Int).length ≤ d0) := ⟨hl0⟩
  have HP0 : Aside0 (Kd.C (Kd.int .i64) w2 P0 ([] : List Int).length []) := ⟨hC0⟩
  clear hl0 hC0
  refine wp_loop_rounds 2 ?_
  rw [rounds_succ]
  go_wp2_with (first | (go_at_call 88; refine (of_T (HT.out.below HB2.out) HP0.out HL0.out HOF.out).mono ?_; rintro e w3 ⟨rfl, hb⟩; have HB3 := Aside0.mk (below_step HB2.out hb); have hb3 := Aside0.mk hb; have K3 := Aside0.mk (blk_below K2.out hb); have HP3 := Aside0.mk (Kd.C_below HP0.out hb); clear hb z0 z1 z2 z3 z4; have z0 : w3.cell? ⟨bb, 0, none⟩ = some (.int .u32 t.f0) := (blk_cell K3.out 0).trans rfl; have z1 : w3.cell? ⟨bb, 1, none⟩ = some (.slice A1 t.f1.length c1) := (blk_cell K3.out 1).trans rfl; have z2 : w3.cell? ⟨bb, 2, none⟩ = some (.string t.f2.f0) := (blk_cell K3.out 2).trans rfl; have z3 : w3.cell? ⟨bb, 3, none⟩ = some (.slice A3 t.f2.f1.length c3) := (blk_cell K3.out 3).trans rfl; have z4 : w3.cell? ⟨bb, 4, none⟩ = some (.slice A4 t.f2.f2.length c4) := (blk_cell K3.out 4).trans rfl) | (go_at_call 82; refine (en_T (HT.out.below HB3.out) HP3.out HL0.out HEN.out).mono ?_; rintro e w4 ⟨rfl, hb⟩; have HB4 := Aside0.mk (below_step hb3.out hb); clear hb z0 z1 z2 z3 z4))
  rw [rounds_succ]
  go_wp2
  first | go_end0 | ((try simp only [Exit.inBlock, Exit.then]); refine bodyPost_ret (results_none rfl _ _ _) rfl ?_)
  refine ⟨rfl, blk_below K2.out HB4.out, blk_below R2.out HB4.out, ?_, ?_, below_step HB2.out HB4.out⟩
  · exact Nat.le_trans (Nat.le_of_lt (blk_lt R2.out)) HB4.out.size
  · intro k hk hne
    exact ((HB4.out.block k (Nat.lt_of_lt_of_le hk (Nat.le_of_lt (blk_lt R2.out)))).trans (E2.out k hk)).trans (HEL.out k hk hne)
end Go.Proofs.YtkfcgjopabcbeaaGreatDoor.PV

namespace Go.Proofs.YtkfcgjopabcbeaaGreatDoor.PV
open Go.RowKit Go.Proofs.YtkfcgjopabcbeaaGreatDoorW.PrintWords Go.Proofs.YtkfcgjopabcbeaaGreatDoorW.PrintLast Go.Proofs.YtkfcgjopabcbeaaGreatDoorW.PrintMore
attribute [local go_sem] max2_int min2_int max_two min_two max_three min_three max_four min_four
set_option linter.unusedVariables false
set_option linter.unusedSimpArgs false
open Go.Proofs.YtkfcgjopabcbeaaGreatDoor.Aid Go.Proofs.YtkfcgjopabcbeaaGreatDoor.Rdr
theorem settle0 {sb : Nat} {AF : Option Addr} {nF cF : Nat} {l : Int} {w : World} (hs : w.heap[sb]? = some (.cells #[.slice AF nF cF, .slice none 0 0, .slice none 0 0, .int .i64 l] 108 (0, 0))) : Calls Tryz.prog 47 #[.pointer (some ⟨sb, 0, none⟩)] w fun e w' => e = .returned (.tuple #[]) ∧ Below w.heap.size w w' := by
  have hu := Tryz.underlying108
  have s2 : w.cell? ⟨sb, 2, none⟩ = some (.slice none 0 0) := (blk_cell hs 2).trans rfl
  go_enter Tryz.func47, Tryz.ntmps47
  go_wp2
  refine wp_loop_rounds 1 ?_
  rw [rounds_succ]
  go_wp2
  first | go_end0 | ((try simp only [Exit.inBlock, Exit.then]); refine bodyPost_ret (results_none rfl _ _ _) rfl ?_)
  exact ⟨rfl, Below.refl _ _⟩
theorem lit_new (P0 : Option Addr) (d0 : Nat) (w : World) : Calls Tryz.prog 96 #[.slice P0 0 d0] w fun e w' => e = .returned (.bool false) ∧ Below w.heap.size w w' := by
  go_enter Tryz.func96, Tryz.ntmps96
  go_wp2
  go_ret
  exact ⟨rfl, Below.refl _ _⟩
theorem ixf0 (a : Addr) (c : Nat) (w : World) {P0 : Option Addr} {d0 : Nat} (h : w.cell? a = some (.slice P0 0 d0)) : Calls Tryz.prog 168 #[.slice (some a) 1 c, .func (.func 96) #[] #[]] w fun e w' => e = .returned (.int .i64 (-1)) ∧ Below w.heap.size w w' := by
  go_enter Tryz.func168, Tryz.ntmps168
  go_wp2
  refine wp_loop_rounds 2 ?_
  rw [rounds_succ]
  go_wp2_with (go_at_call 96; refine (lit_new P0 d0 w).mono ?_; rintro e w2 ⟨rfl, hb⟩; have HB2 := Aside0.mk hb; clear hb)
  rw [rounds_succ]
  go_wp2
  go_ret
  exact ⟨rfl, HB2.out⟩
theorem haf0 (a : Addr) (c : Nat) (w : World) {P0 : Option Addr} {d0 : Nat} (h : w.cell? a = some (.slice P0 0 d0)) : Calls Tryz.prog 95 #[.slice (some a) 1 c, .func (.func 96) #[] #[]] w fun e w' => e = .returned (.bool false) ∧ Below w.heap.size w w' := by
  have q := ixf0 a c w h
  clear h
  go_enter Tryz.func95, Tryz.ntmps95
  go_wp2_with (go_at_call 168; refine q.mono ?_; rintro e w2 ⟨rfl, hb⟩; have HB2 := Aside0.mk hb; clear hb)
  go_ret
  exact ⟨rfl, HB2.out⟩
set_option maxRecDepth 100000 in
set_option maxHeartbeats 4000000 in
theorem wire0 {sb bb : Nat} {t : S29} {A1 : Option Addr} {c1 : Nat} {A3 : Option Addr} {c3 : Nat} {A4 : Option Addr} {c4 : Nat} {AF : Option Addr} {nF cF : Nat} {AB : Option Addr} {nB cB : Nat} {l : Int} {w : World} (hs : w.heap[sb]? = some (.cells #[.slice AF nF cF, .slice none 0 0, .slice none 0 0, .int .i64 l] 108 (0, 0))) (hb : w.heap[bb]? = some (.cells #[.int .u32 t.f0, .slice A1 t.f1.length c1, .string t.f2.f0, .slice A3 t.f2.f1.length c3, .slice A4 t.f2.f2.length c4, .pointer (some ⟨sb, 0, none⟩), .slice AB nB cB, .slice none 0 0] 203 (0, 0))) :
    Calls Tryz.prog 97 #[.pointer (some ⟨bb, 0, none⟩)] w fun e w' => e = .returned (.tuple #[]) ∧ w'.heap[sb]? = some (.cells #[.slice AF nF cF, .slice none 0 0, .slice none 0 0, .int .i64 (-1)] 108 (0, 0)) ∧ w'.heap[bb]? = some (.cells #[.int .u32 t.f0, .slice A1 t.f1.length c1, .string t.f2.f0, .slice A3 t.f2.f1.length c3, .slice A4 t.f2.f2.length c4, .pointer (some ⟨sb, 0, none⟩), .slice AB nB cB, .slice none 0 0] 203 (0, 0)) ∧ (∀ k, k < w.heap.size → k ≠ sb → w'.heap[k]? = w.heap[k]?) ∧ w.heap.size ≤ w'.heap.size ∧ Below sb w w' := by
  have hu := Tryz.underlying108
  have hu2 := Tryz.underlying203
  have hbw : Below sb w ((w.alloc (.cells #[.pointer (some ⟨bb, 0, none⟩)] 200)).setCell ⟨sb, 3, none⟩ (.int .i64 (-1))) := ((below_alloc (Below.refl w.heap.size w) (.cells #[.pointer (some ⟨bb, 0, none⟩)] 200)).mono (Nat.le_of_lt (blk_lt hs))).setCell (Nat.le_refl sb) _
  have HBW := Aside0.mk hbw
  clear hbw
  have hne : bb ≠ sb := blk_ne hb hs (by decide)
  have ka := blk_alloc hb (.cells #[.pointer (some ⟨bb, 0, none⟩)] 200)
  have sa := blk_alloc hs (.cells #[.pointer (some ⟨bb, 0, none⟩)] 200)
  have b5 : (w.alloc (.cells #[.pointer (some ⟨bb, 0, none⟩)] 200)).cell? ⟨bb, 5, none⟩ = some (.pointer (some ⟨sb, 0, none⟩)) := (blk_cell ka 5).trans rfl
  have s3 : (w.alloc (.cells #[.pointer (some ⟨bb, 0, none⟩)] 200)).cell? ⟨sb, 3, none⟩ = some (.int .i64 l) := (blk_cell sa 3).trans rfl
  have f3 : (w.alloc (.cells #[.pointer (some ⟨bb, 0, none⟩)] 200)).frozen? ⟨sb, 3, none⟩ = false := blk_frozen sa 3
  have kb : ((w.alloc (.cells #[.pointer (some ⟨bb, 0, none⟩)] 200)).setCell ⟨sb, 3, none⟩ (.int .i64 (-1))).heap[bb]? = some (.cells #[.int .u32 t.f0, .slice A1 t.f1.length c1, .string t.f2.f0, .slice A3 t.f2.f1.length c3, .slice A4 t.f2.f2.length c4, .pointer (some ⟨sb, 0, none⟩), .slice AB nB cB, .slice none 0 0] 203 (0, 0)) := blk_far ka hne _
  have ks : ((w.alloc (.cells #[.pointer (some ⟨bb, 0, none⟩)] 200)).setCell ⟨sb, 3, none⟩ (.int .i64 (-1))).heap[sb]? = some (.cells #[.slice AF nF cF, .slice none 0 0, .slice none 0 0, .int .i64 (-1)] 108 (0, 0)) := blk_set sa 3 _
  have kp : ((w.alloc (.cells #[.pointer (some ⟨bb, 0, none⟩)] 200)).setCell ⟨sb, 3, none⟩ (.int .i64 (-1))).heap[w.heap.size]? = some (.cells #[.pointer (some ⟨bb, 0, none⟩)] 200 (0, 0)) := blk_far (blk_new w (.cells #[.pointer (some ⟨bb, 0, none⟩)] 200 (0, 0))) (by have := blk_lt hs; show w.heap.size ≠ sb; omega) _
  have p0 : ((w.alloc (.cells #[.pointer (some ⟨bb, 0, none⟩)] 200)).setCell ⟨sb, 3, none⟩ (.int .i64 (-1))).cell? ⟨w.heap.size, 0, none⟩ = some (.pointer (some ⟨bb, 0, none⟩)) := (blk_cell kp 0).trans rfl
  have y5 : ((w.alloc (.cells #[.pointer (some ⟨bb, 0, none⟩)] 200)).setCell ⟨sb, 3, none⟩ (.int .i64 (-1))).cell? ⟨bb, 5, none⟩ = some (.pointer (some ⟨sb, 0, none⟩)) := (blk_cell kb 5).trans rfl
  have y7 : ((w.alloc (.cells #[.pointer (some ⟨bb, 0, none⟩)] 200)).setCell ⟨sb, 3, none⟩ (.int .i64 (-1))).cell? ⟨bb, 7, none⟩ = some (.slice none 0 0) := (blk_cell kb 7).trans rfl
  have x2 : ((w.alloc (.cells #[.pointer (some ⟨bb, 0, none⟩)] 200)).setCell ⟨sb, 3, none⟩ (.int .i64 (-1))).cell? ⟨sb, 2, none⟩ = some (.slice none 0 0) := (blk_cell ks 2).trans rfl
  have HE : Aside0 (∀ k, k < w.heap.size → k ≠ sb → ((w.alloc (.cells #[.pointer (some ⟨bb, 0, none⟩)] 200)).setCell ⟨sb, 3, none⟩ (.int .i64 (-1))).heap[k]? = w.heap[k]?) := ⟨fun k hk hn => (Below.heap_setCell _ ⟨sb, 3, none⟩ _ k hn).trans (Below.heap_alloc w _ k hk)⟩
  have HZ : Aside0 (w.heap.size ≤ ((w.alloc (.cells #[.pointer (some ⟨bb, 0, none⟩)] 200)).setCell ⟨sb, 3, none⟩ (.int .i64 (-1))).heap.size) := ⟨Nat.le_of_lt (blk_lt kp)⟩
  have KB := Aside0.mk kb
  have KS := Aside0.mk ks
  clear hs hb hne ka sa kb ks kp
  go_enter Tryz.func97, Tryz.ntmps97
  go_wp2
  refine wp_loop_rounds 1 ?_
  rw [rounds_succ]
  go_wp2
  refine wp_loop_rounds 1 ?_
  rw [rounds_succ]
  go_wp2
  generalize ((w.alloc (.cells #[.pointer (some ⟨bb, 0, none⟩)] 200)).setCell ⟨sb, 3, none⟩ (.int .i64 (-1))) = wz at p0 y5 y7 x2 KB KS HE HZ HBW ⊢
  refine start_ (n := 14) (S := fun w' => w'.cell? ⟨w.heap.size, 0, none⟩ = some (.pointer (some ⟨bb, 0, none⟩)) ∧ w'.cell? ⟨bb, 5, none⟩ = some (.pointer (some ⟨sb, 0, none⟩)) ∧ w'.cell? ⟨bb, 7, none⟩ = some (.slice none 0 0) ∧ w'.cell? ⟨sb, 2, none⟩ = some (.slice none 0 0)) (ds := []) #[false, false, false, false, false, false, false, false, false, false, false, false, false, false] (by kernel_rfl) rfl rfl ⟨p0, y5, y7, x2⟩ (fun hHeld => ?_)
  refine take_ (i := 0) (N := some 91) (v := ?_) (a' := ?_) #[true, false, false, false, false, false, false, false, false, false, false, false, false, false] rfl rfl (by kernel_rfl) (fun _ _ _ h => h) (Or.inl ⟨by rfl, ?_⟩) hHeld ?_ ?_
  rotate_left
  · rintro w' ⟨s0, s1, s2, s3⟩
    go_simp
    with_reducible rfl
  rotate_left
  · simp only [Act.put, List.setIfInBounds_toArray, List.set_cons_zero, List.set_cons_succ, i64_w, i32_w]
    rfl
  refine pure_ (i := 1) (N := some 92) (v := ?_) (a' := ?_) #[true, true, false, false, false, false, false, false, false, false, false, false, false, false] rfl rfl (by kernel_rfl) (fun _ _ _ h => h) (Or.inl ⟨by rfl, ?_⟩) ?_ ?_
  rotate_left
  · intro w'
    go_simp
    with_reducible rfl
  rotate_left
  · simp only [Act.put, List.setIfInBounds_toArray, List.set_cons_zero, List.set_cons_succ, i64_w, i32_w]
    rfl
  refine pure_ (i := 2) (N := some 93) (v := ?_) (a' := ?_) #[true, true, true, false, false, false, false, false, false, false, false, false, false, false] rfl rfl (by kernel_rfl) (fun _ _ _ h => h) (Or.inl ⟨by rfl, ?_⟩) ?_ ?_
  rotate_left
  · intro w'
    go_simp
    with_reducible rfl
  rotate_left
  · simp only [Act.put, List.setIfInBounds_toArray, List.set_cons_zero, List.set_cons_succ, i64_w, i32_w]
    rfl
  refine take_ (i := 3) (N := some 94) (v := ?_) (a' := ?_) #[true, true, true, true, false, false, false, false, false, false, false, false, false, false] rfl rfl (by kernel_rfl) (fun _ _ _ h => h) (Or.inl ⟨by rfl, ?_⟩) hHeld ?_ ?_
  rotate_left
  · rintro w' ⟨s0, s1, s2, s3⟩
    go_simp
    with_reducible rfl
  rotate_left
  · simp only [Act.put, List.setIfInBounds_toArray, List.set_cons_zero, List.set_cons_succ, i64_w, i32_w]
    rfl
  refine pure_ (i := 4) (N := some 95) (v := ?_) (a' := ?_) #[true, true, true, true, true, false, false, false, false, false, false, false, false, false] rfl rfl (by kernel_rfl) (fun _ _ _ h => h) (Or.inl ⟨by rfl, ?_⟩) ?_ ?_
  rotate_left
  · intro w'
    go_simp
    with_reducible rfl
  rotate_left
  · simp only [Act.put, List.setIfInBounds_toArray, List.set_cons_zero, List.set_cons_succ, i64_w, i32_w]
    rfl
  refine pure_ (i := 5) (N := some 96) (v := ?_) (a' := ?_) #[true, true, true, true, true, true, false, false, false, false, false, false, false, false] rfl rfl (by kernel_rfl) (fun _ _ _ h => h) (Or.inl ⟨by rfl, ?_⟩) ?_ ?_
  rotate_left
  · intro w'
    go_simp
    with_reducible rfl
  rotate_left
  · simp only [Act.put, List.setIfInBounds_toArray, List.set_cons_zero, List.set_cons_succ, i64_w, i32_w]
    rfl
  refine take_ (i := 6) (N := some 97) (v := ?_) (a' := ?_) #[true, true, true, true, true, true, true, false, false, false, false, false, false, false] rfl rfl (by kernel_rfl) (fun _ _ _ h => h) (Or.inl ⟨by rfl, ?_⟩) hHeld ?_ ?_
  rotate_left
  · rintro w' ⟨s0, s1, s2, s3⟩
    go_simp
    with_reducible rfl
  rotate_left
  · simp only [Act.put, List.setIfInBounds_toArray, List.set_cons_zero, List.set_cons_succ, i64_w, i32_w]
    rfl
  refine pure_ (i := 7) (N := some 98) (v := ?_) (a' := ?_) #[true, true, true, true, true, true, true, true, false, false, false, false, false, false] rfl rfl (by kernel_rfl) (fun _ _ _ h => h) (Or.inl ⟨by rfl, ?_⟩) ?_ ?_
  rotate_left
  · intro w'
    go_simp
    with_reducible rfl
  rotate_left
  · simp only [Act.put, List.setIfInBounds_toArray, List.set_cons_zero, List.set_cons_succ, i64_w, i32_w]
    rfl
  refine take_ (i := 8) (N := some 99) (v := ?_) (a' := ?_) #[true, true, true, true, true, true, true, true, true, false, false, false, false, false] rfl rfl (by kernel_rfl) (fun _ _ _ h => h) (Or.inl ⟨by rfl, ?_⟩) hHeld ?_ ?_
  rotate_left
  · rintro w' ⟨s0, s1, s2, s3⟩
    go_simp
    with_reducible rfl
  rotate_left
  · simp only [Act.put, List.setIfInBounds_toArray, List.set_cons_zero, List.set_cons_succ, i64_w, i32_w]
    rfl
  refine pure_ (i := 9) (N := some 100) (v := ?_) (a' := ?_) #[true, true, true, true, true, true, true, true, true, true, false, false, false, false] rfl rfl (by kernel_rfl) (fun _ _ _ h => h) (Or.inl ⟨by rfl, ?_⟩) ?_ ?_
  rotate_left
  · intro w'
    go_simp
    with_reducible rfl
  rotate_left
  · simp only [Act.put, List.setIfInBounds_toArray, List.set_cons_zero, List.set_cons_succ, i64_w, i32_w]
    rfl
  refine pure_ (i := 10) (N := some 101) (v := ?_) (a' := ?_) #[true, true, true, true, true, true, true, true, true, true, true, false, false, false] rfl rfl (by kernel_rfl) (fun _ _ _ h => h) (Or.inl ⟨by rfl, ?_⟩) ?_ ?_
  rotate_left
  · intro w'
    go_simp
    with_reducible rfl
  rotate_left
  · simp only [Act.put, List.setIfInBounds_toArray, List.set_cons_zero, List.set_cons_succ, i64_w, i32_w]
    rfl
  refine take_ (i := 11) (N := some 102) (v := ?_) (a' := ?_) #[true, true, true, true, true, true, true, true, true, true, true, true, false, false] rfl rfl (by kernel_rfl) (fun _ _ _ h => h) (Or.inl ⟨by rfl, ?_⟩) hHeld ?_ ?_
  rotate_left
  · rintro w' ⟨s0, s1, s2, s3⟩
    go_simp
    with_reducible rfl
  rotate_left
  · simp only [Act.put, List.setIfInBounds_toArray, List.set_cons_zero, List.set_cons_succ, i64_w, i32_w]
    rfl
  refine pure_ (i := 12) (N := some 103) (v := ?_) (a' := ?_) #[true, true, true, true, true, true, true, true, true, true, true, true, true, false] rfl rfl (by kernel_rfl) (fun _ _ _ h => h) (Or.inl ⟨by rfl, ?_⟩) ?_ ?_
  rotate_left
  · intro w'
    go_simp
    with_reducible rfl
  rotate_left
  · simp only [Act.put, List.setIfInBounds_toArray, List.set_cons_zero, List.set_cons_succ, i64_w, i32_w]
    rfl
  refine pure_ (i := 13) (N := some 104) (v := ?_) (a' := ?_) #[true, true, true, true, true, true, true, true, true, true, true, true, true, true] rfl rfl (by kernel_rfl) (fun _ _ _ h => h) (Or.inl ⟨by rfl, ?_⟩) ?_ ?_
  rotate_left
  · intro w'
    go_simp
    with_reducible rfl
  rotate_left
  · simp only [Act.put, List.setIfInBounds_toArray, List.set_cons_zero, List.set_cons_succ, i64_w, i32_w]
    rfl
  refine done_ (by kernel_rfl) ?_
  go_wp2
  first | go_end0 | ((try simp only [Exit.inBlock, Exit.then]); refine bodyPost_ret (results_none rfl _ _ _) rfl ?_)
  exact ⟨rfl, KS.out, KB.out, HE.out, HZ.out, below_drew1 HBW.out⟩
set_option maxRecDepth 100000 in
set_option maxHeartbeats 4000000 in
theorem entries0 {sb bb : Nat} {t : S29} {A1 : Option Addr} {c1 : Nat} {A3 : Option Addr} {c3 : Nat} {A4 : Option Addr} {c4 : Nat} {AB : Option Addr} {nB cB : Nat} {w : World} (hT : TreeC w t A1 c1 A3 c3 A4 c4) (hb : w.heap[bb]? = some (.cells #[.int .u32 t.f0, .slice A1 t.f1.length c1, .string t.f2.f0, .slice A3 t.f2.f1.length c3, .slice A4 t.f2.f2.length c4, .pointer (some ⟨sb, 0, none⟩), .slice AB nB cB, .slice none 0 0] 203 (0, 0))) {k : Nat} {g1 : ByteArray} {g2 : List S158} {g4 : Int} (hg : path_Get.f k t.f0 t.f1 t.f2.f0 t.f2.f1 t.f2.f2 [] = some (g1, g2, [], g4)) :
    Calls Tryz.prog 94 #[.pointer (some ⟨bb, 0, none⟩), .slice none 0 0] w fun e w' => e = .returned (.slice none 0 0) ∧ Below w.heap.size w w' := by
  have hu := Tryz.underlying203
  have hu2 := Tryz.underlying29
  have hu3 := Tryz.underlying27
  have q := get_T (A := none) (c := 0) (pl := []) hT (Kd.R_reads' (Kd.R_nil (Kd.int .i64) 3 w 0 (fun _ => True))).2.2 (Nat.le_refl _) hg
  have z0 : w.cell? ⟨bb, 0, none⟩ = some (.int .u32 t.f0) := (blk_cell hb 0).trans rfl
  have z1 : w.cell? ⟨bb, 1, none⟩ = some (.slice A1 t.f1.length c1) := (blk_cell hb 1).trans rfl
  have z2 : w.cell? ⟨bb, 2, none⟩ = some (.string t.f2.f0) := (blk_cell hb 2).trans rfl
  have z3 : w.cell? ⟨bb, 3, none⟩ = some (.slice A3 t.f2.f1.length c3) := (blk_cell hb 3).trans rfl
  have z4 : w.cell? ⟨bb, 4, none⟩ = some (.slice A4 t.f2.f2.length c4) := (blk_cell hb 4).trans rfl
  clear hT hb hg
  go_enter Tryz.func94, Tryz.ntmps94
  go_wp2_with (go_at_call 80; refine q.mono ?_; rintro e w2 ⟨u1, u2, rfl, h1, h2, hb⟩; obtain ⟨N1, m1, rfl⟩ := Kd.R_slice (Kd.S_R h1); obtain ⟨N2, m2, rfl⟩ := Kd.R_slice h2; have HB2 := Aside0.mk hb; clear h1 h2 hb)
  refine wp_loop_rounds 1 ?_
  rw [rounds_succ]
  go_wp2
  go_ret
  exact ⟨rfl, below_alloc HB2.out _⟩
end Go.Proofs.YtkfcgjopabcbeaaGreatDoor.PV

namespace Go.Proofs.YtkfcgjopabcbeaaGreatDoor.PV
open Go.RowKit Go.Proofs.YtkfcgjopabcbeaaGreatDoorW.PrintWords Go.Proofs.YtkfcgjopabcbeaaGreatDoorW.PrintLast Go.Proofs.YtkfcgjopabcbeaaGreatDoorW.PrintMore
attribute [local go_sem] max2_int min2_int max_two min_two max_three min_three max_four min_four
set_option linter.unusedVariables false
set_option linter.unusedSimpArgs false
open Go.Proofs.YtkfcgjopabcbeaaGreatDoor.Aid Go.Proofs.YtkfcgjopabcbeaaGreatDoor.Rdr
theorem info_row : (Tryz.prog.info? 133).map (fun i => (i.zero, i.size, i.bytes)) = some (some (.slice none 0 0), 1, 24) := by kernel_rfl
theorem cell_of_heap {W W' : World} (a : Addr) (h : W'.heap[a.block]? = W.heap[a.block]?) : W'.cell? a = W.cell? a := by
  unfold World.cell?
  rw [h]
theorem row_one {W : World} {base : Nat} {A8 : Option Addr} {c8 : Nat} (h : Kd.R (Kd.slice 136 k136) 133 W base (fun _ => True) (.slice A8 ([] ++ [[]] : List (List S136)).length c8) ([] ++ [[]])) : ∃ ad, A8 = some ad ∧ ∃ P0 d0, W.cell? ad = some (.slice P0 0 d0) := by
  obtain ⟨ad, c, e, _, hK, hc0⟩ := Kd.C_get (Kd.R_reads' h).2.2 ([] : List S136) 0 (by decide) (by decide)
  obtain ⟨A0, c0, rfl, _, _⟩ := hK
  refine ⟨ad, e, A0, c0, ?_⟩
  have h9 := hc0 0 _ rfl
  simpa [Addr.add_zero'] using h9
def EmptyF (k : Nat) : Prop := (tree_Check.f k 0 [] (⟨#[]⟩ : ByteArray) [] [] = some 0 ∧ ∃ l, handle_Index.f k 0 [] (⟨#[]⟩ : ByteArray) [] [] = some (l, 0)) ∧ tree_Clone.f k 0 [] (⟨#[]⟩ : ByteArray) [] [] = some (0, [], (⟨#[]⟩ : ByteArray), [], []) ∧ path_All.f k 0 [] (⟨#[]⟩ : ByteArray) [] [] = some [[]] ∧ path_Get.f k 0 [] (⟨#[]⟩ : ByteArray) [] [] [] = some ((⟨#[]⟩ : ByteArray), [], [], 0) ∧ (∃ o1 o2, valid_Of.f k 0 [] (⟨#[]⟩ : ByteArray) [] [] [] = some (o1, o2)) ∧ (∃ n1 n2, valid_Enabled.f k 0 [] (⟨#[]⟩ : ByteArray) [] [] [] = some (n1, n2))
set_option maxRecDepth 100000 in
set_option maxHeartbeats 8000000 in
theorem new0 {k : Nat} (hF : EmptyF k) (w : World) : Calls Tryz.prog 44 #[.agg #[.int .u32 0, .slice none 0 0, .string (⟨#[]⟩ : ByteArray), .slice none 0 0, .slice none 0 0]] w fun e w' => ∃ sb ad c l P0 d0, e = .returned (.tuple #[.pointer (some ⟨sb, 0, none⟩), .nilIface]) ∧ w'.heap[sb]? = some (.cells #[.slice (some ad) 1 c, .slice none 0 0, .slice none 0 0, .int .i64 l] 108 (0, 0)) ∧ w'.cell? ad = some (.slice P0 0 d0) ∧ Below w.heap.size w w' := by
  have hu := Tryz.underlying108
  have hu1 := Tryz.underlying203
  have hu2 := Tryz.underlying29
  have hq0 := neqI0
  have HF := Aside0.mk hF
  obtain ⟨o1, o2, hof⟩ := hF.2.2.2.2.1
  obtain ⟨n1, n2, hen⟩ := hF.2.2.2.2.2
  have HOF := Aside0.mk hof
  have HEN := Aside0.mk hen
  have HBT := Aside0.mk (below_alloc (Below.refl w.heap.size w) (.cells #[.int .u32 0, .slice none 0 0, .string (⟨#[]⟩ : ByteArray), .slice none 0 0, .slice none 0 0] 29))
  have KT := Aside0.mk (blk_new w (.cells #[.int .u32 0, .slice none 0 0, .string (⟨#[]⟩ : ByteArray), .slice none 0 0, .slice none 0 0] 29 (0, 0)))
  obtain ⟨l, hix⟩ := hF.1.2
  have HQ := Aside0.mk (check0 (w := w.alloc (.cells #[.int .u32 0, .slice none 0 0, .string (⟨#[]⟩ : ByteArray), .slice none 0 0, .slice none 0 0] 29)) (t := (⟨0, [], ⟨⟨#[]⟩, [], []⟩⟩ : S29)) (A1 := none) (c1 := 0) (A3 := none) (c3 := 0) (A4 := none) (c4 := 0) ⟨C_nil _ 0 _, Nat.le_refl _, C_nil _ 0 _, Nat.le_refl _, C_nil _ 0 _, Nat.le_refl _⟩ (k := k) hF.1.1 hix hF.2.2.1 hen hof hF.2.2.2.1)
  clear hF hof hen hix
  go_enter Tryz.func44, Tryz.ntmps44
  go_wp2_with (first | (go_at_call 11; refine HQ.out.mono ?_; rintro e w2 ⟨rfl, hb⟩; have HB2 := Aside0.mk (below_step HBT.out hb); have KT2 := Aside0.mk (blk_below KT.out hb); clear hb; have z0 : w2.cell? ⟨w.heap.size, 0, none⟩ = some (.int .u32 0) := (blk_cell KT2.out 0).trans rfl; have z1 : w2.cell? ⟨w.heap.size, 1, none⟩ = some (.slice none 0 0) := (blk_cell KT2.out 1).trans rfl; have z2 : w2.cell? ⟨w.heap.size, 2, none⟩ = some (.string (⟨#[]⟩ : ByteArray)) := (blk_cell KT2.out 2).trans rfl; have z3 : w2.cell? ⟨w.heap.size, 3, none⟩ = some (.slice none 0 0) := (blk_cell KT2.out 3).trans rfl; have z4 : w2.cell? ⟨w.heap.size, 4, none⟩ = some (.slice none 0 0) := (blk_cell KT2.out 4).trans rfl) | (go_at_call 92; refine (tree_Clone.calls k 0 none 0 [] (⟨#[]⟩ : ByteArray) none 0 [] none 0 [] 0 [] (⟨#[]⟩ : ByteArray) [] [] w2 (C_nil _ 0 w2) (Nat.le_refl _) (C_nil _ 0 w2) (Nat.le_refl _) (C_nil _ 0 w2) (Nat.le_refl _) HF.out.2.1).mono ?_; rintro e w3 ⟨v1, v3, v4, rfl, h1, h3, h4, hb⟩; obtain ⟨A1, c1, rfl⟩ := Kd.R_slice h1; obtain ⟨A3, c3, rfl⟩ := Kd.R_slice (Kd.S_R h3); obtain ⟨A4, c4, rfl⟩ := Kd.R_slice h4; have HT3 : Aside0 (TreeC w3 (⟨0, [], ⟨⟨#[]⟩, [], []⟩⟩ : S29) A1 c1 A3 c3 A4 c4) := ⟨⟨(Kd.R_reads' h1).2.2, (Kd.R_reads' h1).2.1, (Kd.R_reads' (Kd.S_R h3)).2.2, (Kd.R_reads' (Kd.S_R h3)).2.1, (Kd.R_reads' h4).2.2, (Kd.R_reads' h4).2.1⟩⟩; have HB3 := Aside0.mk (below_step HB2.out hb); clear h1 h3 h4 hb z0 z1 z2 z3 z4))
  have kb5 : ((w3.alloc (.cells #[.slice none 0 0, .slice none 0 0, .slice none 0 0, .int .i64 0] 108)).alloc (.cells #[.int .u32 0, .slice A1 0 c1, .string (⟨#[]⟩ : ByteArray), .slice A3 0 c3, .slice A4 0 c4, .pointer (some ⟨w3.heap.size, 0, none⟩), .slice none 0 0, .slice none 0 0] 203)).heap[w3.heap.size + 1]? = some (.cells #[.int .u32 0, .slice A1 0 c1, .string (⟨#[]⟩ : ByteArray), .slice A3 0 c3, .slice A4 0 c4, .pointer (some ⟨w3.heap.size, 0, none⟩), .slice none 0 0, .slice none 0 0] 203 (0, 0)) := by
    have := blk_new (w3.alloc (.cells #[.slice none 0 0, .slice none 0 0, .slice none 0 0, .int .i64 0] 108)) (.cells #[.int .u32 0, .slice A1 0 c1, .string (⟨#[]⟩ : ByteArray), .slice A3 0 c3, .slice A4 0 c4, .pointer (some ⟨w3.heap.size, 0, none⟩), .slice none 0 0, .slice none 0 0] 203 (0, 0))
    simpa using this
  have ks5 : ((w3.alloc (.cells #[.slice none 0 0, .slice none 0 0, .slice none 0 0, .int .i64 0] 108)).alloc (.cells #[.int .u32 0, .slice A1 0 c1, .string (⟨#[]⟩ : ByteArray), .slice A3 0 c3, .slice A4 0 c4, .pointer (some ⟨w3.heap.size, 0, none⟩), .slice none 0 0, .slice none 0 0] 203)).heap[w3.heap.size]? = some (.cells #[.slice none 0 0, .slice none 0 0, .slice none 0 0, .int .i64 0] 108 (0, 0)) := blk_alloc (blk_new w3 (.cells #[.slice none 0 0, .slice none 0 0, .slice none 0 0, .int .i64 0] 108 (0, 0))) _
  have hb5 : Below w3.heap.size w3 ((w3.alloc (.cells #[.slice none 0 0, .slice none 0 0, .slice none 0 0, .int .i64 0] 108)).alloc (.cells #[.int .u32 0, .slice A1 0 c1, .string (⟨#[]⟩ : ByteArray), .slice A3 0 c3, .slice A4 0 c4, .pointer (some ⟨w3.heap.size, 0, none⟩), .slice none 0 0, .slice none 0 0] 203)) := below_alloc (below_alloc (Below.refl w3.heap.size w3) _) _
  have HNE : Aside0 (w3.heap.size ≠ w3.heap.size + 1) := ⟨by omega⟩
  have HLT : Aside0 (w3.heap.size ≤ w3.heap.size + 1) := ⟨by omega⟩
  generalize ((w3.alloc (.cells #[.slice none 0 0, .slice none 0 0, .slice none 0 0, .int .i64 0] 108)).alloc (.cells #[.int .u32 0, .slice A1 0 c1, .string (⟨#[]⟩ : ByteArray), .slice A3 0 c3, .slice A4 0 c4, .pointer (some ⟨w3.heap.size, 0, none⟩), .slice none 0 0, .slice none 0 0] 203)) = w5 at kb5 ks5 hb5 ⊢
  generalize w3.heap.size + 1 = bb at kb5 HNE HLT ⊢
  have KB5 := Aside0.mk kb5
  have KS5 := Aside0.mk ks5
  have HB5 := Aside0.mk hb5
  clear kb5 ks5 hb5
  go_wp2_with (go_at_call 93; refine (gather0 (t := (⟨0, [], ⟨⟨#[]⟩, [], []⟩⟩ : S29)) HT3.out HB5.out HLT.out KB5.out HF.out.2.2.1 HOF.out HEN.out).mono ?_; rintro e w6 ⟨rfl, kb, kr, hsz, hk, hbl⟩; have KB6 : Aside0 (w6.heap[bb]? = some (.cells #[.int .u32 0, .slice A1 0 c1, .string (⟨#[]⟩ : ByteArray), .slice A3 0 c3, .slice A4 0 c4, .pointer (some ⟨w3.heap.size, 0, none⟩), .slice (some ⟨w5.heap.size, 0, none⟩) 1 1, .slice none 0 0] 203 (0, 0))) := ⟨kb⟩; have KR6 := Aside0.mk kr; have KS6 := Aside0.mk ((hk _ (blk_lt KS5.out) HNE.out).trans KS5.out); have HB6 := Aside0.mk hbl; have b6 : w6.cell? ⟨bb, 6, none⟩ = some (.slice (some ⟨w5.heap.size, 0, none⟩) 1 1) := (blk_cell kb 6).trans rfl; have r0 : w6.cell? ⟨w5.heap.size, 0, none⟩ = some (.slice none 0 0) := (blk_cell kr 0).trans rfl; clear kb kr hsz hk hbl)
  refine wp_loop_rounds 2 ?_
  rw [rounds_succ]
  go_wp2
  have KB6d : Aside0 (w6.drew.heap[bb]? = some (.cells #[.int .u32 0, .slice A1 0 c1, .string (⟨#[]⟩ : ByteArray), .slice A3 0 c3, .slice A4 0 c4, .pointer (some ⟨w3.heap.size, 0, none⟩), .slice (some ⟨w5.heap.size, 0, none⟩) 1 1, .slice none 0 0] 203 (0, 0))) := KB6
  have KS6d : Aside0 (w6.drew.heap[w3.heap.size]? = some (.cells #[.slice none 0 0, .slice none 0 0, .slice none 0 0, .int .i64 0] 108 (0, 0))) := KS6
  refine start_ (n := 19) (S := fun w' => w'.cell? ⟨bb, 5, none⟩ = some (.pointer (some ⟨w3.heap.size, 0, none⟩)) ∧ w'.cell? ⟨w3.heap.size, 0, none⟩ = some (.slice none 0 0)) (ds := [18]) #[false, false, false, false, false, false, false, false, false, false, false, false, false, false, false, false, false, false, false] (by kernel_rfl) rfl rfl ⟨((blk_cell KB6.out 5).trans rfl), ((blk_cell KS6.out 0).trans rfl)⟩ (fun hHeld => ?_)
  refine pure_ (i := 0) (N := some 30) (v := ?_) (a' := ?_) #[true, false, false, false, false, false, false, false, false, false, false, false, false, false, false, false, false, false, false] rfl rfl (by kernel_rfl) (fun _ _ _ h => h) (Or.inl ⟨by rfl, ?_⟩) ?_ ?_
  rotate_left
  · intro w'
    go_simp
    with_reducible rfl
  rotate_left
  · simp only [Act.put, List.setIfInBounds_toArray, List.set_cons_zero, List.set_cons_succ, i64_w, i32_w]
    rfl
  refine pure_ (i := 1) (N := some 31) (v := ?_) (a' := ?_) #[true, true, false, false, false, false, false, false, false, false, false, false, false, false, false, false, false, false, false] rfl rfl (by kernel_rfl) (fun _ _ _ h => h) (Or.inl ⟨by rfl, ?_⟩) ?_ ?_
  rotate_left
  · intro w'
    go_simp
    with_reducible rfl
  rotate_left
  · simp only [Act.put, List.setIfInBounds_toArray, List.set_cons_zero, List.set_cons_succ, i64_w, i32_w]
    rfl
  refine pure_ (i := 2) (N := some 32) (v := ?_) (a' := ?_) #[true, true, true, false, false, false, false, false, false, false, false, false, false, false, false, false, false, false, false] rfl rfl (by kernel_rfl) (fun _ _ _ h => h) (Or.inl ⟨by rfl, ?_⟩) ?_ ?_
  rotate_left
  · intro w'
    go_simp
    with_reducible rfl
  rotate_left
  · simp only [Act.put, List.setIfInBounds_toArray, List.set_cons_zero, List.set_cons_succ, i64_w, i32_w]
    rfl
  refine pure_ (i := 4) (N := some 34) (v := ?_) (a' := ?_) #[true, true, true, false, true, false, false, false, false, false, false, false, false, false, false, false, false, false, false] rfl rfl (by kernel_rfl) (fun _ _ _ h => h) (Or.inl ⟨by rfl, ?_⟩) ?_ ?_
  rotate_left
  · intro w'
    go_simp
    with_reducible rfl
  rotate_left
  · simp only [Act.put, List.setIfInBounds_toArray, List.set_cons_zero, List.set_cons_succ, i64_w, i32_w]
    rfl
  refine pure_ (i := 5) (N := some 35) (v := ?_) (a' := ?_) #[true, true, true, false, true, true, false, false, false, false, false, false, false, false, false, false, false, false, false] rfl rfl (by kernel_rfl) (fun _ _ _ h => h) (Or.inl ⟨by rfl, ?_⟩) ?_ ?_
  rotate_left
  · intro w'
    go_simp
    with_reducible rfl
  rotate_left
  · simp only [Act.put, List.setIfInBounds_toArray, List.set_cons_zero, List.set_cons_succ, i64_w, i32_w]
    rfl
  refine pure_ (i := 6) (N := some 36) (v := ?_) (a' := ?_) #[true, true, true, false, true, true, true, false, false, false, false, false, false, false, false, false, false, false, false] rfl rfl (by kernel_rfl) (fun _ _ _ h => h) (Or.inl ⟨by rfl, ?_⟩) ?_ ?_
  rotate_left
  · intro w'
    go_simp
    with_reducible rfl
  rotate_left
  · simp only [Act.put, List.setIfInBounds_toArray, List.set_cons_zero, List.set_cons_succ, i64_w, i32_w]
    rfl
  refine pure_ (i := 11) (N := some 41) (v := ?_) (a' := ?_) #[true, true, true, false, true, true, true, false, false, false, false, true, false, false, false, false, false, false, false] rfl rfl (by kernel_rfl) (fun _ _ _ h => h) (Or.inl ⟨by rfl, ?_⟩) ?_ ?_
  rotate_left
  · intro w'
    go_simp
    with_reducible rfl
  rotate_left
  · simp only [Act.put, List.setIfInBounds_toArray, List.set_cons_zero, List.set_cons_succ, i64_w, i32_w]
    rfl
  refine pure_ (i := 12) (N := some 42) (v := ?_) (a' := ?_) #[true, true, true, false, true, true, true, false, false, false, false, true, true, false, false, false, false, false, false] rfl rfl (by kernel_rfl) (fun _ _ _ h => h) (Or.inl ⟨by rfl, ?_⟩) ?_ ?_
  rotate_left
  · intro w'
    go_simp
    with_reducible rfl
  rotate_left
  · simp only [Act.put, List.setIfInBounds_toArray, List.set_cons_zero, List.set_cons_succ, i64_w, i32_w]
    rfl
  refine take_ (i := 3) (N := some 33) (v := ?_) (a' := ?_) #[true, true, true, true, true, true, true, false, false, false, false, true, true, false, false, false, false, false, false] rfl rfl (by kernel_rfl) (fun _ _ _ h => h) (Or.inl ⟨by rfl, ?_⟩) hHeld ?_ ?_
  rotate_left
  · rintro w' ⟨s0, s1⟩
    go_simp
    with_reducible rfl
  rotate_left
  · simp only [Act.put, List.setIfInBounds_toArray, List.set_cons_zero, List.set_cons_succ, i64_w, i32_w]
    rfl
  refine take_ (i := 7) (N := some 37) (v := ?_) (a' := ?_) #[true, true, true, true, true, true, true, true, false, false, false, true, true, false, false, false, false, false, false] rfl rfl (by kernel_rfl) (fun _ _ _ h => h) (Or.inl ⟨by rfl, ?_⟩) hHeld ?_ ?_
  rotate_left
  · rintro w' ⟨s0, s1⟩
    go_simp
    with_reducible rfl
  rotate_left
  · simp only [Act.put, List.setIfInBounds_toArray, List.set_cons_zero, List.set_cons_succ, i64_w, i32_w]
    rfl
  refine pure_ (i := 8) (N := some 38) (v := ?_) (a' := ?_) #[true, true, true, true, true, true, true, true, true, false, false, true, true, false, false, false, false, false, false] rfl rfl (by kernel_rfl) (fun _ _ _ h => h) (Or.inl ⟨by rfl, ?_⟩) ?_ ?_
  rotate_left
  · intro w'
    go_simp
    with_reducible rfl
  rotate_left
  · simp only [Act.put, List.setIfInBounds_toArray, List.set_cons_zero, List.set_cons_succ, i64_w, i32_w]
    rfl
  refine pure_ (i := 9) (N := some 39) (v := ?_) (a' := ?_) #[true, true, true, true, true, true, true, true, true, true, false, true, true, false, false, false, false, false, false] rfl rfl (by kernel_rfl) (fun _ _ _ h => h) (Or.inl ⟨by rfl, ?_⟩) ?_ ?_
  rotate_left
  · intro w'
    go_simp
    with_reducible rfl
  rotate_left
  · simp only [Act.put, List.setIfInBounds_toArray, List.set_cons_zero, List.set_cons_succ, i64_w, i32_w]
    rfl
  refine take_ (i := 10) (N := some 40) (v := ?_) (a' := ?_) #[true, true, true, true, true, true, true, true, true, true, true, true, true, false, false, false, false, false, false] rfl rfl (by kernel_rfl) (fun _ _ _ h => h) (Or.inl ⟨by rfl, ?_⟩) hHeld ?_ ?_
  rotate_left
  · rintro w' ⟨s0, s1⟩
    go_simp
    with_reducible rfl
  rotate_left
  · simp only [Act.put, List.setIfInBounds_toArray, List.set_cons_zero, List.set_cons_succ, i64_w, i32_w]
    rfl
  refine one_ (i := 13) (N := some 43) #[true, true, true, true, true, true, true, true, true, true, true, true, true, true, false, false, false, false, false] rfl rfl (by kernel_rfl) (by decide) (fun K hK => ?_)
  refine goes_ Tryz.func94 (by kernel_rfl) rfl #[.pointer (some ⟨bb, 0, none⟩), .slice none 0 0] (by rfl) rfl rfl (by simp only [List.map_toArray, List.map_cons, List.map_nil]; rfl) ?_
  refine (entries0 (t := (⟨0, [], ⟨⟨#[]⟩, [], []⟩⟩ : S29)) (HT3.out.below (below_drew1 HB6.out)) KB6d.out HF.out.2.2.2.1).mono ?_
  rintro e w7 ⟨rfl, hb⟩
  have HB7 := Aside0.mk (below_step (below_drew1 HB6.out) hb)
  have KB7 := Aside0.mk (blk_below KB6d.out hb)
  have KS7 := Aside0.mk (blk_below KS6d.out hb)
  clear hb
  refine ⟨_, rfl, ?_⟩
  refine hK.out _ _ ⟨((blk_cell KB7.out 5).trans rfl), ((blk_cell KS7.out 0).trans rfl)⟩ (fun hHeld => ?_)
  clear hK K
  refine norm_ (a' := ?_) ?_ ?_
  rotate_left
  · show Act.put _ (some 43) _ = _
    simp only [Act.put, List.setIfInBounds_toArray, List.set_cons_zero, List.set_cons_succ, i64_w, i32_w]
    rfl
  refine one_ (i := 14) (N := some 44) #[true, true, true, true, true, true, true, true, true, true, true, true, true, true, true, false, false, false, false] rfl rfl (by kernel_rfl) (by decide) (fun K hK => ?_)
  refine value_ (w1 := ?_) (v := ?_) (by rfl) rfl ?_ ?_
  rotate_left 2
  · go_simp
    constructor
    · rfl
    · rfl
  refine hK.out _ _ ⟨((blk_cell (blk_alloc KB7.out _) 5).trans rfl), ((blk_cell (blk_alloc KS7.out _) 0).trans rfl)⟩ (fun hHeld => ?_)
  clear hK K
  refine norm_ (a' := ?_) ?_ ?_
  rotate_left
  · show Act.put _ (some 44) _ = _
    simp only [Act.put, List.setIfInBounds_toArray, List.set_cons_zero, List.set_cons_succ, i64_w, i32_w]
    rfl
  refine one_ (i := 15) (N := some 45) #[true, true, true, true, true, true, true, true, true, true, true, true, true, true, true, true, false, false, false] rfl rfl (by kernel_rfl) (by decide) (fun K hK => ?_)
  refine Kd.R_append_step (Kd.slice 136 k136) (w0 := w7) w7.heap.size (by rfl) (.tmp 40) (.tmp 44) 59 133 (.slice none 0 0) 24 rfl Tryz.underlying59 info_row rfl (by decide) (by decide) (.slice none 0 0) [] [] [.slice none 0 0] (fun _ => True) (fun _ => False) rfl rfl ⟨.slice none 0 0, rfl, Kd.R_nil _ _ _ _ _⟩ (fun _ hk => hk.elim) (fun _ _ => trivial) (Kd.R_nil _ _ _ _ _) (Below.refl _ _) (Nat.le_refl _) (by decide) ?_
  intro v8 w8 ho hb hg hat
  obtain ⟨A8, c8, rfl⟩ := Kd.R_slice ho
  have HO8 := Aside0.mk ho
  have HB8 := Aside0.mk hb
  have KB8 := Aside0.mk (blk_below KB7.out hb)
  have KS8 := Aside0.mk (blk_below KS7.out hb)
  have kf : w8.frozen? ⟨w3.heap.size, 0, none⟩ = false := blk_frozen KS8.out 0
  have kc : w8.cell? ⟨w3.heap.size, 0, none⟩ = some (.slice none 0 0) := (blk_cell KS8.out 0).trans rfl
  clear ho hb hg hat
  refine hK.out _ _ ⟨((blk_cell KB8.out 5).trans rfl), ((blk_cell KS8.out 0).trans rfl)⟩ (fun hHeld => ?_)
  clear hK K
  refine norm_ (a' := ?_) ?_ ?_
  rotate_left
  · show Act.put _ (some 45) _ = _
    simp only [Act.put, List.setIfInBounds_toArray, List.set_cons_zero, List.set_cons_succ, i64_w, i32_w]
    rfl
  refine pure_ (i := 16) (N := some 46) (v := ?_) (a' := ?_) #[true, true, true, true, true, true, true, true, true, true, true, true, true, true, true, true, true, false, false] rfl rfl (by kernel_rfl) (fun _ _ _ h => h) (Or.inl ⟨by rfl, ?_⟩) ?_ ?_
  rotate_left
  · intro w'
    go_simp
    with_reducible rfl
  rotate_left
  · simp only [Act.put, List.setIfInBounds_toArray, List.set_cons_zero, List.set_cons_succ, i64_w, i32_w]
    rfl
  refine pure_ (i := 17) (N := some 47) (v := ?_) (a' := ?_) #[true, true, true, true, true, true, true, true, true, true, true, true, true, true, true, true, true, true, false] rfl rfl (by kernel_rfl) (fun _ _ _ h => h) (Or.inl ⟨by rfl, ?_⟩) ?_ ?_
  rotate_left
  · intro w'
    go_simp
    with_reducible rfl
  rotate_left
  · simp only [Act.put, List.setIfInBounds_toArray, List.set_cons_zero, List.set_cons_succ, i64_w, i32_w]
    rfl
  refine last_ (i := 18) (N := none) #[true, true, true, true, true, true, true, true, true, true, true, true, true, true, true, true, true, true, true] rfl rfl (by kernel_rfl) (by decide) (fun K hK => ?_)
  refine skip_ (w1 := ?_) (by rfl) rfl ?_ ?_
  rotate_left
  · go_simp
    rfl
  refine hK.out _ _ ?_
  clear hK K
  refine done_ (by kernel_rfl) ?_
  go_wp2
  obtain ⟨ad, rfl, hcell⟩ := row_one HO8.out
  have hge : w7.heap.size ≤ ad.block := Kd.R_base HO8.out ad.block rfl
  have hsl := blk_lt KS7.out
  have kb9 : (w8.setCell ⟨w3.heap.size, 0, none⟩ (.slice (some ad) 1 c8)).heap[bb]? = some (.cells #[.int .u32 0, .slice A1 0 c1, .string (⟨#[]⟩ : ByteArray), .slice A3 0 c3, .slice A4 0 c4, .pointer (some ⟨w3.heap.size, 0, none⟩), .slice (some ⟨w5.heap.size, 0, none⟩) 1 1, .slice none 0 0] 203 (0, 0)) := blk_far KB8.out (fun e => HNE.out e.symm) _
  have ks9 : (w8.setCell ⟨w3.heap.size, 0, none⟩ (.slice (some ad) 1 c8)).heap[w3.heap.size]? = some (.cells #[.slice (some ad) 1 c8, .slice none 0 0, .slice none 0 0, .int .i64 0] 108 (0, 0)) := blk_set KS8.out 0 _
  obtain ⟨P0, d0, hcell⟩ := hcell
  have hc9 : (w8.setCell ⟨w3.heap.size, 0, none⟩ (.slice (some ad) 1 c8)).cell? ad = some (.slice P0 0 d0) := (cell_of_heap ad (Below.heap_setCell w8 ⟨w3.heap.size, 0, none⟩ _ ad.block (by show ad.block ≠ w3.heap.size; omega))).trans hcell
  have hb9 : Below w3.heap.size w3 (w8.setCell ⟨w3.heap.size, 0, none⟩ (.slice (some ad) 1 c8)) := below_set (below_step HB7.out HB8.out) (Nat.le_refl _)
  have HNA : Aside0 (ad.block ≠ w3.heap.size) := ⟨by omega⟩
  have hz9 : w8.heap.size ≤ (w8.setCell ⟨w3.heap.size, 0, none⟩ (.slice (some ad) 1 c8)).heap.size := by simp
  rw [show ([] ++ [[]] : List (List S136)).length = 1 from rfl]
  generalize (w8.setCell ⟨w3.heap.size, 0, none⟩ (.slice (some ad) 1 c8)) = w9 at kb9 ks9 hc9 hz9 hb9 ⊢
  have HB9 := Aside0.mk hb9
  have KB9 := Aside0.mk kb9
  have KS9 := Aside0.mk ks9
  have HC9 := Aside0.mk hc9
  have HZ9 := Aside0.mk hz9
  have p5 : w9.cell? ⟨bb, 5, none⟩ = some (.pointer (some ⟨w3.heap.size, 0, none⟩)) := (blk_cell kb9 5).trans rfl
  have p6 : w9.cell? ⟨bb, 6, none⟩ = some (.slice (some ⟨w5.heap.size, 0, none⟩) 1 1) := (blk_cell kb9 6).trans rfl
  have q0 : w9.cell? ⟨w3.heap.size, 0, none⟩ = some (.slice (some ad) 1 c8) := (blk_cell ks9 0).trans rfl
  clear kb9 ks9 hc9 hz9 hge hsl hcell
  rw [rounds_succ]
  go_wp2_with (first | (go_at_call 95; refine (haf0 ad c8 w9 HC9.out).mono ?_; rintro e w10 ⟨rfl, hb⟩; have KB10 := Aside0.mk (blk_below KB9.out hb); have KS10 := Aside0.mk (blk_below KS9.out hb); have HC10 := Aside0.mk ((hb.cell (World.block_lt_of_cell? w9 _ HC9.out)).trans HC9.out); have HB10 := Aside0.mk (below_step HB9.out hb); have HZ10 := Aside0.mk (Nat.le_trans HZ9.out hb.size); have HE10 := Aside0.mk (fun k hk => (hb.block k (Nat.lt_of_lt_of_le hk HZ9.out)) : ∀ k, k < w8.heap.size → w10.heap[k]? = w9.heap[k]?); clear hb p5 p6 q0) | (go_at_call 97; refine (wire0 (t := (⟨0, [], ⟨⟨#[]⟩, [], []⟩⟩ : S29)) KS10.out KB10.out).mono ?_; rintro e w11 ⟨rfl, ks, kb, hk, hsz, hbw⟩; have HB11 := Aside0.mk (HB10.out.trans hbw); have KS11 := Aside0.mk ks; have KB11 := Aside0.mk kb; have HC11 := Aside0.mk ((cell_of_heap ad (hk ad.block (World.block_lt_of_cell? w10 _ HC10.out) HNA.out)).trans HC10.out); have p5 : w11.cell? ⟨bb, 5, none⟩ = some (.pointer (some ⟨w3.heap.size, 0, none⟩)) := (blk_cell kb 5).trans rfl; clear ks kb hk hsz hbw) | (go_at_call 47; refine (settle0 KS11.out).mono ?_; rintro e w12 ⟨rfl, hb⟩; have HB12 := Aside0.mk (below_step HB11.out hb); have KS12 := Aside0.mk (blk_below KS11.out hb); have KB12 := Aside0.mk (blk_below KB11.out hb); have HC12 := Aside0.mk ((hb.cell (World.block_lt_of_cell? w11 _ HC11.out)).trans HC11.out); clear p5; have p5 : w12.cell? ⟨bb, 5, none⟩ = some (.pointer (some ⟨w3.heap.size, 0, none⟩)) := (blk_cell KB12.out 5).trans rfl; clear hb))
  go_ret2
  exact ⟨_, _, _, _, _, _, rfl, KS12.out, HC12.out, below_step HB3.out HB12.out⟩
theorem awake22.calls {k : Nat} (hF : EmptyF k) (w : World) : Calls Tryz.prog 12 #[] w fun e w' => e = .returned (.bool true) ∧ Below w.heap.size w w' := by
  have hu2 := Tryz.underlying29
  have hq0 := neqI0
  go_enter Tryz.func12, Tryz.ntmps12
  go_wp2_with (first | (go_at_call 44; refine (new0 hF w).mono ?_; rintro e w2 ⟨sb, ad, c, l, P0, d0, rfl, hs, hc, hbn⟩; have HBN := Aside0.mk hbn; have HS := Aside0.mk hs; have HC := Aside0.mk hc; clear hs hc hbn) | (go_at_call 14; refine (load0 sb ad c l w2 HS.out HC.out).mono ?_; rintro e w3 ⟨rfl, hb⟩; have HB3 := Aside0.mk (below_step HBN.out hb); clear hb))
  go_ret
  exact ⟨rfl, HB3.out⟩
set_option maxRecDepth 100000 in
set_option maxHeartbeats 8000000 in
theorem socnil.calls {k : Nat} (hF : EmptyF k) (a n m : Int) (w : World) : Calls Tryz.prog 4 #[.int .u64 a, .int .i64 n, .int .i64 m] w fun e w' => e = .returned (.bool true) ∧ Below w.heap.size w w' := by
  go_enter Tryz.func4, Tryz.ntmps4
  go_wp2_with (first | (go_at_call 12; refine (awake22.calls hF w).mono ?_; rintro e wn ⟨rfl, hb⟩; have HB := Aside0.mk hb; clear hb) | (go_at_call 13; refine (nil_Tick _).mono ?_; rintro e wn ⟨rfl, hb⟩; replace HB := Aside0.mk (below_step HB.out hb); clear hb) | (go_at_call 14; refine (nil_Load _ _ _).mono ?_; rintro e wn ⟨rfl, hb⟩; replace HB := Aside0.mk (below_step HB.out hb); clear hb) | (go_at_call 15; refine (nil_Where _ _ _).mono ?_; rintro e wn ⟨rfl, hb⟩; replace HB := Aside0.mk (below_step HB.out hb); clear hb) | (go_at_call 16; refine (nil_Store _ _ _ _).mono ?_; rintro e wn ⟨rfl, hb⟩; replace HB := Aside0.mk (below_step HB.out hb); clear hb) | (go_at_call 17; refine (nil_Come _ _ _).mono ?_; rintro e wn ⟨rfl, hb⟩; replace HB := Aside0.mk (below_step HB.out hb); clear hb) | (go_at_call 18; refine (nil_Pin _ _ _ _).mono ?_; rintro e wn ⟨rfl, hb⟩; replace HB := Aside0.mk (below_step HB.out hb); clear hb) | (go_at_call 19; refine (nil_Sent _ _).mono ?_; rintro e wn ⟨rfl, hb⟩; replace HB := Aside0.mk (below_step HB.out hb); clear hb) | (go_at_call 20; refine (nil_Outside _ _).mono ?_; rintro e wn ⟨rfl, hb⟩; replace HB := Aside0.mk (below_step HB.out hb); clear hb) | (go_at_call 21; refine (nil_High _).mono ?_; rintro e wn ⟨rfl, hb⟩; replace HB := Aside0.mk (below_step HB.out hb); clear hb) | (go_at_call 22; refine (nil_Line _ _).mono ?_; rintro e wn ⟨rfl, hb⟩; replace HB := Aside0.mk (below_step HB.out hb); clear hb) | (go_at_call 23; refine (nil_All _).mono ?_; rintro e wn ⟨rfl, hb⟩; replace HB := Aside0.mk (below_step HB.out hb); clear hb) | (go_at_call 24; refine (nil_Fabric _).mono ?_; rintro e wn ⟨rfl, hb⟩; replace HB := Aside0.mk (below_step HB.out hb); clear hb))
  go_ret
  exact ⟨rfl, HB.out⟩
noncomputable def arboretlaw22_SocNil.f (k : Nat) (a n m : Int) : Option Bool := @ite _ (EmptyF k) (Classical.propDecidable _) (some true) none
theorem arboretlaw22_SocNil.calls (k : Nat) (a n m : Int) (r : Bool) (w : World) (h : arboretlaw22_SocNil.f k a n m = some r) : Calls Tryz.prog 4 #[.int .u64 a, .int .i64 n, .int .i64 m] w fun e w' => e = .returned (.bool r) ∧ Below w.heap.size w w' := by
  unfold arboretlaw22_SocNil.f at h
  by_cases hf : EmptyF k
  · rw [if_pos hf] at h
    obtain rfl := Option.some.inj h
    exact socnil.calls hf a n m w
  · rw [if_neg hf] at h
    cases h
set_option maxRecDepth 100000 in
theorem empty_fact : EmptyF 60 := ⟨⟨by decide +kernel, by
  have h : (handle_Index.f 60 0 [] (⟨#[]⟩ : ByteArray) [] []).map (·.2) = some 0 := by decide +kernel
  obtain ⟨q, h1, h2⟩ := Option.map_eq_some_iff.1 h
  obtain ⟨q1, q2⟩ := q
  simp only at h2
  subst h2
  exact ⟨q1, h1⟩⟩, by rfl, by decide +kernel, by rfl, ⟨_, _, by rfl⟩, ⟨_, _, by rfl⟩⟩
end Go.Proofs.YtkfcgjopabcbeaaGreatDoor.PV

namespace Go.Proofs.YtkfcgjopabcbeaaGreatDoor.PV
end Go.Proofs.YtkfcgjopabcbeaaGreatDoor.PV

namespace Go.Proofs.YtkfcgjopabcbeaaGreatDoor.PV
open Go.RowKit Go.Proofs.YtkfcgjopabcbeaaGreatDoor.Rdr Go.Proofs.YtkfcgjopabcbeaaGreatDoorW.PrintWords Go.Proofs.YtkfcgjopabcbeaaGreatDoorW.PrintLast Go.Proofs.YtkfcgjopabcbeaaGreatDoorW.PrintMore
def arboretlaw22_SocNil.Pure : Prop := ∀ (x0 : Int) (x1 : Int) (x2 : Int), (wfI .u64) x0 → (wfI .i64) x1 → (wfI .i64) x2 → ∃ k, arboretlaw22_SocNil.f k x0 x1 x2 = some true
end Go.Proofs.YtkfcgjopabcbeaaGreatDoor.PV

set_option linter.unusedVariables false
set_option linter.unusedSimpArgs false
namespace Go.Proofs.YtkfcgjopabcbeaaGreatDoor.Pure
open Go.RowKit Go.Proofs.YtkfcgjopabcbeaaGreatDoor.PV Go.Proofs.YtkfcgjopabcbeaaGreatDoor.Rdr Go.Proofs.YtkfcgjopabcbeaaGreatDoorW.PrintWords
theorem SocNil : arboretlaw22_SocNil.Pure := by
  intro a n m _ _ _
  refine ⟨60, ?_⟩
  unfold arboretlaw22_SocNil.f
  exact if_pos empty_fact
end Go.Proofs.YtkfcgjopabcbeaaGreatDoor.Pure

namespace Go.Proofs.YtkfcgjopabcbeaaGreatDoor.socNil
open Go.ChangeShapes Go.WideShapes Go.ChangeAt Go.RowKit Go.Proofs.YtkfcgjopabcbeaaGreatDoor.Rdr Go.Proofs.YtkfcgjopabcbeaaGreatDoor.PV
open Go.ChangeMaps (open_string shut_string)
set_option linter.unusedVariables false
set_option linter.unusedSimpArgs false
theorem own : ownKnob Tryz.prog.godebug = none := by kernel_rfl
theorem laidOut : laidOutB Tryz.prog = true := by kernel_rfl
set_option maxRecDepth 100000 in
theorem contract (H : Type) (enc : TypeId × Value → H) (W : World) (base : Nat) (args : Array Value) (ds gs : List (DataW H)) (before : List MemPlace)
    (hval0 : ∀ (j : Nat) t v, Tryz.f4.params[j]? = some t → args[j]? = some v → Value.okWide Tryz.prog W .any base t v)
    (hW : DataW.Whole enc Tryz.prog Tryz.f4.params.toList Rows.socNilSpec.vars false W args.toList ds gs before) (hsz : (DataW.weightsEach Tryz.prog (Tryz.f4.params.toList ++ Rows.socNilSpec.plain.varTypes Tryz.prog) (ds ++ gs)).all (· ≤ reachBytes) = true) :
    Calls Tryz.prog 4 args W fun e W' => ∃ v, e = .returned v ∧ Rows.socNilSpec.post enc Tryz.prog Tryz.f4 false true false false W args v W' := by
  have hval : ∀ (j : Nat) t v, Tryz.f4.params[j]? = some t → args[j]? = some v → Value.okWide Tryz.prog W .any base t v := hval0
  have hW' := hW
  obtain ⟨p, q, hA0, hV, rfl, hfz, hnd⟩ := hW
  have hA : DataW.TrodAll enc Tryz.prog W 0 (fun _ => true) true Tryz.f4.params.toList args.toList ds p := hA0
  rw [Tryz.params4] at hA hval hsz
  obtain ⟨v0, vs0, d0, ds0, p0, q0, hargs, rfl, rfl, h0, tr0⟩ := trodAll_cons hA
  obtain ⟨v1, vs1, d1, ds1, p1, q1, rfl, rfl, rfl, h1, tr1⟩ := trodAll_cons tr0
  obtain ⟨v2, vs2, d2, ds2, p2, q2, rfl, rfl, rfl, h2, tr2⟩ := trodAll_cons tr1
  obtain ⟨rfl, rfl, rfl⟩ := trodAll_nil tr2
  obtain rfl : args = #[v0, v1, v2] := by cases args; simp_all
  obtain ⟨rfl, rfl⟩ := trodVars_none hV
  have k0 := h0
  have lt0 : ∀ x ∈ p0, x.block < W.heap.size := by obtain ⟨m, hm⟩ := k0; exact DataW.trod_lt m _ _ _ hm
  have k1 := h1
  have lt1 : ∀ x ∈ p1, x.block < W.heap.size := by obtain ⟨m, hm⟩ := k1; exact DataW.trod_lt m _ _ _ hm
  have k2 := h2
  have lt2 : ∀ x ∈ p2, x.block < W.heap.size := by obtain ⟨m, hm⟩ := k2; exact DataW.trod_lt m _ _ _ hm
  obtain ⟨x0, rfl, rfl, rfl, g0⟩ := open_int Tryz.underlying43 (hval 0 43 v0 rfl rfl) h0
  obtain ⟨x1, rfl, rfl, rfl, g1⟩ := open_int Tryz.underlying3 (hval 1 3 v1 rfl rfl) h1
  obtain ⟨x2, rfl, rfl, rfl, g2⟩ := open_int Tryz.underlying3 (hval 2 3 v2 rfl rfl) h2
  obtain ⟨k, hk_⟩ := Pure.SocNil x0 x1 x2 g0 g1 g2
  refine (arboretlaw22_SocNil.calls k x0 x1 x2 true W  hk_).mono fun e W' ⟨he, bel0⟩ => ?_
  have bel : Below W.heap.size W W' := bel0
  subst he
  exact ⟨_, rfl, _, _, _, [], _, [], hW', trodAll_mk1 (shut_bool Tryz.underlying4 _), (trodAll_cons_mk (Below.trod laidOut (by kernel_rfl) (of_decide_eq_true (by kernel_rfl)) k0 bel lt0) (trodAll_cons_mk (Below.trod laidOut (by kernel_rfl) (of_decide_eq_true (by kernel_rfl)) k1 bel lt1) (trodAll_cons_mk (Below.trod laidOut (by kernel_rfl) (of_decide_eq_true (by kernel_rfl)) k2 bel lt2) trodAll_mk0))), rfl, bel.frame _, fun h => by cases h⟩
open Go
noncomputable def laidWorld (os : Os) : World := let h0 := (World.holding Tryz.prog os ⟨#[], #[], []⟩).heap; { World.holding Tryz.prog os ⟨#[], #[], []⟩ with heap := (((h0.modify 1 (fun | .cells _ t fr => .cells #[.int .u8 0, .int .u8 1, .int .u8 28, .int .u8 2, .int .u8 29, .int .u8 14, .int .u8 24, .int .u8 3, .int .u8 30, .int .u8 22, .int .u8 20, .int .u8 15, .int .u8 25, .int .u8 17, .int .u8 4, .int .u8 8, .int .u8 31, .int .u8 27, .int .u8 13, .int .u8 23, .int .u8 21, .int .u8 19, .int .u8 16, .int .u8 7, .int .u8 26, .int .u8 12, .int .u8 18, .int .u8 6, .int .u8 11, .int .u8 5, .int .u8 10, .int .u8 9] t fr | o => o)).modify 4 (fun | .cells _ t fr => .cells #[.int .u8 128, .int .u8 191, .int .u8 160, .int .u8 191, .int .u8 128, .int .u8 159, .int .u8 144, .int .u8 191, .int .u8 128, .int .u8 143, .int .u8 0, .int .u8 0, .int .u8 0, .int .u8 0, .int .u8 0, .int .u8 0, .int .u8 0, .int .u8 0, .int .u8 0, .int .u8 0, .int .u8 0, .int .u8 0, .int .u8 0, .int .u8 0, .int .u8 0, .int .u8 0, .int .u8 0, .int .u8 0, .int .u8 0, .int .u8 0, .int .u8 0, .int .u8 0] t fr | o => o)).modify 3 (fun | .cells _ t fr => .cells (Go.Pinned.utf8FirstZ.map fun z : Nat => Value.int .u8 (z : Int)).toArray t fr | o => o)) }
set_option maxRecDepth 100000 in
theorem laid_met (os : Os) : laidMet Tryz.prog Rows.socNilRow.laid ((laidWorld os).forCall (fun _ _ => 0) ⟨#[], #[.int .u64 0, .int .i64 0, .int .i64 0], []⟩).memory := laidMet_of_run' 8 (by kernel_rfl) (by kernel_rfl)
set_option maxRecDepth 100000 in
theorem lifted (os : Os) (started : os.Started) (H : Type) (enc : TypeId × Value → H) (F : Stop.Interp) :
    ReturnsInHanded {} Tryz.checked os 4 .any ((OpenSpec.ofChange Rows.socNilSpec).preRow enc Tryz.prog Tryz.f4 Rows.socNilRow.domain false Rows.socNilRow.laid) (((OpenSpec.ofChange Rows.socNilSpec).at F).post enc Tryz.prog Tryz.f4 false true false false) := by
  refine returnsInHanded_of_row (C := Tryz.checked) (s := OpenSpec.ofChange Rows.socNilSpec) own started (by kernel_rfl) Tryz.func4
    (witness_row_at (enc := enc) (C := Tryz.checked) false (laidWorld os) #[.int .u64 0, .int .i64 0, .int .i64 0] rfl (by kernel_rfl) (by kernel_rfl) (by kernel_rfl)
      (OpenSpec.preRow_of_B rfl 16 (by kernel_rfl) (by kernel_rfl) (laid_met os))) ?_
  intro W base args ds gs before hval hW _ hcond hsz hlaid _ _
  exact contract H enc W base args ds gs before hval hW hsz
theorem said : Rows.SocNilSaid :=
  OpenClaim.holds_of_cond 4 Tryz.f4 rfl rfl rfl rfl rfl rfl rfl ⟨rfl, rfl, rfl, rfl, rfl⟩ rfl rfl rfl rfl rfl (by kernel_rfl) Tryz.func4 (by kernel_rfl)
    (of_decide_eq_true (by kernel_rfl)) (by unfold Func.isWrapper; first | (rw [if_pos (by decide +kernel)]; kernel_rfl) | (rw [if_neg (by decide +kernel)]; exact ⟨rfl, rfl⟩))
    (fun os started H enc _ F => by rw [OpenClaim.pre_eq_preRow]; exact lifted os started H enc F)
theorem plain (f : FuncId) (fn : Func) (hf : Tryz.pinned.checked.prog.funcNamed "arboret/arboretlaw22.SocNil" = some f) (hfn : Tryz.pinned.checked.prog.funcs[f]? = some fn) :
    true = Tryz.pinned.checked.prog.looks [] ∧ ∀ (j : Nat) t, fn.params[j]? = some t → Tryz.pinned.checked.prog.wantsStandIn t = false := by
  obtain rfl : f = 4 := Option.some.inj ((show Tryz.prog.funcNamed "arboret/arboretlaw22.SocNil" = some 4 by kernel_rfl).symm.trans hf) |>.symm
  obtain rfl : fn = Tryz.f4 := (Option.some.inj (Tryz.func4.symm.trans hfn)).symm
  refine ⟨by kernel_rfl, fun j t ht => ?_⟩
  rw [Tryz.params4] at ht
  have hm := Array.mem_of_getElem? ht
  simp only [List.mem_cons, List.not_mem_nil, or_false, List.mem_toArray] at hm
  rcases hm with rfl | rfl | rfl
  · exact (show Tryz.prog.wantsStandIn 43 = false by kernel_rfl)
  · exact (show Tryz.prog.wantsStandIn 3 = false by kernel_rfl)
  · exact (show Tryz.prog.wantsStandIn 3 = false by kernel_rfl)
theorem card : Rows.SocNilCardSaid :=
  Claim7.holds_tied_plain_at .later [] _ _ _ _ said (fun _ h => by cases h) (by kernel_rfl) (fun _ h => by cases h) socNil_row_tie rfl ⟨rfl, rfl⟩ (by kernel_rfl) rfl plain (by kernel_rfl)
end Go.Proofs.YtkfcgjopabcbeaaGreatDoor.socNil
namespace Go.Proofs.YtkfcgjopabcbeaaGreatDoor
theorem socNil_holds : Rows.SocNilCardSaid := socNil.card
end Go.Proofs.YtkfcgjopabcbeaaGreatDoor
