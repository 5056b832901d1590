/- RegionReg: texts of this session's (PXx_arboretlaw12_RegionReg, Rdr, PXKinds, PXStateRegionReg, Aid, Tree, Num, One, Counts, Wide, PureRegionReg, LawRegionReg), laid together for one claim. -/
import Derived.Test.YteejaaeglfpcmaaZRegionReg1
set_option linter.unusedVariables false
set_option linter.unusedSimpArgs false
/- Contracts of the functions that the seat's laws reach, each beside a plain Lean function: by a program of this session's (tools/myprint.py over the kit's print.py), with some of its own proof. -/
namespace Go.Proofs.Yteejaaeglfpcmaa.PX
open Go.RowKit Go.Proofs.YteejaaeglfpcmaaW.PrintWords Go.Proofs.YteejaaeglfpcmaaW.PrintLast Go.Proofs.YteejaaeglfpcmaaW.PrintMore
attribute [local go_sem] max2_int min2_int max_two min_two max_three min_three max_four min_four   -- for this text's walks alone
set_option linter.unusedVariables false
set_option linter.unusedSimpArgs false

attribute [local go_sem high] eqA57 eqA58
/-! ### arboretlaw12_RegionReg: function 13 -/
mutual
def arboretlaw12_RegionReg.j0 : Nat → Bool → ByteArray → List (S104) → List (S39) → ByteArray → List (S104) → List (S39) → Option (Bool)
  | 0, _, _, _, _, _, _, _ => none
  | k + 1, x21, x413000, x413001, x413002, x414000, x414001, x414002 => if x21 = true then ((arboretlaw12_awake.f k).bind fun t417 => (some t417)) else ((region_Reg.f k x413000 x413001 x413002 x414000 x414001 x414002).bind fun bt418 => ((arboretref12_Reg.f k x413000 x413001 x413002 x414000 x414001 x414002).bind fun bt422 => (if bt422.2 = true then (if bt418.2 = 0 then (arboretlaw12_RegionReg.j1 k bt418.1 bt422.1 ((bt418.1.length : Int) != (bt422.1.length : Int))) else (arboretlaw12_RegionReg.j1 k bt418.1 bt422.1 true)) else (if bt418.2 = 10 then (some ((bt418.1.length : Int) == 0)) else (some false)))))
def arboretlaw12_RegionReg.j1 : Nat → List (S57) → List (S58) → Bool → Option (Bool)
  | 0, _, _, _ => none
  | k + 1, x5, x7, x52 => if x52 = true then (some false) else (arboretlaw12_RegionReg.l0 k x5 x7 (x5.length : Int) 0)
def arboretlaw12_RegionReg.l0 : Nat → List (S57) → List (S58) → Int → Int → Option (Bool)
  | 0, _, _, _, _ => none
  | k + 1, x5, x7, x54, x55 => if x55 < x54 then (if 0 ≤ x55 then (if x55 < (x5.length : Int) then (if x55 < (x7.length : Int) then (if (!(((rd_T57 x5 x55).f0) == ((rd_T58 x7 x55).f0)) || (!(((rd_T57 x5 x55).f1) == ((rd_T58 x7 x55).f1)))) = true then (some false) else (arboretlaw12_RegionReg.l0 k x5 x7 x54 (wrap64 (x55 + 1)))) else (none)) else (none)) else (none)) else (some true)
end
def arboretlaw12_RegionReg.f (k : Nat) (a0_0 : ByteArray) (l0_1 : List (S104)) (l0_2 : List (S39)) (a1_0 : ByteArray) (l1_1 : List (S104)) (l1_2 : List (S39)) : Option (Bool) := (arboretlaw12_awake.f k).bind fun t414 => (if t414 = true then ((arboretlaw12_few.f k a0_0 l0_1 l0_2).bind fun t415 => (if t415 = true then ((arboretlaw12_few.f k a1_0 l1_1 l1_2).bind fun t416 => (arboretlaw12_RegionReg.j0 k (!t416) a0_0 l0_1 l0_2 a1_0 l1_1 l1_2)) else (arboretlaw12_RegionReg.j0 k true a0_0 l0_1 l0_2 a1_0 l1_1 l1_2))) else (arboretlaw12_RegionReg.j0 k true a0_0 l0_1 l0_2 a1_0 l1_1 l1_2))
theorem arboretlaw12_RegionReg.mono_l : ∀ k, (∀ y0 y1 y2 y3 y4 y5 y6, LeO (arboretlaw12_RegionReg.j0 k y0 y1 y2 y3 y4 y5 y6) (arboretlaw12_RegionReg.j0 (k + 1) y0 y1 y2 y3 y4 y5 y6)) ∧ (∀ y0 y1 y2, LeO (arboretlaw12_RegionReg.j1 k y0 y1 y2) (arboretlaw12_RegionReg.j1 (k + 1) y0 y1 y2)) ∧ (∀ y0 y1 y2 y3, LeO (arboretlaw12_RegionReg.l0 k y0 y1 y2 y3) (arboretlaw12_RegionReg.l0 (k + 1) y0 y1 y2 y3))
  | 0 => ⟨fun _ _ _ _ _ _ _ r h => by simp [arboretlaw12_RegionReg.j0] at h, fun _ _ _ r h => by simp [arboretlaw12_RegionReg.j1] at h, fun _ _ _ _ r h => by simp [arboretlaw12_RegionReg.l0] at h⟩
  | k + 1 => by
    obtain ⟨ih0, ih1, ih2⟩ := arboretlaw12_RegionReg.mono_l k
    refine ⟨?_, ?_, ?_⟩
    · intro y0 y1 y2 y3 y4 y5 y6
      unfold arboretlaw12_RegionReg.j0
      repeat' first
      | (with_reducible exact ih0 _ _ _ _ _ _ _)
      | (with_reducible exact ih1 _ _ _)
      | (with_reducible exact ih2 _ _ _ _)
      | (with_reducible exact arboretlaw12_awake.mono _)
      | (with_reducible exact arboretlaw12_few.mono _ _ _ _)
      | (with_reducible exact arboretref12_Reg.mono _ _ _ _ _ _ _)
      | (with_reducible exact region_Reg.mono _ _ _ _ _ _ _)
      | (with_reducible exact LeO.refl _)
      | (with_reducible exact LeO.none _)
      | (with_reducible refine LeO.ite ?_ ?_)
      | (with_reducible refine LeO.bind ?_ (fun _ => ?_))
      | exact ih0 _ _ _ _ _ _ _
      | exact ih1 _ _ _
      | exact ih2 _ _ _ _
      | exact arboretlaw12_awake.mono _
      | exact arboretlaw12_few.mono _ _ _ _
      | exact arboretref12_Reg.mono _ _ _ _ _ _ _
      | exact region_Reg.mono _ _ _ _ _ _ _
      | exact LeO.none _
      | refine LeO.ite ?_ ?_
      | refine LeO.bind ?_ (fun _ => ?_)
    · intro y0 y1 y2
      unfold arboretlaw12_RegionReg.j1
      repeat' first
      | (with_reducible exact ih0 _ _ _ _ _ _ _)
      | (with_reducible exact ih1 _ _ _)
      | (with_reducible exact ih2 _ _ _ _)
      | (with_reducible exact arboretlaw12_awake.mono _)
      | (with_reducible exact arboretlaw12_few.mono _ _ _ _)
      | (with_reducible exact arboretref12_Reg.mono _ _ _ _ _ _ _)
      | (with_reducible exact region_Reg.mono _ _ _ _ _ _ _)
      | (with_reducible exact LeO.refl _)
      | (with_reducible exact LeO.none _)
      | (with_reducible refine LeO.ite ?_ ?_)
      | (with_reducible refine LeO.bind ?_ (fun _ => ?_))
      | exact ih0 _ _ _ _ _ _ _
      | exact ih1 _ _ _
      | exact ih2 _ _ _ _
      | exact arboretlaw12_awake.mono _
      | exact arboretlaw12_few.mono _ _ _ _
      | exact arboretref12_Reg.mono _ _ _ _ _ _ _
      | exact region_Reg.mono _ _ _ _ _ _ _
      | exact LeO.none _
      | refine LeO.ite ?_ ?_
      | refine LeO.bind ?_ (fun _ => ?_)
    · intro y0 y1 y2 y3
      unfold arboretlaw12_RegionReg.l0
      repeat' first
      | (with_reducible exact ih0 _ _ _ _ _ _ _)
      | (with_reducible exact ih1 _ _ _)
      | (with_reducible exact ih2 _ _ _ _)
      | (with_reducible exact arboretlaw12_awake.mono _)
      | (with_reducible exact arboretlaw12_few.mono _ _ _ _)
      | (with_reducible exact arboretref12_Reg.mono _ _ _ _ _ _ _)
      | (with_reducible exact region_Reg.mono _ _ _ _ _ _ _)
      | (with_reducible exact LeO.refl _)
      | (with_reducible exact LeO.none _)
      | (with_reducible refine LeO.ite ?_ ?_)
      | (with_reducible refine LeO.bind ?_ (fun _ => ?_))
      | exact ih0 _ _ _ _ _ _ _
      | exact ih1 _ _ _
      | exact ih2 _ _ _ _
      | exact arboretlaw12_awake.mono _
      | exact arboretlaw12_few.mono _ _ _ _
      | exact arboretref12_Reg.mono _ _ _ _ _ _ _
      | exact region_Reg.mono _ _ _ _ _ _ _
      | exact LeO.none _
      | refine LeO.ite ?_ ?_
      | refine LeO.bind ?_ (fun _ => ?_)
theorem arboretlaw12_RegionReg.mono : ∀ a0 a1 a2 a3 a4 a5 k, LeO (arboretlaw12_RegionReg.f k a0 a1 a2 a3 a4 a5) (arboretlaw12_RegionReg.f (k + 1) a0 a1 a2 a3 a4 a5) := by
  intro a0 a1 a2 a3 a4 a5 k
  obtain ⟨ih0, ih1, ih2⟩ := arboretlaw12_RegionReg.mono_l k
  unfold arboretlaw12_RegionReg.f
  repeat' first
      | (with_reducible exact ih0 _ _ _ _ _ _ _)
      | (with_reducible exact ih1 _ _ _)
      | (with_reducible exact ih2 _ _ _ _)
      | (with_reducible exact arboretlaw12_awake.mono _)
      | (with_reducible exact arboretlaw12_few.mono _ _ _ _)
      | (with_reducible exact arboretref12_Reg.mono _ _ _ _ _ _ _)
      | (with_reducible exact region_Reg.mono _ _ _ _ _ _ _)
      | (with_reducible exact LeO.refl _)
      | (with_reducible exact LeO.none _)
      | (with_reducible refine LeO.ite ?_ ?_)
      | (with_reducible refine LeO.bind ?_ (fun _ => ?_))
      | exact ih0 _ _ _ _ _ _ _
      | exact ih1 _ _ _
      | exact ih2 _ _ _ _
      | exact arboretlaw12_awake.mono _
      | exact arboretlaw12_few.mono _ _ _ _
      | exact arboretref12_Reg.mono _ _ _ _ _ _ _
      | exact region_Reg.mono _ _ _ _ _ _ _
      | exact LeO.none _
      | refine LeO.ite ?_ ?_
      | refine LeO.bind ?_ (fun _ => ?_)
set_option maxHeartbeats 8000000 in
set_option maxRecDepth 100000 in
theorem arboretlaw12_RegionReg.calls (k : Nat) (a0_0 : ByteArray) (A0_1 : Option Addr) (c0_1 : Nat) (l0_1 : List (S104)) (A0_2 : Option Addr) (c0_2 : Nat) (l0_2 : List (S39)) (a1_0 : ByteArray) (A1_1 : Option Addr) (c1_1 : Nat) (l1_1 : List (S104)) (A1_2 : Option Addr) (c1_2 : Nat) (l1_2 : List (S39)) (r : Bool) (w : World) (hr0_1 : Kd.C k104 w A0_1 l0_1.length l0_1) (hc0_1 : l0_1.length ≤ c0_1) (hr0_2 : Kd.C k39 w A0_2 l0_2.length l0_2) (hc0_2 : l0_2.length ≤ c0_2) (hr1_1 : Kd.C k104 w A1_1 l1_1.length l1_1) (hc1_1 : l1_1.length ≤ c1_1) (hr1_2 : Kd.C k39 w A1_2 l1_2.length l1_2) (hc1_2 : l1_2.length ≤ c1_2) (h : arboretlaw12_RegionReg.f k a0_0 l0_1 l0_2 a1_0 l1_1 l1_2 = some r) :
    Calls Try.prog 13 #[.agg #[.string a0_0, .slice A0_1 l0_1.length c0_1, .slice A0_2 l0_2.length c0_2], .agg #[.string a1_0, .slice A1_1 l1_1.length c1_1, .slice A1_2 l1_2.length c1_2]] w fun e w' => e = .returned (.bool r) ∧ Below w.heap.size w w' := by
  have hu39 := Try.underlying39
  have hu57 := Try.underlying57
  have hu58 := Try.underlying58
  have HR0_1 := Aside0.mk hr0_1
  have HC0_1 := Aside0.mk hc0_1
  clear hr0_1 hc0_1
  have HR0_2 := Aside0.mk hr0_2
  have HC0_2 := Aside0.mk hc0_2
  clear hr0_2 hc0_2
  have HR1_1 := Aside0.mk hr1_1
  have HC1_1 := Aside0.mk hc1_1
  clear hr1_1 hc1_1
  have HR1_2 := Aside0.mk hr1_2
  have HC1_2 := Aside0.mk hc1_2
  clear hr1_2 hc1_2
  have HB := Aside0.mk (Below.refl w.heap.size w)
  have H : ((arboretlaw12_awake.f k).bind fun t414 => (if t414 = true then ((arboretlaw12_few.f k a0_0 l0_1 l0_2).bind fun t415 => (if t415 = true then ((arboretlaw12_few.f k a1_0 l1_1 l1_2).bind fun t416 => (arboretlaw12_RegionReg.j0 k (!t416) a0_0 l0_1 l0_2 a1_0 l1_1 l1_2)) else (arboretlaw12_RegionReg.j0 k true a0_0 l0_1 l0_2 a1_0 l1_1 l1_2))) else (arboretlaw12_RegionReg.j0 k true a0_0 l0_1 l0_2 a1_0 l1_1 l1_2))) = some r := h
  clear h
  have HC3 := Aside0.mk H
  clear H
  go_enter Try.func13, Try.ntmps13
  go_upto_region 1 with (first | ((with_reducible refine gate_dst (N := 2) rfl ?_); (try (refine gate_guard (by rfl) ?_; dsimp only)); refine box_event ?hg (N := 2) ?hd (cs := #[.string a0_0, .slice A0_1 l0_1.length c0_1, .slice A0_2 l0_2.length c0_2]) (t := 39) ?hr ?_; (case hd => rfl); (case hg => rfl); (case hr => first | (go_simp; done) | (go_simp; rfl)); intro gb412 hg w4 hbox hb; have n0_ := Aside0.mk (below_step (by repeat (first | (with_reducible first | exact HB.out | apply below_alloc | apply pw_below_drewN | apply below_drew1) | exact HB.out)) hb); have n1_ := Aside0.mk (hbox); have n2_ := Aside0.mk ((by rw [hg]; exact (below_size (by repeat (first | (with_reducible first | exact HB.out | apply below_alloc | apply pw_below_drewN | apply below_drew1) | exact HB.out))) : w.heap.size ≤ gb412)); have n3_ := Aside0.mk ((by rw [hg]; exact (below_size (by repeat (first | (with_reducible first | exact HB.out | apply below_alloc | apply pw_below_drewN | apply below_drew1) | exact HB.out))) : w.heap.size ≤ gb412)); clear HB; have HB := n0_; have BK412 := n1_; have GW412 := n2_; have GE412 := n3_; clear n0_ n1_ n2_ n3_; clear hb hbox hg) | ((with_reducible refine gate_dst (N := 3) rfl ?_); (try (refine gate_guard (by rfl) ?_; dsimp only)); refine box_event ?hg (N := 3) ?hd (cs := #[.string a1_0, .slice A1_1 l1_1.length c1_1, .slice A1_2 l1_2.length c1_2]) (t := 39) ?hr ?_; (case hd => rfl); (case hg => rfl); (case hr => first | (go_simp; done) | (go_simp; rfl)); intro gb413 hg w5 hbox hb; have n0_ := Aside0.mk (blk_below (g := gb412) (o := .cells #[.string a0_0, .slice A0_1 l0_1.length c0_1, .slice A0_2 l0_2.length c0_2] 39 (0, 0)) (by (with_reducible repeat (first | refine blk_drewN ?_ _ | refine blk_drew ?_ | refine blk_alloc ?_ _)); exact BK412.out) hb); have n1_ := Aside0.mk (below_step (by repeat (first | (with_reducible first | exact HB.out | apply below_alloc | apply pw_below_drewN | apply below_drew1 | refine below_set ?_ GE412.out) | exact HB.out)) hb); have n2_ := Aside0.mk (hbox); have n3_ := Aside0.mk ((by rw [hg]; exact (below_size (by repeat (first | (with_reducible first | exact HB.out | apply below_alloc | apply pw_below_drewN | apply below_drew1 | refine below_set ?_ GE412.out) | exact HB.out))) : w.heap.size ≤ gb413)); have n4_ := Aside0.mk ((by rw [hg]; exact (below_size (by repeat (first | (with_reducible first | exact HB.out | apply below_alloc | apply pw_below_drewN | apply below_drew1 | refine below_set ?_ GE412.out) | exact HB.out))) : w.heap.size ≤ gb413)); have n5_ := Aside0.mk ((by rw [hg]; exact Nat.ne_of_lt (blk_lt (g := gb412) (o := .cells #[.string a0_0, .slice A0_1 l0_1.length c0_1, .slice A0_2 l0_2.length c0_2] 39 (0, 0)) (by (with_reducible repeat (first | refine blk_drewN ?_ _ | refine blk_drew ?_ | refine blk_alloc ?_ _)); exact BK412.out)) : gb412 ≠ gb413)); have n6_ := Aside0.mk ((by rw [hg]; exact Nat.ne_of_gt (blk_lt (g := gb412) (o := .cells #[.string a0_0, .slice A0_1 l0_1.length c0_1, .slice A0_2 l0_2.length c0_2] 39 (0, 0)) (by (with_reducible repeat (first | refine blk_drewN ?_ _ | refine blk_drew ?_ | refine blk_alloc ?_ _)); exact BK412.out)) : gb413 ≠ gb412)); clear BK412; clear HB; have BK412 := n0_; have HB := n1_; have BK413 := n2_; have GW413 := n3_; have GE413 := n4_; have NB412_413 := n5_; have NB413_412 := n6_; clear n0_ n1_ n2_ n3_ n4_ n5_ n6_; clear hb hbox hg))
  repeat (go_quiet (first | ((with_reducible refine gate_dst (N := 2) rfl ?_); (try (refine gate_guard (by rfl) ?_; dsimp only)); refine box_event ?hg (N := 2) ?hd (cs := #[.string a0_0, .slice A0_1 l0_1.length c0_1, .slice A0_2 l0_2.length c0_2]) (t := 39) ?hr ?_; (case hd => rfl); (case hg => rfl); (case hr => first | (go_simp; done) | (go_simp; rfl)); intro gb412 hg w4 hbox hb; have n0_ := Aside0.mk (below_step (by repeat (first | (with_reducible first | exact HB.out | apply below_alloc | apply pw_below_drewN | apply below_drew1) | exact HB.out)) hb); have n1_ := Aside0.mk (hbox); have n2_ := Aside0.mk ((by rw [hg]; exact (below_size (by repeat (first | (with_reducible first | exact HB.out | apply below_alloc | apply pw_below_drewN | apply below_drew1) | exact HB.out))) : w.heap.size ≤ gb412)); have n3_ := Aside0.mk ((by rw [hg]; exact (below_size (by repeat (first | (with_reducible first | exact HB.out | apply below_alloc | apply pw_below_drewN | apply below_drew1) | exact HB.out))) : w.heap.size ≤ gb412)); clear HB; have HB := n0_; have BK412 := n1_; have GW412 := n2_; have GE412 := n3_; clear n0_ n1_ n2_ n3_; clear hb hbox hg) | ((with_reducible refine gate_dst (N := 3) rfl ?_); (try (refine gate_guard (by rfl) ?_; dsimp only)); refine box_event ?hg (N := 3) ?hd (cs := #[.string a1_0, .slice A1_1 l1_1.length c1_1, .slice A1_2 l1_2.length c1_2]) (t := 39) ?hr ?_; (case hd => rfl); (case hg => rfl); (case hr => first | (go_simp; done) | (go_simp; rfl)); intro gb413 hg w5 hbox hb; have n0_ := Aside0.mk (blk_below (g := gb412) (o := .cells #[.string a0_0, .slice A0_1 l0_1.length c0_1, .slice A0_2 l0_2.length c0_2] 39 (0, 0)) (by (with_reducible repeat (first | refine blk_drewN ?_ _ | refine blk_drew ?_ | refine blk_alloc ?_ _)); exact BK412.out) hb); have n1_ := Aside0.mk (below_step (by repeat (first | (with_reducible first | exact HB.out | apply below_alloc | apply pw_below_drewN | apply below_drew1 | refine below_set ?_ GE412.out) | exact HB.out)) hb); have n2_ := Aside0.mk (hbox); have n3_ := Aside0.mk ((by rw [hg]; exact (below_size (by repeat (first | (with_reducible first | exact HB.out | apply below_alloc | apply pw_below_drewN | apply below_drew1 | refine below_set ?_ GE412.out) | exact HB.out))) : w.heap.size ≤ gb413)); have n4_ := Aside0.mk ((by rw [hg]; exact (below_size (by repeat (first | (with_reducible first | exact HB.out | apply below_alloc | apply pw_below_drewN | apply below_drew1 | refine below_set ?_ GE412.out) | exact HB.out))) : w.heap.size ≤ gb413)); have n5_ := Aside0.mk ((by rw [hg]; exact Nat.ne_of_lt (blk_lt (g := gb412) (o := .cells #[.string a0_0, .slice A0_1 l0_1.length c0_1, .slice A0_2 l0_2.length c0_2] 39 (0, 0)) (by (with_reducible repeat (first | refine blk_drewN ?_ _ | refine blk_drew ?_ | refine blk_alloc ?_ _)); exact BK412.out)) : gb412 ≠ gb413)); have n6_ := Aside0.mk ((by rw [hg]; exact Nat.ne_of_gt (blk_lt (g := gb412) (o := .cells #[.string a0_0, .slice A0_1 l0_1.length c0_1, .slice A0_2 l0_2.length c0_2] 39 (0, 0)) (by (with_reducible repeat (first | refine blk_drewN ?_ _ | refine blk_drew ?_ | refine blk_alloc ?_ _)); exact BK412.out)) : gb413 ≠ gb412)); clear BK412; clear HB; have BK412 := n0_; have HB := n1_; have BK413 := n2_; have GW413 := n3_; have GE413 := n4_; have NB412_413 := n5_; have NB413_412 := n6_; clear n0_ n1_ n2_ n3_ n4_ n5_ n6_; clear hb hbox hg)); go_upto_region 1 with (first | ((with_reducible refine gate_dst (N := 2) rfl ?_); (try (refine gate_guard (by rfl) ?_; dsimp only)); refine box_event ?hg (N := 2) ?hd (cs := #[.string a0_0, .slice A0_1 l0_1.length c0_1, .slice A0_2 l0_2.length c0_2]) (t := 39) ?hr ?_; (case hd => rfl); (case hg => rfl); (case hr => first | (go_simp; done) | (go_simp; rfl)); intro gb412 hg w4 hbox hb; have n0_ := Aside0.mk (below_step (by repeat (first | (with_reducible first | exact HB.out | apply below_alloc | apply pw_below_drewN | apply below_drew1) | exact HB.out)) hb); have n1_ := Aside0.mk (hbox); have n2_ := Aside0.mk ((by rw [hg]; exact (below_size (by repeat (first | (with_reducible first | exact HB.out | apply below_alloc | apply pw_below_drewN | apply below_drew1) | exact HB.out))) : w.heap.size ≤ gb412)); have n3_ := Aside0.mk ((by rw [hg]; exact (below_size (by repeat (first | (with_reducible first | exact HB.out | apply below_alloc | apply pw_below_drewN | apply below_drew1) | exact HB.out))) : w.heap.size ≤ gb412)); clear HB; have HB := n0_; have BK412 := n1_; have GW412 := n2_; have GE412 := n3_; clear n0_ n1_ n2_ n3_; clear hb hbox hg) | ((with_reducible refine gate_dst (N := 3) rfl ?_); (try (refine gate_guard (by rfl) ?_; dsimp only)); refine box_event ?hg (N := 3) ?hd (cs := #[.string a1_0, .slice A1_1 l1_1.length c1_1, .slice A1_2 l1_2.length c1_2]) (t := 39) ?hr ?_; (case hd => rfl); (case hg => rfl); (case hr => first | (go_simp; done) | (go_simp; rfl)); intro gb413 hg w5 hbox hb; have n0_ := Aside0.mk (blk_below (g := gb412) (o := .cells #[.string a0_0, .slice A0_1 l0_1.length c0_1, .slice A0_2 l0_2.length c0_2] 39 (0, 0)) (by (with_reducible repeat (first | refine blk_drewN ?_ _ | refine blk_drew ?_ | refine blk_alloc ?_ _)); exact BK412.out) hb); have n1_ := Aside0.mk (below_step (by repeat (first | (with_reducible first | exact HB.out | apply below_alloc | apply pw_below_drewN | apply below_drew1 | refine below_set ?_ GE412.out) | exact HB.out)) hb); have n2_ := Aside0.mk (hbox); have n3_ := Aside0.mk ((by rw [hg]; exact (below_size (by repeat (first | (with_reducible first | exact HB.out | apply below_alloc | apply pw_below_drewN | apply below_drew1 | refine below_set ?_ GE412.out) | exact HB.out))) : w.heap.size ≤ gb413)); have n4_ := Aside0.mk ((by rw [hg]; exact (below_size (by repeat (first | (with_reducible first | exact HB.out | apply below_alloc | apply pw_below_drewN | apply below_drew1 | refine below_set ?_ GE412.out) | exact HB.out))) : w.heap.size ≤ gb413)); have n5_ := Aside0.mk ((by rw [hg]; exact Nat.ne_of_lt (blk_lt (g := gb412) (o := .cells #[.string a0_0, .slice A0_1 l0_1.length c0_1, .slice A0_2 l0_2.length c0_2] 39 (0, 0)) (by (with_reducible repeat (first | refine blk_drewN ?_ _ | refine blk_drew ?_ | refine blk_alloc ?_ _)); exact BK412.out)) : gb412 ≠ gb413)); have n6_ := Aside0.mk ((by rw [hg]; exact Nat.ne_of_gt (blk_lt (g := gb412) (o := .cells #[.string a0_0, .slice A0_1 l0_1.length c0_1, .slice A0_2 l0_2.length c0_2] 39 (0, 0)) (by (with_reducible repeat (first | refine blk_drewN ?_ _ | refine blk_drew ?_ | refine blk_alloc ?_ _)); exact BK412.out)) : gb413 ≠ gb412)); clear BK412; clear HB; have BK412 := n0_; have HB := n1_; have BK413 := n2_; have GW413 := n3_; have GE413 := n4_; have NB412_413 := n5_; have NB413_412 := n6_; clear n0_ n1_ n2_ n3_ n4_ n5_ n6_; clear hb hbox hg)))
  (try simp only [Act.put, List.setIfInBounds_toArray, List.set_cons_zero, List.set_cons_succ])
  go_cut [21] (fun v21 wc => ∃ (kq : Nat) (x21_2 : Bool), v21 = .bool x21_2 ∧ Aside0 (arboretlaw12_RegionReg.j0 kq x21_2 a0_0 l0_1 l0_2 a1_0 l1_1 l1_2 = some r) ∧ Aside0 (kq ≤ k) ∧ Aside0 (wc.heap[gb412]? = some (.cells #[.string a0_0, (.slice A0_1 l0_1.length c0_1), (.slice A0_2 l0_2.length c0_2)] 39 (0, 0))) ∧ Aside0 (wc.heap[gb413]? = some (.cells #[.string a1_0, (.slice A1_1 l1_1.length c1_1), (.slice A1_2 l1_2.length c1_2)] 39 (0, 0))) ∧ Aside0 (Below w.heap.size w wc))
  case first =>
    have H := HC3.out
    clear HC3
    replace H := Option.bind_eq_some_iff.mp H
    obtain ⟨t414, A60, H⟩ := H
    replace H : (if t414 = true then ((arboretlaw12_few.f k a0_0 l0_1 l0_2).bind fun t415 => (if t415 = true then ((arboretlaw12_few.f k a1_0 l1_1 l1_2).bind fun t416 => (arboretlaw12_RegionReg.j0 k (!t416) a0_0 l0_1 l0_2 a1_0 l1_1 l1_2)) else (arboretlaw12_RegionReg.j0 k true a0_0 l0_1 l0_2 a1_0 l1_1 l1_2))) else (arboretlaw12_RegionReg.j0 k true a0_0 l0_1 l0_2 a1_0 l1_1 l1_2)) = some r := H
    have A6 := Aside0.mk A60
    clear A60
    by_cases c7 : t414 = true
    · subst c7
      have H1 : ((arboretlaw12_few.f k a0_0 l0_1 l0_2).bind fun t415 => (if t415 = true then ((arboretlaw12_few.f k a1_0 l1_1 l1_2).bind fun t416 => (arboretlaw12_RegionReg.j0 k (!t416) a0_0 l0_1 l0_2 a1_0 l1_1 l1_2)) else (arboretlaw12_RegionReg.j0 k true a0_0 l0_1 l0_2 a1_0 l1_1 l1_2))) = some r := by rw [if_pos rfl] at H; exact H
      clear H
      have H := H1
      clear H1
      replace H := Option.bind_eq_some_iff.mp H
      obtain ⟨t415, A80, H⟩ := H
      replace H : (if t415 = true then ((arboretlaw12_few.f k a1_0 l1_1 l1_2).bind fun t416 => (arboretlaw12_RegionReg.j0 k (!t416) a0_0 l0_1 l0_2 a1_0 l1_1 l1_2)) else (arboretlaw12_RegionReg.j0 k true a0_0 l0_1 l0_2 a1_0 l1_1 l1_2)) = some r := H
      have A8 := Aside0.mk A80
      clear A80
      by_cases c9 : t415 = true
      · subst c9
        have H1 : ((arboretlaw12_few.f k a1_0 l1_1 l1_2).bind fun t416 => (arboretlaw12_RegionReg.j0 k (!t416) a0_0 l0_1 l0_2 a1_0 l1_1 l1_2)) = some r := by rw [if_pos rfl] at H; exact H
        clear H
        have H := H1
        clear H1
        replace H := Option.bind_eq_some_iff.mp H
        obtain ⟨t416, A100, H⟩ := H
        replace H : (arboretlaw12_RegionReg.j0 k (!t416) a0_0 l0_1 l0_2 a1_0 l1_1 l1_2) = some r := H
        have A10 := Aside0.mk A100
        clear A100
        have H' := Aside0.mk H
        clear H
        go_wp2_with (first | (go_at_call 28; (with_reducible refine (arboretlaw12_awake.calls k  true _ A6.out).mono ?_); rintro e w11 ⟨rfl, hb⟩; have n0_ := Aside0.mk (blk_below (g := gb412) (o := .cells #[.string a0_0, .slice A0_1 l0_1.length c0_1, .slice A0_2 l0_2.length c0_2] 39 (0, 0)) (by (with_reducible repeat (first | refine blk_drewN ?_ _ | refine blk_drew ?_ | refine blk_alloc ?_ _)); exact BK412.out) hb); have n1_ := Aside0.mk (blk_below (g := gb413) (o := .cells #[.string a1_0, .slice A1_1 l1_1.length c1_1, .slice A1_2 l1_2.length c1_2] 39 (0, 0)) (by (with_reducible repeat (first | refine blk_drewN ?_ _ | refine blk_drew ?_ | refine blk_alloc ?_ _)); exact BK413.out) hb); have n2_ := Aside0.mk (below_step (by repeat (first | (with_reducible first | exact HB.out | apply below_alloc | apply pw_below_drewN | apply below_drew1 | refine below_set ?_ GE412.out | refine below_set ?_ GE413.out) | exact HB.out)) hb); clear BK412; clear BK413; clear HB; have BK412 := n0_; have BK413 := n1_; have HB := n2_; clear n0_ n1_ n2_; (try clear hb); (try clear hb2); (try clear hk); (try clear hi); have hnb12 := NB412_413.out; have hnc12 := NB413_412.out; have hcz13_0 : w11.cell? ⟨gb412, 0, none⟩ = some (.string a0_0) := (blk_cell BK412.out 0).trans rfl; have hcz13_1 : w11.cell? ⟨gb412, 1, none⟩ = some (.slice A0_1 l0_1.length c0_1) := (blk_cell BK412.out 1).trans rfl; have hcz13_2 : w11.cell? ⟨gb412, 2, none⟩ = some (.slice A0_2 l0_2.length c0_2) := (blk_cell BK412.out 2).trans rfl; have hfz13_0 := blk_frozen BK412.out 0; have hfz13_1 := blk_frozen BK412.out 1; have hfz13_2 := blk_frozen BK412.out 2) | (go_at_call 29; (with_reducible refine (arboretlaw12_few.calls k a0_0 _ _ l0_1 _ _ l0_2 true _ ?side1 ?side2 ?side3 ?side4 A8.out).mono ?_); (case side1 => repeat (first | exact (Kd.C_below HR0_1.out HB.out) | (with_reducible refine Kd.C_alloc ?_ _) | (with_reducible refine Kd.C_drewN ?_ _) | (with_reducible refine Kd.C_drew ?_))); (case side2 => exact HC0_1.out); (case side3 => repeat (first | exact (Kd.C_below HR0_2.out HB.out) | (with_reducible refine Kd.C_alloc ?_ _) | (with_reducible refine Kd.C_drewN ?_ _) | (with_reducible refine Kd.C_drew ?_))); (case side4 => exact HC0_2.out); rintro e w14 ⟨rfl, hb⟩; have n0_ := Aside0.mk (blk_below (g := gb412) (o := .cells #[.string a0_0, .slice A0_1 l0_1.length c0_1, .slice A0_2 l0_2.length c0_2] 39 (0, 0)) (by (with_reducible repeat (first | refine blk_drewN ?_ _ | refine blk_drew ?_ | refine blk_alloc ?_ _)); exact BK412.out) hb); have n1_ := Aside0.mk (blk_below (g := gb413) (o := .cells #[.string a1_0, .slice A1_1 l1_1.length c1_1, .slice A1_2 l1_2.length c1_2] 39 (0, 0)) (by (with_reducible repeat (first | refine blk_drewN ?_ _ | refine blk_drew ?_ | refine blk_alloc ?_ _)); exact BK413.out) hb); have n2_ := Aside0.mk (below_step (by repeat (first | (with_reducible first | exact HB.out | apply below_alloc | apply pw_below_drewN | apply below_drew1 | refine below_set ?_ GE412.out | refine below_set ?_ GE413.out) | exact HB.out)) hb); clear BK412; clear BK413; clear HB; have BK412 := n0_; have BK413 := n1_; have HB := n2_; clear n0_ n1_ n2_; (try clear hb); (try clear hb2); (try clear hk); (try clear hi); have hcz15_0 : w14.cell? ⟨gb413, 0, none⟩ = some (.string a1_0) := (blk_cell BK413.out 0).trans rfl; have hcz15_1 : w14.cell? ⟨gb413, 1, none⟩ = some (.slice A1_1 l1_1.length c1_1) := (blk_cell BK413.out 1).trans rfl; have hcz15_2 : w14.cell? ⟨gb413, 2, none⟩ = some (.slice A1_2 l1_2.length c1_2) := (blk_cell BK413.out 2).trans rfl; have hfz15_0 := blk_frozen BK413.out 0; have hfz15_1 := blk_frozen BK413.out 1; have hfz15_2 := blk_frozen BK413.out 2) | (go_at_call 29; (with_reducible refine (arboretlaw12_few.calls k a1_0 _ _ l1_1 _ _ l1_2 t416 _ ?side1 ?side2 ?side3 ?side4 A10.out).mono ?_); (case side1 => repeat (first | exact (Kd.C_below HR1_1.out HB.out) | (with_reducible refine Kd.C_alloc ?_ _) | (with_reducible refine Kd.C_drewN ?_ _) | (with_reducible refine Kd.C_drew ?_))); (case side2 => exact HC1_1.out); (case side3 => repeat (first | exact (Kd.C_below HR1_2.out HB.out) | (with_reducible refine Kd.C_alloc ?_ _) | (with_reducible refine Kd.C_drewN ?_ _) | (with_reducible refine Kd.C_drew ?_))); (case side4 => exact HC1_2.out); rintro e w16 ⟨rfl, hb⟩; have n0_ := Aside0.mk (blk_below (g := gb412) (o := .cells #[.string a0_0, .slice A0_1 l0_1.length c0_1, .slice A0_2 l0_2.length c0_2] 39 (0, 0)) (by (with_reducible repeat (first | refine blk_drewN ?_ _ | refine blk_drew ?_ | refine blk_alloc ?_ _)); exact BK412.out) hb); have n1_ := Aside0.mk (blk_below (g := gb413) (o := .cells #[.string a1_0, .slice A1_1 l1_1.length c1_1, .slice A1_2 l1_2.length c1_2] 39 (0, 0)) (by (with_reducible repeat (first | refine blk_drewN ?_ _ | refine blk_drew ?_ | refine blk_alloc ?_ _)); exact BK413.out) hb); have n2_ := Aside0.mk (below_step (by repeat (first | (with_reducible first | exact HB.out | apply below_alloc | apply pw_below_drewN | apply below_drew1 | refine below_set ?_ GE412.out | refine below_set ?_ GE413.out) | exact HB.out)) hb); clear BK412; clear BK413; clear HB; have BK412 := n0_; have BK413 := n1_; have HB := n2_; clear n0_ n1_ n2_; (try clear hb); (try clear hb2); (try clear hk); (try clear hi)))
        repeat (go_quiet (first | (go_at_call 28; (with_reducible refine (arboretlaw12_awake.calls k  true _ A6.out).mono ?_); rintro e w11 ⟨rfl, hb⟩; have n0_ := Aside0.mk (blk_below (g := gb412) (o := .cells #[.string a0_0, .slice A0_1 l0_1.length c0_1, .slice A0_2 l0_2.length c0_2] 39 (0, 0)) (by (with_reducible repeat (first | refine blk_drewN ?_ _ | refine blk_drew ?_ | refine blk_alloc ?_ _)); exact BK412.out) hb); have n1_ := Aside0.mk (blk_below (g := gb413) (o := .cells #[.string a1_0, .slice A1_1 l1_1.length c1_1, .slice A1_2 l1_2.length c1_2] 39 (0, 0)) (by (with_reducible repeat (first | refine blk_drewN ?_ _ | refine blk_drew ?_ | refine blk_alloc ?_ _)); exact BK413.out) hb); have n2_ := Aside0.mk (below_step (by repeat (first | (with_reducible first | exact HB.out | apply below_alloc | apply pw_below_drewN | apply below_drew1 | refine below_set ?_ GE412.out | refine below_set ?_ GE413.out) | exact HB.out)) hb); clear BK412; clear BK413; clear HB; have BK412 := n0_; have BK413 := n1_; have HB := n2_; clear n0_ n1_ n2_; (try clear hb); (try clear hb2); (try clear hk); (try clear hi); have hnb12 := NB412_413.out; have hnc12 := NB413_412.out; have hcz13_0 : w11.cell? ⟨gb412, 0, none⟩ = some (.string a0_0) := (blk_cell BK412.out 0).trans rfl; have hcz13_1 : w11.cell? ⟨gb412, 1, none⟩ = some (.slice A0_1 l0_1.length c0_1) := (blk_cell BK412.out 1).trans rfl; have hcz13_2 : w11.cell? ⟨gb412, 2, none⟩ = some (.slice A0_2 l0_2.length c0_2) := (blk_cell BK412.out 2).trans rfl; have hfz13_0 := blk_frozen BK412.out 0; have hfz13_1 := blk_frozen BK412.out 1; have hfz13_2 := blk_frozen BK412.out 2) | (go_at_call 29; (with_reducible refine (arboretlaw12_few.calls k a0_0 _ _ l0_1 _ _ l0_2 true _ ?side1 ?side2 ?side3 ?side4 A8.out).mono ?_); (case side1 => repeat (first | exact (Kd.C_below HR0_1.out HB.out) | (with_reducible refine Kd.C_alloc ?_ _) | (with_reducible refine Kd.C_drewN ?_ _) | (with_reducible refine Kd.C_drew ?_))); (case side2 => exact HC0_1.out); (case side3 => repeat (first | exact (Kd.C_below HR0_2.out HB.out) | (with_reducible refine Kd.C_alloc ?_ _) | (with_reducible refine Kd.C_drewN ?_ _) | (with_reducible refine Kd.C_drew ?_))); (case side4 => exact HC0_2.out); rintro e w14 ⟨rfl, hb⟩; have n0_ := Aside0.mk (blk_below (g := gb412) (o := .cells #[.string a0_0, .slice A0_1 l0_1.length c0_1, .slice A0_2 l0_2.length c0_2] 39 (0, 0)) (by (with_reducible repeat (first | refine blk_drewN ?_ _ | refine blk_drew ?_ | refine blk_alloc ?_ _)); exact BK412.out) hb); have n1_ := Aside0.mk (blk_below (g := gb413) (o := .cells #[.string a1_0, .slice A1_1 l1_1.length c1_1, .slice A1_2 l1_2.length c1_2] 39 (0, 0)) (by (with_reducible repeat (first | refine blk_drewN ?_ _ | refine blk_drew ?_ | refine blk_alloc ?_ _)); exact BK413.out) hb); have n2_ := Aside0.mk (below_step (by repeat (first | (with_reducible first | exact HB.out | apply below_alloc | apply pw_below_drewN | apply below_drew1 | refine below_set ?_ GE412.out | refine below_set ?_ GE413.out) | exact HB.out)) hb); clear BK412; clear BK413; clear HB; have BK412 := n0_; have BK413 := n1_; have HB := n2_; clear n0_ n1_ n2_; (try clear hb); (try clear hb2); (try clear hk); (try clear hi); have hcz15_0 : w14.cell? ⟨gb413, 0, none⟩ = some (.string a1_0) := (blk_cell BK413.out 0).trans rfl; have hcz15_1 : w14.cell? ⟨gb413, 1, none⟩ = some (.slice A1_1 l1_1.length c1_1) := (blk_cell BK413.out 1).trans rfl; have hcz15_2 : w14.cell? ⟨gb413, 2, none⟩ = some (.slice A1_2 l1_2.length c1_2) := (blk_cell BK413.out 2).trans rfl; have hfz15_0 := blk_frozen BK413.out 0; have hfz15_1 := blk_frozen BK413.out 1; have hfz15_2 := blk_frozen BK413.out 2) | (go_at_call 29; (with_reducible refine (arboretlaw12_few.calls k a1_0 _ _ l1_1 _ _ l1_2 t416 _ ?side1 ?side2 ?side3 ?side4 A10.out).mono ?_); (case side1 => repeat (first | exact (Kd.C_below HR1_1.out HB.out) | (with_reducible refine Kd.C_alloc ?_ _) | (with_reducible refine Kd.C_drewN ?_ _) | (with_reducible refine Kd.C_drew ?_))); (case side2 => exact HC1_1.out); (case side3 => repeat (first | exact (Kd.C_below HR1_2.out HB.out) | (with_reducible refine Kd.C_alloc ?_ _) | (with_reducible refine Kd.C_drewN ?_ _) | (with_reducible refine Kd.C_drew ?_))); (case side4 => exact HC1_2.out); rintro e w16 ⟨rfl, hb⟩; have n0_ := Aside0.mk (blk_below (g := gb412) (o := .cells #[.string a0_0, .slice A0_1 l0_1.length c0_1, .slice A0_2 l0_2.length c0_2] 39 (0, 0)) (by (with_reducible repeat (first | refine blk_drewN ?_ _ | refine blk_drew ?_ | refine blk_alloc ?_ _)); exact BK412.out) hb); have n1_ := Aside0.mk (blk_below (g := gb413) (o := .cells #[.string a1_0, .slice A1_1 l1_1.length c1_1, .slice A1_2 l1_2.length c1_2] 39 (0, 0)) (by (with_reducible repeat (first | refine blk_drewN ?_ _ | refine blk_drew ?_ | refine blk_alloc ?_ _)); exact BK413.out) hb); have n2_ := Aside0.mk (below_step (by repeat (first | (with_reducible first | exact HB.out | apply below_alloc | apply pw_below_drewN | apply below_drew1 | refine below_set ?_ GE412.out | refine below_set ?_ GE413.out) | exact HB.out)) hb); clear BK412; clear BK413; clear HB; have BK412 := n0_; have BK413 := n1_; have HB := n2_; clear n0_ n1_ n2_; (try clear hb); (try clear hb2); (try clear hk); (try clear hi))); try go_wp2_with (first | (go_at_call 28; (with_reducible refine (arboretlaw12_awake.calls k  true _ A6.out).mono ?_); rintro e w11 ⟨rfl, hb⟩; have n0_ := Aside0.mk (blk_below (g := gb412) (o := .cells #[.string a0_0, .slice A0_1 l0_1.length c0_1, .slice A0_2 l0_2.length c0_2] 39 (0, 0)) (by (with_reducible repeat (first | refine blk_drewN ?_ _ | refine blk_drew ?_ | refine blk_alloc ?_ _)); exact BK412.out) hb); have n1_ := Aside0.mk (blk_below (g := gb413) (o := .cells #[.string a1_0, .slice A1_1 l1_1.length c1_1, .slice A1_2 l1_2.length c1_2] 39 (0, 0)) (by (with_reducible repeat (first | refine blk_drewN ?_ _ | refine blk_drew ?_ | refine blk_alloc ?_ _)); exact BK413.out) hb); have n2_ := Aside0.mk (below_step (by repeat (first | (with_reducible first | exact HB.out | apply below_alloc | apply pw_below_drewN | apply below_drew1 | refine below_set ?_ GE412.out | refine below_set ?_ GE413.out) | exact HB.out)) hb); clear BK412; clear BK413; clear HB; have BK412 := n0_; have BK413 := n1_; have HB := n2_; clear n0_ n1_ n2_; (try clear hb); (try clear hb2); (try clear hk); (try clear hi); have hnb12 := NB412_413.out; have hnc12 := NB413_412.out; have hcz13_0 : w11.cell? ⟨gb412, 0, none⟩ = some (.string a0_0) := (blk_cell BK412.out 0).trans rfl; have hcz13_1 : w11.cell? ⟨gb412, 1, none⟩ = some (.slice A0_1 l0_1.length c0_1) := (blk_cell BK412.out 1).trans rfl; have hcz13_2 : w11.cell? ⟨gb412, 2, none⟩ = some (.slice A0_2 l0_2.length c0_2) := (blk_cell BK412.out 2).trans rfl; have hfz13_0 := blk_frozen BK412.out 0; have hfz13_1 := blk_frozen BK412.out 1; have hfz13_2 := blk_frozen BK412.out 2) | (go_at_call 29; (with_reducible refine (arboretlaw12_few.calls k a0_0 _ _ l0_1 _ _ l0_2 true _ ?side1 ?side2 ?side3 ?side4 A8.out).mono ?_); (case side1 => repeat (first | exact (Kd.C_below HR0_1.out HB.out) | (with_reducible refine Kd.C_alloc ?_ _) | (with_reducible refine Kd.C_drewN ?_ _) | (with_reducible refine Kd.C_drew ?_))); (case side2 => exact HC0_1.out); (case side3 => repeat (first | exact (Kd.C_below HR0_2.out HB.out) | (with_reducible refine Kd.C_alloc ?_ _) | (with_reducible refine Kd.C_drewN ?_ _) | (with_reducible refine Kd.C_drew ?_))); (case side4 => exact HC0_2.out); rintro e w14 ⟨rfl, hb⟩; have n0_ := Aside0.mk (blk_below (g := gb412) (o := .cells #[.string a0_0, .slice A0_1 l0_1.length c0_1, .slice A0_2 l0_2.length c0_2] 39 (0, 0)) (by (with_reducible repeat (first | refine blk_drewN ?_ _ | refine blk_drew ?_ | refine blk_alloc ?_ _)); exact BK412.out) hb); have n1_ := Aside0.mk (blk_below (g := gb413) (o := .cells #[.string a1_0, .slice A1_1 l1_1.length c1_1, .slice A1_2 l1_2.length c1_2] 39 (0, 0)) (by (with_reducible repeat (first | refine blk_drewN ?_ _ | refine blk_drew ?_ | refine blk_alloc ?_ _)); exact BK413.out) hb); have n2_ := Aside0.mk (below_step (by repeat (first | (with_reducible first | exact HB.out | apply below_alloc | apply pw_below_drewN | apply below_drew1 | refine below_set ?_ GE412.out | refine below_set ?_ GE413.out) | exact HB.out)) hb); clear BK412; clear BK413; clear HB; have BK412 := n0_; have BK413 := n1_; have HB := n2_; clear n0_ n1_ n2_; (try clear hb); (try clear hb2); (try clear hk); (try clear hi); have hcz15_0 : w14.cell? ⟨gb413, 0, none⟩ = some (.string a1_0) := (blk_cell BK413.out 0).trans rfl; have hcz15_1 : w14.cell? ⟨gb413, 1, none⟩ = some (.slice A1_1 l1_1.length c1_1) := (blk_cell BK413.out 1).trans rfl; have hcz15_2 : w14.cell? ⟨gb413, 2, none⟩ = some (.slice A1_2 l1_2.length c1_2) := (blk_cell BK413.out 2).trans rfl; have hfz15_0 := blk_frozen BK413.out 0; have hfz15_1 := blk_frozen BK413.out 1; have hfz15_2 := blk_frozen BK413.out 2) | (go_at_call 29; (with_reducible refine (arboretlaw12_few.calls k a1_0 _ _ l1_1 _ _ l1_2 t416 _ ?side1 ?side2 ?side3 ?side4 A10.out).mono ?_); (case side1 => repeat (first | exact (Kd.C_below HR1_1.out HB.out) | (with_reducible refine Kd.C_alloc ?_ _) | (with_reducible refine Kd.C_drewN ?_ _) | (with_reducible refine Kd.C_drew ?_))); (case side2 => exact HC1_1.out); (case side3 => repeat (first | exact (Kd.C_below HR1_2.out HB.out) | (with_reducible refine Kd.C_alloc ?_ _) | (with_reducible refine Kd.C_drewN ?_ _) | (with_reducible refine Kd.C_drew ?_))); (case side4 => exact HC1_2.out); rintro e w16 ⟨rfl, hb⟩; have n0_ := Aside0.mk (blk_below (g := gb412) (o := .cells #[.string a0_0, .slice A0_1 l0_1.length c0_1, .slice A0_2 l0_2.length c0_2] 39 (0, 0)) (by (with_reducible repeat (first | refine blk_drewN ?_ _ | refine blk_drew ?_ | refine blk_alloc ?_ _)); exact BK412.out) hb); have n1_ := Aside0.mk (blk_below (g := gb413) (o := .cells #[.string a1_0, .slice A1_1 l1_1.length c1_1, .slice A1_2 l1_2.length c1_2] 39 (0, 0)) (by (with_reducible repeat (first | refine blk_drewN ?_ _ | refine blk_drew ?_ | refine blk_alloc ?_ _)); exact BK413.out) hb); have n2_ := Aside0.mk (below_step (by repeat (first | (with_reducible first | exact HB.out | apply below_alloc | apply pw_below_drewN | apply below_drew1 | refine below_set ?_ GE412.out | refine below_set ?_ GE413.out) | exact HB.out)) hb); clear BK412; clear BK413; clear HB; have BK412 := n0_; have BK413 := n1_; have HB := n2_; clear n0_ n1_ n2_; (try clear hb); (try clear hb2); (try clear hk); (try clear hi))))
        go_meet
        case rel => exact ⟨_, (!t416), (by first | rfl | (simp; done) | (simp [*]; done)), H', ⟨by first | omega | exact Nat.le_refl _⟩, ⟨by (with_reducible repeat (first | refine blk_drewN ?_ _ | refine blk_drew ?_ | refine blk_alloc ?_ _)); exact BK412.out⟩, ⟨by (with_reducible repeat (first | refine blk_drewN ?_ _ | refine blk_drew ?_ | refine blk_alloc ?_ _)); exact BK413.out⟩, ⟨by repeat (first | (with_reducible first | exact HB.out | apply below_alloc | apply pw_below_drewN | apply below_drew1 | refine below_set ?_ GE412.out | refine below_set ?_ GE413.out) | exact HB.out)⟩⟩
      · replace c9 := Bool.eq_false_iff.mpr c9
        subst c9
        have H1 : (arboretlaw12_RegionReg.j0 k true a0_0 l0_1 l0_2 a1_0 l1_1 l1_2) = some r := by rw [if_neg (show ¬ (false = true) by decide)] at H; exact H
        clear H
        have H := H1
        clear H1
        have H' := Aside0.mk H
        clear H
        go_wp2_with (first | (go_at_call 28; (with_reducible refine (arboretlaw12_awake.calls k  true _ A6.out).mono ?_); rintro e w17 ⟨rfl, hb⟩; have n0_ := Aside0.mk (blk_below (g := gb412) (o := .cells #[.string a0_0, .slice A0_1 l0_1.length c0_1, .slice A0_2 l0_2.length c0_2] 39 (0, 0)) (by (with_reducible repeat (first | refine blk_drewN ?_ _ | refine blk_drew ?_ | refine blk_alloc ?_ _)); exact BK412.out) hb); have n1_ := Aside0.mk (blk_below (g := gb413) (o := .cells #[.string a1_0, .slice A1_1 l1_1.length c1_1, .slice A1_2 l1_2.length c1_2] 39 (0, 0)) (by (with_reducible repeat (first | refine blk_drewN ?_ _ | refine blk_drew ?_ | refine blk_alloc ?_ _)); exact BK413.out) hb); have n2_ := Aside0.mk (below_step (by repeat (first | (with_reducible first | exact HB.out | apply below_alloc | apply pw_below_drewN | apply below_drew1 | refine below_set ?_ GE412.out | refine below_set ?_ GE413.out) | exact HB.out)) hb); clear BK412; clear BK413; clear HB; have BK412 := n0_; have BK413 := n1_; have HB := n2_; clear n0_ n1_ n2_; (try clear hb); (try clear hb2); (try clear hk); (try clear hi); have hnb18 := NB412_413.out; have hnc18 := NB413_412.out; have hcz19_0 : w17.cell? ⟨gb412, 0, none⟩ = some (.string a0_0) := (blk_cell BK412.out 0).trans rfl; have hcz19_1 : w17.cell? ⟨gb412, 1, none⟩ = some (.slice A0_1 l0_1.length c0_1) := (blk_cell BK412.out 1).trans rfl; have hcz19_2 : w17.cell? ⟨gb412, 2, none⟩ = some (.slice A0_2 l0_2.length c0_2) := (blk_cell BK412.out 2).trans rfl; have hfz19_0 := blk_frozen BK412.out 0; have hfz19_1 := blk_frozen BK412.out 1; have hfz19_2 := blk_frozen BK412.out 2) | (go_at_call 29; (with_reducible refine (arboretlaw12_few.calls k a0_0 _ _ l0_1 _ _ l0_2 false _ ?side1 ?side2 ?side3 ?side4 A8.out).mono ?_); (case side1 => repeat (first | exact (Kd.C_below HR0_1.out HB.out) | (with_reducible refine Kd.C_alloc ?_ _) | (with_reducible refine Kd.C_drewN ?_ _) | (with_reducible refine Kd.C_drew ?_))); (case side2 => exact HC0_1.out); (case side3 => repeat (first | exact (Kd.C_below HR0_2.out HB.out) | (with_reducible refine Kd.C_alloc ?_ _) | (with_reducible refine Kd.C_drewN ?_ _) | (with_reducible refine Kd.C_drew ?_))); (case side4 => exact HC0_2.out); rintro e w20 ⟨rfl, hb⟩; have n0_ := Aside0.mk (blk_below (g := gb412) (o := .cells #[.string a0_0, .slice A0_1 l0_1.length c0_1, .slice A0_2 l0_2.length c0_2] 39 (0, 0)) (by (with_reducible repeat (first | refine blk_drewN ?_ _ | refine blk_drew ?_ | refine blk_alloc ?_ _)); exact BK412.out) hb); have n1_ := Aside0.mk (blk_below (g := gb413) (o := .cells #[.string a1_0, .slice A1_1 l1_1.length c1_1, .slice A1_2 l1_2.length c1_2] 39 (0, 0)) (by (with_reducible repeat (first | refine blk_drewN ?_ _ | refine blk_drew ?_ | refine blk_alloc ?_ _)); exact BK413.out) hb); have n2_ := Aside0.mk (below_step (by repeat (first | (with_reducible first | exact HB.out | apply below_alloc | apply pw_below_drewN | apply below_drew1 | refine below_set ?_ GE412.out | refine below_set ?_ GE413.out) | exact HB.out)) hb); clear BK412; clear BK413; clear HB; have BK412 := n0_; have BK413 := n1_; have HB := n2_; clear n0_ n1_ n2_; (try clear hb); (try clear hb2); (try clear hk); (try clear hi)))
        repeat (go_quiet (first | (go_at_call 28; (with_reducible refine (arboretlaw12_awake.calls k  true _ A6.out).mono ?_); rintro e w17 ⟨rfl, hb⟩; have n0_ := Aside0.mk (blk_below (g := gb412) (o := .cells #[.string a0_0, .slice A0_1 l0_1.length c0_1, .slice A0_2 l0_2.length c0_2] 39 (0, 0)) (by (with_reducible repeat (first | refine blk_drewN ?_ _ | refine blk_drew ?_ | refine blk_alloc ?_ _)); exact BK412.out) hb); have n1_ := Aside0.mk (blk_below (g := gb413) (o := .cells #[.string a1_0, .slice A1_1 l1_1.length c1_1, .slice A1_2 l1_2.length c1_2] 39 (0, 0)) (by (with_reducible repeat (first | refine blk_drewN ?_ _ | refine blk_drew ?_ | refine blk_alloc ?_ _)); exact BK413.out) hb); have n2_ := Aside0.mk (below_step (by repeat (first | (with_reducible first | exact HB.out | apply below_alloc | apply pw_below_drewN | apply below_drew1 | refine below_set ?_ GE412.out | refine below_set ?_ GE413.out) | exact HB.out)) hb); clear BK412; clear BK413; clear HB; have BK412 := n0_; have BK413 := n1_; have HB := n2_; clear n0_ n1_ n2_; (try clear hb); (try clear hb2); (try clear hk); (try clear hi); have hnb18 := NB412_413.out; have hnc18 := NB413_412.out; have hcz19_0 : w17.cell? ⟨gb412, 0, none⟩ = some (.string a0_0) := (blk_cell BK412.out 0).trans rfl; have hcz19_1 : w17.cell? ⟨gb412, 1, none⟩ = some (.slice A0_1 l0_1.length c0_1) := (blk_cell BK412.out 1).trans rfl; have hcz19_2 : w17.cell? ⟨gb412, 2, none⟩ = some (.slice A0_2 l0_2.length c0_2) := (blk_cell BK412.out 2).trans rfl; have hfz19_0 := blk_frozen BK412.out 0; have hfz19_1 := blk_frozen BK412.out 1; have hfz19_2 := blk_frozen BK412.out 2) | (go_at_call 29; (with_reducible refine (arboretlaw12_few.calls k a0_0 _ _ l0_1 _ _ l0_2 false _ ?side1 ?side2 ?side3 ?side4 A8.out).mono ?_); (case side1 => repeat (first | exact (Kd.C_below HR0_1.out HB.out) | (with_reducible refine Kd.C_alloc ?_ _) | (with_reducible refine Kd.C_drewN ?_ _) | (with_reducible refine Kd.C_drew ?_))); (case side2 => exact HC0_1.out); (case side3 => repeat (first | exact (Kd.C_below HR0_2.out HB.out) | (with_reducible refine Kd.C_alloc ?_ _) | (with_reducible refine Kd.C_drewN ?_ _) | (with_reducible refine Kd.C_drew ?_))); (case side4 => exact HC0_2.out); rintro e w20 ⟨rfl, hb⟩; have n0_ := Aside0.mk (blk_below (g := gb412) (o := .cells #[.string a0_0, .slice A0_1 l0_1.length c0_1, .slice A0_2 l0_2.length c0_2] 39 (0, 0)) (by (with_reducible repeat (first | refine blk_drewN ?_ _ | refine blk_drew ?_ | refine blk_alloc ?_ _)); exact BK412.out) hb); have n1_ := Aside0.mk (blk_below (g := gb413) (o := .cells #[.string a1_0, .slice A1_1 l1_1.length c1_1, .slice A1_2 l1_2.length c1_2] 39 (0, 0)) (by (with_reducible repeat (first | refine blk_drewN ?_ _ | refine blk_drew ?_ | refine blk_alloc ?_ _)); exact BK413.out) hb); have n2_ := Aside0.mk (below_step (by repeat (first | (with_reducible first | exact HB.out | apply below_alloc | apply pw_below_drewN | apply below_drew1 | refine below_set ?_ GE412.out | refine below_set ?_ GE413.out) | exact HB.out)) hb); clear BK412; clear BK413; clear HB; have BK412 := n0_; have BK413 := n1_; have HB := n2_; clear n0_ n1_ n2_; (try clear hb); (try clear hb2); (try clear hk); (try clear hi))); try go_wp2_with (first | (go_at_call 28; (with_reducible refine (arboretlaw12_awake.calls k  true _ A6.out).mono ?_); rintro e w17 ⟨rfl, hb⟩; have n0_ := Aside0.mk (blk_below (g := gb412) (o := .cells #[.string a0_0, .slice A0_1 l0_1.length c0_1, .slice A0_2 l0_2.length c0_2] 39 (0, 0)) (by (with_reducible repeat (first | refine blk_drewN ?_ _ | refine blk_drew ?_ | refine blk_alloc ?_ _)); exact BK412.out) hb); have n1_ := Aside0.mk (blk_below (g := gb413) (o := .cells #[.string a1_0, .slice A1_1 l1_1.length c1_1, .slice A1_2 l1_2.length c1_2] 39 (0, 0)) (by (with_reducible repeat (first | refine blk_drewN ?_ _ | refine blk_drew ?_ | refine blk_alloc ?_ _)); exact BK413.out) hb); have n2_ := Aside0.mk (below_step (by repeat (first | (with_reducible first | exact HB.out | apply below_alloc | apply pw_below_drewN | apply below_drew1 | refine below_set ?_ GE412.out | refine below_set ?_ GE413.out) | exact HB.out)) hb); clear BK412; clear BK413; clear HB; have BK412 := n0_; have BK413 := n1_; have HB := n2_; clear n0_ n1_ n2_; (try clear hb); (try clear hb2); (try clear hk); (try clear hi); have hnb18 := NB412_413.out; have hnc18 := NB413_412.out; have hcz19_0 : w17.cell? ⟨gb412, 0, none⟩ = some (.string a0_0) := (blk_cell BK412.out 0).trans rfl; have hcz19_1 : w17.cell? ⟨gb412, 1, none⟩ = some (.slice A0_1 l0_1.length c0_1) := (blk_cell BK412.out 1).trans rfl; have hcz19_2 : w17.cell? ⟨gb412, 2, none⟩ = some (.slice A0_2 l0_2.length c0_2) := (blk_cell BK412.out 2).trans rfl; have hfz19_0 := blk_frozen BK412.out 0; have hfz19_1 := blk_frozen BK412.out 1; have hfz19_2 := blk_frozen BK412.out 2) | (go_at_call 29; (with_reducible refine (arboretlaw12_few.calls k a0_0 _ _ l0_1 _ _ l0_2 false _ ?side1 ?side2 ?side3 ?side4 A8.out).mono ?_); (case side1 => repeat (first | exact (Kd.C_below HR0_1.out HB.out) | (with_reducible refine Kd.C_alloc ?_ _) | (with_reducible refine Kd.C_drewN ?_ _) | (with_reducible refine Kd.C_drew ?_))); (case side2 => exact HC0_1.out); (case side3 => repeat (first | exact (Kd.C_below HR0_2.out HB.out) | (with_reducible refine Kd.C_alloc ?_ _) | (with_reducible refine Kd.C_drewN ?_ _) | (with_reducible refine Kd.C_drew ?_))); (case side4 => exact HC0_2.out); rintro e w20 ⟨rfl, hb⟩; have n0_ := Aside0.mk (blk_below (g := gb412) (o := .cells #[.string a0_0, .slice A0_1 l0_1.length c0_1, .slice A0_2 l0_2.length c0_2] 39 (0, 0)) (by (with_reducible repeat (first | refine blk_drewN ?_ _ | refine blk_drew ?_ | refine blk_alloc ?_ _)); exact BK412.out) hb); have n1_ := Aside0.mk (blk_below (g := gb413) (o := .cells #[.string a1_0, .slice A1_1 l1_1.length c1_1, .slice A1_2 l1_2.length c1_2] 39 (0, 0)) (by (with_reducible repeat (first | refine blk_drewN ?_ _ | refine blk_drew ?_ | refine blk_alloc ?_ _)); exact BK413.out) hb); have n2_ := Aside0.mk (below_step (by repeat (first | (with_reducible first | exact HB.out | apply below_alloc | apply pw_below_drewN | apply below_drew1 | refine below_set ?_ GE412.out | refine below_set ?_ GE413.out) | exact HB.out)) hb); clear BK412; clear BK413; clear HB; have BK412 := n0_; have BK413 := n1_; have HB := n2_; clear n0_ n1_ n2_; (try clear hb); (try clear hb2); (try clear hk); (try clear hi))))
        go_meet
        case rel => exact ⟨_, (true), (by first | rfl | (simp; done) | (simp [*]; done)), H', ⟨by first | omega | exact Nat.le_refl _⟩, ⟨by (with_reducible repeat (first | refine blk_drewN ?_ _ | refine blk_drew ?_ | refine blk_alloc ?_ _)); exact BK412.out⟩, ⟨by (with_reducible repeat (first | refine blk_drewN ?_ _ | refine blk_drew ?_ | refine blk_alloc ?_ _)); exact BK413.out⟩, ⟨by repeat (first | (with_reducible first | exact HB.out | apply below_alloc | apply pw_below_drewN | apply below_drew1 | refine below_set ?_ GE412.out | refine below_set ?_ GE413.out) | exact HB.out)⟩⟩
    · replace c7 := Bool.eq_false_iff.mpr c7
      subst c7
      have H1 : (arboretlaw12_RegionReg.j0 k true a0_0 l0_1 l0_2 a1_0 l1_1 l1_2) = some r := by rw [if_neg (show ¬ (false = true) by decide)] at H; exact H
      clear H
      have H := H1
      clear H1
      have H' := Aside0.mk H
      clear H
      go_wp2_with (first | (go_at_call 28; (with_reducible refine (arboretlaw12_awake.calls k  false _ A6.out).mono ?_); rintro e w21 ⟨rfl, hb⟩; have n0_ := Aside0.mk (blk_below (g := gb412) (o := .cells #[.string a0_0, .slice A0_1 l0_1.length c0_1, .slice A0_2 l0_2.length c0_2] 39 (0, 0)) (by (with_reducible repeat (first | refine blk_drewN ?_ _ | refine blk_drew ?_ | refine blk_alloc ?_ _)); exact BK412.out) hb); have n1_ := Aside0.mk (blk_below (g := gb413) (o := .cells #[.string a1_0, .slice A1_1 l1_1.length c1_1, .slice A1_2 l1_2.length c1_2] 39 (0, 0)) (by (with_reducible repeat (first | refine blk_drewN ?_ _ | refine blk_drew ?_ | refine blk_alloc ?_ _)); exact BK413.out) hb); have n2_ := Aside0.mk (below_step (by repeat (first | (with_reducible first | exact HB.out | apply below_alloc | apply pw_below_drewN | apply below_drew1 | refine below_set ?_ GE412.out | refine below_set ?_ GE413.out) | exact HB.out)) hb); clear BK412; clear BK413; clear HB; have BK412 := n0_; have BK413 := n1_; have HB := n2_; clear n0_ n1_ n2_; (try clear hb); (try clear hb2); (try clear hk); (try clear hi)))
      repeat (go_quiet (first | (go_at_call 28; (with_reducible refine (arboretlaw12_awake.calls k  false _ A6.out).mono ?_); rintro e w21 ⟨rfl, hb⟩; have n0_ := Aside0.mk (blk_below (g := gb412) (o := .cells #[.string a0_0, .slice A0_1 l0_1.length c0_1, .slice A0_2 l0_2.length c0_2] 39 (0, 0)) (by (with_reducible repeat (first | refine blk_drewN ?_ _ | refine blk_drew ?_ | refine blk_alloc ?_ _)); exact BK412.out) hb); have n1_ := Aside0.mk (blk_below (g := gb413) (o := .cells #[.string a1_0, .slice A1_1 l1_1.length c1_1, .slice A1_2 l1_2.length c1_2] 39 (0, 0)) (by (with_reducible repeat (first | refine blk_drewN ?_ _ | refine blk_drew ?_ | refine blk_alloc ?_ _)); exact BK413.out) hb); have n2_ := Aside0.mk (below_step (by repeat (first | (with_reducible first | exact HB.out | apply below_alloc | apply pw_below_drewN | apply below_drew1 | refine below_set ?_ GE412.out | refine below_set ?_ GE413.out) | exact HB.out)) hb); clear BK412; clear BK413; clear HB; have BK412 := n0_; have BK413 := n1_; have HB := n2_; clear n0_ n1_ n2_; (try clear hb); (try clear hb2); (try clear hk); (try clear hi))); try go_wp2_with (first | (go_at_call 28; (with_reducible refine (arboretlaw12_awake.calls k  false _ A6.out).mono ?_); rintro e w21 ⟨rfl, hb⟩; have n0_ := Aside0.mk (blk_below (g := gb412) (o := .cells #[.string a0_0, .slice A0_1 l0_1.length c0_1, .slice A0_2 l0_2.length c0_2] 39 (0, 0)) (by (with_reducible repeat (first | refine blk_drewN ?_ _ | refine blk_drew ?_ | refine blk_alloc ?_ _)); exact BK412.out) hb); have n1_ := Aside0.mk (blk_below (g := gb413) (o := .cells #[.string a1_0, .slice A1_1 l1_1.length c1_1, .slice A1_2 l1_2.length c1_2] 39 (0, 0)) (by (with_reducible repeat (first | refine blk_drewN ?_ _ | refine blk_drew ?_ | refine blk_alloc ?_ _)); exact BK413.out) hb); have n2_ := Aside0.mk (below_step (by repeat (first | (with_reducible first | exact HB.out | apply below_alloc | apply pw_below_drewN | apply below_drew1 | refine below_set ?_ GE412.out | refine below_set ?_ GE413.out) | exact HB.out)) hb); clear BK412; clear BK413; clear HB; have BK412 := n0_; have BK413 := n1_; have HB := n2_; clear n0_ n1_ n2_; (try clear hb); (try clear hb2); (try clear hk); (try clear hi))))
      go_meet
      case rel => exact ⟨_, (true), (by first | rfl | (simp; done) | (simp [*]; done)), H', ⟨by first | omega | exact Nat.le_refl _⟩, ⟨by (with_reducible repeat (first | refine blk_drewN ?_ _ | refine blk_drew ?_ | refine blk_alloc ?_ _)); exact BK412.out⟩, ⟨by (with_reducible repeat (first | refine blk_drewN ?_ _ | refine blk_drew ?_ | refine blk_alloc ?_ _)); exact BK413.out⟩, ⟨by repeat (first | (with_reducible first | exact HB.out | apply below_alloc | apply pw_below_drewN | apply below_drew1 | refine below_set ?_ GE412.out | refine below_set ?_ GE413.out) | exact HB.out)⟩⟩
  case rest =>
    clear HC3
    try clear c1
    try clear p2
    try clear c7
    try clear c9
    try clear c12
    try clear c13
    try clear c18
    try clear hcz13_0
    try clear hcz13_1
    try clear hcz13_2
    try clear hcz15_0
    try clear hcz15_1
    try clear hcz15_2
    try clear hcz19_0
    try clear hcz19_1
    try clear hcz19_2
    try clear hfz13_0
    try clear hfz13_1
    try clear hfz13_2
    try clear hfz15_0
    try clear hfz15_1
    try clear hfz15_2
    try clear hfz19_0
    try clear hfz19_1
    try clear hfz19_2
    obtain ⟨kq, x21_2, rfl, HA, HJ2, BK412, BK413, HB⟩ := hcut
    cases kq with
    | zero => exact absurd HA.out (by simp [arboretlaw12_RegionReg.j0])
    | succ kj2 =>
      have H := HA.out
      clear HA
      simp only [arboretlaw12_RegionReg.j0] at H
      by_cases c22 : x21_2 = true
      · subst c22
        have H1 : ((arboretlaw12_awake.f kj2).bind fun t417 => (some t417)) = some r := by rw [if_pos rfl] at H; exact H
        clear H
        have H := H1
        clear H1
        replace H := Option.bind_eq_some_iff.mp H
        obtain ⟨t417, A230, H⟩ := H
        replace H : (some t417) = some r := H
        have A23 := Aside0.mk A230
        clear A230
        obtain rfl := Option.some.inj H
        go_wp2_with (first | (go_at_call 28; (with_reducible refine (arboretlaw12_awake.calls kj2  t417 _ A23.out).mono ?_); rintro e w24 ⟨rfl, hb⟩; have n0_ := Aside0.mk (blk_below (g := gb412) (o := .cells #[.string a0_0, .slice A0_1 l0_1.length c0_1, .slice A0_2 l0_2.length c0_2] 39 (0, 0)) (by (with_reducible repeat (first | refine blk_drewN ?_ _ | refine blk_drew ?_ | refine blk_alloc ?_ _)); exact BK412.out) hb); have n1_ := Aside0.mk (blk_below (g := gb413) (o := .cells #[.string a1_0, .slice A1_1 l1_1.length c1_1, .slice A1_2 l1_2.length c1_2] 39 (0, 0)) (by (with_reducible repeat (first | refine blk_drewN ?_ _ | refine blk_drew ?_ | refine blk_alloc ?_ _)); exact BK413.out) hb); have n2_ := Aside0.mk (below_step (by repeat (first | (with_reducible first | exact HB.out | apply below_alloc | apply pw_below_drewN | apply below_drew1 | refine below_set ?_ GE412.out | refine below_set ?_ GE413.out) | exact HB.out)) hb); clear BK412; clear BK413; clear HB; have BK412 := n0_; have BK413 := n1_; have HB := n2_; clear n0_ n1_ n2_; (try clear hb); (try clear hb2); (try clear hk); (try clear hi)))
        repeat (go_quiet (first | (go_at_call 28; (with_reducible refine (arboretlaw12_awake.calls kj2  t417 _ A23.out).mono ?_); rintro e w24 ⟨rfl, hb⟩; have n0_ := Aside0.mk (blk_below (g := gb412) (o := .cells #[.string a0_0, .slice A0_1 l0_1.length c0_1, .slice A0_2 l0_2.length c0_2] 39 (0, 0)) (by (with_reducible repeat (first | refine blk_drewN ?_ _ | refine blk_drew ?_ | refine blk_alloc ?_ _)); exact BK412.out) hb); have n1_ := Aside0.mk (blk_below (g := gb413) (o := .cells #[.string a1_0, .slice A1_1 l1_1.length c1_1, .slice A1_2 l1_2.length c1_2] 39 (0, 0)) (by (with_reducible repeat (first | refine blk_drewN ?_ _ | refine blk_drew ?_ | refine blk_alloc ?_ _)); exact BK413.out) hb); have n2_ := Aside0.mk (below_step (by repeat (first | (with_reducible first | exact HB.out | apply below_alloc | apply pw_below_drewN | apply below_drew1 | refine below_set ?_ GE412.out | refine below_set ?_ GE413.out) | exact HB.out)) hb); clear BK412; clear BK413; clear HB; have BK412 := n0_; have BK413 := n1_; have HB := n2_; clear n0_ n1_ n2_; (try clear hb); (try clear hb2); (try clear hk); (try clear hi))); try go_wp2_with (first | (go_at_call 28; (with_reducible refine (arboretlaw12_awake.calls kj2  t417 _ A23.out).mono ?_); rintro e w24 ⟨rfl, hb⟩; have n0_ := Aside0.mk (blk_below (g := gb412) (o := .cells #[.string a0_0, .slice A0_1 l0_1.length c0_1, .slice A0_2 l0_2.length c0_2] 39 (0, 0)) (by (with_reducible repeat (first | refine blk_drewN ?_ _ | refine blk_drew ?_ | refine blk_alloc ?_ _)); exact BK412.out) hb); have n1_ := Aside0.mk (blk_below (g := gb413) (o := .cells #[.string a1_0, .slice A1_1 l1_1.length c1_1, .slice A1_2 l1_2.length c1_2] 39 (0, 0)) (by (with_reducible repeat (first | refine blk_drewN ?_ _ | refine blk_drew ?_ | refine blk_alloc ?_ _)); exact BK413.out) hb); have n2_ := Aside0.mk (below_step (by repeat (first | (with_reducible first | exact HB.out | apply below_alloc | apply pw_below_drewN | apply below_drew1 | refine below_set ?_ GE412.out | refine below_set ?_ GE413.out) | exact HB.out)) hb); clear BK412; clear BK413; clear HB; have BK412 := n0_; have BK413 := n1_; have HB := n2_; clear n0_ n1_ n2_; (try clear hb); (try clear hb2); (try clear hk); (try clear hi))))
        go_ret
        exact ⟨by first | rfl | (simp [errW_none, errW_some] <;> rfl) | (simp [*, errW_none, errW_some] <;> rfl), by repeat (first | (with_reducible first | exact HB.out | apply below_alloc | apply pw_below_drewN | apply below_drew1 | refine below_set ?_ GE412.out | refine below_set ?_ GE413.out) | exact HB.out)⟩
      · replace c22 := Bool.eq_false_iff.mpr c22
        subst c22
        have H1 : ((region_Reg.f kj2 a0_0 l0_1 l0_2 a1_0 l1_1 l1_2).bind fun bt418 => ((arboretref12_Reg.f kj2 a0_0 l0_1 l0_2 a1_0 l1_1 l1_2).bind fun bt422 => (if bt422.2 = true then (if bt418.2 = 0 then (arboretlaw12_RegionReg.j1 kj2 bt418.1 bt422.1 ((bt418.1.length : Int) != (bt422.1.length : Int))) else (arboretlaw12_RegionReg.j1 kj2 bt418.1 bt422.1 true)) else (if bt418.2 = 10 then (some ((bt418.1.length : Int) == 0)) else (some false))))) = some r := by rw [if_neg (show ¬ (false = true) by decide)] at H; exact H
        clear H
        have H := H1
        clear H1
        replace H := Option.bind_eq_some_iff.mp H
        obtain ⟨⟨t418, t421⟩, A250, H⟩ := H
        replace H : ((arboretref12_Reg.f kj2 a0_0 l0_1 l0_2 a1_0 l1_1 l1_2).bind fun bt422 => (if bt422.2 = true then (if t421 = 0 then (arboretlaw12_RegionReg.j1 kj2 t418 bt422.1 ((t418.length : Int) != (bt422.1.length : Int))) else (arboretlaw12_RegionReg.j1 kj2 t418 bt422.1 true)) else (if t421 = 10 then (some ((t418.length : Int) == 0)) else (some false)))) = some r := H
        have A25 := Aside0.mk A250
        clear A250
        replace H := Option.bind_eq_some_iff.mp H
        obtain ⟨⟨t422, t425⟩, A260, H⟩ := H
        replace H : (if t425 = true then (if t421 = 0 then (arboretlaw12_RegionReg.j1 kj2 t418 t422 ((t418.length : Int) != (t422.length : Int))) else (arboretlaw12_RegionReg.j1 kj2 t418 t422 true)) else (if t421 = 10 then (some ((t418.length : Int) == 0)) else (some false))) = some r := H
        have A26 := Aside0.mk A260
        clear A260
        by_cases c27 : t425 = true
        · subst c27
          have H1 : (if t421 = 0 then (arboretlaw12_RegionReg.j1 kj2 t418 t422 ((t418.length : Int) != (t422.length : Int))) else (arboretlaw12_RegionReg.j1 kj2 t418 t422 true)) = some r := by rw [if_pos rfl] at H; exact H
          clear H
          have H := H1
          clear H1
          have HC28 := Aside0.mk H
          clear H
          have hnb29 := NB412_413.out
          have hnc29 := NB413_412.out
          have hcz30_0 : wc.cell? ⟨gb412, 0, none⟩ = some (.string a0_0) := (blk_cell BK412.out 0).trans rfl
          have hcz30_1 : wc.cell? ⟨gb412, 1, none⟩ = some (.slice A0_1 l0_1.length c0_1) := (blk_cell BK412.out 1).trans rfl
          have hcz30_2 : wc.cell? ⟨gb412, 2, none⟩ = some (.slice A0_2 l0_2.length c0_2) := (blk_cell BK412.out 2).trans rfl
          have hfz30_0 := blk_frozen BK412.out 0
          have hfz30_1 := blk_frozen BK412.out 1
          have hfz30_2 := blk_frozen BK412.out 2
          have hcz31_0 : wc.cell? ⟨gb413, 0, none⟩ = some (.string a1_0) := (blk_cell BK413.out 0).trans rfl
          have hcz31_1 : wc.cell? ⟨gb413, 1, none⟩ = some (.slice A1_1 l1_1.length c1_1) := (blk_cell BK413.out 1).trans rfl
          have hcz31_2 : wc.cell? ⟨gb413, 2, none⟩ = some (.slice A1_2 l1_2.length c1_2) := (blk_cell BK413.out 2).trans rfl
          have hfz31_0 := blk_frozen BK413.out 0
          have hfz31_1 := blk_frozen BK413.out 1
          have hfz31_2 := blk_frozen BK413.out 2
          go_upto_region 7 with (first | (go_at_call 44; (with_reducible refine (region_Reg.calls kj2 a0_0 _ _ l0_1 _ _ l0_2 a1_0 _ _ l1_1 _ _ l1_2 t418 t421 _ ?side1 ?side2 ?side3 ?side4 ?side5 ?side6 ?side7 ?side8 A25.out).mono ?_); (case side1 => repeat (first | exact (Kd.C_below HR0_1.out HB.out) | (with_reducible refine Kd.C_alloc ?_ _) | (with_reducible refine Kd.C_drewN ?_ _) | (with_reducible refine Kd.C_drew ?_))); (case side2 => exact HC0_1.out); (case side3 => repeat (first | exact (Kd.C_below HR0_2.out HB.out) | (with_reducible refine Kd.C_alloc ?_ _) | (with_reducible refine Kd.C_drewN ?_ _) | (with_reducible refine Kd.C_drew ?_))); (case side4 => exact HC0_2.out); (case side5 => repeat (first | exact (Kd.C_below HR1_1.out HB.out) | (with_reducible refine Kd.C_alloc ?_ _) | (with_reducible refine Kd.C_drewN ?_ _) | (with_reducible refine Kd.C_drew ?_))); (case side6 => exact HC1_1.out); (case side7 => repeat (first | exact (Kd.C_below HR1_2.out HB.out) | (with_reducible refine Kd.C_alloc ?_ _) | (with_reducible refine Kd.C_drewN ?_ _) | (with_reducible refine Kd.C_drew ?_))); (case side8 => exact HC1_2.out); rintro e w32 ⟨v419, rfl, ho0, hb⟩; have n0_ := Aside0.mk (Kd.R_lower ho0 (below_size (by repeat (first | (with_reducible first | exact HB.out | apply below_alloc | apply pw_below_drewN | apply below_drew1 | refine below_set ?_ GE412.out | refine below_set ?_ GE413.out) | exact HB.out)))); have n1_ := Aside0.mk (blk_below (g := gb412) (o := .cells #[.string a0_0, .slice A0_1 l0_1.length c0_1, .slice A0_2 l0_2.length c0_2] 39 (0, 0)) (by (with_reducible repeat (first | refine blk_drewN ?_ _ | refine blk_drew ?_ | refine blk_alloc ?_ _)); exact BK412.out) hb); have n2_ := Aside0.mk (blk_below (g := gb413) (o := .cells #[.string a1_0, .slice A1_1 l1_1.length c1_1, .slice A1_2 l1_2.length c1_2] 39 (0, 0)) (by (with_reducible repeat (first | refine blk_drewN ?_ _ | refine blk_drew ?_ | refine blk_alloc ?_ _)); exact BK413.out) hb); have n3_ := Aside0.mk (below_step (by repeat (first | (with_reducible first | exact HB.out | apply below_alloc | apply pw_below_drewN | apply below_drew1 | refine below_set ?_ GE412.out | refine below_set ?_ GE413.out) | exact HB.out)) hb); clear BK412; clear BK413; clear HB; have HO420 := n0_; have BK412 := n1_; have BK413 := n2_; have HB := n3_; clear n0_ n1_ n2_ n3_; (try clear hb); (try clear hb2); (try clear hk); (try clear hi); (try clear ho0); have hcz33_0 : w32.cell? ⟨gb412, 0, none⟩ = some (.string a0_0) := (blk_cell BK412.out 0).trans rfl; have hcz33_1 : w32.cell? ⟨gb412, 1, none⟩ = some (.slice A0_1 l0_1.length c0_1) := (blk_cell BK412.out 1).trans rfl; have hcz33_2 : w32.cell? ⟨gb412, 2, none⟩ = some (.slice A0_2 l0_2.length c0_2) := (blk_cell BK412.out 2).trans rfl; have hfz33_0 := blk_frozen BK412.out 0; have hfz33_1 := blk_frozen BK412.out 1; have hfz33_2 := blk_frozen BK412.out 2; have hcz34_0 : w32.cell? ⟨gb413, 0, none⟩ = some (.string a1_0) := (blk_cell BK413.out 0).trans rfl; have hcz34_1 : w32.cell? ⟨gb413, 1, none⟩ = some (.slice A1_1 l1_1.length c1_1) := (blk_cell BK413.out 1).trans rfl; have hcz34_2 : w32.cell? ⟨gb413, 2, none⟩ = some (.slice A1_2 l1_2.length c1_2) := (blk_cell BK413.out 2).trans rfl; have hfz34_0 := blk_frozen BK413.out 0; have hfz34_1 := blk_frozen BK413.out 1; have hfz34_2 := blk_frozen BK413.out 2) | (go_at_call 45; (with_reducible refine (arboretref12_Reg.calls kj2 a0_0 _ _ l0_1 _ _ l0_2 a1_0 _ _ l1_1 _ _ l1_2 t422 true _ ?side1 ?side2 ?side3 ?side4 ?side5 ?side6 ?side7 ?side8 A26.out).mono ?_); (case side1 => repeat (first | exact (Kd.C_below HR0_1.out HB.out) | (with_reducible refine Kd.C_alloc ?_ _) | (with_reducible refine Kd.C_drewN ?_ _) | (with_reducible refine Kd.C_drew ?_))); (case side2 => exact HC0_1.out); (case side3 => repeat (first | exact (Kd.C_below HR0_2.out HB.out) | (with_reducible refine Kd.C_alloc ?_ _) | (with_reducible refine Kd.C_drewN ?_ _) | (with_reducible refine Kd.C_drew ?_))); (case side4 => exact HC0_2.out); (case side5 => repeat (first | exact (Kd.C_below HR1_1.out HB.out) | (with_reducible refine Kd.C_alloc ?_ _) | (with_reducible refine Kd.C_drewN ?_ _) | (with_reducible refine Kd.C_drew ?_))); (case side6 => exact HC1_1.out); (case side7 => repeat (first | exact (Kd.C_below HR1_2.out HB.out) | (with_reducible refine Kd.C_alloc ?_ _) | (with_reducible refine Kd.C_drewN ?_ _) | (with_reducible refine Kd.C_drew ?_))); (case side8 => exact HC1_2.out); rintro e w35 ⟨v423, rfl, ho0, hb⟩; have n0_ := Aside0.mk (Kd.R_below (by (with_reducible repeat (first | apply Kd.R_alloc | apply Kd.R_drewN | apply Kd.R_drew)); exact HO420.out) hb); have n1_ := Aside0.mk (Kd.R_lower ho0 (below_size (by repeat (first | (with_reducible first | exact HB.out | apply below_alloc | apply pw_below_drewN | apply below_drew1 | refine below_set ?_ GE412.out | refine below_set ?_ GE413.out) | exact HB.out)))); have n2_ := Aside0.mk (blk_below (g := gb412) (o := .cells #[.string a0_0, .slice A0_1 l0_1.length c0_1, .slice A0_2 l0_2.length c0_2] 39 (0, 0)) (by (with_reducible repeat (first | refine blk_drewN ?_ _ | refine blk_drew ?_ | refine blk_alloc ?_ _)); exact BK412.out) hb); have n3_ := Aside0.mk (blk_below (g := gb413) (o := .cells #[.string a1_0, .slice A1_1 l1_1.length c1_1, .slice A1_2 l1_2.length c1_2] 39 (0, 0)) (by (with_reducible repeat (first | refine blk_drewN ?_ _ | refine blk_drew ?_ | refine blk_alloc ?_ _)); exact BK413.out) hb); have n4_ := Aside0.mk (below_step (by repeat (first | (with_reducible first | exact HB.out | apply below_alloc | apply pw_below_drewN | apply below_drew1 | refine below_set ?_ GE412.out | refine below_set ?_ GE413.out) | exact HB.out)) hb); clear HO420; clear BK412; clear BK413; clear HB; have HO420 := n0_; have HO424 := n1_; have BK412 := n2_; have BK413 := n3_; have HB := n4_; clear n0_ n1_ n2_ n3_ n4_; (try clear hb); (try clear hb2); (try clear hk); (try clear hi); (try clear ho0)))
          repeat (go_quiet (first | (go_at_call 44; (with_reducible refine (region_Reg.calls kj2 a0_0 _ _ l0_1 _ _ l0_2 a1_0 _ _ l1_1 _ _ l1_2 t418 t421 _ ?side1 ?side2 ?side3 ?side4 ?side5 ?side6 ?side7 ?side8 A25.out).mono ?_); (case side1 => repeat (first | exact (Kd.C_below HR0_1.out HB.out) | (with_reducible refine Kd.C_alloc ?_ _) | (with_reducible refine Kd.C_drewN ?_ _) | (with_reducible refine Kd.C_drew ?_))); (case side2 => exact HC0_1.out); (case side3 => repeat (first | exact (Kd.C_below HR0_2.out HB.out) | (with_reducible refine Kd.C_alloc ?_ _) | (with_reducible refine Kd.C_drewN ?_ _) | (with_reducible refine Kd.C_drew ?_))); (case side4 => exact HC0_2.out); (case side5 => repeat (first | exact (Kd.C_below HR1_1.out HB.out) | (with_reducible refine Kd.C_alloc ?_ _) | (with_reducible refine Kd.C_drewN ?_ _) | (with_reducible refine Kd.C_drew ?_))); (case side6 => exact HC1_1.out); (case side7 => repeat (first | exact (Kd.C_below HR1_2.out HB.out) | (with_reducible refine Kd.C_alloc ?_ _) | (with_reducible refine Kd.C_drewN ?_ _) | (with_reducible refine Kd.C_drew ?_))); (case side8 => exact HC1_2.out); rintro e w32 ⟨v419, rfl, ho0, hb⟩; have n0_ := Aside0.mk (Kd.R_lower ho0 (below_size (by repeat (first | (with_reducible first | exact HB.out | apply below_alloc | apply pw_below_drewN | apply below_drew1 | refine below_set ?_ GE412.out | refine below_set ?_ GE413.out) | exact HB.out)))); have n1_ := Aside0.mk (blk_below (g := gb412) (o := .cells #[.string a0_0, .slice A0_1 l0_1.length c0_1, .slice A0_2 l0_2.length c0_2] 39 (0, 0)) (by (with_reducible repeat (first | refine blk_drewN ?_ _ | refine blk_drew ?_ | refine blk_alloc ?_ _)); exact BK412.out) hb); have n2_ := Aside0.mk (blk_below (g := gb413) (o := .cells #[.string a1_0, .slice A1_1 l1_1.length c1_1, .slice A1_2 l1_2.length c1_2] 39 (0, 0)) (by (with_reducible repeat (first | refine blk_drewN ?_ _ | refine blk_drew ?_ | refine blk_alloc ?_ _)); exact BK413.out) hb); have n3_ := Aside0.mk (below_step (by repeat (first | (with_reducible first | exact HB.out | apply below_alloc | apply pw_below_drewN | apply below_drew1 | refine below_set ?_ GE412.out | refine below_set ?_ GE413.out) | exact HB.out)) hb); clear BK412; clear BK413; clear HB; have HO420 := n0_; have BK412 := n1_; have BK413 := n2_; have HB := n3_; clear n0_ n1_ n2_ n3_; (try clear hb); (try clear hb2); (try clear hk); (try clear hi); (try clear ho0); have hcz33_0 : w32.cell? ⟨gb412, 0, none⟩ = some (.string a0_0) := (blk_cell BK412.out 0).trans rfl; have hcz33_1 : w32.cell? ⟨gb412, 1, none⟩ = some (.slice A0_1 l0_1.length c0_1) := (blk_cell BK412.out 1).trans rfl; have hcz33_2 : w32.cell? ⟨gb412, 2, none⟩ = some (.slice A0_2 l0_2.length c0_2) := (blk_cell BK412.out 2).trans rfl; have hfz33_0 := blk_frozen BK412.out 0; have hfz33_1 := blk_frozen BK412.out 1; have hfz33_2 := blk_frozen BK412.out 2; have hcz34_0 : w32.cell? ⟨gb413, 0, none⟩ = some (.string a1_0) := (blk_cell BK413.out 0).trans rfl; have hcz34_1 : w32.cell? ⟨gb413, 1, none⟩ = some (.slice A1_1 l1_1.length c1_1) := (blk_cell BK413.out 1).trans rfl; have hcz34_2 : w32.cell? ⟨gb413, 2, none⟩ = some (.slice A1_2 l1_2.length c1_2) := (blk_cell BK413.out 2).trans rfl; have hfz34_0 := blk_frozen BK413.out 0; have hfz34_1 := blk_frozen BK413.out 1; have hfz34_2 := blk_frozen BK413.out 2) | (go_at_call 45; (with_reducible refine (arboretref12_Reg.calls kj2 a0_0 _ _ l0_1 _ _ l0_2 a1_0 _ _ l1_1 _ _ l1_2 t422 true _ ?side1 ?side2 ?side3 ?side4 ?side5 ?side6 ?side7 ?side8 A26.out).mono ?_); (case side1 => repeat (first | exact (Kd.C_below HR0_1.out HB.out) | (with_reducible refine Kd.C_alloc ?_ _) | (with_reducible refine Kd.C_drewN ?_ _) | (with_reducible refine Kd.C_drew ?_))); (case side2 => exact HC0_1.out); (case side3 => repeat (first | exact (Kd.C_below HR0_2.out HB.out) | (with_reducible refine Kd.C_alloc ?_ _) | (with_reducible refine Kd.C_drewN ?_ _) | (with_reducible refine Kd.C_drew ?_))); (case side4 => exact HC0_2.out); (case side5 => repeat (first | exact (Kd.C_below HR1_1.out HB.out) | (with_reducible refine Kd.C_alloc ?_ _) | (with_reducible refine Kd.C_drewN ?_ _) | (with_reducible refine Kd.C_drew ?_))); (case side6 => exact HC1_1.out); (case side7 => repeat (first | exact (Kd.C_below HR1_2.out HB.out) | (with_reducible refine Kd.C_alloc ?_ _) | (with_reducible refine Kd.C_drewN ?_ _) | (with_reducible refine Kd.C_drew ?_))); (case side8 => exact HC1_2.out); rintro e w35 ⟨v423, rfl, ho0, hb⟩; have n0_ := Aside0.mk (Kd.R_below (by (with_reducible repeat (first | apply Kd.R_alloc | apply Kd.R_drewN | apply Kd.R_drew)); exact HO420.out) hb); have n1_ := Aside0.mk (Kd.R_lower ho0 (below_size (by repeat (first | (with_reducible first | exact HB.out | apply below_alloc | apply pw_below_drewN | apply below_drew1 | refine below_set ?_ GE412.out | refine below_set ?_ GE413.out) | exact HB.out)))); have n2_ := Aside0.mk (blk_below (g := gb412) (o := .cells #[.string a0_0, .slice A0_1 l0_1.length c0_1, .slice A0_2 l0_2.length c0_2] 39 (0, 0)) (by (with_reducible repeat (first | refine blk_drewN ?_ _ | refine blk_drew ?_ | refine blk_alloc ?_ _)); exact BK412.out) hb); have n3_ := Aside0.mk (blk_below (g := gb413) (o := .cells #[.string a1_0, .slice A1_1 l1_1.length c1_1, .slice A1_2 l1_2.length c1_2] 39 (0, 0)) (by (with_reducible repeat (first | refine blk_drewN ?_ _ | refine blk_drew ?_ | refine blk_alloc ?_ _)); exact BK413.out) hb); have n4_ := Aside0.mk (below_step (by repeat (first | (with_reducible first | exact HB.out | apply below_alloc | apply pw_below_drewN | apply below_drew1 | refine below_set ?_ GE412.out | refine below_set ?_ GE413.out) | exact HB.out)) hb); clear HO420; clear BK412; clear BK413; clear HB; have HO420 := n0_; have HO424 := n1_; have BK412 := n2_; have BK413 := n3_; have HB := n4_; clear n0_ n1_ n2_ n3_ n4_; (try clear hb); (try clear hb2); (try clear hk); (try clear hi); (try clear ho0))); go_upto_region 7 with (first | (go_at_call 44; (with_reducible refine (region_Reg.calls kj2 a0_0 _ _ l0_1 _ _ l0_2 a1_0 _ _ l1_1 _ _ l1_2 t418 t421 _ ?side1 ?side2 ?side3 ?side4 ?side5 ?side6 ?side7 ?side8 A25.out).mono ?_); (case side1 => repeat (first | exact (Kd.C_below HR0_1.out HB.out) | (with_reducible refine Kd.C_alloc ?_ _) | (with_reducible refine Kd.C_drewN ?_ _) | (with_reducible refine Kd.C_drew ?_))); (case side2 => exact HC0_1.out); (case side3 => repeat (first | exact (Kd.C_below HR0_2.out HB.out) | (with_reducible refine Kd.C_alloc ?_ _) | (with_reducible refine Kd.C_drewN ?_ _) | (with_reducible refine Kd.C_drew ?_))); (case side4 => exact HC0_2.out); (case side5 => repeat (first | exact (Kd.C_below HR1_1.out HB.out) | (with_reducible refine Kd.C_alloc ?_ _) | (with_reducible refine Kd.C_drewN ?_ _) | (with_reducible refine Kd.C_drew ?_))); (case side6 => exact HC1_1.out); (case side7 => repeat (first | exact (Kd.C_below HR1_2.out HB.out) | (with_reducible refine Kd.C_alloc ?_ _) | (with_reducible refine Kd.C_drewN ?_ _) | (with_reducible refine Kd.C_drew ?_))); (case side8 => exact HC1_2.out); rintro e w32 ⟨v419, rfl, ho0, hb⟩; have n0_ := Aside0.mk (Kd.R_lower ho0 (below_size (by repeat (first | (with_reducible first | exact HB.out | apply below_alloc | apply pw_below_drewN | apply below_drew1 | refine below_set ?_ GE412.out | refine below_set ?_ GE413.out) | exact HB.out)))); have n1_ := Aside0.mk (blk_below (g := gb412) (o := .cells #[.string a0_0, .slice A0_1 l0_1.length c0_1, .slice A0_2 l0_2.length c0_2] 39 (0, 0)) (by (with_reducible repeat (first | refine blk_drewN ?_ _ | refine blk_drew ?_ | refine blk_alloc ?_ _)); exact BK412.out) hb); have n2_ := Aside0.mk (blk_below (g := gb413) (o := .cells #[.string a1_0, .slice A1_1 l1_1.length c1_1, .slice A1_2 l1_2.length c1_2] 39 (0, 0)) (by (with_reducible repeat (first | refine blk_drewN ?_ _ | refine blk_drew ?_ | refine blk_alloc ?_ _)); exact BK413.out) hb); have n3_ := Aside0.mk (below_step (by repeat (first | (with_reducible first | exact HB.out | apply below_alloc | apply pw_below_drewN | apply below_drew1 | refine below_set ?_ GE412.out | refine below_set ?_ GE413.out) | exact HB.out)) hb); clear BK412; clear BK413; clear HB; have HO420 := n0_; have BK412 := n1_; have BK413 := n2_; have HB := n3_; clear n0_ n1_ n2_ n3_; (try clear hb); (try clear hb2); (try clear hk); (try clear hi); (try clear ho0); have hcz33_0 : w32.cell? ⟨gb412, 0, none⟩ = some (.string a0_0) := (blk_cell BK412.out 0).trans rfl; have hcz33_1 : w32.cell? ⟨gb412, 1, none⟩ = some (.slice A0_1 l0_1.length c0_1) := (blk_cell BK412.out 1).trans rfl; have hcz33_2 : w32.cell? ⟨gb412, 2, none⟩ = some (.slice A0_2 l0_2.length c0_2) := (blk_cell BK412.out 2).trans rfl; have hfz33_0 := blk_frozen BK412.out 0; have hfz33_1 := blk_frozen BK412.out 1; have hfz33_2 := blk_frozen BK412.out 2; have hcz34_0 : w32.cell? ⟨gb413, 0, none⟩ = some (.string a1_0) := (blk_cell BK413.out 0).trans rfl; have hcz34_1 : w32.cell? ⟨gb413, 1, none⟩ = some (.slice A1_1 l1_1.length c1_1) := (blk_cell BK413.out 1).trans rfl; have hcz34_2 : w32.cell? ⟨gb413, 2, none⟩ = some (.slice A1_2 l1_2.length c1_2) := (blk_cell BK413.out 2).trans rfl; have hfz34_0 := blk_frozen BK413.out 0; have hfz34_1 := blk_frozen BK413.out 1; have hfz34_2 := blk_frozen BK413.out 2) | (go_at_call 45; (with_reducible refine (arboretref12_Reg.calls kj2 a0_0 _ _ l0_1 _ _ l0_2 a1_0 _ _ l1_1 _ _ l1_2 t422 true _ ?side1 ?side2 ?side3 ?side4 ?side5 ?side6 ?side7 ?side8 A26.out).mono ?_); (case side1 => repeat (first | exact (Kd.C_below HR0_1.out HB.out) | (with_reducible refine Kd.C_alloc ?_ _) | (with_reducible refine Kd.C_drewN ?_ _) | (with_reducible refine Kd.C_drew ?_))); (case side2 => exact HC0_1.out); (case side3 => repeat (first | exact (Kd.C_below HR0_2.out HB.out) | (with_reducible refine Kd.C_alloc ?_ _) | (with_reducible refine Kd.C_drewN ?_ _) | (with_reducible refine Kd.C_drew ?_))); (case side4 => exact HC0_2.out); (case side5 => repeat (first | exact (Kd.C_below HR1_1.out HB.out) | (with_reducible refine Kd.C_alloc ?_ _) | (with_reducible refine Kd.C_drewN ?_ _) | (with_reducible refine Kd.C_drew ?_))); (case side6 => exact HC1_1.out); (case side7 => repeat (first | exact (Kd.C_below HR1_2.out HB.out) | (with_reducible refine Kd.C_alloc ?_ _) | (with_reducible refine Kd.C_drewN ?_ _) | (with_reducible refine Kd.C_drew ?_))); (case side8 => exact HC1_2.out); rintro e w35 ⟨v423, rfl, ho0, hb⟩; have n0_ := Aside0.mk (Kd.R_below (by (with_reducible repeat (first | apply Kd.R_alloc | apply Kd.R_drewN | apply Kd.R_drew)); exact HO420.out) hb); have n1_ := Aside0.mk (Kd.R_lower ho0 (below_size (by repeat (first | (with_reducible first | exact HB.out | apply below_alloc | apply pw_below_drewN | apply below_drew1 | refine below_set ?_ GE412.out | refine below_set ?_ GE413.out) | exact HB.out)))); have n2_ := Aside0.mk (blk_below (g := gb412) (o := .cells #[.string a0_0, .slice A0_1 l0_1.length c0_1, .slice A0_2 l0_2.length c0_2] 39 (0, 0)) (by (with_reducible repeat (first | refine blk_drewN ?_ _ | refine blk_drew ?_ | refine blk_alloc ?_ _)); exact BK412.out) hb); have n3_ := Aside0.mk (blk_below (g := gb413) (o := .cells #[.string a1_0, .slice A1_1 l1_1.length c1_1, .slice A1_2 l1_2.length c1_2] 39 (0, 0)) (by (with_reducible repeat (first | refine blk_drewN ?_ _ | refine blk_drew ?_ | refine blk_alloc ?_ _)); exact BK413.out) hb); have n4_ := Aside0.mk (below_step (by repeat (first | (with_reducible first | exact HB.out | apply below_alloc | apply pw_below_drewN | apply below_drew1 | refine below_set ?_ GE412.out | refine below_set ?_ GE413.out) | exact HB.out)) hb); clear HO420; clear BK412; clear BK413; clear HB; have HO420 := n0_; have HO424 := n1_; have BK412 := n2_; have BK413 := n3_; have HB := n4_; clear n0_ n1_ n2_ n3_ n4_; (try clear hb); (try clear hb2); (try clear hk); (try clear hi); (try clear ho0))))
          (try simp only [Act.put, List.setIfInBounds_toArray, List.set_cons_zero, List.set_cons_succ])
          go_cut [52] (fun v52 wc => ∃ (kq : Nat) (x52_27 : Bool), v52 = .bool x52_27 ∧ Aside0 (arboretlaw12_RegionReg.j1 kq t418 t422 x52_27 = some r) ∧ Aside0 (kq ≤ kj2) ∧ Aside0 (Kd.R k57 57 wc w.heap.size (fun _ => True) v419 t418) ∧ Aside0 (Kd.R k58 58 wc w.heap.size (fun _ => True) v423 t422) ∧ Aside0 (wc.heap[gb412]? = some (.cells #[.string a0_0, (.slice A0_1 l0_1.length c0_1), (.slice A0_2 l0_2.length c0_2)] 39 (0, 0))) ∧ Aside0 (wc.heap[gb413]? = some (.cells #[.string a1_0, (.slice A1_1 l1_1.length c1_1), (.slice A1_2 l1_2.length c1_2)] 39 (0, 0))) ∧ Aside0 (Below w.heap.size w wc))
          case first =>
            have H := HC28.out
            clear HC28
            by_cases c36 : t421 = 0
            · rw [if_pos c36] at H
              have c36b0 : (t421 == 0) = true := beq_iff_eq.mpr c36
              have c36b1 : (t421 != 0) = false := bne_eq_false_iff_eq.mpr c36
              clear c36
              (first | rw [c36b0] | (simp only [i64_w, i32_w]; rw [c36b0]) | skip)
              have H' := Aside0.mk H
              clear H
              obtain ⟨Ao37, co37, eo37⟩ := Kd.R_slice HO420.out
              subst eo37
              obtain ⟨Ao38, co38, eo38⟩ := Kd.R_slice HO424.out
              subst eo38
              go_wp2
              repeat (go_quiet (fail); try go_wp2)
              go_meet
              case rel => exact ⟨_, (((t418.length : Int) != (t422.length : Int))), (by first | rfl | (simp; done) | (simp [*]; done)), H', ⟨by have := HJ2.out; first | omega | exact Nat.le_refl _⟩, ⟨by (with_reducible repeat (first | apply Kd.R_alloc | apply Kd.R_drewN | apply Kd.R_drew)); exact HO420.out⟩, ⟨by (with_reducible repeat (first | apply Kd.R_alloc | apply Kd.R_drewN | apply Kd.R_drew)); exact HO424.out⟩, ⟨by (with_reducible repeat (first | refine blk_drewN ?_ _ | refine blk_drew ?_ | refine blk_alloc ?_ _)); exact BK412.out⟩, ⟨by (with_reducible repeat (first | refine blk_drewN ?_ _ | refine blk_drew ?_ | refine blk_alloc ?_ _)); exact BK413.out⟩, ⟨by repeat (first | (with_reducible first | exact HB.out | apply below_alloc | apply pw_below_drewN | apply below_drew1 | refine below_set ?_ GE412.out | refine below_set ?_ GE413.out) | exact HB.out)⟩⟩
            · rw [if_neg c36] at H
              have c36b0 : (t421 == 0) = false := beq_eq_false_iff_ne.mpr c36
              have c36b1 : (t421 != 0) = true := bne_iff_ne.mpr c36
              (first | rw [c36b0] | (simp only [i64_w, i32_w]; rw [c36b0]) | skip)
              have H' := Aside0.mk H
              clear H
              go_wp2
              repeat (go_quiet (fail); try go_wp2)
              go_meet
              case rel => exact ⟨_, (true), (by first | rfl | (simp; done) | (simp [*]; done)), H', ⟨by have := HJ2.out; first | omega | exact Nat.le_refl _⟩, ⟨by (with_reducible repeat (first | apply Kd.R_alloc | apply Kd.R_drewN | apply Kd.R_drew)); exact HO420.out⟩, ⟨by (with_reducible repeat (first | apply Kd.R_alloc | apply Kd.R_drewN | apply Kd.R_drew)); exact HO424.out⟩, ⟨by (with_reducible repeat (first | refine blk_drewN ?_ _ | refine blk_drew ?_ | refine blk_alloc ?_ _)); exact BK412.out⟩, ⟨by (with_reducible repeat (first | refine blk_drewN ?_ _ | refine blk_drew ?_ | refine blk_alloc ?_ _)); exact BK413.out⟩, ⟨by repeat (first | (with_reducible first | exact HB.out | apply below_alloc | apply pw_below_drewN | apply below_drew1 | refine below_set ?_ GE412.out | refine below_set ?_ GE413.out) | exact HB.out)⟩⟩
          case rest =>
            clear HC28
            try clear c1
            try clear c2
            try clear p2
            try clear c3
            try clear c7
            try clear c9
            try clear c12
            try clear c13
            try clear c18
            try clear c22
            try clear c27
            try clear c29
            try clear c36
            try clear c36b0
            try clear c36b1
            try clear hcz13_0
            try clear hcz13_1
            try clear hcz13_2
            try clear hcz15_0
            try clear hcz15_1
            try clear hcz15_2
            try clear hcz19_0
            try clear hcz19_1
            try clear hcz19_2
            try clear hcz30_0
            try clear hcz30_1
            try clear hcz30_2
            try clear hcz31_0
            try clear hcz31_1
            try clear hcz31_2
            try clear hcz33_0
            try clear hcz33_1
            try clear hcz33_2
            try clear hcz34_0
            try clear hcz34_1
            try clear hcz34_2
            try clear hfz13_0
            try clear hfz13_1
            try clear hfz13_2
            try clear hfz15_0
            try clear hfz15_1
            try clear hfz15_2
            try clear hfz19_0
            try clear hfz19_1
            try clear hfz19_2
            try clear hfz30_0
            try clear hfz30_1
            try clear hfz30_2
            try clear hfz31_0
            try clear hfz31_1
            try clear hfz31_2
            try clear hfz33_0
            try clear hfz33_1
            try clear hfz33_2
            try clear hfz34_0
            try clear hfz34_1
            try clear hfz34_2
            try clear p2
            obtain ⟨kq, x52_27, rfl, HA, HJ27, HO_5, HO_7, BK412, BK413, HB⟩ := hcut
            cases kq with
            | zero => exact absurd HA.out (by simp [arboretlaw12_RegionReg.j1])
            | succ kj27 =>
              have H := HA.out
              clear HA
              simp only [arboretlaw12_RegionReg.j1] at H
              by_cases c39 : x52_27 = true
              · subst c39
                have H1 : (some false) = some r := by rw [if_pos rfl] at H; exact H
                clear H
                have H := H1
                clear H1
                obtain rfl := Option.some.inj H
                go_wp2
                repeat (go_quiet (fail); try go_wp2)
                go_ret
                exact ⟨by first | rfl | (simp [errW_none, errW_some] <;> rfl) | (simp [*, errW_none, errW_some] <;> rfl), by repeat (first | (with_reducible first | exact HB.out | apply below_alloc | apply pw_below_drewN | apply below_drew1 | refine below_set ?_ GE412.out | refine below_set ?_ GE413.out) | exact HB.out)⟩
              · replace c39 := Bool.eq_false_iff.mpr c39
                subst c39
                have H1 : (arboretlaw12_RegionReg.l0 kj27 t418 t422 (t418.length : Int) 0) = some r := by rw [if_neg (show ¬ (false = true) by decide)] at H; exact H
                clear H
                have H := H1
                clear H1
                have H' := Aside0.mk H
                clear H
                obtain ⟨Ao40, co40, eo40⟩ := Kd.R_slice HO_5.out
                subst eo40
                go_wp2
                repeat (go_quiet (fail); try go_wp2)
                go_loopg [55] kj27 (fun kq v55 w' => ∃ (x55_3 : Int), v55 = .int .i64 x55_3 ∧ Aside0 (arboretlaw12_RegionReg.l0 kq t418 t422 (t418.length : Int) x55_3 = some r) ∧ Aside0 (kq ≤ kj27) ∧ Aside0 (Kd.R k57 57 w' w.heap.size (fun _ => True) (.slice Ao40 t418.length co40) t418) ∧ Aside0 (Kd.R k58 58 w' w.heap.size (fun _ => True) v423 t422) ∧ Aside0 (w'.heap[gb412]? = some (.cells #[.string a0_0, (.slice A0_1 l0_1.length c0_1), (.slice A0_2 l0_2.length c0_2)] 39 (0, 0))) ∧ Aside0 (w'.heap[gb413]? = some (.cells #[.string a1_0, (.slice A1_1 l1_1.length c1_1), (.slice A1_2 l1_2.length c1_2)] 39 (0, 0))) ∧ Aside0 (Below w.heap.size w w'))
                case atStart => exact ⟨(0), (by first | rfl | (simp; done) | (simp [*]; done)), H', ⟨Nat.le_refl _⟩, ⟨by (with_reducible repeat (first | apply Kd.R_alloc | apply Kd.R_drewN | apply Kd.R_drew)); exact HO_5.out⟩, ⟨by (with_reducible repeat (first | apply Kd.R_alloc | apply Kd.R_drewN | apply Kd.R_drew)); exact HO_7.out⟩, ⟨by (with_reducible repeat (first | refine blk_drewN ?_ _ | refine blk_drew ?_ | refine blk_alloc ?_ _)); exact BK412.out⟩, ⟨by (with_reducible repeat (first | refine blk_drewN ?_ _ | refine blk_drew ?_ | refine blk_alloc ?_ _)); exact BK413.out⟩, ⟨by repeat (first | (with_reducible first | exact HB.out | apply below_alloc | apply pw_below_drewN | apply below_drew1 | refine below_set ?_ GE412.out | refine below_set ?_ GE413.out) | exact HB.out)⟩⟩
                case round =>
                  clear H'
                  try clear c1
                  try clear c2
                  try clear p2
                  try clear c3
                  try clear c7
                  try clear c9
                  try clear c12
                  try clear c13
                  try clear c18
                  try clear c22
                  try clear c27
                  try clear c29
                  try clear c36
                  try clear c36b0
                  try clear c36b1
                  try clear c39
                  try clear hcz13_0
                  try clear hcz13_1
                  try clear hcz13_2
                  try clear hcz15_0
                  try clear hcz15_1
                  try clear hcz15_2
                  try clear hcz19_0
                  try clear hcz19_1
                  try clear hcz19_2
                  try clear hcz30_0
                  try clear hcz30_1
                  try clear hcz30_2
                  try clear hcz31_0
                  try clear hcz31_1
                  try clear hcz31_2
                  try clear hcz33_0
                  try clear hcz33_1
                  try clear hcz33_2
                  try clear hcz34_0
                  try clear hcz34_1
                  try clear hcz34_2
                  try clear hfz13_0
                  try clear hfz13_1
                  try clear hfz13_2
                  try clear hfz15_0
                  try clear hfz15_1
                  try clear hfz15_2
                  try clear hfz19_0
                  try clear hfz19_1
                  try clear hfz19_2
                  try clear hfz30_0
                  try clear hfz30_1
                  try clear hfz30_2
                  try clear hfz31_0
                  try clear hfz31_1
                  try clear hfz31_2
                  try clear hfz33_0
                  try clear hfz33_1
                  try clear hfz33_2
                  try clear hfz34_0
                  try clear hfz34_1
                  try clear hfz34_2
                  try clear p2
                  obtain ⟨x55_3, rfl, HA, HK3, HO_5, HO_7, BK412, BK413, HB⟩ := hrel
                  cases gk with
                  | zero => exact absurd HA.out (by simp [arboretlaw12_RegionReg.l0])
                  | succ k3 =>
                    have H := HA.out
                    clear HA
                    simp only [arboretlaw12_RegionReg.l0] at H
                    by_cases c41 : x55_3 < (t418.length : Int)
                    · rw [if_pos c41] at H
                      have c41b0 : decide (x55_3 < (t418.length : Int)) = true := decide_eq_true c41
                      clear c41
                      by_cases c42 : 0 ≤ x55_3
                      · rw [if_pos c42] at H
                        have c42b0 : decide (0 ≤ x55_3) = true := decide_eq_true c42
                        clear c42
                        by_cases c43 : x55_3 < (t418.length : Int)
                        · rw [if_pos c43] at H
                          have c43b0 : decide (x55_3 < (t418.length : Int)) = true := decide_eq_true c43
                          clear c43
                          by_cases c44 : x55_3 < (t422.length : Int)
                          · rw [if_pos c44] at H
                            have c44b0 : decide (x55_3 < (t422.length : Int)) = true := decide_eq_true c44
                            clear c44
                            by_cases c45 : (!(((rd_T57 t418 x55_3).f0) == ((rd_T58 t422 x55_3).f0)) || (!(((rd_T57 t418 x55_3).f1) == ((rd_T58 t422 x55_3).f1)))) = true
                            · rw [if_pos c45] at H
                              have c45b0 : (!(((rd_T57 t418 x55_3).f0) == ((rd_T58 t422 x55_3).f0)) || (!(((rd_T57 t418 x55_3).f1) == ((rd_T58 t422 x55_3).f1)))) = true := c45
                              clear c45
                              obtain rfl := Option.some.inj H
                              have p426 : 0 ≤ (x55_3 : Int) := of_decide_eq_true (by first | (with_reducible assumption) | assumption)
                              have q426 : x55_3 < (t418.length : Int) := of_decide_eq_true (by first | (with_reducible assumption) | assumption)
                              obtain ⟨ad426, e426, hx426_0, hx426_1⟩ := at_T57 (Kd.R_reads' HO_5.out).2.2 x55_3 p426 q426
                              cases e426
                              replace p426 := eq_true p426
                              replace q426 := eq_true q426
                              obtain ⟨Ao46, co46, eo46⟩ := Kd.R_slice HO_7.out
                              subst eo46
                              have p427 : 0 ≤ (x55_3 : Int) := of_decide_eq_true (by first | (with_reducible assumption) | assumption)
                              have q427 : x55_3 < (t422.length : Int) := of_decide_eq_true (by first | (with_reducible assumption) | assumption)
                              obtain ⟨ad427, e427, hx427_0, hx427_1⟩ := at_T58 (Kd.R_reads' HO_7.out).2.2 x55_3 p427 q427
                              cases e427
                              replace p427 := eq_true p427
                              replace q427 := eq_true q427
                              go_wp2
                              repeat (go_quiet (fail); try go_wp2)
                              go_ret
                              exact ⟨by first | rfl | (simp [errW_none, errW_some] <;> rfl) | (simp [*, errW_none, errW_some] <;> rfl), by repeat (first | (with_reducible first | exact HB.out | apply below_alloc | apply pw_below_drewN | apply below_drew1 | refine below_set ?_ GE412.out | refine below_set ?_ GE413.out) | exact HB.out)⟩
                            · rw [if_neg c45] at H
                              have c45b0 : (!(((rd_T57 t418 x55_3).f0) == ((rd_T58 t422 x55_3).f0)) || (!(((rd_T57 t418 x55_3).f1) == ((rd_T58 t422 x55_3).f1)))) = false := by simpa using c45
                              clear c45
                              have H' := Aside0.mk H
                              clear H
                              have p426 : 0 ≤ (x55_3 : Int) := of_decide_eq_true (by first | (with_reducible assumption) | assumption)
                              have q426 : x55_3 < (t418.length : Int) := of_decide_eq_true (by first | (with_reducible assumption) | assumption)
                              obtain ⟨ad426, e426, hx426_0, hx426_1⟩ := at_T57 (Kd.R_reads' HO_5.out).2.2 x55_3 p426 q426
                              cases e426
                              replace p426 := eq_true p426
                              replace q426 := eq_true q426
                              obtain ⟨Ao47, co47, eo47⟩ := Kd.R_slice HO_7.out
                              subst eo47
                              have p427 : 0 ≤ (x55_3 : Int) := of_decide_eq_true (by first | (with_reducible assumption) | assumption)
                              have q427 : x55_3 < (t422.length : Int) := of_decide_eq_true (by first | (with_reducible assumption) | assumption)
                              obtain ⟨ad427, e427, hx427_0, hx427_1⟩ := at_T58 (Kd.R_reads' HO_7.out).2.2 x55_3 p427 q427
                              cases e427
                              replace p427 := eq_true p427
                              replace q427 := eq_true q427
                              go_wp2
                              repeat (go_quiet (fail); try go_wp2)
                              go_roundg k3
                              case measure => have := HJ2.out; have := HJ27.out; have := HK3.out; omega
                              case rel => exact ⟨(wrap64 (x55_3 + 1)), (by first | rfl | (simp; done) | (simp [*]; done)), H', ⟨by have := HJ2.out; have := HJ27.out; have := HK3.out; omega⟩, ⟨by (with_reducible repeat (first | apply Kd.R_alloc | apply Kd.R_drewN | apply Kd.R_drew)); exact HO_5.out⟩, ⟨by (with_reducible repeat (first | apply Kd.R_alloc | apply Kd.R_drewN | apply Kd.R_drew)); exact HO_7.out⟩, ⟨by (with_reducible repeat (first | refine blk_drewN ?_ _ | refine blk_drew ?_ | refine blk_alloc ?_ _)); exact BK412.out⟩, ⟨by (with_reducible repeat (first | refine blk_drewN ?_ _ | refine blk_drew ?_ | refine blk_alloc ?_ _)); exact BK413.out⟩, ⟨by repeat (first | (with_reducible first | exact HB.out | apply below_alloc | apply pw_below_drewN | apply below_drew1 | refine below_set ?_ GE412.out | refine below_set ?_ GE413.out) | exact HB.out)⟩⟩
                          · rw [if_neg c44] at H
                            exact absurd H (by simp)
                        · rw [if_neg c43] at H
                          exact absurd H (by simp)
                      · rw [if_neg c42] at H
                        exact absurd H (by simp)
                    · rw [if_neg c41] at H
                      have c41b0 : decide (x55_3 < (t418.length : Int)) = false := decide_eq_false c41
                      clear c41
                      obtain rfl := Option.some.inj H
                      go_wp2
                      repeat (go_quiet (fail); try go_wp2)
                      go_ret
                      exact ⟨by first | rfl | (simp [errW_none, errW_some] <;> rfl) | (simp [*, errW_none, errW_some] <;> rfl), by repeat (first | (with_reducible first | exact HB.out | apply below_alloc | apply pw_below_drewN | apply below_drew1 | refine below_set ?_ GE412.out | refine below_set ?_ GE413.out) | exact HB.out)⟩
        · replace c27 := Bool.eq_false_iff.mpr c27
          subst c27
          have H1 : (if t421 = 10 then (some ((t418.length : Int) == 0)) else (some false)) = some r := by rw [if_neg (show ¬ (false = true) by decide)] at H; exact H
          clear H
          have H := H1
          clear H1
          by_cases c48 : t421 = 10
          · rw [if_pos c48] at H
            have c48b0 : (t421 == 10) = true := beq_iff_eq.mpr c48
            have c48b1 : (t421 != 10) = false := bne_eq_false_iff_eq.mpr c48
            clear c48
            obtain rfl := Option.some.inj H
            have hnb49 := NB412_413.out
            have hnc49 := NB413_412.out
            have hcz50_0 : wc.cell? ⟨gb412, 0, none⟩ = some (.string a0_0) := (blk_cell BK412.out 0).trans rfl
            have hcz50_1 : wc.cell? ⟨gb412, 1, none⟩ = some (.slice A0_1 l0_1.length c0_1) := (blk_cell BK412.out 1).trans rfl
            have hcz50_2 : wc.cell? ⟨gb412, 2, none⟩ = some (.slice A0_2 l0_2.length c0_2) := (blk_cell BK412.out 2).trans rfl
            have hfz50_0 := blk_frozen BK412.out 0
            have hfz50_1 := blk_frozen BK412.out 1
            have hfz50_2 := blk_frozen BK412.out 2
            have hcz51_0 : wc.cell? ⟨gb413, 0, none⟩ = some (.string a1_0) := (blk_cell BK413.out 0).trans rfl
            have hcz51_1 : wc.cell? ⟨gb413, 1, none⟩ = some (.slice A1_1 l1_1.length c1_1) := (blk_cell BK413.out 1).trans rfl
            have hcz51_2 : wc.cell? ⟨gb413, 2, none⟩ = some (.slice A1_2 l1_2.length c1_2) := (blk_cell BK413.out 2).trans rfl
            have hfz51_0 := blk_frozen BK413.out 0
            have hfz51_1 := blk_frozen BK413.out 1
            have hfz51_2 := blk_frozen BK413.out 2
            go_wp2_with (first | (go_at_call 44; (with_reducible refine (region_Reg.calls kj2 a0_0 _ _ l0_1 _ _ l0_2 a1_0 _ _ l1_1 _ _ l1_2 t418 t421 _ ?side1 ?side2 ?side3 ?side4 ?side5 ?side6 ?side7 ?side8 A25.out).mono ?_); (case side1 => repeat (first | exact (Kd.C_below HR0_1.out HB.out) | (with_reducible refine Kd.C_alloc ?_ _) | (with_reducible refine Kd.C_drewN ?_ _) | (with_reducible refine Kd.C_drew ?_))); (case side2 => exact HC0_1.out); (case side3 => repeat (first | exact (Kd.C_below HR0_2.out HB.out) | (with_reducible refine Kd.C_alloc ?_ _) | (with_reducible refine Kd.C_drewN ?_ _) | (with_reducible refine Kd.C_drew ?_))); (case side4 => exact HC0_2.out); (case side5 => repeat (first | exact (Kd.C_below HR1_1.out HB.out) | (with_reducible refine Kd.C_alloc ?_ _) | (with_reducible refine Kd.C_drewN ?_ _) | (with_reducible refine Kd.C_drew ?_))); (case side6 => exact HC1_1.out); (case side7 => repeat (first | exact (Kd.C_below HR1_2.out HB.out) | (with_reducible refine Kd.C_alloc ?_ _) | (with_reducible refine Kd.C_drewN ?_ _) | (with_reducible refine Kd.C_drew ?_))); (case side8 => exact HC1_2.out); rintro e w52 ⟨v419, rfl, ho0, hb⟩; have n0_ := Aside0.mk (Kd.R_lower ho0 (below_size (by repeat (first | (with_reducible first | exact HB.out | apply below_alloc | apply pw_below_drewN | apply below_drew1 | refine below_set ?_ GE412.out | refine below_set ?_ GE413.out) | exact HB.out)))); have n1_ := Aside0.mk (blk_below (g := gb412) (o := .cells #[.string a0_0, .slice A0_1 l0_1.length c0_1, .slice A0_2 l0_2.length c0_2] 39 (0, 0)) (by (with_reducible repeat (first | refine blk_drewN ?_ _ | refine blk_drew ?_ | refine blk_alloc ?_ _)); exact BK412.out) hb); have n2_ := Aside0.mk (blk_below (g := gb413) (o := .cells #[.string a1_0, .slice A1_1 l1_1.length c1_1, .slice A1_2 l1_2.length c1_2] 39 (0, 0)) (by (with_reducible repeat (first | refine blk_drewN ?_ _ | refine blk_drew ?_ | refine blk_alloc ?_ _)); exact BK413.out) hb); have n3_ := Aside0.mk (below_step (by repeat (first | (with_reducible first | exact HB.out | apply below_alloc | apply pw_below_drewN | apply below_drew1 | refine below_set ?_ GE412.out | refine below_set ?_ GE413.out) | exact HB.out)) hb); clear BK412; clear BK413; clear HB; have HO420 := n0_; have BK412 := n1_; have BK413 := n2_; have HB := n3_; clear n0_ n1_ n2_ n3_; (try clear hb); (try clear hb2); (try clear hk); (try clear hi); (try clear ho0); have hcz53_0 : w52.cell? ⟨gb412, 0, none⟩ = some (.string a0_0) := (blk_cell BK412.out 0).trans rfl; have hcz53_1 : w52.cell? ⟨gb412, 1, none⟩ = some (.slice A0_1 l0_1.length c0_1) := (blk_cell BK412.out 1).trans rfl; have hcz53_2 : w52.cell? ⟨gb412, 2, none⟩ = some (.slice A0_2 l0_2.length c0_2) := (blk_cell BK412.out 2).trans rfl; have hfz53_0 := blk_frozen BK412.out 0; have hfz53_1 := blk_frozen BK412.out 1; have hfz53_2 := blk_frozen BK412.out 2; have hcz54_0 : w52.cell? ⟨gb413, 0, none⟩ = some (.string a1_0) := (blk_cell BK413.out 0).trans rfl; have hcz54_1 : w52.cell? ⟨gb413, 1, none⟩ = some (.slice A1_1 l1_1.length c1_1) := (blk_cell BK413.out 1).trans rfl; have hcz54_2 : w52.cell? ⟨gb413, 2, none⟩ = some (.slice A1_2 l1_2.length c1_2) := (blk_cell BK413.out 2).trans rfl; have hfz54_0 := blk_frozen BK413.out 0; have hfz54_1 := blk_frozen BK413.out 1; have hfz54_2 := blk_frozen BK413.out 2) | (go_at_call 45; (with_reducible refine (arboretref12_Reg.calls kj2 a0_0 _ _ l0_1 _ _ l0_2 a1_0 _ _ l1_1 _ _ l1_2 t422 false _ ?side1 ?side2 ?side3 ?side4 ?side5 ?side6 ?side7 ?side8 A26.out).mono ?_); (case side1 => repeat (first | exact (Kd.C_below HR0_1.out HB.out) | (with_reducible refine Kd.C_alloc ?_ _) | (with_reducible refine Kd.C_drewN ?_ _) | (with_reducible refine Kd.C_drew ?_))); (case side2 => exact HC0_1.out); (case side3 => repeat (first | exact (Kd.C_below HR0_2.out HB.out) | (with_reducible refine Kd.C_alloc ?_ _) | (with_reducible refine Kd.C_drewN ?_ _) | (with_reducible refine Kd.C_drew ?_))); (case side4 => exact HC0_2.out); (case side5 => repeat (first | exact (Kd.C_below HR1_1.out HB.out) | (with_reducible refine Kd.C_alloc ?_ _) | (with_reducible refine Kd.C_drewN ?_ _) | (with_reducible refine Kd.C_drew ?_))); (case side6 => exact HC1_1.out); (case side7 => repeat (first | exact (Kd.C_below HR1_2.out HB.out) | (with_reducible refine Kd.C_alloc ?_ _) | (with_reducible refine Kd.C_drewN ?_ _) | (with_reducible refine Kd.C_drew ?_))); (case side8 => exact HC1_2.out); rintro e w55 ⟨v423, rfl, ho0, hb⟩; have n0_ := Aside0.mk (Kd.R_below (by (with_reducible repeat (first | apply Kd.R_alloc | apply Kd.R_drewN | apply Kd.R_drew)); exact HO420.out) hb); have n1_ := Aside0.mk (Kd.R_lower ho0 (below_size (by repeat (first | (with_reducible first | exact HB.out | apply below_alloc | apply pw_below_drewN | apply below_drew1 | refine below_set ?_ GE412.out | refine below_set ?_ GE413.out) | exact HB.out)))); have n2_ := Aside0.mk (blk_below (g := gb412) (o := .cells #[.string a0_0, .slice A0_1 l0_1.length c0_1, .slice A0_2 l0_2.length c0_2] 39 (0, 0)) (by (with_reducible repeat (first | refine blk_drewN ?_ _ | refine blk_drew ?_ | refine blk_alloc ?_ _)); exact BK412.out) hb); have n3_ := Aside0.mk (blk_below (g := gb413) (o := .cells #[.string a1_0, .slice A1_1 l1_1.length c1_1, .slice A1_2 l1_2.length c1_2] 39 (0, 0)) (by (with_reducible repeat (first | refine blk_drewN ?_ _ | refine blk_drew ?_ | refine blk_alloc ?_ _)); exact BK413.out) hb); have n4_ := Aside0.mk (below_step (by repeat (first | (with_reducible first | exact HB.out | apply below_alloc | apply pw_below_drewN | apply below_drew1 | refine below_set ?_ GE412.out | refine below_set ?_ GE413.out) | exact HB.out)) hb); clear HO420; clear BK412; clear BK413; clear HB; have HO420 := n0_; have HO424 := n1_; have BK412 := n2_; have BK413 := n3_; have HB := n4_; clear n0_ n1_ n2_ n3_ n4_; (try clear hb); (try clear hb2); (try clear hk); (try clear hi); (try clear ho0); obtain ⟨Ao56, co56, eo56⟩ := Kd.R_slice HO420.out; subst eo56))
            repeat (go_quiet (first | (go_at_call 44; (with_reducible refine (region_Reg.calls kj2 a0_0 _ _ l0_1 _ _ l0_2 a1_0 _ _ l1_1 _ _ l1_2 t418 t421 _ ?side1 ?side2 ?side3 ?side4 ?side5 ?side6 ?side7 ?side8 A25.out).mono ?_); (case side1 => repeat (first | exact (Kd.C_below HR0_1.out HB.out) | (with_reducible refine Kd.C_alloc ?_ _) | (with_reducible refine Kd.C_drewN ?_ _) | (with_reducible refine Kd.C_drew ?_))); (case side2 => exact HC0_1.out); (case side3 => repeat (first | exact (Kd.C_below HR0_2.out HB.out) | (with_reducible refine Kd.C_alloc ?_ _) | (with_reducible refine Kd.C_drewN ?_ _) | (with_reducible refine Kd.C_drew ?_))); (case side4 => exact HC0_2.out); (case side5 => repeat (first | exact (Kd.C_below HR1_1.out HB.out) | (with_reducible refine Kd.C_alloc ?_ _) | (with_reducible refine Kd.C_drewN ?_ _) | (with_reducible refine Kd.C_drew ?_))); (case side6 => exact HC1_1.out); (case side7 => repeat (first | exact (Kd.C_below HR1_2.out HB.out) | (with_reducible refine Kd.C_alloc ?_ _) | (with_reducible refine Kd.C_drewN ?_ _) | (with_reducible refine Kd.C_drew ?_))); (case side8 => exact HC1_2.out); rintro e w52 ⟨v419, rfl, ho0, hb⟩; have n0_ := Aside0.mk (Kd.R_lower ho0 (below_size (by repeat (first | (with_reducible first | exact HB.out | apply below_alloc | apply pw_below_drewN | apply below_drew1 | refine below_set ?_ GE412.out | refine below_set ?_ GE413.out) | exact HB.out)))); have n1_ := Aside0.mk (blk_below (g := gb412) (o := .cells #[.string a0_0, .slice A0_1 l0_1.length c0_1, .slice A0_2 l0_2.length c0_2] 39 (0, 0)) (by (with_reducible repeat (first | refine blk_drewN ?_ _ | refine blk_drew ?_ | refine blk_alloc ?_ _)); exact BK412.out) hb); have n2_ := Aside0.mk (blk_below (g := gb413) (o := .cells #[.string a1_0, .slice A1_1 l1_1.length c1_1, .slice A1_2 l1_2.length c1_2] 39 (0, 0)) (by (with_reducible repeat (first | refine blk_drewN ?_ _ | refine blk_drew ?_ | refine blk_alloc ?_ _)); exact BK413.out) hb); have n3_ := Aside0.mk (below_step (by repeat (first | (with_reducible first | exact HB.out | apply below_alloc | apply pw_below_drewN | apply below_drew1 | refine below_set ?_ GE412.out | refine below_set ?_ GE413.out) | exact HB.out)) hb); clear BK412; clear BK413; clear HB; have HO420 := n0_; have BK412 := n1_; have BK413 := n2_; have HB := n3_; clear n0_ n1_ n2_ n3_; (try clear hb); (try clear hb2); (try clear hk); (try clear hi); (try clear ho0); have hcz53_0 : w52.cell? ⟨gb412, 0, none⟩ = some (.string a0_0) := (blk_cell BK412.out 0).trans rfl; have hcz53_1 : w52.cell? ⟨gb412, 1, none⟩ = some (.slice A0_1 l0_1.length c0_1) := (blk_cell BK412.out 1).trans rfl; have hcz53_2 : w52.cell? ⟨gb412, 2, none⟩ = some (.slice A0_2 l0_2.length c0_2) := (blk_cell BK412.out 2).trans rfl; have hfz53_0 := blk_frozen BK412.out 0; have hfz53_1 := blk_frozen BK412.out 1; have hfz53_2 := blk_frozen BK412.out 2; have hcz54_0 : w52.cell? ⟨gb413, 0, none⟩ = some (.string a1_0) := (blk_cell BK413.out 0).trans rfl; have hcz54_1 : w52.cell? ⟨gb413, 1, none⟩ = some (.slice A1_1 l1_1.length c1_1) := (blk_cell BK413.out 1).trans rfl; have hcz54_2 : w52.cell? ⟨gb413, 2, none⟩ = some (.slice A1_2 l1_2.length c1_2) := (blk_cell BK413.out 2).trans rfl; have hfz54_0 := blk_frozen BK413.out 0; have hfz54_1 := blk_frozen BK413.out 1; have hfz54_2 := blk_frozen BK413.out 2) | (go_at_call 45; (with_reducible refine (arboretref12_Reg.calls kj2 a0_0 _ _ l0_1 _ _ l0_2 a1_0 _ _ l1_1 _ _ l1_2 t422 false _ ?side1 ?side2 ?side3 ?side4 ?side5 ?side6 ?side7 ?side8 A26.out).mono ?_); (case side1 => repeat (first | exact (Kd.C_below HR0_1.out HB.out) | (with_reducible refine Kd.C_alloc ?_ _) | (with_reducible refine Kd.C_drewN ?_ _) | (with_reducible refine Kd.C_drew ?_))); (case side2 => exact HC0_1.out); (case side3 => repeat (first | exact (Kd.C_below HR0_2.out HB.out) | (with_reducible refine Kd.C_alloc ?_ _) | (with_reducible refine Kd.C_drewN ?_ _) | (with_reducible refine Kd.C_drew ?_))); (case side4 => exact HC0_2.out); (case side5 => repeat (first | exact (Kd.C_below HR1_1.out HB.out) | (with_reducible refine Kd.C_alloc ?_ _) | (with_reducible refine Kd.C_drewN ?_ _) | (with_reducible refine Kd.C_drew ?_))); (case side6 => exact HC1_1.out); (case side7 => repeat (first | exact (Kd.C_below HR1_2.out HB.out) | (with_reducible refine Kd.C_alloc ?_ _) | (with_reducible refine Kd.C_drewN ?_ _) | (with_reducible refine Kd.C_drew ?_))); (case side8 => exact HC1_2.out); rintro e w55 ⟨v423, rfl, ho0, hb⟩; have n0_ := Aside0.mk (Kd.R_below (by (with_reducible repeat (first | apply Kd.R_alloc | apply Kd.R_drewN | apply Kd.R_drew)); exact HO420.out) hb); have n1_ := Aside0.mk (Kd.R_lower ho0 (below_size (by repeat (first | (with_reducible first | exact HB.out | apply below_alloc | apply pw_below_drewN | apply below_drew1 | refine below_set ?_ GE412.out | refine below_set ?_ GE413.out) | exact HB.out)))); have n2_ := Aside0.mk (blk_below (g := gb412) (o := .cells #[.string a0_0, .slice A0_1 l0_1.length c0_1, .slice A0_2 l0_2.length c0_2] 39 (0, 0)) (by (with_reducible repeat (first | refine blk_drewN ?_ _ | refine blk_drew ?_ | refine blk_alloc ?_ _)); exact BK412.out) hb); have n3_ := Aside0.mk (blk_below (g := gb413) (o := .cells #[.string a1_0, .slice A1_1 l1_1.length c1_1, .slice A1_2 l1_2.length c1_2] 39 (0, 0)) (by (with_reducible repeat (first | refine blk_drewN ?_ _ | refine blk_drew ?_ | refine blk_alloc ?_ _)); exact BK413.out) hb); have n4_ := Aside0.mk (below_step (by repeat (first | (with_reducible first | exact HB.out | apply below_alloc | apply pw_below_drewN | apply below_drew1 | refine below_set ?_ GE412.out | refine below_set ?_ GE413.out) | exact HB.out)) hb); clear HO420; clear BK412; clear BK413; clear HB; have HO420 := n0_; have HO424 := n1_; have BK412 := n2_; have BK413 := n3_; have HB := n4_; clear n0_ n1_ n2_ n3_ n4_; (try clear hb); (try clear hb2); (try clear hk); (try clear hi); (try clear ho0); obtain ⟨Ao56, co56, eo56⟩ := Kd.R_slice HO420.out; subst eo56)); try go_wp2_with (first | (go_at_call 44; (with_reducible refine (region_Reg.calls kj2 a0_0 _ _ l0_1 _ _ l0_2 a1_0 _ _ l1_1 _ _ l1_2 t418 t421 _ ?side1 ?side2 ?side3 ?side4 ?side5 ?side6 ?side7 ?side8 A25.out).mono ?_); (case side1 => repeat (first | exact (Kd.C_below HR0_1.out HB.out) | (with_reducible refine Kd.C_alloc ?_ _) | (with_reducible refine Kd.C_drewN ?_ _) | (with_reducible refine Kd.C_drew ?_))); (case side2 => exact HC0_1.out); (case side3 => repeat (first | exact (Kd.C_below HR0_2.out HB.out) | (with_reducible refine Kd.C_alloc ?_ _) | (with_reducible refine Kd.C_drewN ?_ _) | (with_reducible refine Kd.C_drew ?_))); (case side4 => exact HC0_2.out); (case side5 => repeat (first | exact (Kd.C_below HR1_1.out HB.out) | (with_reducible refine Kd.C_alloc ?_ _) | (with_reducible refine Kd.C_drewN ?_ _) | (with_reducible refine Kd.C_drew ?_))); (case side6 => exact HC1_1.out); (case side7 => repeat (first | exact (Kd.C_below HR1_2.out HB.out) | (with_reducible refine Kd.C_alloc ?_ _) | (with_reducible refine Kd.C_drewN ?_ _) | (with_reducible refine Kd.C_drew ?_))); (case side8 => exact HC1_2.out); rintro e w52 ⟨v419, rfl, ho0, hb⟩; have n0_ := Aside0.mk (Kd.R_lower ho0 (below_size (by repeat (first | (with_reducible first | exact HB.out | apply below_alloc | apply pw_below_drewN | apply below_drew1 | refine below_set ?_ GE412.out | refine below_set ?_ GE413.out) | exact HB.out)))); have n1_ := Aside0.mk (blk_below (g := gb412) (o := .cells #[.string a0_0, .slice A0_1 l0_1.length c0_1, .slice A0_2 l0_2.length c0_2] 39 (0, 0)) (by (with_reducible repeat (first | refine blk_drewN ?_ _ | refine blk_drew ?_ | refine blk_alloc ?_ _)); exact BK412.out) hb); have n2_ := Aside0.mk (blk_below (g := gb413) (o := .cells #[.string a1_0, .slice A1_1 l1_1.length c1_1, .slice A1_2 l1_2.length c1_2] 39 (0, 0)) (by (with_reducible repeat (first | refine blk_drewN ?_ _ | refine blk_drew ?_ | refine blk_alloc ?_ _)); exact BK413.out) hb); have n3_ := Aside0.mk (below_step (by repeat (first | (with_reducible first | exact HB.out | apply below_alloc | apply pw_below_drewN | apply below_drew1 | refine below_set ?_ GE412.out | refine below_set ?_ GE413.out) | exact HB.out)) hb); clear BK412; clear BK413; clear HB; have HO420 := n0_; have BK412 := n1_; have BK413 := n2_; have HB := n3_; clear n0_ n1_ n2_ n3_; (try clear hb); (try clear hb2); (try clear hk); (try clear hi); (try clear ho0); have hcz53_0 : w52.cell? ⟨gb412, 0, none⟩ = some (.string a0_0) := (blk_cell BK412.out 0).trans rfl; have hcz53_1 : w52.cell? ⟨gb412, 1, none⟩ = some (.slice A0_1 l0_1.length c0_1) := (blk_cell BK412.out 1).trans rfl; have hcz53_2 : w52.cell? ⟨gb412, 2, none⟩ = some (.slice A0_2 l0_2.length c0_2) := (blk_cell BK412.out 2).trans rfl; have hfz53_0 := blk_frozen BK412.out 0; have hfz53_1 := blk_frozen BK412.out 1; have hfz53_2 := blk_frozen BK412.out 2; have hcz54_0 : w52.cell? ⟨gb413, 0, none⟩ = some (.string a1_0) := (blk_cell BK413.out 0).trans rfl; have hcz54_1 : w52.cell? ⟨gb413, 1, none⟩ = some (.slice A1_1 l1_1.length c1_1) := (blk_cell BK413.out 1).trans rfl; have hcz54_2 : w52.cell? ⟨gb413, 2, none⟩ = some (.slice A1_2 l1_2.length c1_2) := (blk_cell BK413.out 2).trans rfl; have hfz54_0 := blk_frozen BK413.out 0; have hfz54_1 := blk_frozen BK413.out 1; have hfz54_2 := blk_frozen BK413.out 2) | (go_at_call 45; (with_reducible refine (arboretref12_Reg.calls kj2 a0_0 _ _ l0_1 _ _ l0_2 a1_0 _ _ l1_1 _ _ l1_2 t422 false _ ?side1 ?side2 ?side3 ?side4 ?side5 ?side6 ?side7 ?side8 A26.out).mono ?_); (case side1 => repeat (first | exact (Kd.C_below HR0_1.out HB.out) | (with_reducible refine Kd.C_alloc ?_ _) | (with_reducible refine Kd.C_drewN ?_ _) | (with_reducible refine Kd.C_drew ?_))); (case side2 => exact HC0_1.out); (case side3 => repeat (first | exact (Kd.C_below HR0_2.out HB.out) | (with_reducible refine Kd.C_alloc ?_ _) | (with_reducible refine Kd.C_drewN ?_ _) | (with_reducible refine Kd.C_drew ?_))); (case side4 => exact HC0_2.out); (case side5 => repeat (first | exact (Kd.C_below HR1_1.out HB.out) | (with_reducible refine Kd.C_alloc ?_ _) | (with_reducible refine Kd.C_drewN ?_ _) | (with_reducible refine Kd.C_drew ?_))); (case side6 => exact HC1_1.out); (case side7 => repeat (first | exact (Kd.C_below HR1_2.out HB.out) | (with_reducible refine Kd.C_alloc ?_ _) | (with_reducible refine Kd.C_drewN ?_ _) | (with_reducible refine Kd.C_drew ?_))); (case side8 => exact HC1_2.out); rintro e w55 ⟨v423, rfl, ho0, hb⟩; have n0_ := Aside0.mk (Kd.R_below (by (with_reducible repeat (first | apply Kd.R_alloc | apply Kd.R_drewN | apply Kd.R_drew)); exact HO420.out) hb); have n1_ := Aside0.mk (Kd.R_lower ho0 (below_size (by repeat (first | (with_reducible first | exact HB.out | apply below_alloc | apply pw_below_drewN | apply below_drew1 | refine below_set ?_ GE412.out | refine below_set ?_ GE413.out) | exact HB.out)))); have n2_ := Aside0.mk (blk_below (g := gb412) (o := .cells #[.string a0_0, .slice A0_1 l0_1.length c0_1, .slice A0_2 l0_2.length c0_2] 39 (0, 0)) (by (with_reducible repeat (first | refine blk_drewN ?_ _ | refine blk_drew ?_ | refine blk_alloc ?_ _)); exact BK412.out) hb); have n3_ := Aside0.mk (blk_below (g := gb413) (o := .cells #[.string a1_0, .slice A1_1 l1_1.length c1_1, .slice A1_2 l1_2.length c1_2] 39 (0, 0)) (by (with_reducible repeat (first | refine blk_drewN ?_ _ | refine blk_drew ?_ | refine blk_alloc ?_ _)); exact BK413.out) hb); have n4_ := Aside0.mk (below_step (by repeat (first | (with_reducible first | exact HB.out | apply below_alloc | apply pw_below_drewN | apply below_drew1 | refine below_set ?_ GE412.out | refine below_set ?_ GE413.out) | exact HB.out)) hb); clear HO420; clear BK412; clear BK413; clear HB; have HO420 := n0_; have HO424 := n1_; have BK412 := n2_; have BK413 := n3_; have HB := n4_; clear n0_ n1_ n2_ n3_ n4_; (try clear hb); (try clear hb2); (try clear hk); (try clear hi); (try clear ho0); obtain ⟨Ao56, co56, eo56⟩ := Kd.R_slice HO420.out; subst eo56)))
            go_ret
            exact ⟨by first | rfl | (simp [errW_none, errW_some] <;> rfl) | (simp [*, errW_none, errW_some] <;> rfl), by repeat (first | (with_reducible first | exact HB.out | apply below_alloc | apply pw_below_drewN | apply below_drew1 | refine below_set ?_ GE412.out | refine below_set ?_ GE413.out) | exact HB.out)⟩
          · rw [if_neg c48] at H
            have c48b0 : (t421 == 10) = false := beq_eq_false_iff_ne.mpr c48
            have c48b1 : (t421 != 10) = true := bne_iff_ne.mpr c48
            obtain rfl := Option.some.inj H
            have hnb57 := NB412_413.out
            have hnc57 := NB413_412.out
            have hcz58_0 : wc.cell? ⟨gb412, 0, none⟩ = some (.string a0_0) := (blk_cell BK412.out 0).trans rfl
            have hcz58_1 : wc.cell? ⟨gb412, 1, none⟩ = some (.slice A0_1 l0_1.length c0_1) := (blk_cell BK412.out 1).trans rfl
            have hcz58_2 : wc.cell? ⟨gb412, 2, none⟩ = some (.slice A0_2 l0_2.length c0_2) := (blk_cell BK412.out 2).trans rfl
            have hfz58_0 := blk_frozen BK412.out 0
            have hfz58_1 := blk_frozen BK412.out 1
            have hfz58_2 := blk_frozen BK412.out 2
            have hcz59_0 : wc.cell? ⟨gb413, 0, none⟩ = some (.string a1_0) := (blk_cell BK413.out 0).trans rfl
            have hcz59_1 : wc.cell? ⟨gb413, 1, none⟩ = some (.slice A1_1 l1_1.length c1_1) := (blk_cell BK413.out 1).trans rfl
            have hcz59_2 : wc.cell? ⟨gb413, 2, none⟩ = some (.slice A1_2 l1_2.length c1_2) := (blk_cell BK413.out 2).trans rfl
            have hfz59_0 := blk_frozen BK413.out 0
            have hfz59_1 := blk_frozen BK413.out 1
            have hfz59_2 := blk_frozen BK413.out 2
            go_wp2_with (first | (go_at_call 44; (with_reducible refine (region_Reg.calls kj2 a0_0 _ _ l0_1 _ _ l0_2 a1_0 _ _ l1_1 _ _ l1_2 t418 t421 _ ?side1 ?side2 ?side3 ?side4 ?side5 ?side6 ?side7 ?side8 A25.out).mono ?_); (case side1 => repeat (first | exact (Kd.C_below HR0_1.out HB.out) | (with_reducible refine Kd.C_alloc ?_ _) | (with_reducible refine Kd.C_drewN ?_ _) | (with_reducible refine Kd.C_drew ?_))); (case side2 => exact HC0_1.out); (case side3 => repeat (first | exact (Kd.C_below HR0_2.out HB.out) | (with_reducible refine Kd.C_alloc ?_ _) | (with_reducible refine Kd.C_drewN ?_ _) | (with_reducible refine Kd.C_drew ?_))); (case side4 => exact HC0_2.out); (case side5 => repeat (first | exact (Kd.C_below HR1_1.out HB.out) | (with_reducible refine Kd.C_alloc ?_ _) | (with_reducible refine Kd.C_drewN ?_ _) | (with_reducible refine Kd.C_drew ?_))); (case side6 => exact HC1_1.out); (case side7 => repeat (first | exact (Kd.C_below HR1_2.out HB.out) | (with_reducible refine Kd.C_alloc ?_ _) | (with_reducible refine Kd.C_drewN ?_ _) | (with_reducible refine Kd.C_drew ?_))); (case side8 => exact HC1_2.out); rintro e w60 ⟨v419, rfl, ho0, hb⟩; have n0_ := Aside0.mk (Kd.R_lower ho0 (below_size (by repeat (first | (with_reducible first | exact HB.out | apply below_alloc | apply pw_below_drewN | apply below_drew1 | refine below_set ?_ GE412.out | refine below_set ?_ GE413.out) | exact HB.out)))); have n1_ := Aside0.mk (blk_below (g := gb412) (o := .cells #[.string a0_0, .slice A0_1 l0_1.length c0_1, .slice A0_2 l0_2.length c0_2] 39 (0, 0)) (by (with_reducible repeat (first | refine blk_drewN ?_ _ | refine blk_drew ?_ | refine blk_alloc ?_ _)); exact BK412.out) hb); have n2_ := Aside0.mk (blk_below (g := gb413) (o := .cells #[.string a1_0, .slice A1_1 l1_1.length c1_1, .slice A1_2 l1_2.length c1_2] 39 (0, 0)) (by (with_reducible repeat (first | refine blk_drewN ?_ _ | refine blk_drew ?_ | refine blk_alloc ?_ _)); exact BK413.out) hb); have n3_ := Aside0.mk (below_step (by repeat (first | (with_reducible first | exact HB.out | apply below_alloc | apply pw_below_drewN | apply below_drew1 | refine below_set ?_ GE412.out | refine below_set ?_ GE413.out) | exact HB.out)) hb); clear BK412; clear BK413; clear HB; have HO420 := n0_; have BK412 := n1_; have BK413 := n2_; have HB := n3_; clear n0_ n1_ n2_ n3_; (try clear hb); (try clear hb2); (try clear hk); (try clear hi); (try clear ho0); have hcz61_0 : w60.cell? ⟨gb412, 0, none⟩ = some (.string a0_0) := (blk_cell BK412.out 0).trans rfl; have hcz61_1 : w60.cell? ⟨gb412, 1, none⟩ = some (.slice A0_1 l0_1.length c0_1) := (blk_cell BK412.out 1).trans rfl; have hcz61_2 : w60.cell? ⟨gb412, 2, none⟩ = some (.slice A0_2 l0_2.length c0_2) := (blk_cell BK412.out 2).trans rfl; have hfz61_0 := blk_frozen BK412.out 0; have hfz61_1 := blk_frozen BK412.out 1; have hfz61_2 := blk_frozen BK412.out 2; have hcz62_0 : w60.cell? ⟨gb413, 0, none⟩ = some (.string a1_0) := (blk_cell BK413.out 0).trans rfl; have hcz62_1 : w60.cell? ⟨gb413, 1, none⟩ = some (.slice A1_1 l1_1.length c1_1) := (blk_cell BK413.out 1).trans rfl; have hcz62_2 : w60.cell? ⟨gb413, 2, none⟩ = some (.slice A1_2 l1_2.length c1_2) := (blk_cell BK413.out 2).trans rfl; have hfz62_0 := blk_frozen BK413.out 0; have hfz62_1 := blk_frozen BK413.out 1; have hfz62_2 := blk_frozen BK413.out 2) | (go_at_call 45; (with_reducible refine (arboretref12_Reg.calls kj2 a0_0 _ _ l0_1 _ _ l0_2 a1_0 _ _ l1_1 _ _ l1_2 t422 false _ ?side1 ?side2 ?side3 ?side4 ?side5 ?side6 ?side7 ?side8 A26.out).mono ?_); (case side1 => repeat (first | exact (Kd.C_below HR0_1.out HB.out) | (with_reducible refine Kd.C_alloc ?_ _) | (with_reducible refine Kd.C_drewN ?_ _) | (with_reducible refine Kd.C_drew ?_))); (case side2 => exact HC0_1.out); (case side3 => repeat (first | exact (Kd.C_below HR0_2.out HB.out) | (with_reducible refine Kd.C_alloc ?_ _) | (with_reducible refine Kd.C_drewN ?_ _) | (with_reducible refine Kd.C_drew ?_))); (case side4 => exact HC0_2.out); (case side5 => repeat (first | exact (Kd.C_below HR1_1.out HB.out) | (with_reducible refine Kd.C_alloc ?_ _) | (with_reducible refine Kd.C_drewN ?_ _) | (with_reducible refine Kd.C_drew ?_))); (case side6 => exact HC1_1.out); (case side7 => repeat (first | exact (Kd.C_below HR1_2.out HB.out) | (with_reducible refine Kd.C_alloc ?_ _) | (with_reducible refine Kd.C_drewN ?_ _) | (with_reducible refine Kd.C_drew ?_))); (case side8 => exact HC1_2.out); rintro e w63 ⟨v423, rfl, ho0, hb⟩; have n0_ := Aside0.mk (Kd.R_below (by (with_reducible repeat (first | apply Kd.R_alloc | apply Kd.R_drewN | apply Kd.R_drew)); exact HO420.out) hb); have n1_ := Aside0.mk (Kd.R_lower ho0 (below_size (by repeat (first | (with_reducible first | exact HB.out | apply below_alloc | apply pw_below_drewN | apply below_drew1 | refine below_set ?_ GE412.out | refine below_set ?_ GE413.out) | exact HB.out)))); have n2_ := Aside0.mk (blk_below (g := gb412) (o := .cells #[.string a0_0, .slice A0_1 l0_1.length c0_1, .slice A0_2 l0_2.length c0_2] 39 (0, 0)) (by (with_reducible repeat (first | refine blk_drewN ?_ _ | refine blk_drew ?_ | refine blk_alloc ?_ _)); exact BK412.out) hb); have n3_ := Aside0.mk (blk_below (g := gb413) (o := .cells #[.string a1_0, .slice A1_1 l1_1.length c1_1, .slice A1_2 l1_2.length c1_2] 39 (0, 0)) (by (with_reducible repeat (first | refine blk_drewN ?_ _ | refine blk_drew ?_ | refine blk_alloc ?_ _)); exact BK413.out) hb); have n4_ := Aside0.mk (below_step (by repeat (first | (with_reducible first | exact HB.out | apply below_alloc | apply pw_below_drewN | apply below_drew1 | refine below_set ?_ GE412.out | refine below_set ?_ GE413.out) | exact HB.out)) hb); clear HO420; clear BK412; clear BK413; clear HB; have HO420 := n0_; have HO424 := n1_; have BK412 := n2_; have BK413 := n3_; have HB := n4_; clear n0_ n1_ n2_ n3_ n4_; (try clear hb); (try clear hb2); (try clear hk); (try clear hi); (try clear ho0)))
            repeat (go_quiet (first | (go_at_call 44; (with_reducible refine (region_Reg.calls kj2 a0_0 _ _ l0_1 _ _ l0_2 a1_0 _ _ l1_1 _ _ l1_2 t418 t421 _ ?side1 ?side2 ?side3 ?side4 ?side5 ?side6 ?side7 ?side8 A25.out).mono ?_); (case side1 => repeat (first | exact (Kd.C_below HR0_1.out HB.out) | (with_reducible refine Kd.C_alloc ?_ _) | (with_reducible refine Kd.C_drewN ?_ _) | (with_reducible refine Kd.C_drew ?_))); (case side2 => exact HC0_1.out); (case side3 => repeat (first | exact (Kd.C_below HR0_2.out HB.out) | (with_reducible refine Kd.C_alloc ?_ _) | (with_reducible refine Kd.C_drewN ?_ _) | (with_reducible refine Kd.C_drew ?_))); (case side4 => exact HC0_2.out); (case side5 => repeat (first | exact (Kd.C_below HR1_1.out HB.out) | (with_reducible refine Kd.C_alloc ?_ _) | (with_reducible refine Kd.C_drewN ?_ _) | (with_reducible refine Kd.C_drew ?_))); (case side6 => exact HC1_1.out); (case side7 => repeat (first | exact (Kd.C_below HR1_2.out HB.out) | (with_reducible refine Kd.C_alloc ?_ _) | (with_reducible refine Kd.C_drewN ?_ _) | (with_reducible refine Kd.C_drew ?_))); (case side8 => exact HC1_2.out); rintro e w60 ⟨v419, rfl, ho0, hb⟩; have n0_ := Aside0.mk (Kd.R_lower ho0 (below_size (by repeat (first | (with_reducible first | exact HB.out | apply below_alloc | apply pw_below_drewN | apply below_drew1 | refine below_set ?_ GE412.out | refine below_set ?_ GE413.out) | exact HB.out)))); have n1_ := Aside0.mk (blk_below (g := gb412) (o := .cells #[.string a0_0, .slice A0_1 l0_1.length c0_1, .slice A0_2 l0_2.length c0_2] 39 (0, 0)) (by (with_reducible repeat (first | refine blk_drewN ?_ _ | refine blk_drew ?_ | refine blk_alloc ?_ _)); exact BK412.out) hb); have n2_ := Aside0.mk (blk_below (g := gb413) (o := .cells #[.string a1_0, .slice A1_1 l1_1.length c1_1, .slice A1_2 l1_2.length c1_2] 39 (0, 0)) (by (with_reducible repeat (first | refine blk_drewN ?_ _ | refine blk_drew ?_ | refine blk_alloc ?_ _)); exact BK413.out) hb); have n3_ := Aside0.mk (below_step (by repeat (first | (with_reducible first | exact HB.out | apply below_alloc | apply pw_below_drewN | apply below_drew1 | refine below_set ?_ GE412.out | refine below_set ?_ GE413.out) | exact HB.out)) hb); clear BK412; clear BK413; clear HB; have HO420 := n0_; have BK412 := n1_; have BK413 := n2_; have HB := n3_; clear n0_ n1_ n2_ n3_; (try clear hb); (try clear hb2); (try clear hk); (try clear hi); (try clear ho0); have hcz61_0 : w60.cell? ⟨gb412, 0, none⟩ = some (.string a0_0) := (blk_cell BK412.out 0).trans rfl; have hcz61_1 : w60.cell? ⟨gb412, 1, none⟩ = some (.slice A0_1 l0_1.length c0_1) := (blk_cell BK412.out 1).trans rfl; have hcz61_2 : w60.cell? ⟨gb412, 2, none⟩ = some (.slice A0_2 l0_2.length c0_2) := (blk_cell BK412.out 2).trans rfl; have hfz61_0 := blk_frozen BK412.out 0; have hfz61_1 := blk_frozen BK412.out 1; have hfz61_2 := blk_frozen BK412.out 2; have hcz62_0 : w60.cell? ⟨gb413, 0, none⟩ = some (.string a1_0) := (blk_cell BK413.out 0).trans rfl; have hcz62_1 : w60.cell? ⟨gb413, 1, none⟩ = some (.slice A1_1 l1_1.length c1_1) := (blk_cell BK413.out 1).trans rfl; have hcz62_2 : w60.cell? ⟨gb413, 2, none⟩ = some (.slice A1_2 l1_2.length c1_2) := (blk_cell BK413.out 2).trans rfl; have hfz62_0 := blk_frozen BK413.out 0; have hfz62_1 := blk_frozen BK413.out 1; have hfz62_2 := blk_frozen BK413.out 2) | (go_at_call 45; (with_reducible refine (arboretref12_Reg.calls kj2 a0_0 _ _ l0_1 _ _ l0_2 a1_0 _ _ l1_1 _ _ l1_2 t422 false _ ?side1 ?side2 ?side3 ?side4 ?side5 ?side6 ?side7 ?side8 A26.out).mono ?_); (case side1 => repeat (first | exact (Kd.C_below HR0_1.out HB.out) | (with_reducible refine Kd.C_alloc ?_ _) | (with_reducible refine Kd.C_drewN ?_ _) | (with_reducible refine Kd.C_drew ?_))); (case side2 => exact HC0_1.out); (case side3 => repeat (first | exact (Kd.C_below HR0_2.out HB.out) | (with_reducible refine Kd.C_alloc ?_ _) | (with_reducible refine Kd.C_drewN ?_ _) | (with_reducible refine Kd.C_drew ?_))); (case side4 => exact HC0_2.out); (case side5 => repeat (first | exact (Kd.C_below HR1_1.out HB.out) | (with_reducible refine Kd.C_alloc ?_ _) | (with_reducible refine Kd.C_drewN ?_ _) | (with_reducible refine Kd.C_drew ?_))); (case side6 => exact HC1_1.out); (case side7 => repeat (first | exact (Kd.C_below HR1_2.out HB.out) | (with_reducible refine Kd.C_alloc ?_ _) | (with_reducible refine Kd.C_drewN ?_ _) | (with_reducible refine Kd.C_drew ?_))); (case side8 => exact HC1_2.out); rintro e w63 ⟨v423, rfl, ho0, hb⟩; have n0_ := Aside0.mk (Kd.R_below (by (with_reducible repeat (first | apply Kd.R_alloc | apply Kd.R_drewN | apply Kd.R_drew)); exact HO420.out) hb); have n1_ := Aside0.mk (Kd.R_lower ho0 (below_size (by repeat (first | (with_reducible first | exact HB.out | apply below_alloc | apply pw_below_drewN | apply below_drew1 | refine below_set ?_ GE412.out | refine below_set ?_ GE413.out) | exact HB.out)))); have n2_ := Aside0.mk (blk_below (g := gb412) (o := .cells #[.string a0_0, .slice A0_1 l0_1.length c0_1, .slice A0_2 l0_2.length c0_2] 39 (0, 0)) (by (with_reducible repeat (first | refine blk_drewN ?_ _ | refine blk_drew ?_ | refine blk_alloc ?_ _)); exact BK412.out) hb); have n3_ := Aside0.mk (blk_below (g := gb413) (o := .cells #[.string a1_0, .slice A1_1 l1_1.length c1_1, .slice A1_2 l1_2.length c1_2] 39 (0, 0)) (by (with_reducible repeat (first | refine blk_drewN ?_ _ | refine blk_drew ?_ | refine blk_alloc ?_ _)); exact BK413.out) hb); have n4_ := Aside0.mk (below_step (by repeat (first | (with_reducible first | exact HB.out | apply below_alloc | apply pw_below_drewN | apply below_drew1 | refine below_set ?_ GE412.out | refine below_set ?_ GE413.out) | exact HB.out)) hb); clear HO420; clear BK412; clear BK413; clear HB; have HO420 := n0_; have HO424 := n1_; have BK412 := n2_; have BK413 := n3_; have HB := n4_; clear n0_ n1_ n2_ n3_ n4_; (try clear hb); (try clear hb2); (try clear hk); (try clear hi); (try clear ho0))); try go_wp2_with (first | (go_at_call 44; (with_reducible refine (region_Reg.calls kj2 a0_0 _ _ l0_1 _ _ l0_2 a1_0 _ _ l1_1 _ _ l1_2 t418 t421 _ ?side1 ?side2 ?side3 ?side4 ?side5 ?side6 ?side7 ?side8 A25.out).mono ?_); (case side1 => repeat (first | exact (Kd.C_below HR0_1.out HB.out) | (with_reducible refine Kd.C_alloc ?_ _) | (with_reducible refine Kd.C_drewN ?_ _) | (with_reducible refine Kd.C_drew ?_))); (case side2 => exact HC0_1.out); (case side3 => repeat (first | exact (Kd.C_below HR0_2.out HB.out) | (with_reducible refine Kd.C_alloc ?_ _) | (with_reducible refine Kd.C_drewN ?_ _) | (with_reducible refine Kd.C_drew ?_))); (case side4 => exact HC0_2.out); (case side5 => repeat (first | exact (Kd.C_below HR1_1.out HB.out) | (with_reducible refine Kd.C_alloc ?_ _) | (with_reducible refine Kd.C_drewN ?_ _) | (with_reducible refine Kd.C_drew ?_))); (case side6 => exact HC1_1.out); (case side7 => repeat (first | exact (Kd.C_below HR1_2.out HB.out) | (with_reducible refine Kd.C_alloc ?_ _) | (with_reducible refine Kd.C_drewN ?_ _) | (with_reducible refine Kd.C_drew ?_))); (case side8 => exact HC1_2.out); rintro e w60 ⟨v419, rfl, ho0, hb⟩; have n0_ := Aside0.mk (Kd.R_lower ho0 (below_size (by repeat (first | (with_reducible first | exact HB.out | apply below_alloc | apply pw_below_drewN | apply below_drew1 | refine below_set ?_ GE412.out | refine below_set ?_ GE413.out) | exact HB.out)))); have n1_ := Aside0.mk (blk_below (g := gb412) (o := .cells #[.string a0_0, .slice A0_1 l0_1.length c0_1, .slice A0_2 l0_2.length c0_2] 39 (0, 0)) (by (with_reducible repeat (first | refine blk_drewN ?_ _ | refine blk_drew ?_ | refine blk_alloc ?_ _)); exact BK412.out) hb); have n2_ := Aside0.mk (blk_below (g := gb413) (o := .cells #[.string a1_0, .slice A1_1 l1_1.length c1_1, .slice A1_2 l1_2.length c1_2] 39 (0, 0)) (by (with_reducible repeat (first | refine blk_drewN ?_ _ | refine blk_drew ?_ | refine blk_alloc ?_ _)); exact BK413.out) hb); have n3_ := Aside0.mk (below_step (by repeat (first | (with_reducible first | exact HB.out | apply below_alloc | apply pw_below_drewN | apply below_drew1 | refine below_set ?_ GE412.out | refine below_set ?_ GE413.out) | exact HB.out)) hb); clear BK412; clear BK413; clear HB; have HO420 := n0_; have BK412 := n1_; have BK413 := n2_; have HB := n3_; clear n0_ n1_ n2_ n3_; (try clear hb); (try clear hb2); (try clear hk); (try clear hi); (try clear ho0); have hcz61_0 : w60.cell? ⟨gb412, 0, none⟩ = some (.string a0_0) := (blk_cell BK412.out 0).trans rfl; have hcz61_1 : w60.cell? ⟨gb412, 1, none⟩ = some (.slice A0_1 l0_1.length c0_1) := (blk_cell BK412.out 1).trans rfl; have hcz61_2 : w60.cell? ⟨gb412, 2, none⟩ = some (.slice A0_2 l0_2.length c0_2) := (blk_cell BK412.out 2).trans rfl; have hfz61_0 := blk_frozen BK412.out 0; have hfz61_1 := blk_frozen BK412.out 1; have hfz61_2 := blk_frozen BK412.out 2; have hcz62_0 : w60.cell? ⟨gb413, 0, none⟩ = some (.string a1_0) := (blk_cell BK413.out 0).trans rfl; have hcz62_1 : w60.cell? ⟨gb413, 1, none⟩ = some (.slice A1_1 l1_1.length c1_1) := (blk_cell BK413.out 1).trans rfl; have hcz62_2 : w60.cell? ⟨gb413, 2, none⟩ = some (.slice A1_2 l1_2.length c1_2) := (blk_cell BK413.out 2).trans rfl; have hfz62_0 := blk_frozen BK413.out 0; have hfz62_1 := blk_frozen BK413.out 1; have hfz62_2 := blk_frozen BK413.out 2) | (go_at_call 45; (with_reducible refine (arboretref12_Reg.calls kj2 a0_0 _ _ l0_1 _ _ l0_2 a1_0 _ _ l1_1 _ _ l1_2 t422 false _ ?side1 ?side2 ?side3 ?side4 ?side5 ?side6 ?side7 ?side8 A26.out).mono ?_); (case side1 => repeat (first | exact (Kd.C_below HR0_1.out HB.out) | (with_reducible refine Kd.C_alloc ?_ _) | (with_reducible refine Kd.C_drewN ?_ _) | (with_reducible refine Kd.C_drew ?_))); (case side2 => exact HC0_1.out); (case side3 => repeat (first | exact (Kd.C_below HR0_2.out HB.out) | (with_reducible refine Kd.C_alloc ?_ _) | (with_reducible refine Kd.C_drewN ?_ _) | (with_reducible refine Kd.C_drew ?_))); (case side4 => exact HC0_2.out); (case side5 => repeat (first | exact (Kd.C_below HR1_1.out HB.out) | (with_reducible refine Kd.C_alloc ?_ _) | (with_reducible refine Kd.C_drewN ?_ _) | (with_reducible refine Kd.C_drew ?_))); (case side6 => exact HC1_1.out); (case side7 => repeat (first | exact (Kd.C_below HR1_2.out HB.out) | (with_reducible refine Kd.C_alloc ?_ _) | (with_reducible refine Kd.C_drewN ?_ _) | (with_reducible refine Kd.C_drew ?_))); (case side8 => exact HC1_2.out); rintro e w63 ⟨v423, rfl, ho0, hb⟩; have n0_ := Aside0.mk (Kd.R_below (by (with_reducible repeat (first | apply Kd.R_alloc | apply Kd.R_drewN | apply Kd.R_drew)); exact HO420.out) hb); have n1_ := Aside0.mk (Kd.R_lower ho0 (below_size (by repeat (first | (with_reducible first | exact HB.out | apply below_alloc | apply pw_below_drewN | apply below_drew1 | refine below_set ?_ GE412.out | refine below_set ?_ GE413.out) | exact HB.out)))); have n2_ := Aside0.mk (blk_below (g := gb412) (o := .cells #[.string a0_0, .slice A0_1 l0_1.length c0_1, .slice A0_2 l0_2.length c0_2] 39 (0, 0)) (by (with_reducible repeat (first | refine blk_drewN ?_ _ | refine blk_drew ?_ | refine blk_alloc ?_ _)); exact BK412.out) hb); have n3_ := Aside0.mk (blk_below (g := gb413) (o := .cells #[.string a1_0, .slice A1_1 l1_1.length c1_1, .slice A1_2 l1_2.length c1_2] 39 (0, 0)) (by (with_reducible repeat (first | refine blk_drewN ?_ _ | refine blk_drew ?_ | refine blk_alloc ?_ _)); exact BK413.out) hb); have n4_ := Aside0.mk (below_step (by repeat (first | (with_reducible first | exact HB.out | apply below_alloc | apply pw_below_drewN | apply below_drew1 | refine below_set ?_ GE412.out | refine below_set ?_ GE413.out) | exact HB.out)) hb); clear HO420; clear BK412; clear BK413; clear HB; have HO420 := n0_; have HO424 := n1_; have BK412 := n2_; have BK413 := n3_; have HB := n4_; clear n0_ n1_ n2_ n3_ n4_; (try clear hb); (try clear hb2); (try clear hk); (try clear hi); (try clear ho0))))
            go_ret
            exact ⟨by first | rfl | (simp [errW_none, errW_some] <;> rfl) | (simp [*, errW_none, errW_some] <;> rfl), by repeat (first | (with_reducible first | exact HB.out | apply below_alloc | apply pw_below_drewN | apply below_drew1 | refine below_set ?_ GE412.out | refine below_set ?_ GE413.out) | exact HB.out)⟩

end Go.Proofs.Yteejaaeglfpcmaa.PX

/- How the kinds of the printed words are read out of what a row's arguments hold: slices, strings, numbers; lists' bulk. Own text, no statement of its own. -/
set_option linter.unusedVariables false
namespace Go.Proofs.Yteejaaeglfpcmaa.Rdr
open Go.RowKit Go.Proofs.YteejaaeglfpcmaaW.PrintWords Go.ChangeShapes Go.WideShapes

/-- The bulk of a list, by its elements'. -/
def sumB {α : Type} (B : α → Nat) : List α → Nat
  | [] => 0
  | x :: r => B x + sumB B r

theorem sumB_le {α : Type} {H : Type} {B : α → Nat} : ∀ {xs : List α} {ds : List (DataW H)}, xs.length = ds.length → (∀ (i : Nat) (x : α) (d : DataW H), xs[i]? = some x → ds[i]? = some d → B x ≤ Rows.uptoBulk d) → sumB B xs ≤ Rows.uptoBulkAll ds
  | [], [], _, _ => Nat.le_refl _
  | x :: xs, d :: ds, hl, h => by
    have h0 := h 0 x d rfl rfl
    have h1 := sumB_le (xs := xs) (ds := ds) (by simpa using hl) (fun i a b ha hb => h (i + 1) a b (by simpa using ha) (by simpa using hb))
    simp only [sumB, Rows.uptoBulkAll]
    omega
  | [], _ :: _, hl, _ => by simp at hl
  | _ :: _, [], hl, _ => by simp at hl

theorem sumB_mem {α : Type} {B : α → Nat} {x : α} : ∀ {xs : List α}, x ∈ xs → B x ≤ sumB B xs
  | a :: r, h => by
    simp only [sumB]
    rcases List.mem_cons.1 h with rfl | h
    · omega
    · have := sumB_mem (B := B) h
      omega
theorem sumB_len {α : Type} {B : α → Nat} (h1 : ∀ x, 1 ≤ B x) : ∀ xs : List α, xs.length ≤ sumB B xs
  | [] => Nat.le_refl _
  | x :: r => by
    have := h1 x
    have := sumB_len h1 r
    simp only [sumB, List.length_cons]
    omega
theorem sumB_one {α : Type} (xs : List α) : sumB (fun _ => 1) xs = xs.length := by
  induction xs with
  | nil => rfl
  | cons x r ih => simp only [sumB, ih, List.length_cons]; omega

theorem list_of {α : Type} {n : Nat} {Q : Nat → α → Prop} (h : ∀ i, i < n → ∃ x, Q i x) : ∃ xs : List α, xs.length = n ∧ ∀ (i : Nat) (x : α), xs[i]? = some x → Q i x := by
  induction n with
  | zero => exact ⟨[], rfl, fun i x hx => by simp at hx⟩
  | succ n ih =>
    obtain ⟨xs, hl, hq⟩ := ih (fun i hi => h i (by omega))
    obtain ⟨y, hy⟩ := h n (by omega)
    refine ⟨xs ++ [y], by simp [hl], fun i x hx => ?_⟩
    rcases Nat.lt_trichotomy i xs.length with hi | hi | hi
    · rw [List.getElem?_append_left hi] at hx
      exact hq i x hx
    · subst hi
      rw [List.getElem?_append_right (Nat.le_refl _)] at hx
      simp at hx
      subst hx
      rw [hl]
      exact hy
    · rw [List.getElem?_append_right (by omega), List.getElem?_eq_none (by simp; omega)] at hx
      cases hx

/-- What reads at a depth below n as data of type t is of the kind d; its bulk is no greater, and it is 'G'. -/
def RdF (P : Program) (W : World) (n : Nat) {α : Type} (d : Kd α) (t : TypeId) (B : α → Nat) (G : α → Prop) : Prop :=
  ∀ (H : Type) (enc : TypeId × Value → H) (fuel : Nat), fuel ≤ n → ∀ (cs : List Value) (x : DataW H × List MemPlace),
    DataW.trod enc P W 0 (fun _ => true) true fuel t cs = some x → ∃ a, d.K W a cs ∧ B a ≤ Rows.uptoBulk x.1 ∧ G a
section
variable {P : Program} {W : World} {n : Nat}
theorem RdF.mono {n' : Nat} {α : Type} {d : Kd α} {t : TypeId} {B : α → Nat} {G : α → Prop} (h : RdF P W n d t B G) (hn : n' ≤ n) : RdF P W n' d t B G :=
  fun H enc fuel hf cs x hx => h H enc fuel (Nat.le_trans hf hn) cs x hx

def wfI (k : IntKind) (x : Int) : Prop := (Lit.int k x).wf = true

theorem rd_int {t : TypeId} {k : IntKind} (ht : P.underlying t = some (.int k)) : RdF P W n (Kd.int k) t (fun _ => 1) (wfI k) := by
  intro H enc fuel hf cs x h
  cases fuel with
  | zero => simp [DataW.trod] at h
  | succ m =>
    unfold DataW.trod at h
    rw [ht] at h
    split at h <;> simp_all
    rename_i k' y z
    obtain ⟨⟨rfl, hw⟩, rfl⟩ := h
    exact ⟨y, rfl, by simp [Rows.uptoBulk], hw⟩
theorem rd_bool {t : TypeId} (ht : P.underlying t = some .bool) : RdF P W n Kd.bool t (fun _ => 1) (fun _ => True) := by
  intro H enc fuel hf cs x h
  cases fuel with
  | zero => simp [DataW.trod] at h
  | succ m =>
    unfold DataW.trod at h
    rw [ht] at h
    split at h <;> simp_all
    subst h
    rename_i b0
    simp only [Rows.uptoBulk]
    first | exact ⟨b0, rfl, Nat.le_refl _, trivial⟩ | (cases b0 <;> simp [Kd.bool, Kd.scalar])
theorem rd_string {t : TypeId} (ht : P.underlying t = some .string) : RdF P W n Kd.string t (fun s => s.size + 1) (fun _ => True) := by
  intro H enc fuel hf cs x h
  cases fuel with
  | zero => simp [DataW.trod] at h
  | succ m =>
    unfold DataW.trod at h
    rw [ht] at h
    split at h <;> simp_all
    obtain ⟨_, rfl⟩ := h
    refine ⟨_, rfl, ?_⟩
    simp [Rows.uptoBulk]

theorem rd_slice {t e : TypeId} {α : Type} {d : Kd α} {B : α → Nat} {G : α → Prop} (ht : P.underlying t = some (.slice e)) (hc : P.cellsOf e = d.sz) (h : RdF P W n d e B G) : RdF P W (n + 1) (Kd.slice e d) t (fun xs => sumB B xs + 1) (fun xs => ∀ x ∈ xs, G x) := by
  intro H enc fuel hf cs x hx
  rcases DataW.trod_slice ht hx with ⟨rfl, rfl⟩ | ⟨a, len, cap, elems, rest, m, rfl, rfl, rfl, hb, hl, hm, hlen, hel, _⟩
  · exact ⟨[], ⟨none, 0, rfl, Nat.le_refl _, rfl, by simp, fun h0 => absurd h0 (by simp)⟩, by simp [sumB, Rows.uptoBulk], fun x hx => by simp at hx⟩
  · have each : ∀ i, i < len → ∃ y : α, ∃ c : List Value, ∃ z, elems[i]? = some z ∧ W.cells? 0 (a.add (i * P.cellsOf e)) (P.cellsOf e) = some c ∧ d.K W y c ∧ B y ≤ Rows.uptoBulk z.1 ∧ G y := by
      intro i hi
      have h1 := hel i hi
      obtain ⟨z, hz⟩ : ∃ z, elems[i]? = some z := ⟨_, List.getElem?_eq_getElem (by omega)⟩
      rw [hz] at h1
      obtain ⟨c, hc1, hc2⟩ := Option.bind_eq_some_iff.1 h1
      obtain ⟨y, k1, k2, k3⟩ := h H enc m (by omega) c z hc2
      exact ⟨y, c, z, hz, hc1, k1, k2, k3⟩
    obtain ⟨ys, hyl, hy⟩ := list_of each
    refine ⟨ys, ⟨some a, cap, by rw [hyl], by omega, ?_⟩, ?_, ?_⟩
    · refine ⟨rfl, ?_, fun _ => ⟨a, rfl, fun j p hj => ?_⟩⟩
      · have : cap ≤ 9223372036854775807 := by simpa [maxLen] using hm
        omega
      · obtain ⟨c, z, _, hcs, hk, _, _⟩ := hy j p hj
        obtain ⟨_, hcl, hcc⟩ := World.cells?_some hcs
        refine ⟨c, by rw [hcl, hc], hk, fun i u hu => ?_⟩
        have hi : i < P.cellsOf e := by
          rw [← hcl]
          exact (List.getElem?_eq_some_iff.1 hu).1
        have h2 := hcc i hi
        rw [hu] at h2
        rw [← h2, hc]
        rw [Deep.add_add]
    · have : sumB B ys ≤ Rows.uptoBulkAll (elems.map (·.1)) := by
        refine sumB_le (by simp [hyl, hlen]) (fun i y dd hyi hdi => ?_)
        obtain ⟨c, z, hz, _, _, hB, _⟩ := hy i y hyi
        rw [List.getElem?_map, hz] at hdi
        simp at hdi
        rw [← hdi]
        exact hB
      simp only [Rows.uptoBulk]
      omega
    · intro y hyy
      obtain ⟨i, hi, he⟩ := List.getElem_of_mem hyy
      obtain ⟨_, _, _, _, _, _, hg⟩ := hy i y (by rw [List.getElem?_eq_getElem hi, he])
      exact hg
end

theorem len_of_trod {P : Program} {W : World} {H : Type} {enc : TypeId × Value → H} {t e : TypeId} {fuel n c B M : Nat} {a : Option Addr} {d : DataW H} {ps : List MemPlace} (ht : P.underlying t = some (.slice e))
    (h : DataW.trod enc P W 0 (fun _ => true) true fuel t [.slice a n c] = some (d, ps)) (hy : ∀ xs ys, d = .slice xs ys → (xs.length + ys.length) * B ≤ M) : n * B ≤ M := by
  rcases DataW.trod_slice ht h with ⟨he, _⟩ | ⟨a', len, cap, elems, rest, m, _, he, hx, _, _, _, hlen, _⟩
  · injection he with he
    injection he with _ h2 _
    subst h2
    simp
  · injection he with he
    injection he with _ h2 _
    subst h2
    injection hx with hx _
    have := hy _ _ hx
    simp only [List.length_map] at this
    rw [hlen] at this
    exact Nat.le_trans (Nat.mul_le_mul_right _ (Nat.le_add_right _ _)) this
theorem len_1 {α : Type} {l : List α} (h : l.length = 1) : ∃ a0, l = [a0] := by
  match l, h with
  | [b0], _ => exact ⟨b0, rfl⟩
theorem len_2 {α : Type} {l : List α} (h : l.length = 2) : ∃ a0 a1, l = [a0, a1] := by
  match l, h with
  | [b0, b1], _ => exact ⟨b0, b1, rfl⟩
theorem len_3 {α : Type} {l : List α} (h : l.length = 3) : ∃ a0 a1 a2, l = [a0, a1, a2] := by
  match l, h with
  | [b0, b1, b2], _ => exact ⟨b0, b1, b2, rfl⟩
theorem len_4 {α : Type} {l : List α} (h : l.length = 4) : ∃ a0 a1 a2 a3, l = [a0, a1, a2, a3] := by
  match l, h with
  | [b0, b1, b2, b3], _ => exact ⟨b0, b1, b2, b3, rfl⟩
theorem len_5 {α : Type} {l : List α} (h : l.length = 5) : ∃ a0 a1 a2 a3 a4, l = [a0, a1, a2, a3, a4] := by
  match l, h with
  | [b0, b1, b2, b3, b4], _ => exact ⟨b0, b1, b2, b3, b4, rfl⟩
theorem len_6 {α : Type} {l : List α} (h : l.length = 6) : ∃ a0 a1 a2 a3 a4 a5, l = [a0, a1, a2, a3, a4, a5] := by
  match l, h with
  | [b0, b1, b2, b3, b4, b5], _ => exact ⟨b0, b1, b2, b3, b4, b5, rfl⟩
theorem len_7 {α : Type} {l : List α} (h : l.length = 7) : ∃ a0 a1 a2 a3 a4 a5 a6, l = [a0, a1, a2, a3, a4, a5, a6] := by
  match l, h with
  | [b0, b1, b2, b3, b4, b5, b6], _ => exact ⟨b0, b1, b2, b3, b4, b5, b6, rfl⟩
theorem len_8 {α : Type} {l : List α} (h : l.length = 8) : ∃ a0 a1 a2 a3 a4 a5 a6 a7, l = [a0, a1, a2, a3, a4, a5, a6, a7] := by
  match l, h with
  | [b0, b1, b2, b3, b4, b5, b6, b7], _ => exact ⟨b0, b1, b2, b3, b4, b5, b6, b7, rfl⟩
theorem len_9 {α : Type} {l : List α} (h : l.length = 9) : ∃ a0 a1 a2 a3 a4 a5 a6 a7 a8, l = [a0, a1, a2, a3, a4, a5, a6, a7, a8] := by
  match l, h with
  | [b0, b1, b2, b3, b4, b5, b6, b7, b8], _ => exact ⟨b0, b1, b2, b3, b4, b5, b6, b7, b8, rfl⟩
theorem len_10 {α : Type} {l : List α} (h : l.length = 10) : ∃ a0 a1 a2 a3 a4 a5 a6 a7 a8 a9, l = [a0, a1, a2, a3, a4, a5, a6, a7, a8, a9] := by
  match l, h with
  | [b0, b1, b2, b3, b4, b5, b6, b7, b8, b9], _ => exact ⟨b0, b1, b2, b3, b4, b5, b6, b7, b8, b9, rfl⟩
theorem len_11 {α : Type} {l : List α} (h : l.length = 11) : ∃ a0 a1 a2 a3 a4 a5 a6 a7 a8 a9 a10, l = [a0, a1, a2, a3, a4, a5, a6, a7, a8, a9, a10] := by
  match l, h with
  | [b0, b1, b2, b3, b4, b5, b6, b7, b8, b9, b10], _ => exact ⟨b0, b1, b2, b3, b4, b5, b6, b7, b8, b9, b10, rfl⟩
theorem len_12 {α : Type} {l : List α} (h : l.length = 12) : ∃ a0 a1 a2 a3 a4 a5 a6 a7 a8 a9 a10 a11, l = [a0, a1, a2, a3, a4, a5, a6, a7, a8, a9, a10, a11] := by
  match l, h with
  | [b0, b1, b2, b3, b4, b5, b6, b7, b8, b9, b10, b11], _ => exact ⟨b0, b1, b2, b3, b4, b5, b6, b7, b8, b9, b10, b11, rfl⟩
/-- a struct's fields, told one by one -/
theorem all_1 {H : Type} {x : DataW H} : Rows.uptoBulkAll [x] = Rows.uptoBulk x := by simp [Rows.uptoBulkAll]
theorem bound {H : Type} {l : List (DataW H)} (hk : Rows.uptoSmall H l = true) : Rows.uptoBulkAll l ≤ 1048576 := of_decide_eq_true hk
end Go.Proofs.Yteejaaeglfpcmaa.Rdr

/- The kinds of structs that laws take: their bulk, what is good of them, and how they are read out of a row's arguments. Own text. -/
set_option linter.unusedVariables false
set_option linter.unusedSimpArgs false
namespace Go.Proofs.Yteejaaeglfpcmaa.PX
open Go.RowKit Go.Proofs.Yteejaaeglfpcmaa.Rdr Go.Proofs.YteejaaeglfpcmaaW.PrintWords Go.Proofs.YteejaaeglfpcmaaW.PrintLast Go.Proofs.YteejaaeglfpcmaaW.PrintMore
def bulk151 (x : S151) : Nat := (fun _ => 1) x.f0 + (fun _ => 1) x.f1 + 1
def good151 (x : S151) : Prop := (wfI .u64) x.f0 ∧ (wfI .u64) x.f1
theorem rd151 (W : World) (n : Nat) : RdF Try.prog W n k151 151 bulk151 good151 := by
  intro H enc fuel hfu cs x h
  cases n with
  | zero =>
    obtain rfl : fuel = 0 := by omega
    simp [DataW.trod] at h
  | succ n =>
  obtain ⟨xs, m, rfl, rfl, hl, hlen, hf⟩ := DataW.trod_struct Try.underlying151 h
  have hl' : cs.length = 2 := hl.trans (by kernel_rfl)
  clear hl
  obtain ⟨u0, u1, rfl⟩ := len_2 hl'
  have z24 : Try.prog.cellsOf 24 = 1 := by kernel_rfl
  obtain ⟨y0, hy0⟩ : ∃ y, xs[0]? = some y := ⟨_, List.getElem?_eq_getElem (by rw [hlen]; decide)⟩
  have h0 := hf 0 _ rfl
  rw [hy0] at h0
  simp only [z24, List.getElem_toArray, List.getElem_cons_zero, List.getElem_cons_succ, List.drop_zero, List.drop_succ_cons, List.take_succ_cons, List.take_zero] at h0
  have h0' : DataW.trod enc Try.prog W 0 (fun _ => true) true m 24 [u0] = some y0 := h0
  obtain ⟨y1, hy1⟩ : ∃ y, xs[1]? = some y := ⟨_, List.getElem?_eq_getElem (by rw [hlen]; decide)⟩
  have h1 := hf 1 _ rfl
  rw [hy1] at h1
  simp only [z24, List.getElem_toArray, List.getElem_cons_zero, List.getElem_cons_succ, List.drop_zero, List.drop_succ_cons, List.take_succ_cons, List.take_zero] at h1
  have h1' : DataW.trod enc Try.prog W 0 (fun _ => true) true m 24 [u1] = some y1 := h1
  obtain ⟨a0, k0, b0, g0⟩ := (rd_int (n := (n + 1)) Try.underlying24) H enc m (by omega) _ _ h0'
  obtain ⟨a1, k1, b1, g1⟩ := (rd_int (n := (n + 1)) Try.underlying24) H enc m (by omega) _ _ h1'
  have hall : xs = [y0, y1] := by
    obtain ⟨q0, q1, rfl⟩ := len_2 (l := xs) hlen
    simp only [List.getElem?_cons_zero, List.getElem?_cons_succ, Option.some.injEq] at hy0 hy1
    rw [hy0, hy1]
  subst hall
  refine ⟨⟨a0, a1⟩, ⟨[u0], [u1], rfl, k0, k1⟩, ?_, ?_⟩
  · (try dsimp only at b0); (try dsimp only at b1); simp only [bulk151, Rows.uptoBulk, Rows.uptoBulkAll, List.map_cons, List.map_nil]; omega
  · exact ⟨g0, g1⟩
def bulk104 (x : S104) : Nat := (fun s => s.size + 1) x.f0 + (fun xs => sumB (fun _ => 1) xs + 1) x.f1 + 1
def good104 (x : S104) : Prop := (fun _ => True) x.f0 ∧ (fun xs => ∀ x ∈ xs, (wfI .u8) x) x.f1
theorem rd104 (W : World) (n : Nat) : RdF Try.prog W n k104 104 bulk104 good104 := by
  intro H enc fuel hfu cs x h
  cases n with
  | zero =>
    obtain rfl : fuel = 0 := by omega
    simp [DataW.trod] at h
  | succ n =>
  obtain ⟨xs, m, rfl, rfl, hl, hlen, hf⟩ := DataW.trod_struct Try.underlying104 h
  have hl' : cs.length = 2 := hl.trans (by kernel_rfl)
  clear hl
  obtain ⟨u0, u1, rfl⟩ := len_2 hl'
  have z9 : Try.prog.cellsOf 9 = 1 := by kernel_rfl
  have z95 : Try.prog.cellsOf 95 = 1 := by kernel_rfl
  obtain ⟨y0, hy0⟩ : ∃ y, xs[0]? = some y := ⟨_, List.getElem?_eq_getElem (by rw [hlen]; decide)⟩
  have h0 := hf 0 _ rfl
  rw [hy0] at h0
  simp only [z9, List.getElem_toArray, List.getElem_cons_zero, List.getElem_cons_succ, List.drop_zero, List.drop_succ_cons, List.take_succ_cons, List.take_zero] at h0
  have h0' : DataW.trod enc Try.prog W 0 (fun _ => true) true m 9 [u0] = some y0 := h0
  obtain ⟨y1, hy1⟩ : ∃ y, xs[1]? = some y := ⟨_, List.getElem?_eq_getElem (by rw [hlen]; decide)⟩
  have h1 := hf 1 _ rfl
  rw [hy1] at h1
  simp only [z95, List.getElem_toArray, List.getElem_cons_zero, List.getElem_cons_succ, List.drop_zero, List.drop_succ_cons, List.take_succ_cons, List.take_zero] at h1
  have h1' : DataW.trod enc Try.prog W 0 (fun _ => true) true m 95 [u1] = some y1 := h1
  obtain ⟨a0, k0, b0, g0⟩ := (rd_string (n := (n + 1)) Try.underlying9) H enc m (by omega) _ _ h0'
  obtain ⟨a1, k1, b1, g1⟩ := (rd_slice (n := n) Try.underlying95 (by kernel_rfl) (rd_int (n := n) Try.underlying5)) H enc m (by omega) _ _ h1'
  have hall : xs = [y0, y1] := by
    obtain ⟨q0, q1, rfl⟩ := len_2 (l := xs) hlen
    simp only [List.getElem?_cons_zero, List.getElem?_cons_succ, Option.some.injEq] at hy0 hy1
    rw [hy0, hy1]
  subst hall
  refine ⟨⟨a0, a1⟩, ⟨[u0], [u1], rfl, k0, k1⟩, ?_, ?_⟩
  · (try dsimp only at b0); (try dsimp only at b1); simp only [bulk104, Rows.uptoBulk, Rows.uptoBulkAll, List.map_cons, List.map_nil]; omega
  · exact ⟨g0, g1⟩
mutual
def bulk39 : S39 → Nat
  | ⟨x0, x1, x2⟩ => (fun s => s.size + 1) x0 + (fun xs => sumB bulk104 xs + 1) x1 + (bulks39 x2 + 1) + 1
def bulks39 : List S39 → Nat
  | [] => 0
  | x :: r => bulk39 x + bulks39 r
end
theorem bulks39_eq (l : List S39) : bulks39 l = sumB bulk39 l := by
  induction l with
  | nil => rfl
  | cons x r ih => simp only [bulks39, sumB, ih]
mutual
def good39 : S39 → Prop
  | ⟨x0, x1, x2⟩ => (fun _ => True) x0 ∧ (fun xs => ∀ x ∈ xs, good104 x) x1 ∧ goods39 x2
def goods39 : List S39 → Prop
  | [] => True
  | x :: r => good39 x ∧ goods39 r
end
theorem goods39_iff (l : List S39) : goods39 l ↔ ∀ x ∈ l, good39 x := by
  induction l with
  | nil => simp [goods39]
  | cons x r ih => simp [goods39, ih]
theorem rd39 (W : World) (n : Nat) : RdF Try.prog W n k39 39 bulk39 good39 := by
  induction n with
  | zero =>
    intro H enc fuel hf cs x h
    obtain rfl : fuel = 0 := by omega
    simp [DataW.trod] at h
  | succ n ih =>
  intro H enc fuel hfu cs x h
  obtain ⟨xs, m, rfl, rfl, hl, hlen, hf⟩ := DataW.trod_struct Try.underlying39 h
  have hl' : cs.length = 3 := hl.trans (by kernel_rfl)
  clear hl
  obtain ⟨u0, u1, u2, rfl⟩ := len_3 hl'
  have z9 : Try.prog.cellsOf 9 = 1 := by kernel_rfl
  have z36 : Try.prog.cellsOf 36 = 1 := by kernel_rfl
  have z37 : Try.prog.cellsOf 37 = 1 := by kernel_rfl
  obtain ⟨y0, hy0⟩ : ∃ y, xs[0]? = some y := ⟨_, List.getElem?_eq_getElem (by rw [hlen]; decide)⟩
  have h0 := hf 0 _ rfl
  rw [hy0] at h0
  simp only [z9, List.getElem_toArray, List.getElem_cons_zero, List.getElem_cons_succ, List.drop_zero, List.drop_succ_cons, List.take_succ_cons, List.take_zero] at h0
  have h0' : DataW.trod enc Try.prog W 0 (fun _ => true) true m 9 [u0] = some y0 := h0
  obtain ⟨y1, hy1⟩ : ∃ y, xs[1]? = some y := ⟨_, List.getElem?_eq_getElem (by rw [hlen]; decide)⟩
  have h1 := hf 1 _ rfl
  rw [hy1] at h1
  simp only [z36, List.getElem_toArray, List.getElem_cons_zero, List.getElem_cons_succ, List.drop_zero, List.drop_succ_cons, List.take_succ_cons, List.take_zero] at h1
  have h1' : DataW.trod enc Try.prog W 0 (fun _ => true) true m 36 [u1] = some y1 := h1
  obtain ⟨y2, hy2⟩ : ∃ y, xs[2]? = some y := ⟨_, List.getElem?_eq_getElem (by rw [hlen]; decide)⟩
  have h2 := hf 2 _ rfl
  rw [hy2] at h2
  simp only [z37, List.getElem_toArray, List.getElem_cons_zero, List.getElem_cons_succ, List.drop_zero, List.drop_succ_cons, List.take_succ_cons, List.take_zero] at h2
  have h2' : DataW.trod enc Try.prog W 0 (fun _ => true) true m 37 [u2] = some y2 := h2
  obtain ⟨a0, k0, b0, g0⟩ := (rd_string (n := (n + 1)) Try.underlying9) H enc m (by omega) _ _ h0'
  obtain ⟨a1, k1, b1, g1⟩ := (rd_slice (n := n) Try.underlying36 (by kernel_rfl) (rd104 W n)) H enc m (by omega) _ _ h1'
  obtain ⟨a2, k2, b2, g2⟩ := (rd_slice (n := n) Try.underlying37 (by kernel_rfl) ih) H enc m (by omega) _ _ h2'
  have hall : xs = [y0, y1, y2] := by
    obtain ⟨q0, q1, q2, rfl⟩ := len_3 (l := xs) hlen
    simp only [List.getElem?_cons_zero, List.getElem?_cons_succ, Option.some.injEq] at hy0 hy1 hy2
    rw [hy0, hy1, hy2]
  subst hall
  cases k0
  obtain ⟨A1, c1, e1, l1, r1⟩ := k1
  cases e1
  obtain ⟨A2, c2, e2, l2, r2⟩ := k2
  cases e2
  refine ⟨⟨a0, a1, a2⟩, k39_mk W ⟨a0, a1, a2⟩ l1 r1 l2 r2, ?_, ?_⟩
  · (try dsimp only at b0); (try dsimp only at b1); (try dsimp only at b2); simp only [bulk39, bulks39_eq, Rows.uptoBulk, Rows.uptoBulkAll, List.map_cons, List.map_nil]; omega
  · exact ⟨g0, g1, (goods39_iff _).mpr g2⟩
def bulk43 (x : S43) : Nat := (fun _ => 1) x.f0 + (fun xs => sumB bulk151 xs + 1) x.f1 + bulk39 x.f2 + 1
def good43 (x : S43) : Prop := (wfI .u32) x.f0 ∧ (fun xs => ∀ x ∈ xs, good151 x) x.f1 ∧ good39 x.f2
theorem rd43 (W : World) (n : Nat) : RdF Try.prog W n k43 43 bulk43 good43 := by
  intro H enc fuel hfu cs x h
  cases n with
  | zero =>
    obtain rfl : fuel = 0 := by omega
    simp [DataW.trod] at h
  | succ n =>
  obtain ⟨xs, m, rfl, rfl, hl, hlen, hf⟩ := DataW.trod_struct Try.underlying43 h
  have hl' : cs.length = 5 := hl.trans (by kernel_rfl)
  clear hl
  obtain ⟨u0, u1, u2, u3, u4, rfl⟩ := len_5 hl'
  have z28 : Try.prog.cellsOf 28 = 1 := by kernel_rfl
  have z39 : Try.prog.cellsOf 39 = 3 := by kernel_rfl
  have z41 : Try.prog.cellsOf 41 = 1 := by kernel_rfl
  obtain ⟨y0, hy0⟩ : ∃ y, xs[0]? = some y := ⟨_, List.getElem?_eq_getElem (by rw [hlen]; decide)⟩
  have h0 := hf 0 _ rfl
  rw [hy0] at h0
  simp only [z28, List.getElem_toArray, List.getElem_cons_zero, List.getElem_cons_succ, List.drop_zero, List.drop_succ_cons, List.take_succ_cons, List.take_zero] at h0
  have h0' : DataW.trod enc Try.prog W 0 (fun _ => true) true m 28 [u0] = some y0 := h0
  obtain ⟨y1, hy1⟩ : ∃ y, xs[1]? = some y := ⟨_, List.getElem?_eq_getElem (by rw [hlen]; decide)⟩
  have h1 := hf 1 _ rfl
  rw [hy1] at h1
  simp only [z41, List.getElem_toArray, List.getElem_cons_zero, List.getElem_cons_succ, List.drop_zero, List.drop_succ_cons, List.take_succ_cons, List.take_zero] at h1
  have h1' : DataW.trod enc Try.prog W 0 (fun _ => true) true m 41 [u1] = some y1 := h1
  obtain ⟨y2, hy2⟩ : ∃ y, xs[2]? = some y := ⟨_, List.getElem?_eq_getElem (by rw [hlen]; decide)⟩
  have h2 := hf 2 _ rfl
  rw [hy2] at h2
  simp only [z39, List.getElem_toArray, List.getElem_cons_zero, List.getElem_cons_succ, List.drop_zero, List.drop_succ_cons, List.take_succ_cons, List.take_zero] at h2
  have h2' : DataW.trod enc Try.prog W 0 (fun _ => true) true m 39 [u2, u3, u4] = some y2 := h2
  obtain ⟨a0, k0, b0, g0⟩ := (rd_int (n := (n + 1)) Try.underlying28) H enc m (by omega) _ _ h0'
  obtain ⟨a1, k1, b1, g1⟩ := (rd_slice (n := n) Try.underlying41 (by kernel_rfl) (rd151 W n)) H enc m (by omega) _ _ h1'
  obtain ⟨a2, k2, b2, g2⟩ := (rd39 W (n + 1)) H enc m (by omega) _ _ h2'
  have hall : xs = [y0, y1, y2] := by
    obtain ⟨q0, q1, q2, rfl⟩ := len_3 (l := xs) hlen
    simp only [List.getElem?_cons_zero, List.getElem?_cons_succ, Option.some.injEq] at hy0 hy1 hy2
    rw [hy0, hy1, hy2]
  subst hall
  refine ⟨⟨a0, a1, a2⟩, ⟨[u0], [u1, u2, u3, u4], rfl, k0, ⟨[u1], [u2, u3, u4], rfl, k1, k2⟩⟩, ?_, ?_⟩
  · (try dsimp only at b0); (try dsimp only at b1); (try dsimp only at b2); simp only [bulk43, Rows.uptoBulk, Rows.uptoBulkAll, List.map_cons, List.map_nil]; omega
  · exact ⟨g0, g1, g2⟩
def bulk57 (x : S57) : Nat := (fun _ => 1) x.f0 + (fun _ => 1) x.f1 + 1
def good57 (x : S57) : Prop := (wfI .u64) x.f0 ∧ (wfI .u64) x.f1
theorem rd57 (W : World) (n : Nat) : RdF Try.prog W n k57 57 bulk57 good57 := by
  intro H enc fuel hfu cs x h
  cases n with
  | zero =>
    obtain rfl : fuel = 0 := by omega
    simp [DataW.trod] at h
  | succ n =>
  obtain ⟨xs, m, rfl, rfl, hl, hlen, hf⟩ := DataW.trod_struct Try.underlying57 h
  have hl' : cs.length = 2 := hl.trans (by kernel_rfl)
  clear hl
  obtain ⟨u0, u1, rfl⟩ := len_2 hl'
  have z24 : Try.prog.cellsOf 24 = 1 := by kernel_rfl
  obtain ⟨y0, hy0⟩ : ∃ y, xs[0]? = some y := ⟨_, List.getElem?_eq_getElem (by rw [hlen]; decide)⟩
  have h0 := hf 0 _ rfl
  rw [hy0] at h0
  simp only [z24, List.getElem_toArray, List.getElem_cons_zero, List.getElem_cons_succ, List.drop_zero, List.drop_succ_cons, List.take_succ_cons, List.take_zero] at h0
  have h0' : DataW.trod enc Try.prog W 0 (fun _ => true) true m 24 [u0] = some y0 := h0
  obtain ⟨y1, hy1⟩ : ∃ y, xs[1]? = some y := ⟨_, List.getElem?_eq_getElem (by rw [hlen]; decide)⟩
  have h1 := hf 1 _ rfl
  rw [hy1] at h1
  simp only [z24, List.getElem_toArray, List.getElem_cons_zero, List.getElem_cons_succ, List.drop_zero, List.drop_succ_cons, List.take_succ_cons, List.take_zero] at h1
  have h1' : DataW.trod enc Try.prog W 0 (fun _ => true) true m 24 [u1] = some y1 := h1
  obtain ⟨a0, k0, b0, g0⟩ := (rd_int (n := (n + 1)) Try.underlying24) H enc m (by omega) _ _ h0'
  obtain ⟨a1, k1, b1, g1⟩ := (rd_int (n := (n + 1)) Try.underlying24) H enc m (by omega) _ _ h1'
  have hall : xs = [y0, y1] := by
    obtain ⟨q0, q1, rfl⟩ := len_2 (l := xs) hlen
    simp only [List.getElem?_cons_zero, List.getElem?_cons_succ, Option.some.injEq] at hy0 hy1
    rw [hy0, hy1]
  subst hall
  refine ⟨⟨a0, a1⟩, ⟨[u0], [u1], rfl, k0, k1⟩, ?_, ?_⟩
  · (try dsimp only at b0); (try dsimp only at b1); simp only [bulk57, Rows.uptoBulk, Rows.uptoBulkAll, List.map_cons, List.map_nil]; omega
  · exact ⟨g0, g1⟩
end Go.Proofs.Yteejaaeglfpcmaa.PX

/- The pure statement of RegionReg, as its row wants it. -/
namespace Go.Proofs.Yteejaaeglfpcmaa.PX
open Go.RowKit Go.Proofs.Yteejaaeglfpcmaa.Rdr Go.Proofs.YteejaaeglfpcmaaW.PrintWords Go.Proofs.YteejaaeglfpcmaaW.PrintLast Go.Proofs.YteejaaeglfpcmaaW.PrintMore
def arboretlaw12_RegionReg.Pure : Prop := ∀ (x0 : S39) (x1 : S39), bulk39 x0 + bulk39 x1 ≤ 1048576 → good39 x0 → good39 x1 → ∃ k, arboretlaw12_RegionReg.f k x0.f0 x0.f1 x0.f2 x1.f0 x1.f1 x1.f2 = some true
end Go.Proofs.Yteejaaeglfpcmaa.PX

/- Small words for pure statements over rounds: what answers from some number of rounds on; wraps that do nothing; bits that don't meet. Own text. -/
set_option linter.unusedVariables false
set_option linter.unusedSimpArgs false
namespace Go.Proofs.Yteejaaeglfpcmaa.Aid
open Go.RowKit Go.Proofs.YteejaaeglfpcmaaW.PrintWords
section
variable {α β : Type} {r : α}
theorem Ev.pos {c : Prop} [Decidable c] {A B : Nat → Option α} (h : c) (hA : Ev A r) : Ev (fun k => if c then A k else B k) r := by
  simp only [if_pos h]
  exact hA
theorem Ev.neg {c : Prop} [Decidable c] {A B : Nat → Option α} (h : ¬ c) (hB : Ev B r) : Ev (fun k => if c then A k else B k) r := by
  simp only [if_neg h]
  exact hB
theorem Ev.ite {c : Prop} [Decidable c] {A B : Nat → Option α} {a b : α} (hA : c → Ev A a) (hB : ¬ c → Ev B b) : Ev (fun k => if c then A k else B k) (if c then a else b) := by
  by_cases h : c
  · rw [if_pos h]; exact Ev.pos h (hA h)
  · rw [if_neg h]; exact Ev.neg h (hB h)
theorem Ev.succ {g : Nat → Option α} (h : Ev (fun k => g (k + 1)) r) : Ev g r := Ev.step (fun _ => rfl) h
theorem Ev.some (r : α) : Ev (fun _ => some r) r := ⟨0, fun _ _ => rfl⟩
theorem Ev.fix {g : Option α} (h : g = Option.some r) : Ev (fun _ => g) r := ⟨0, fun _ _ => h⟩
theorem Ev.then {g : Nat → Option α} {f : Nat → α → Option β} {a : α} {b : β} (h : Ev g a) (k : Ev (fun n => f n a) b) : Ev (fun n => (g n).bind (f n)) b := Ev.bind h k
theorem Ev.out {g : Nat → Option α} (h : Ev g r) : ∃ k, g k = Option.some r := Ev.rounds h
theorem Ev.unique {g : Nat → Option α} {a b : α} (h : Ev g a) (k : Ev g b) : a = b := by
  obtain ⟨K, h⟩ := h
  obtain ⟨K', k⟩ := k
  have h1 := h (max K K') (by omega)
  rw [k (max K K') (by omega)] at h1
  exact (Option.some.inj h1).symm
end

/-! ### numbers -/
theorem w64 {x : Int} (h0 : -9223372036854775808 ≤ x) (h1 : x ≤ 9223372036854775807) : wrap64 x = x := by unfold wrap64; omega
theorem wu64 {x : Int} (h0 : 0 ≤ x) (h1 : x < 18446744073709551616) : IntKind.u64.wrap x = x := by
  simp only [IntKind.wrap, IntKind.bits, IntKind.signed]
  simp
  omega
theorem wu64_def (x : Int) : IntKind.u64.wrap x = x % 18446744073709551616 := by
  simp only [IntKind.wrap, IntKind.bits, IntKind.signed]
  simp
theorem or_low (i : Nat) (hi : i ≤ 64) {x y : Int} (hx : 0 ≤ x) (hxm : x % 2 ^ i = 0) (hx1 : x < 18446744073709551616) (hy : 0 ≤ y) (hy1 : y < 2 ^ i) : Go.bits .or .u64 x y = x + y := by
  have h2 : (2 : Int) ^ i ≤ 18446744073709551616 := by
    have h : (2 : Nat) ^ i ≤ 2 ^ 64 := Nat.pow_le_pow_right (by decide) hi
    have h' : ((2 ^ i : Nat) : Int) ≤ ((2 ^ 64 : Nat) : Int) := Int.ofNat_le.mpr h
    simpa using h'
  exact Go.bits_join .u64 64 (by decide) (fun n h0 h1 => wu64 h0 (by simpa using h1)) i x y hx hxm (by simpa using hx1) hy hy1 (by simpa using Int.lt_of_lt_of_le hy1 h2)
theorem wf_u8 {x : Int} : (Lit.int .u8 x).wf = true ↔ 0 ≤ x ∧ x ≤ 255 := by simp [Lit.wf, IntKind.min, IntKind.max, IntKind.signed, IntKind.bits]
theorem wf_u16 {x : Int} : (Lit.int .u16 x).wf = true ↔ 0 ≤ x ∧ x ≤ 65535 := by simp [Lit.wf, IntKind.min, IntKind.max, IntKind.signed, IntKind.bits]
theorem wf_u32 {x : Int} : (Lit.int .u32 x).wf = true ↔ 0 ≤ x ∧ x ≤ 4294967295 := by simp [Lit.wf, IntKind.min, IntKind.max, IntKind.signed, IntKind.bits]
theorem wf_u64 {x : Int} : (Lit.int .u64 x).wf = true ↔ 0 ≤ x ∧ x ≤ 18446744073709551615 := by simp [Lit.wf, IntKind.min, IntKind.max, IntKind.signed, IntKind.bits]
theorem wf_i64 {x : Int} : (Lit.int .i64 x).wf = true ↔ -9223372036854775808 ≤ x ∧ x ≤ 9223372036854775807 := by simp [Lit.wf, IntKind.min, IntKind.max, IntKind.signed, IntKind.bits]

/-! ### lists read by an index -/
theorem getD_at {α : Type} {l : List α} {d : α} {i : Nat} (h : i < l.length) : l.getD i d = l[i] := by simp [List.getD_eq_getElem?_getD, List.getElem?_eq_getElem h]
theorem drop_at {α : Type} {l : List α} {d : α} {i : Nat} (h : i < l.length) : l.drop i = l.getD i d :: l.drop (i + 1) := by rw [getD_at h]; exact List.drop_eq_getElem_cons h
/-- A loop over an index: what it comes to from i on is told by what lies behind i. -/
theorem loop {α β : Type} (l : List α) (F : List α → β) (g : Nat → Int → Option β)
    (hend : Ev (fun k => g k (l.length : Int)) (F []))
    (hstep : ∀ i : Nat, (h : i < l.length) → Ev (fun k => g k ((i + 1 : Nat) : Int)) (F (l.drop (i + 1))) → Ev (fun k => g k (i : Int)) (F (l[i] :: l.drop (i + 1)))) :
    ∀ i : Nat, i ≤ l.length → Ev (fun k => g k (i : Int)) (F (l.drop i)) := by
  have key : ∀ (d i : Nat), i + d = l.length → Ev (fun k => g k (i : Int)) (F (l.drop i)) := by
    intro d
    induction d with
    | zero =>
      intro i hi
      have : i = l.length := by omega
      subst this
      rw [List.drop_length]
      exact hend
    | succ d ih =>
      intro i hi
      have h : i < l.length := by omega
      rw [List.drop_eq_getElem_cons h]
      exact hstep i h (ih (i + 1) (by omega))
  intro i hi
  exact key (l.length - i) i (by omega)
end Go.Proofs.Yteejaaeglfpcmaa.Aid

/- Plain facts on nodes: how their bulk bounds what they hold; that looking at a tree's size ends; the places of all nodes. Own text. -/
set_option linter.unusedVariables false
set_option linter.unusedSimpArgs false
namespace Go.Proofs.Yteejaaeglfpcmaa.PX
open Go.RowKit Go.Proofs.Yteejaaeglfpcmaa.Rdr Go.Proofs.Yteejaaeglfpcmaa.Aid Go.Proofs.YteejaaeglfpcmaaW.PrintWords

theorem rdN (xs : List S39) (i : Nat) : rd_T39 xs (i : Int) = xs.getD i z39 := by simp [rd_T39]
theorem rdP (xs : List S104) (i : Nat) : rd_T104 xs (i : Int) = xs.getD i z104 := by simp [rd_T104]
theorem getN {xs : List S39} {i : Nat} (h : i < xs.length) : xs.getD i z39 ∈ xs := by rw [getD_at h]; exact List.getElem_mem h
theorem getP {xs : List S104} {i : Nat} (h : i < xs.length) : xs.getD i z104 ∈ xs := by rw [getD_at h]; exact List.getElem_mem h
theorem bulk_pos (x : S39) : 1 ≤ bulk39 x := by
  cases x
  simp only [bulk39]
  omega
theorem bulk_eq (x : S39) : bulk39 x = x.f0.size + sumB bulk104 x.f1 + sumB bulk39 x.f2 + 4 := by
  cases x
  simp only [bulk39, bulks39_eq]
  omega
theorem bulk_kid {x k : S39} (h : k ∈ x.f2) : bulk39 k + 4 ≤ bulk39 x := by
  have := sumB_mem (B := bulk39) h
  rw [bulk_eq x]
  omega
theorem bulk_prop {x : S39} {p : S104} (h : p ∈ x.f1) : bulk104 p + 4 ≤ bulk39 x := by
  have := sumB_mem (B := bulk104) h
  rw [bulk_eq x]
  omega
theorem bulk_kids (x : S39) : x.f2.length + 4 ≤ bulk39 x := by
  have := sumB_len bulk_pos x.f2
  rw [bulk_eq x]
  omega
theorem bulk_props (x : S39) : x.f1.length + 4 ≤ bulk39 x := by
  have := sumB_len (B := bulk104) (fun p => by unfold bulk104; omega) x.f1
  rw [bulk_eq x]
  omega
theorem bulk_name (x : S39) : x.f0.size + 4 ≤ bulk39 x := by
  rw [bulk_eq x]
  omega
theorem bulk_value (p : S104) : p.f0.size + p.f1.length + 3 ≤ bulk104 p := by
  unfold bulk104
  simp only [sumB_one]
  omega
theorem good_eq (x : S39) : good39 x ↔ (∀ p ∈ x.f1, good104 p) ∧ (∀ k ∈ x.f2, good39 k) := by
  cases x
  simp only [good39, goods39_iff]
  exact ⟨fun h => h.2, fun h => ⟨trivial, h⟩⟩
theorem good_value (p : S104) (h : good104 p) : ∀ b ∈ p.f1, 0 ≤ b ∧ b ≤ 255 := fun b hb => wf_u8.mp (h.2 b hb)
theorem step64 {i n : Nat} (h : i < n) (hn : n ≤ 1048576) : wrap64 ((i : Int) + 1) = ((i + 1 : Nat) : Int) := by unfold wrap64; omega

/-- Looking at a tree's size ends, with whatever number. -/
theorem size_ends (m : Nat) (hm : m ≤ 1048576) : ∀ x : S39, bulk39 x ≤ m → ∀ d : Int, ∃ v, Ev (fun k => arboretlaw03_size.f k x.f0 x.f1 x.f2 d) v := by
  induction m with
  | zero => intro x hx; have := bulk_pos x; omega
  | succ m ih =>
    intro x hx d
    have hk := bulk_kids x
    have hp := bulk_props x
    have kids : ∀ (j i : Nat) (acc : Int), i + j = x.f2.length → ∃ v, Ev (fun k => arboretlaw03_size.l1 k d acc (x.f2.length : Int) (i : Int) x.f0 x.f1 x.f2) v := by
      intro j
      induction j with
      | zero =>
        intro i acc hi
        refine ⟨acc, Ev.succ ?_⟩
        simp only [arboretlaw03_size.l1]
        exact Ev.neg (by omega) (Ev.some _)
      | succ j ihj =>
        intro i acc hi
        have hw := step64 (i := i) (n := x.f2.length) (by omega) (by omega)
        by_cases h1 : d > 20
        · refine ⟨1048576, Ev.succ ?_⟩
          simp only [arboretlaw03_size.l1]
          exact Ev.pos (by omega) (Ev.pos h1 (Ev.some _))
        by_cases h2 : acc > 100000
        · refine ⟨1048576, Ev.succ ?_⟩
          simp only [arboretlaw03_size.l1]
          exact Ev.pos (by omega) (Ev.neg h1 (Ev.pos h2 (Ev.some _)))
        have hmem := getN (xs := x.f2) (i := i) (by omega)
        obtain ⟨v, hv⟩ := ih (by omega) (x.f2.getD i z39) (by have := bulk_kid hmem; omega) (wrap64 (d + 1))
        obtain ⟨r, hr⟩ := ihj (i + 1) (wrap64 (acc + v)) (by omega)
        refine ⟨r, Ev.succ ?_⟩
        simp only [arboretlaw03_size.l1, rdN, hw]
        exact Ev.pos (by omega) (Ev.neg h1 (Ev.neg h2 (Ev.pos (by omega) (Ev.pos (by omega) (Ev.then hv hr)))))
    have props : ∀ (j i : Nat) (acc : Int), i + j = x.f1.length → ∃ v, Ev (fun k => arboretlaw03_size.l0 k d acc (x.f1.length : Int) (i : Int) x.f0 x.f1 x.f2) v := by
      intro j
      induction j with
      | zero =>
        intro i acc hi
        obtain ⟨v, hv⟩ := kids x.f2.length 0 acc (by omega)
        refine ⟨v, Ev.succ ?_⟩
        simp only [arboretlaw03_size.l0]
        exact Ev.neg (by omega) hv
      | succ j ihj =>
        intro i acc hi
        have hw := step64 (i := i) (n := x.f1.length) (by omega) (by omega)
        obtain ⟨v, hv⟩ := ihj (i + 1) (wrap64 ((wrap64 ((wrap64 (acc + 1)) + (((rd_T104 x.f1 i).f0).size : Int))) + (((rd_T104 x.f1 i).f1).length : Int))) (by omega)
        refine ⟨v, Ev.succ ?_⟩
        simp only [arboretlaw03_size.l0, hw]
        exact Ev.pos (by omega) (Ev.pos (by omega) (Ev.pos (by omega) hv))
    obtain ⟨v, hv⟩ := props x.f1.length 0 (wrap64 (1 + (x.f0.size : Int))) (by omega)
    refine ⟨v, Ev.succ ?_⟩
    simp only [arboretlaw03_size.f]
    exact hv
theorem few_ends (b : Int) (l : List S151) (x : S39) (hx : bulk39 x ≤ 1048576) : ∃ v, Ev (fun k => arboretlaw03_Few.f k b l x.f0 x.f1 x.f2) v := by
  obtain ⟨v, hv⟩ := size_ends 1048576 (by omega) x hx 0
  by_cases h : v ≤ 100000
  · refine ⟨decide ((l.length : Int) ≤ 200), ?_⟩
    unfold arboretlaw03_Few.f
    exact Ev.then hv (Ev.pos h (Ev.some _))
  · refine ⟨false, ?_⟩
    unfold arboretlaw03_Few.f
    exact Ev.then hv (Ev.neg h (Ev.some _))
end Go.Proofs.Yteejaaeglfpcmaa.PX

/- Bytes as numbers, the greatest first; cells of a value: as the program reads them. Own text. -/
set_option linter.unusedVariables false
set_option linter.unusedSimpArgs false
namespace Go.Proofs.Yteejaaeglfpcmaa.PX
open Go.RowKit Go.Proofs.Yteejaaeglfpcmaa.Aid Go.Proofs.YteejaaeglfpcmaaW.PrintWords
/-- Bytes behind a number. -/
def numOn (v : Int) (l : List Int) : Int := l.foldl (fun v c => v * 256 + c) v
def num (l : List Int) : Int := numOn 0 l
def isBytes (l : List Int) : Prop := ∀ b ∈ l, 0 ≤ b ∧ b ≤ 255
theorem isBytes.drop {l : List Int} (h : isBytes l) (i : Nat) : isBytes (l.drop i) := fun b hb => h b (List.mem_of_mem_drop hb)
theorem isBytes.take {l : List Int} (h : isBytes l) (i : Nat) : isBytes (l.take i) := fun b hb => h b (List.mem_of_mem_take hb)
theorem isBytes.tail {a : Int} {l : List Int} (h : isBytes (a :: l)) : isBytes l := fun b hb => h b (List.mem_cons_of_mem _ hb)
theorem isBytes.head {a : Int} {l : List Int} (h : isBytes (a :: l)) : 0 ≤ a ∧ a ≤ 255 := h a List.mem_cons_self
theorem pow_step (j : Nat) : (256 : Int) ^ (j + 1) = 256 ^ j * 256 := by rw [Int.pow_succ]
theorem pow_le (j : Nat) (h : j ≤ 8) : (256 : Int) ^ j ≤ 18446744073709551616 := by
  have h1 : (256 : Nat) ^ j ≤ 256 ^ 8 := Nat.pow_le_pow_right (by decide) h
  have h2 : ((256 ^ j : Nat) : Int) ≤ ((256 ^ 8 : Nat) : Int) := Int.ofNat_le.mpr h1
  simpa using h2
theorem numOn_range : ∀ (l : List Int) (j : Nat) (v : Int), isBytes l → 0 ≤ v → v < 256 ^ j → 0 ≤ numOn v l ∧ numOn v l < 256 ^ (j + l.length)
  | [], j, v, _, h0, h1 => ⟨h0, h1⟩
  | a :: l, j, v, hb, h0, h1 => by
    obtain ⟨a0, a1⟩ := hb.head
    have h := numOn_range l (j + 1) (v * 256 + a) hb.tail (by omega) (by rw [pow_step]; omega)
    have e : j + 1 + l.length = j + (a :: l).length := by rw [List.length_cons]; omega
    rw [e] at h
    exact h
theorem num_range (l : List Int) (hb : isBytes l) : 0 ≤ num l ∧ num l < 256 ^ l.length := by
  have h := numOn_range l 0 0 hb (Int.le_refl 0) (by decide)
  simpa [num] using h
theorem numbOn (l : List Int) : ∀ (j : Nat) (v : Int), isBytes l → 0 ≤ v → v < 256 ^ j → j + l.length ≤ 8 → l.foldl (fun v c => Go.bits .or .u64 (IntKind.u64.wrap (v * 256)) (IntKind.u64.wrap c)) v = numOn v l := by
  induction l with
  | nil => intro j v _ _ _ _; rfl
  | cons a l ih =>
    intro j v hb h0 h1 hl
    obtain ⟨a0, a1⟩ := hb.head
    rw [List.length_cons] at hl
    have hp := pow_le (j + 1) (by omega)
    rw [pow_step] at hp
    have e1 : IntKind.u64.wrap (v * 256) = v * 256 := wu64 (by omega) (by omega)
    have e2 : IntKind.u64.wrap a = a := wu64 a0 (by omega)
    have e3 : Go.bits .or .u64 (v * 256) a = v * 256 + a := or_low 8 (by decide) (by omega) (by simp only [Int.reducePow]; omega) (by omega) a0 (by simp only [Int.reducePow]; omega)
    rw [List.foldl_cons, e1, e2, e3]
    exact ih (j + 1) (v * 256 + a) hb.tail (by omega) (by rw [pow_step]; omega) (by omega)
theorem numb_eq (l : List Int) (hb : isBytes l) (hl : l.length ≤ 8) : numb l = num l := numbOn l 0 0 hb (Int.le_refl 0) (by decide) (by omega)
/-- A cell at a place that lies in the bytes. -/
theorem get_at (l : List Int) (i : Nat) (hb : isBytes l) (h : i + 4 ≤ l.length) : words_Get.f l (i : Int) = some (num ((l.drop i).take 4), true) := by
  unfold words_Get.f
  rw [if_pos ⟨Int.natCast_nonneg i, by omega⟩]
  have e : ((i : Int) + 4).toNat = i + 4 := by omega
  rw [e, Int.toNat_natCast, List.drop_take, show i + 4 - i = 4 by omega, numb_eq _ ((hb.drop i).take 4) (by rw [List.length_take]; omega)]
  have hr := num_range ((l.drop i).take 4) ((hb.drop i).take 4)
  have hl : ((l.drop i).take 4).length = 4 := by rw [List.length_take, List.length_drop]; omega
  rw [hl] at hr
  have : num ((l.drop i).take 4) % 4294967296 = num ((l.drop i).take 4) := Int.emod_eq_of_lt hr.1 (by simpa using hr.2)
  rw [this]
theorem get_no (l : List Int) (i : Nat) (h : l.length < i + 4) : words_Get.f l (i : Int) = some (0, false) := by
  unfold words_Get.f
  rw [if_neg (by omega)]
/-- The cells of a value. -/
def cellsOf : List Int → List Int
  | a :: b :: c :: d :: r => num [a, b, c, d] :: cellsOf r
  | _ => []
theorem cells_step (l : List Int) (i : Nat) (h : i + 4 ≤ l.length) : cellsOf (l.drop i) = num ((l.drop i).take 4) :: cellsOf (l.drop (i + 4)) := by
  have h1 : ∃ a b c d r, l.drop i = a :: b :: c :: d :: r := by
    match hh : l.drop i, (by rw [List.length_drop]; omega : 4 ≤ (l.drop i).length) with
    | a :: b :: c :: d :: r, _ => exact ⟨a, b, c, d, r, rfl⟩
  obtain ⟨a, b, c, d, r, e⟩ := h1
  have h2 : l.drop (i + 4) = r := by rw [← List.drop_drop, e]; rfl
  rw [e, h2]
  rfl
theorem cells_length : ∀ (n : Nat) (l : List Int), l.length ≤ n → (cellsOf l).length = l.length / 4
  | 0, l, h => by
    obtain rfl : l = [] := List.eq_nil_of_length_eq_zero (by omega)
    rfl
  | n + 1, l, h => by
    match l, h with
    | [], _ => simp [cellsOf]
    | [_], _ => simp [cellsOf]
    | [_, _], _ => simp [cellsOf]
    | [_, _, _], _ => simp [cellsOf]
    | a :: b :: c :: d :: r, h =>
      have := cells_length n r (by simp only [List.length_cons] at h; omega)
      simp only [cellsOf, List.length_cons, this]
      omega
theorem cells_len (l : List Int) : (cellsOf l).length = l.length / 4 := cells_length l.length l (Nat.le_refl _)
theorem cells_range : ∀ (n : Nat) (l : List Int), l.length ≤ n → isBytes l → ∀ x ∈ cellsOf l, 0 ≤ x ∧ x ≤ 4294967295
  | 0, l, h, _ => by
    obtain rfl : l = [] := List.eq_nil_of_length_eq_zero (by omega)
    intro x hx
    simp [cellsOf] at hx
  | n + 1, l, h, hb => by
    match l, h, hb with
    | [], _, _ => intro x hx; simp [cellsOf] at hx
    | [_], _, _ => intro x hx; simp [cellsOf] at hx
    | [_, _], _, _ => intro x hx; simp [cellsOf] at hx
    | [_, _, _], _, _ => intro x hx; simp [cellsOf] at hx
    | a :: b :: c :: d :: r, h, hb =>
      intro x hx
      simp only [cellsOf, List.mem_cons] at hx
      rcases hx with rfl | hx
      · have h4 : isBytes [a, b, c, d] := fun y hy => hb y (by simp only [List.mem_cons, List.not_mem_nil, or_false] at hy ⊢; rcases hy with rfl | rfl | rfl | rfl <;> simp)
        have hr := num_range [a, b, c, d] h4
        simp only [List.length_cons, List.length_nil] at hr
        have h2 := hr.2
        simp at h2
        exact ⟨hr.1, by omega⟩
      · exact cells_range n r (by simp only [List.length_cons] at h; omega) hb.tail.tail.tail.tail x hx
end Go.Proofs.Yteejaaeglfpcmaa.PX

/- A property's value, and its one cell, as the program and the reference tell them. Own text. -/
set_option linter.unusedVariables false
set_option linter.unusedSimpArgs false
namespace Go.Proofs.Yteejaaeglfpcmaa.PX
open Go.RowKit Go.Proofs.Yteejaaeglfpcmaa.Rdr Go.Proofs.Yteejaaeglfpcmaa.Aid Go.Proofs.YteejaaeglfpcmaaW.PrintWords
/-- Which property has a name, counted from i on; -1: none. -/
def ixP (s : List UInt8) : List S104 → Nat → Int
  | [], _ => -1
  | p :: r, i => if p.f0.toList = s then (i : Int) else ixP s r (i + 1)
/-- Its value. -/
def valP (s : List UInt8) : List S104 → Option (List Int)
  | [] => none
  | p :: r => if p.f0.toList = s then some p.f1 else valP s r
theorem valP_mem {s : List UInt8} {v : List Int} : ∀ {l : List S104}, valP s l = some v → ∃ p ∈ l, p.f1 = v
  | [], h => by simp [valP] at h
  | p :: r, h => by
    simp only [valP] at h
    by_cases c : p.f0.toList = s
    · rw [if_pos c] at h
      exact ⟨p, List.mem_cons_self, Option.some.inj h⟩
    · rw [if_neg c] at h
      obtain ⟨q, hq, e⟩ := valP_mem h
      exact ⟨q, List.mem_cons_of_mem _ hq, e⟩
/-- Where the first of them stands, and what it holds. -/
theorem ixP_val (s : List UInt8) : ∀ (l : List S104) (i : Nat), (valP s l = none ∧ ixP s l i = -1) ∨ ∃ j : Nat, j < l.length ∧ ixP s l i = ((i + j : Nat) : Int) ∧ valP s l = some (l.getD j z104).f1
  | [], i => .inl ⟨rfl, rfl⟩
  | p :: r, i => by
    simp only [valP, ixP]
    by_cases c : p.f0.toList = s
    · rw [if_pos c, if_pos c]
      exact .inr ⟨0, by simp, by simp, by simp⟩
    · rw [if_neg c, if_neg c]
      rcases ixP_val s r (i + 1) with ⟨h1, h2⟩ | ⟨j, h1, h2, h3⟩
      · exact .inl ⟨h1, h2⟩
      · exact .inr ⟨j + 1, by simp; omega, by rw [h2]; congr 1; omega, by rw [h3]; simp⟩
theorem clone_bytes (v : List Int) (h : v.length ≤ 1048576) : bytes_Clone.f v = some v := by
  unfold bytes_Clone.f
  rw [if_pos (by omega)]
/-- What the program's Find answers. -/
def findN (s : List UInt8) (l : List S104) : List Int × Bool := match valP s l with
  | some v => (v, true)
  | none => ([], false)
theorem find_ev (x : S39) (s : ByteArray) (hx : bulk39 x ≤ 1048576) : Ev (fun k => tree_Find.f k x.f0 x.f1 x.f2 s) (findN s.toList x.f1) := by
  have hp := bulk_props x
  have key : ∀ (j i : Nat), i + j = x.f1.length → Ev (fun k => tree_Find.l0 k s x.f1 (x.f1.length : Int) (i : Int)) (findN s.toList (x.f1.drop i)) := by
    intro j
    induction j with
    | zero =>
      intro i hi
      rw [List.drop_of_length_le (by omega)]
      refine Ev.succ ?_
      simp only [tree_Find.l0, findN, valP]
      exact Ev.neg (by omega) (Ev.some _)
    | succ j ih =>
      intro i hi
      have hw := step64 (i := i) (n := x.f1.length) (by omega) (by omega)
      have hm := getP (xs := x.f1) (i := i) (by omega)
      have hb := bulk_prop hm
      have hv := bulk_value (x.f1.getD i z104)
      have hc := clone_bytes (x.f1.getD i z104).f1 (by omega)
      rw [drop_at (l := x.f1) (d := z104) (i := i) (by omega)]
      refine Ev.succ ?_
      simp only [tree_Find.l0, rdP, hw, hc, Option.bind_some]
      refine Ev.pos (by omega) (Ev.pos (Int.natCast_nonneg i) (Ev.pos (by omega) ?_))
      by_cases c : (x.f1.getD i z104).f0.toList = s.toList
      · have e : findN s.toList (x.f1.getD i z104 :: x.f1.drop (i + 1)) = ((x.f1.getD i z104).f1, true) := by simp only [findN, valP, if_pos c]
        rw [e]
        exact Ev.pos c (Ev.some _)
      · have e : findN s.toList (x.f1.getD i z104 :: x.f1.drop (i + 1)) = findN s.toList (x.f1.drop (i + 1)) := by simp only [findN, valP, if_neg c]
        rw [e]
        exact Ev.neg c (ih (i + 1) (by omega))
  have := key x.f1.length 0 (by omega)
  unfold tree_Find.f
  simpa using this
theorem reffind_ev (x : S39) (s : ByteArray) (hx : bulk39 x ≤ 1048576) : Ev (fun k => arboretref01_Find.f k x.f0 x.f1 x.f2 s) (ixP s.toList x.f1 0) := by
  have hp := bulk_props x
  have key : ∀ (j i : Nat), i + j = x.f1.length → Ev (fun k => arboretref01_Find.l0 k s (x.f1.length : Int) (i : Int) x.f0 x.f1 x.f2) (ixP s.toList (x.f1.drop i) i) := by
    intro j
    induction j with
    | zero =>
      intro i hi
      rw [List.drop_of_length_le (by omega)]
      refine Ev.succ ?_
      simp only [arboretref01_Find.l0, ixP]
      exact Ev.neg (by omega) (Ev.some _)
    | succ j ih =>
      intro i hi
      have hw := step64 (i := i) (n := x.f1.length) (by omega) (by omega)
      rw [drop_at (l := x.f1) (d := z104) (i := i) (by omega)]
      refine Ev.succ ?_
      simp only [arboretref01_Find.l0, rdP, hw, ixP]
      refine Ev.pos (by omega) (Ev.pos (Int.natCast_nonneg i) (Ev.pos (by omega) ?_))
      by_cases c : (x.f1.getD i z104).f0.toList = s.toList
      · rw [if_pos c]
        exact Ev.pos c (Ev.some _)
      · rw [if_neg c]
        exact Ev.neg c (ih (i + 1) (by omega))
  have := key x.f1.length 0 (by omega)
  unfold arboretref01_Find.f
  simpa using this
/-! ### the reference's numbers and cells -/
theorem number_loop (l : List Int) (hb : isBytes l) (hl : l.length ≤ 1048576) (i n : Nat) (hi : i + n ≤ l.length) (hn : n ≤ 8) : ∀ (j q : Nat) (v : Int), q + j = n → 0 ≤ v → v < 256 ^ q →
    Ev (fun k => arboretref01_Number.l0 k l (i : Int) v (n : Int) (q : Int)) (numOn v ((l.drop (i + q)).take j), true) := by
  intro j
  induction j with
  | zero =>
    intro q v hq h0 h1
    refine Ev.succ ?_
    simp only [arboretref01_Number.l0]
    exact Ev.neg (by omega) (Ev.some _)
  | succ j ih =>
    intro q v hq h0 h1
    have hw : wrap64 ((q : Int) + 1) = ((q + 1 : Nat) : Int) := by unfold wrap64; omega
    have hw2 : wrap64 ((i : Int) + (q : Int)) = ((i + q : Nat) : Int) := by unfold wrap64; omega
    have hrd : rd l ((i + q : Nat) : Int) = l[i + q]'(by omega) := by
      unfold rd
      rw [Int.toNat_natCast, getD_at (by omega)]
    obtain ⟨a0, a1⟩ := hb _ (List.getElem_mem (l := l) (n := i + q) (by omega))
    have hp := pow_le (q + 1) (by omega)
    rw [pow_step] at hp
    generalize hx : l[i + q]'(by omega) = x at *
    have e1 : IntKind.u64.wrap (v * 256) = v * 256 := wu64 (by omega) (by omega)
    have e2 : IntKind.u64.wrap x = x := wu64 a0 (by omega)
    have e3 : IntKind.u64.wrap (v * 256 + x) = v * 256 + x := wu64 (by omega) (by omega)
    have hd : l.drop (i + q) = x :: l.drop (i + (q + 1)) := by rw [List.drop_eq_getElem_cons (by omega), hx]; rfl
    have h2 := ih (q + 1) (v * 256 + x) (by omega) (by omega) (by rw [pow_step]; omega)
    rw [hd]
    refine Ev.succ ?_
    simp only [arboretref01_Number.l0, hw, hw2, hrd, e1, e2, e3]
    exact Ev.pos (by omega) (Ev.pos (Int.natCast_nonneg _) (Ev.pos (by omega) h2))
theorem number_ev (l : List Int) (hb : isBytes l) (hl : l.length ≤ 1048576) (i n : Nat) (hi : i + n ≤ l.length) (hn : n ≤ 8) :
    Ev (fun k => arboretref01_Number.f k l (i : Int) (n : Int)) (num ((l.drop i).take n), true) := by
  have h := number_loop l hb hl i n hi hn n 0 0 (by omega) (Int.le_refl 0) (by decide)
  unfold arboretref01_Number.f
  have hw : wrap64 ((l.length : Int) - (i : Int)) = (l.length : Int) - (i : Int) := by unfold wrap64; omega
  refine Ev.neg (by omega) (Ev.neg (by omega) (Ev.succ ?_))
  have hd : decide (wrap64 ((l.length : Int) - (i : Int)) < (n : Int)) = false := by rw [hw]; exact decide_eq_false (by omega)
  simp only [arboretref01_Number.j0, hd]
  exact Ev.neg (by decide) h
theorem refcells_loop (l : List Int) (hb : isBytes l) (hl : l.length ≤ 1048576) (h4 : l.length % 4 = 0) : ∀ (j i : Nat) (acc : List Int), i + 4 * j = l.length → acc.length + j ≤ 1048576 →
    Ev (fun k => arboretref06_Cells.l0 k l acc (i : Int)) (acc ++ cellsOf (l.drop i), 0) := by
  intro j
  induction j with
  | zero =>
    intro i acc hi ha
    rw [List.drop_of_length_le (by omega)]
    simp only [cellsOf, List.append_nil]
    refine Ev.succ ?_
    simp only [arboretref06_Cells.l0]
    exact Ev.neg (by omega) (Ev.some _)
  | succ j ih =>
    intro i acc hi ha
    have hw : wrap64 ((i : Int) + 4) = ((i + 4 : Nat) : Int) := by unfold wrap64; omega
    have hn := number_ev l hb hl i 4 (by omega) (by decide)
    have hr := num_range ((l.drop i).take 4) ((hb.drop i).take 4)
    have hlen : ((l.drop i).take 4).length = 4 := by rw [List.length_take, List.length_drop]; omega
    rw [hlen] at hr
    have hm : num ((l.drop i).take 4) % 4294967296 = num ((l.drop i).take 4) := Int.emod_eq_of_lt hr.1 (by simpa using hr.2)
    have h2 := ih (i + 4) (acc ++ [num ((l.drop i).take 4)]) (by omega) (by rw [List.length_append, List.length_singleton]; omega)
    rw [cells_step l i (by omega)]
    rw [List.append_assoc, List.singleton_append] at h2
    refine Ev.succ ?_
    simp only [arboretref06_Cells.l0, hw]
    refine Ev.pos (by omega) (Ev.then hn (Ev.pos (by omega) ?_))
    simp only [hm]
    exact h2
theorem refcells_ev (l : List Int) (hb : isBytes l) (hl : l.length ≤ 1048576) : Ev (fun k => arboretref06_Cells.f k l) (if l.length % 4 = 0 then (cellsOf l, 0) else ([], 4)) := by
  unfold arboretref06_Cells.f
  by_cases h : l.length % 4 = 0
  · rw [if_pos h]
    have := refcells_loop l hb hl h (l.length / 4) 0 [] (by omega) (by simp only [List.length_nil]; omega)
    exact Ev.pos (by omega) (by simpa using this)
  · rw [if_neg h]
    exact Ev.neg (by omega) (Ev.some _)
/-! ### the one cell of a property -/
def oneOf (s : List UInt8) (l : List S104) : Int × Bool × Int := match valP s l with
  | none => (0, false, 0)
  | some v => if v.length = 4 then (num v, true, 0) else (0, false, 4)
theorem one_ev (x : S39) (s : ByteArray) (hx : bulk39 x ≤ 1048576) (hg : good39 x) : Ev (fun k => prop_One.f k x.f0 x.f1 x.f2 s) (oneOf s.toList x.f1) := by
  unfold prop_One.f
  refine Ev.then (find_ev x s hx) ?_
  unfold findN oneOf
  cases hv : valP s.toList x.f1 with
  | none => exact Ev.neg (by decide) (Ev.some _)
  | some v =>
    obtain ⟨p, hp, rfl⟩ := valP_mem hv
    have hby : isBytes p.f1 := good_value p (((good_eq x).mp hg).1 p hp)
    refine Ev.pos rfl ?_
    by_cases h4 : 4 ≤ p.f1.length
    · have hget := get_at p.f1 0 hby (by omega)
      simp only [Int.natCast_zero, List.drop_zero] at hget
      simp only [hget, Option.bind_some]
      refine Ev.pos trivial ?_
      by_cases h : p.f1.length = 4
      · rw [if_pos h, List.take_of_length_le (by omega)]
        exact Ev.pos (by omega) (Ev.some _)
      · rw [if_neg h]
        exact Ev.neg (by omega) (Ev.some _)
    · have hget := get_no p.f1 0 (by omega)
      simp only [Int.natCast_zero] at hget
      have h5 : ¬ p.f1.length = 4 := by omega
      simp only [hget, Option.bind_some]
      rw [if_neg h5]
      exact Ev.neg (by decide) (Ev.some _)
theorem refone_ev (x : S39) (s : ByteArray) (hx : bulk39 x ≤ 1048576) (hg : good39 x) : Ev (fun k => arboretref06_One.f k x.f0 x.f1 x.f2 s) (oneOf s.toList x.f1) := by
  unfold arboretref06_One.f
  refine Ev.then (reffind_ev x s hx) ?_
  unfold oneOf
  rcases ixP_val s.toList x.f1 0 with ⟨h1, h2⟩ | ⟨j, hj, h2, h3⟩
  · rw [h1, h2]
    exact Ev.pos (by decide) (Ev.some _)
  · rw [h2, h3, Nat.zero_add]
    have hp := getP (xs := x.f1) (i := j) hj
    have hby : isBytes (x.f1.getD j z104).f1 := good_value _ (((good_eq x).mp hg).1 _ hp)
    have hb := bulk_prop hp
    have hv := bulk_value (x.f1.getD j z104)
    simp only [rdP]
    refine Ev.neg (by omega) (Ev.pos (Int.natCast_nonneg j) (Ev.pos (by omega) (Ev.then (refcells_ev _ hby (by omega)) ?_)))
    generalize hvv : (x.f1.getD j z104).f1 = v at *
    by_cases h : v.length % 4 = 0
    · rw [if_pos h]
      have hcl := cells_len v
      refine Ev.pos rfl ?_
      by_cases h4 : v.length = 4
      · rw [if_pos h4]
        match v, h4 with
        | [a, b, c, d], _ => exact Ev.pos (by rfl) (Ev.pos (by simp [cellsOf]) (Ev.some _))
      · rw [if_neg h4]
        exact Ev.neg (by simp only [hcl]; omega) (Ev.some _)
    · have h5 : ¬ v.length = 4 := by omega
      rw [if_neg h, if_neg h5]
      exact Ev.neg (by decide) (Ev.some _)
end Go.Proofs.Yteejaaeglfpcmaa.PX

/- Of how many cells addresses and sizes are: the program's count and the reference's. Own text. -/
set_option linter.unusedVariables false
set_option linter.unusedSimpArgs false
namespace Go.Proofs.Yteejaaeglfpcmaa.PX
open Go.RowKit Go.Proofs.Yteejaaeglfpcmaa.Rdr Go.Proofs.Yteejaaeglfpcmaa.Aid Go.Proofs.YteejaaeglfpcmaaW.PrintWords
abbrev sAddr : ByteArray := ⟨#[35, 97, 100, 100, 114, 101, 115, 115, 45, 99, 101, 108, 108, 115]⟩
abbrev sSize : ByteArray := ⟨#[35, 115, 105, 122, 101, 45, 99, 101, 108, 108, 115]⟩
theorem oneOf_range (s : List UInt8) (x : S39) (hg : good39 x) : 0 ≤ (oneOf s x.f1).1 := by
  unfold oneOf
  cases hv : valP s x.f1 with
  | none => exact Int.le_refl 0
  | some v =>
    obtain ⟨p, hp, rfl⟩ := valP_mem hv
    have hby : isBytes p.f1 := good_value p (((good_eq x).mp hg).1 p hp)
    by_cases h : p.f1.length = 4
    · simp only [if_pos h]
      exact (num_range _ hby).1
    · simp only [if_neg h]
      exact Int.le_refl 0
/-- A count of cells; -1: it may not be. -/
def cntI (s : List UInt8) (w : Int) (l : List S104) : Int := if (oneOf s l).2.2 = 0 ∧ (oneOf s l).1 ≤ 2 then (if (oneOf s l).2.1 = true then (oneOf s l).1 else w) else -1
theorem cntI_range (s : List UInt8) (w : Int) (x : S39) (hg : good39 x) (hw : 0 ≤ w ∧ w ≤ 2) : -1 ≤ cntI s w x.f1 ∧ cntI s w x.f1 ≤ 2 := by
  have := oneOf_range s x hg
  unfold cntI
  split
  · split <;> omega
  · omega
def cntR (c : Int) : Int × Int := if c < 0 then (0, 10) else (c, 0)
theorem cntR_no {c : Int} (h : c < 0) : cntR c = (0, 10) := if_pos h
theorem cntR_yes {c : Int} (h : ¬ c < 0) : cntR c = (c, 0) := if_neg h
theorem count_ev (x : S39) (s : ByteArray) (w : Int) (hx : bulk39 x ≤ 1048576) (hg : good39 x) (hw : 0 ≤ w ∧ w ≤ 2) :
    Ev (fun k => region_count.f k x.f0 x.f1 x.f2 s w) (cntR (cntI s.toList w x.f1)) := by
  have h0 := oneOf_range s.toList x hg
  unfold region_count.f
  refine Ev.then (one_ev x s hx hg) ?_
  unfold cntI
  generalize oneOf s.toList x.f1 = o at *
  obtain ⟨v, b, e⟩ := o
  simp only at h0 ⊢
  by_cases he : e = 0
  · by_cases hv : v ≤ 2
    · rw [if_pos ⟨he, hv⟩]
      have hd : decide (v > 2) = false := decide_eq_false (by omega)
      have hw64 : wrap64 v = v := w64 (by omega) (by omega)
      refine Ev.pos he (Ev.succ ?_)
      simp only [region_count.j0, hd, hw64]
      refine Ev.neg (by decide) ?_
      cases b with
      | true => exact Ev.pos rfl (Ev.fix (by simp [cntR]; omega))
      | false => exact Ev.neg (by decide) (Ev.fix (by simp [cntR]; omega))
    · have hd : decide (v > 2) = true := decide_eq_true (by omega)
      rw [if_neg (by omega), cntR_no (by decide)]
      refine Ev.pos he (Ev.succ ?_)
      simp only [region_count.j0, hd]
      exact Ev.pos trivial (Ev.some _)
  · rw [if_neg (fun h => he h.1), cntR_no (by decide)]
    refine Ev.neg he (Ev.succ ?_)
    simp only [region_count.j0]
    exact Ev.pos trivial (Ev.some _)
theorem refcount_ev (x : S39) (s : ByteArray) (w : Int) (hx : bulk39 x ≤ 1048576) (hg : good39 x) (hw : 0 ≤ w ∧ w ≤ 2) :
    Ev (fun k => arboretref12_count.f k x.f0 x.f1 x.f2 s w) (cntI s.toList w x.f1) := by
  have h0 := oneOf_range s.toList x hg
  unfold arboretref12_count.f
  refine Ev.then (refone_ev x s hx hg) ?_
  unfold cntI
  generalize oneOf s.toList x.f1 = o at *
  obtain ⟨v, b, e⟩ := o
  simp only at h0 ⊢
  by_cases he : e = 0
  · by_cases hv : v ≤ 2
    · rw [if_pos ⟨he, hv⟩]
      have hd : decide (v > 2) = false := decide_eq_false (by omega)
      have hw64 : wrap64 v = v := w64 (by omega) (by omega)
      refine Ev.pos he (Ev.succ ?_)
      simp only [arboretref12_count.j0, hd, hw64]
      refine Ev.neg (by decide) ?_
      cases b with
      | true => exact Ev.pos rfl (Ev.fix (by simp))
      | false => exact Ev.neg (by decide) (Ev.fix (by simp))
    · have hd : decide (v > 2) = true := decide_eq_true (by omega)
      rw [if_neg (by omega)]
      refine Ev.pos he (Ev.succ ?_)
      simp only [arboretref12_count.j0, hd]
      exact Ev.pos trivial (Ev.some _)
  · rw [if_neg (fun h => he h.1)]
    refine Ev.neg he (Ev.succ ?_)
    simp only [arboretref12_count.j0]
    exact Ev.pos trivial (Ev.some _)
def cAddr (x : S39) : Int := cntI sAddr.toList 2 x.f1
def cSize (x : S39) : Int := cntI sSize.toList 1 x.f1
theorem cAddr_range (x : S39) (hg : good39 x) : -1 ≤ cAddr x ∧ cAddr x ≤ 2 := cntI_range _ _ x hg (by decide)
theorem cSize_range (x : S39) (hg : good39 x) : -1 ≤ cSize x ∧ cSize x ≤ 2 := cntI_range _ _ x hg (by decide)
def countsOf (x : S39) : Int × Int × Int := if 0 ≤ cAddr x ∧ 0 ≤ cSize x then (cAddr x, cSize x, 0) else (0, 0, 10)
theorem counts_ev (x : S39) (hx : bulk39 x ≤ 1048576) (hg : good39 x) : Ev (fun k => region_Counts.f k x.f0 x.f1 x.f2) (countsOf x) := by
  unfold region_Counts.f
  refine Ev.then (count_ev x sAddr 2 hx hg (by decide)) ?_
  have ha : cntI sAddr.toList 2 x.f1 = cAddr x := rfl
  have hs : cntI sSize.toList 1 x.f1 = cSize x := rfl
  rw [ha]
  by_cases h : cAddr x < 0
  · rw [cntR_no h]
    have e : countsOf x = (0, 0, 10) := if_neg (by omega)
    rw [e]
    exact Ev.neg (by decide) (Ev.some _)
  · rw [cntR_yes h]
    refine Ev.pos rfl (Ev.then (count_ev x sSize 1 hx hg (by decide)) ?_)
    rw [hs]
    by_cases h2 : cSize x < 0
    · rw [cntR_no h2]
      have e : countsOf x = (0, 0, 10) := if_neg (by omega)
      rw [e]
      exact Ev.neg (by decide) (Ev.some _)
    · rw [cntR_yes h2]
      have e : countsOf x = (cAddr x, cSize x, 0) := if_pos (by omega)
      rw [e]
      exact Ev.pos rfl (Ev.some _)
theorem refcounts_ev (x : S39) (hx : bulk39 x ≤ 1048576) (hg : good39 x) : Ev (fun k => arboretref12_Counts.f k x.f0 x.f1 x.f2) (cAddr x, cSize x, decide (0 ≤ cAddr x ∧ 0 ≤ cSize x)) := by
  unfold arboretref12_Counts.f
  refine Ev.then (refcount_ev x sAddr 2 hx hg (by decide)) (Ev.then (refcount_ev x sSize 1 hx hg (by decide)) ?_)
  have ha : cntI sAddr.toList 2 x.f1 = cAddr x := rfl
  have hs : cntI sSize.toList 1 x.f1 = cSize x := rfl
  rw [ha, hs]
  by_cases h : cAddr x ≥ 0
  · have : decide (0 ≤ cAddr x ∧ 0 ≤ cSize x) = decide (cSize x ≥ 0) := by
      rw [decide_eq_decide]
      exact ⟨fun h => h.2, fun h2 => ⟨h, h2⟩⟩
    rw [this]
    exact Ev.pos h (Ev.some _)
  · have : decide (0 ≤ cAddr x ∧ 0 ≤ cSize x) = false := decide_eq_false (fun h2 => h h2.1)
    rw [this]
    exact Ev.neg h (Ev.some _)
theorem region_awake : Ev (fun k => arboretlaw12_awake.f k) true := Ev.of (k := 6) (fun k => arboretlaw12_awake.mono k) (by decide +kernel)
theorem few12_ends (x : S39) (hx : bulk39 x ≤ 1048576) : ∃ v, Ev (fun k => arboretlaw12_few.f k x.f0 x.f1 x.f2) v := by
  obtain ⟨v, hv⟩ := few_ends 0 [] x hx
  exact ⟨v, Ev.then hv (Ev.some _)⟩
end Go.Proofs.Yteejaaeglfpcmaa.PX

/- Cells as numbers; the program's cells; numbers of one and two cells, by cells and by bytes. Own text. -/
set_option linter.unusedVariables false
set_option linter.unusedSimpArgs false
namespace Go.Proofs.Yteejaaeglfpcmaa.PX
open Go.RowKit Go.Proofs.Yteejaaeglfpcmaa.Rdr Go.Proofs.Yteejaaeglfpcmaa.Aid Go.Proofs.YteejaaeglfpcmaaW.PrintWords
theorem cells_loop (l : List Int) (hb : isBytes l) (hl : l.length ≤ 1048576) (h4 : l.length % 4 = 0) : ∀ (j i : Nat) (acc : List Int), i + 4 * j = l.length → acc.length + j ≤ 1048576 →
    Ev (fun k => prop_Cells.l0 k l acc (i : Int)) (acc ++ cellsOf (l.drop i), 0) := by
  intro j
  induction j with
  | zero =>
    intro i acc hi ha
    rw [List.drop_of_length_le (by omega)]
    simp only [cellsOf, List.append_nil]
    refine Ev.succ ?_
    simp only [prop_Cells.l0]
    exact Ev.neg (by omega) (Ev.some _)
  | succ j ih =>
    intro i acc hi ha
    have hw : wrap64 ((i : Int) + 4) = ((i + 4 : Nat) : Int) := by unfold wrap64; omega
    have hn := get_at l i hb (by omega)
    have h2 := ih (i + 4) (acc ++ [num ((l.drop i).take 4)]) (by omega) (by rw [List.length_append, List.length_singleton]; omega)
    rw [cells_step l i (by omega)]
    rw [List.append_assoc, List.singleton_append] at h2
    refine Ev.succ ?_
    simp only [prop_Cells.l0, hw, hn, Option.bind_some]
    exact Ev.pos (by omega) (Ev.pos (by omega) h2)
theorem cells_ev (l : List Int) (hb : isBytes l) (hl : l.length ≤ 1048576) : Ev (fun k => prop_Cells.f k l) (if l.length % 4 = 0 then (cellsOf l, 0) else ([], 4)) := by
  unfold prop_Cells.f
  by_cases h : l.length % 4 = 0
  · rw [if_pos h]
    have := cells_loop l hb hl h (l.length / 4) 0 [] (by omega) (by simp only [List.length_nil]; omega)
    exact Ev.pos (by omega) (by simpa using this)
  · rw [if_neg h]
    exact Ev.neg (by omega) (Ev.some _)
/-- At most two cells as a number. -/
def wideC (l : List Int) : Int := l.foldl (fun v c => v * 4294967296 + c) 0
theorem wide_ev (l : List Int) (h : ∀ x ∈ l, 0 ≤ x ∧ x ≤ 4294967295) (hl : l.length ≤ 2) : Ev (fun k => prop_Wide.f k l) (wideC l, 0) := by
  refine Ev.of (k := 3) (fun k => prop_Wide.mono l k) ?_
  match l, h, hl with
  | [], _, _ => decide +kernel
  | [a], h, _ =>
    obtain ⟨a0, a1⟩ := h a (by simp)
    have e : Go.bits .or .u64 0 a = a := by
      have := or_low 32 (by decide) (x := 0) (y := a) (Int.le_refl 0) (by simp) (by decide) a0 (by simp only [Int.reducePow]; omega)
      simpa using this
    have w := wu64 a0 (by omega)
    simp [prop_Wide.f, prop_Wide.l0, rd, wrap64, w, e, wu64, wideC]
  | [a, b], h, _ =>
    obtain ⟨a0, a1⟩ := h a (by simp)
    obtain ⟨b0, b1⟩ := h b (by simp)
    have e : Go.bits .or .u64 0 a = a := by
      have := or_low 32 (by decide) (x := 0) (y := a) (Int.le_refl 0) (by simp) (by decide) a0 (by simp only [Int.reducePow]; omega)
      simpa using this
    have e2 : Go.bits .or .u64 (a * 4294967296) b = a * 4294967296 + b := or_low 32 (by decide) (by omega) (by simp only [Int.reducePow]; omega) (by omega) b0 (by simp only [Int.reducePow]; omega)
    have w := wu64 a0 (by omega)
    have wb := wu64 b0 (by omega)
    have w2 := wu64 (x := a * 4294967296) (by omega) (by omega)
    simp [prop_Wide.f, prop_Wide.l0, rd, wrap64, w, wb, w2, e, e2, wu64, wideC]
theorem num4 (a b c d : Int) : num [a, b, c, d] = ((a * 256 + b) * 256 + c) * 256 + d := by simp [num, numOn]
theorem numOn4 (v a b c d : Int) (r : List Int) : numOn v (a :: b :: c :: d :: r) = numOn (v * 4294967296 + num [a, b, c, d]) r := by
  rw [num4]
  simp only [numOn, List.foldl_cons]
  congr 1
  omega
theorem wide_cells (l : List Int) (n : Nat) (h : l.length = 4 * n) (hn : n ≤ 2) : wideC (cellsOf l) = num l := by
  match n, hn, h with
  | 0, _, h =>
    obtain rfl : l = [] := List.eq_nil_of_length_eq_zero (by omega)
    rfl
  | 1, _, h =>
    match l, h with
    | [a, b, c, d], _ => simp [cellsOf, wideC]
  | 2, _, h =>
    match l, h with
    | [a, b, c, d, e, f, g, i], _ =>
      simp only [cellsOf, wideC, List.foldl_cons, List.foldl_nil, num4, num, numOn]
      omega
theorem cells_take : ∀ (n : Nat) (l : List Int), 4 * n ≤ l.length → (cellsOf l).take n = cellsOf (l.take (4 * n))
  | 0, l, _ => by simp [cellsOf]
  | n + 1, l, h => by
    match l, h with
    | a :: b :: c :: d :: r, h =>
      have h2 := cells_take n r (by simp only [List.length_cons] at h; omega)
      have e : 4 * (n + 1) = 4 * n + 1 + 1 + 1 + 1 := by omega
      rw [e]
      simp only [cellsOf, List.take_succ_cons, h2]
theorem cells_drop : ∀ (n : Nat) (l : List Int), 4 * n ≤ l.length → (cellsOf l).drop n = cellsOf (l.drop (4 * n))
  | 0, l, _ => by simp
  | n + 1, l, h => by
    match l, h with
    | a :: b :: c :: d :: r, h =>
      have h2 := cells_drop n r (by simp only [List.length_cons] at h; omega)
      have e : 4 * (n + 1) = 4 * n + 1 + 1 + 1 + 1 := by omega
      rw [e]
      simp only [cellsOf, List.drop_succ_cons, h2]
/-- Cells of a value as a number: some from a place on. -/
theorem wide_part (l : List Int) (hb : isBytes l) (i n : Nat) (h : 4 * (i + n) ≤ l.length) (hn : n ≤ 2) : Ev (fun k => prop_Wide.f k (((cellsOf l).take (i + n)).drop i)) (num ((l.drop (4 * i)).take (4 * n)), 0) := by
  have e : ((cellsOf l).take (i + n)).drop i = cellsOf ((l.drop (4 * i)).take (4 * n)) := by
    rw [List.drop_take, show i + n - i = n by omega, cells_drop i l (by omega), cells_take n _ (by rw [List.length_drop]; omega)]
  have hl : ((l.drop (4 * i)).take (4 * n)).length = 4 * n := by rw [List.length_take, List.length_drop]; omega
  have hbb : isBytes ((l.drop (4 * i)).take (4 * n)) := (hb.drop _).take _
  rw [e, ← wide_cells _ n hl hn]
  refine wide_ev _ (cells_range _ _ (Nat.le_refl _) hbb) ?_
  rw [cells_len, hl]
  omega
theorem refwide_ev (l : List Int) (hb : isBytes l) (hl : l.length ≤ 8) : Ev (fun k => arboretref12_wide.f k l) (num l) := by
  unfold arboretref12_wide.f
  have := number_ev l hb (by omega) 0 l.length (by omega) hl
  simp only [Int.natCast_zero, List.drop_zero, List.take_length] at this
  exact Ev.then this (Ev.some _)
end Go.Proofs.Yteejaaeglfpcmaa.PX

/- The pure side of RegionReg: windows by cells are windows by bytes, or both are refused. Bulk at most 1048576. -/
set_option linter.unusedVariables false
set_option linter.unusedSimpArgs false
namespace Go.Proofs.Yteejaaeglfpcmaa.Pure
open Go.RowKit Go.Proofs.Yteejaaeglfpcmaa.PX Go.Proofs.Yteejaaeglfpcmaa.Rdr Go.Proofs.Yteejaaeglfpcmaa.Aid Go.Proofs.YteejaaeglfpcmaaW.PrintWords
/-- So many windows of a and s cells. -/
def regs (a s : Nat) : Nat → List Int → List (Int × Int)
  | 0, _ => []
  | m + 1, l => (num (l.take (4 * a)), num ((l.drop (4 * a)).take (4 * s))) :: regs a s m (l.drop (4 * (a + s)))
theorem regs_len (a s : Nat) : ∀ (m : Nat) (l : List Int), (regs a s m l).length = m
  | 0, _ => rfl
  | m + 1, l => by simp only [regs, List.length_cons, regs_len a s m]
def win1 (p : Int × Int) : S57 := ⟨p.1, p.2⟩
def win2 (p : Int × Int) : S58 := ⟨p.1, p.2⟩
theorem reg_loop (a s : Nat) (ha : 1 ≤ a ∧ a ≤ 2) (hs : s ≤ 2) : ∀ (m : Nat) (l : List Int) (acc : List S57), isBytes l → l.length = 4 * (a + s) * m → l.length ≤ 1048576 → acc.length + m ≤ 1048576 →
    Ev (fun k => region_Reg.l0 k (a : Int) (s : Int) (cellsOf l) acc) (acc ++ (regs a s m l).map win1, 0) := by
  intro m
  induction m with
  | zero =>
    intro l acc hb hl h1 h2
    obtain rfl : l = [] := List.eq_nil_of_length_eq_zero (by simpa using hl)
    refine Ev.succ ?_
    simp only [region_Reg.l0, regs, cellsOf, List.map_nil, List.append_nil]
    exact Ev.neg (by decide) (Ev.some _)
  | succ m ih =>
    intro l acc hb hl h1 h2
    rw [Nat.mul_succ] at hl
    have hcl := cells_len l
    have hw : wrap64 ((a : Int) + (s : Int)) = ((a + s : Nat) : Int) := by unfold wrap64; omega
    have p1 := wide_part l hb 0 a (by omega) ha.2
    have p2 := wide_part l hb a s (by omega) hs
    simp only [Nat.zero_add, Nat.mul_zero, List.drop_zero] at p1
    have hd := cells_drop (a + s) l (by omega)
    have h3 := ih (l.drop (4 * (a + s))) (acc ++ [win1 (num (l.take (4 * a)), num ((l.drop (4 * a)).take (4 * s)))]) (hb.drop _) (by rw [List.length_drop]; omega) (by rw [List.length_drop]; omega) (by rw [List.length_append, List.length_singleton]; omega)
    rw [List.append_assoc, List.singleton_append] at h3
    refine Ev.succ ?_
    simp only [region_Reg.l0, hw, Int.toNat_natCast, hd, regs, List.map_cons]
    exact Ev.pos (by omega) (Ev.pos (Int.natCast_nonneg a) (Ev.pos (by omega) (Ev.then p1 (Ev.pos (by omega) (Ev.pos (by omega) (Ev.then p2 (Ev.pos (by omega) (Ev.pos (Int.natCast_nonneg _) h3))))))))
theorem refreg_loop (b : List Int) (hb : isBytes b) (hl : b.length ≤ 1048576) (a s : Nat) (ha : 1 ≤ a ∧ a ≤ 2) (hs : s ≤ 2) : ∀ (m i : Nat) (acc : List S58), i + 4 * (a + s) * m = b.length → acc.length + m ≤ 1048576 →
    Ev (fun k => arboretref12_Reg.l0 k b (a : Int) (s : Int) acc (i : Int)) (acc ++ (regs a s m (b.drop i)).map win2, true) := by
  intro m
  induction m with
  | zero =>
    intro i acc hi h2
    refine Ev.succ ?_
    simp only [arboretref12_Reg.l0, regs, List.map_nil, List.append_nil]
    exact Ev.neg (by omega) (Ev.some _)
  | succ m ih =>
    intro i acc hi h2
    rw [Nat.mul_succ] at hi
    have w1 : wrap64 (4 * (a : Int)) = ((4 * a : Nat) : Int) := by unfold wrap64; omega
    have w2 : wrap64 (4 * (s : Int)) = ((4 * s : Nat) : Int) := by unfold wrap64; omega
    have w3 : wrap64 ((i : Int) + ((4 * a : Nat) : Int)) = ((i + 4 * a : Nat) : Int) := by unfold wrap64; omega
    have w4 : wrap64 (((i + 4 * a : Nat) : Int) + ((4 * s : Nat) : Int)) = ((i + 4 * (a + s) : Nat) : Int) := by unfold wrap64; omega
    have e1 : (b.take (i + 4 * a)).drop i = (b.drop i).take (4 * a) := by rw [List.drop_take]; congr 1; omega
    have e2 : (b.take (i + 4 * (a + s))).drop (i + 4 * a) = ((b.drop i).drop (4 * a)).take (4 * s) := by rw [List.drop_take, List.drop_drop]; congr 1; omega
    have p1 := refwide_ev ((b.drop i).take (4 * a)) ((hb.drop _).take _) (by rw [List.length_take]; omega)
    have p2 := refwide_ev (((b.drop i).drop (4 * a)).take (4 * s)) (((hb.drop _).drop _).take _) (by rw [List.length_take]; omega)
    have h3 := ih (i + 4 * (a + s)) (acc ++ [win2 (num ((b.drop i).take (4 * a)), num (((b.drop i).drop (4 * a)).take (4 * s)))]) (by omega) (by rw [List.length_append, List.length_singleton]; omega)
    rw [List.append_assoc, List.singleton_append, ← List.drop_drop] at h3
    refine Ev.succ ?_
    simp only [arboretref12_Reg.l0, w1, w2, w3, w4, Int.toNat_natCast, e1, e2, regs, List.map_cons]
    exact Ev.pos (by omega) (Ev.pos (Int.natCast_nonneg i) (Ev.pos (by omega) (Ev.pos (by omega) (Ev.then p1 (Ev.pos (Int.natCast_nonneg _) (Ev.pos (by omega) (Ev.pos (by omega) (Ev.then p2 (Ev.pos (by omega) h3)))))))))
abbrev sReg : ByteArray := ⟨#[114, 101, 103]⟩
def regE (b : Bool) : Int := if b = true then 0 else 10
def regB (par : S39) (b : List Int) : List (Int × Int) × Bool :=
  if 0 ≤ cAddr par ∧ 0 ≤ cSize par ∧ cAddr par ≠ 0 ∧ b.length % (4 * ((cAddr par).toNat + (cSize par).toNat)) = 0 then (regs (cAddr par).toNat (cSize par).toNat (b.length / (4 * ((cAddr par).toNat + (cSize par).toNat))) b, true) else ([], false)
theorem regB_yes {par : S39} {b : List Int} {a s : Nat} (ha : cAddr par = (a : Int)) (hs : cSize par = (s : Int)) (h0 : ¬ (a : Int) = 0) (h4 : b.length % (4 * (a + s)) = 0) : regB par b = (regs a s (b.length / (4 * (a + s))) b, true) := by
  unfold regB
  rw [ha, hs, Int.toNat_natCast, Int.toNat_natCast, if_pos ⟨Int.natCast_nonneg a, Int.natCast_nonneg s, h0, h4⟩]
theorem regB_no {par : S39} {b : List Int} (h : ¬ (0 ≤ cAddr par ∧ 0 ≤ cSize par ∧ cAddr par ≠ 0 ∧ b.length % (4 * ((cAddr par).toNat + (cSize par).toNat)) = 0)) : regB par b = ([], false) := if_neg h
/-- What is told of a node's windows: the list, and whether it may be. -/
def regSpec (par x : S39) : List (Int × Int) × Bool := match valP sReg.toList x.f1 with
  | none => ([], true)
  | some b => regB par b
theorem reg_ev (par x : S39) (hp : bulk39 par ≤ 1048576) (hx : bulk39 x ≤ 1048576) (gp : good39 par) (gx : good39 x) :
    Ev (fun k => region_Reg.f k par.f0 par.f1 par.f2 x.f0 x.f1 x.f2) ((regSpec par x).1.map win1, regE (regSpec par x).2) := by
  have ra := cAddr_range par gp
  have rs := cSize_range par gp
  unfold region_Reg.f
  refine Ev.then (find_ev x sReg hx) ?_
  unfold findN regSpec
  cases hv : valP sReg.toList x.f1 with
  | none => exact Ev.neg (by decide) (Ev.some _)
  | some b =>
    obtain ⟨p, hpm, rfl⟩ := valP_mem hv
    have hby : isBytes p.f1 := good_value p (((good_eq x).mp gx).1 p hpm)
    have hbl := bulk_prop hpm
    have hbv := bulk_value p
    generalize p.f1 = b at *
    dsimp only
    refine Ev.pos rfl (Ev.then (counts_ev par hp gp) ?_)
    by_cases h : 0 ≤ cAddr par ∧ 0 ≤ cSize par
    · have e : countsOf par = (cAddr par, cSize par, 0) := if_pos h
      rw [e]
      refine Ev.pos rfl ?_
      obtain ⟨a, ha⟩ := Int.eq_ofNat_of_zero_le h.1
      obtain ⟨s, hs⟩ := Int.eq_ofNat_of_zero_le h.2
      have ha2 : (a : Int) ≤ 2 := by omega
      have hs2 : (s : Int) ≤ 2 := by omega
      have ht : (cAddr par).toNat + (cSize par).toNat = a + s := by rw [ha, hs]; rfl
      rw [ha, hs]
      by_cases h0 : (a : Int) = 0
      · rw [regB_no (fun h => h.2.2.1 (by omega))]
        exact Ev.pos h0 (Ev.some _)
      · have w : wrap64 (4 * (wrap64 ((a : Int) + (s : Int)))) = ((4 * (a + s) : Nat) : Int) := by rw [w64 (x := (a : Int) + (s : Int)) (by omega) (by omega), w64 (by omega) (by omega)]; omega
        simp only [w]
        refine Ev.neg h0 (Ev.neg (by omega) ?_)
        by_cases h4 : b.length % (4 * (a + s)) = 0
        · rw [regB_yes ha hs h0 h4]
          have hm : b.length % 4 = 0 := by
            have := Nat.mod_mul_right_mod b.length 4 (a + s)
            rw [h4] at this
            omega
          have hc := cells_ev b hby (by omega)
          rw [if_pos hm] at hc
          have hdiv : b.length = 4 * (a + s) * (b.length / (4 * (a + s))) := by
            have := Nat.div_add_mod b.length (4 * (a + s))
            omega
          have hle : b.length / (4 * (a + s)) ≤ b.length := Nat.div_le_self _ _
          have hl := reg_loop a s ⟨by omega, by omega⟩ (by omega : s ≤ 2) (b.length / (4 * (a + s))) b [] hby hdiv (by omega) (by simp only [List.length_nil, Nat.zero_add]; exact Nat.le_trans hle (by omega))
          simp only [List.nil_append] at hl
          refine Ev.pos (by omega) (Ev.then hc hl)
        · rw [regB_no (fun h => h4 (by have z := h.2.2.2; rw [ht] at z; exact z))]
          exact Ev.neg (by omega) (Ev.some _)
    · have e : countsOf par = (0, 0, 10) := if_neg h
      rw [e, regB_no (fun h2 => h ⟨h2.1, h2.2.1⟩)]
      exact Ev.neg (by decide) (Ev.some _)
theorem refreg_ev (par x : S39) (hp : bulk39 par ≤ 1048576) (hx : bulk39 x ≤ 1048576) (gp : good39 par) (gx : good39 x) :
    Ev (fun k => arboretref12_Reg.f k par.f0 par.f1 par.f2 x.f0 x.f1 x.f2) ((regSpec par x).1.map win2, (regSpec par x).2) := by
  have ra := cAddr_range par gp
  have rs := cSize_range par gp
  unfold arboretref12_Reg.f
  refine Ev.then (reffind_ev x sReg hx) ?_
  unfold regSpec
  rcases ixP_val sReg.toList x.f1 0 with ⟨h1, h2⟩ | ⟨j, hj, h2, h3⟩
  · rw [h1, h2]
    exact Ev.pos (by decide) (Ev.some _)
  · rw [h2, h3, Nat.zero_add]
    have hpm := getP (xs := x.f1) (i := j) hj
    have hby : isBytes (x.f1.getD j z104).f1 := good_value _ (((good_eq x).mp gx).1 _ hpm)
    have hbl := bulk_prop hpm
    have hbv := bulk_value (x.f1.getD j z104)
    simp only [rdP]
    generalize (x.f1.getD j z104).f1 = b at *
    refine Ev.neg (by omega) (Ev.pos (Int.natCast_nonneg j) (Ev.pos (by omega) (Ev.then (refcounts_ev par hp gp) ?_)))
    by_cases h : 0 ≤ cAddr par ∧ 0 ≤ cSize par
    · rw [decide_eq_true h]
      refine Ev.pos rfl ?_
      obtain ⟨a, ha⟩ := Int.eq_ofNat_of_zero_le h.1
      obtain ⟨s, hs⟩ := Int.eq_ofNat_of_zero_le h.2
      have ha2 : (a : Int) ≤ 2 := by omega
      have hs2 : (s : Int) ≤ 2 := by omega
      have ht : (cAddr par).toNat + (cSize par).toNat = a + s := by rw [ha, hs]; rfl
      rw [ha, hs]
      by_cases h0 : (a : Int) = 0
      · rw [regB_no (fun h => h.2.2.1 (by omega))]
        refine Ev.pos h0 (Ev.succ ?_)
        simp only [arboretref12_Reg.j0]
        exact Ev.pos trivial (Ev.some _)
      · have w : wrap64 ((wrap64 (4 * (a : Int))) + (wrap64 (4 * (s : Int)))) = ((4 * (a + s) : Nat) : Int) := by rw [w64 (x := 4 * (a : Int)) (by omega) (by omega), w64 (x := 4 * (s : Int)) (by omega) (by omega), w64 (by omega) (by omega)]; omega
        simp only [w]
        refine Ev.neg h0 (Ev.neg (by omega) (Ev.succ ?_))
        simp only [arboretref12_Reg.j0]
        by_cases h4 : b.length % (4 * (a + s)) = 0
        · rw [regB_yes ha hs h0 h4]
          have hb0 : (((b.length : Int) % ((4 * (a + s) : Nat) : Int)) != 0) = false := by
            rw [bne_eq_false_iff_eq]
            omega
          rw [hb0]
          have hdiv : 0 + 4 * (a + s) * (b.length / (4 * (a + s))) = b.length := by
            have := Nat.div_add_mod b.length (4 * (a + s))
            omega
          have hle : b.length / (4 * (a + s)) ≤ b.length := Nat.div_le_self _ _
          have hl := refreg_loop b hby (by omega) a s ⟨by omega, by omega⟩ (by omega) (b.length / (4 * (a + s))) 0 [] hdiv (by simp only [List.length_nil]; omega)
          simp only [List.nil_append, List.drop_zero] at hl
          exact Ev.neg (by decide) hl
        · rw [regB_no (fun h => h4 (by have z := h.2.2.2; rw [ht] at z; exact z))]
          have hb0 : (((b.length : Int) % ((4 * (a + s) : Nat) : Int)) != 0) = true := by
            rw [bne_iff_ne]
            omega
          rw [hb0]
          exact Ev.pos rfl (Ev.some _)
    · rw [decide_eq_false h, regB_no (fun h2 => h ⟨h2.1, h2.2.1⟩)]
      refine Ev.neg (by simp) (Ev.succ ?_)
      simp only [arboretref12_Reg.j0]
      exact Ev.pos trivial (Ev.some _)
theorem same_loop (l : List (Int × Int)) (hl : l.length ≤ 1048576) : ∀ (j i : Nat), i + j = l.length → Ev (fun k => arboretlaw12_RegionReg.l0 k (l.map win1) (l.map win2) (l.length : Int) (i : Int)) true := by
  intro j
  induction j with
  | zero =>
    intro i hi
    refine Ev.succ ?_
    simp only [arboretlaw12_RegionReg.l0]
    exact Ev.neg (by omega) (Ev.some _)
  | succ j ih =>
    intro i hi
    have hw := step64 (i := i) (n := l.length) (by omega) hl
    have e1 : rd_T57 (l.map win1) (i : Int) = win1 (l[i]'(by omega)) := by
      unfold rd_T57
      rw [Int.toNat_natCast, getD_at (by rw [List.length_map]; omega), List.getElem_map]
    have e2 : rd_T58 (l.map win2) (i : Int) = win2 (l[i]'(by omega)) := by
      unfold rd_T58
      rw [Int.toNat_natCast, getD_at (by rw [List.length_map]; omega), List.getElem_map]
    refine Ev.succ ?_
    simp only [arboretlaw12_RegionReg.l0, hw, e1, e2, List.length_map]
    exact Ev.pos (by omega) (Ev.pos (Int.natCast_nonneg i) (Ev.pos (by omega) (Ev.pos (by omega) (Ev.neg (by simp [win1, win2]) (ih (i + 1) (by omega))))))
theorem regSpec_len (par x : S39) (hx : bulk39 x ≤ 1048576) : (regSpec par x).1.length ≤ 1048576 := by
  unfold regSpec
  cases hv : valP sReg.toList x.f1 with
  | none => simp
  | some b =>
    obtain ⟨p, hpm, rfl⟩ := valP_mem hv
    have hbl := bulk_prop hpm
    have hbv := bulk_value p
    simp only [regB]
    split
    · rw [regs_len]
      have := Nat.div_le_self p.f1.length (4 * ((cAddr par).toNat + (cSize par).toNat))
      omega
    · simp
theorem regSpec_no (par x : S39) (h : (regSpec par x).2 = false) : (regSpec par x).1 = [] := by
  unfold regSpec at h ⊢
  cases hv : valP sReg.toList x.f1 with
  | none => rfl
  | some b =>
    rw [hv] at h
    simp only [regB] at h ⊢
    split
    · rename_i hc
      rw [if_pos hc] at h
      cases h
    · rfl
theorem RegionReg : arboretlaw12_RegionReg.Pure := by
  intro par x hb gp gx
  have hp : bulk39 par ≤ 1048576 := by omega
  have hx : bulk39 x ≤ 1048576 := by omega
  obtain ⟨v1, h1⟩ := few12_ends par hp
  obtain ⟨v2, h2⟩ := few12_ends x hx
  have last : ∀ b : Bool, Ev (fun k => arboretlaw12_RegionReg.j0 k b par.f0 par.f1 par.f2 x.f0 x.f1 x.f2) true := by
    intro b
    refine Ev.succ ?_
    simp only [arboretlaw12_RegionReg.j0]
    cases b with
    | true => exact Ev.pos rfl (Ev.then region_awake (Ev.some _))
    | false =>
      refine Ev.neg (by decide) (Ev.then (reg_ev par x hp hx gp gx) (Ev.then (refreg_ev par x hp hx gp gx) ?_))
      cases hk : (regSpec par x).2 with
      | true =>
        refine Ev.pos rfl (Ev.pos rfl (Ev.succ ?_))
        simp only [arboretlaw12_RegionReg.j1, List.length_map]
        refine Ev.neg (by simp) ?_
        have := same_loop (regSpec par x).1 (regSpec_len par x hx) (regSpec par x).1.length 0 (by omega)
        simpa using this
      | false =>
        have he := regSpec_no par x hk
        rw [he]
        exact Ev.neg (by simp) (Ev.pos rfl (Ev.some _))
  refine Ev.out (?_ : Ev (fun k => arboretlaw12_RegionReg.f k par.f0 par.f1 par.f2 x.f0 x.f1 x.f2) true)
  unfold arboretlaw12_RegionReg.f
  refine Ev.then region_awake (Ev.pos rfl (Ev.then h1 ?_))
  cases v1 with
  | true => exact Ev.pos rfl (Ev.then h2 (last _))
  | false => exact Ev.neg (by decide) (last _)
end Go.Proofs.Yteejaaeglfpcmaa.Pure

/- RegionReg: the given statement RegionRegUptoSaid, out of the walk's contract and the pure statement. Conditions: the row's own. -/
namespace Go.Proofs.Yteejaaeglfpcmaa.regionReg
open Go.ChangeShapes Go.WideShapes Go.ChangeAt Go.RowKit Go.Proofs.Yteejaaeglfpcmaa.Rdr Go.Proofs.Yteejaaeglfpcmaa.PX
open Go.ChangeMaps (open_string shut_string)
set_option linter.unusedVariables false
set_option linter.unusedSimpArgs false
theorem own : ownKnob Try.prog.godebug = none := by kernel_rfl
theorem laidOut : laidOutB Try.prog = true := by kernel_rfl
set_option maxRecDepth 100000 in
theorem contract (H : Type) (enc : TypeId × Value → H) (W : World) (base : Nat) (args : Array Value) (ds gs : List (DataW H)) (before : List MemPlace)
    (hval0 : ∀ (j : Nat) t v, Try.f13.params[j]? = some t → args[j]? = some v → Value.okWide Try.prog W .any base t v)
    (hW : DataW.Whole enc Try.prog Try.f13.params.toList Rows.regionRegSpec.vars false W args.toList ds gs before) (hk : Rows.uptoSmall H (ds ++ gs) = true) :
    Calls Try.prog 13 args W fun e W' => ∃ v, e = .returned v ∧ Rows.regionRegSpec.post enc Try.prog Try.f13 false true false false W args v W' := by
  have hval : ∀ (j : Nat) t v, Try.f13.params[j]? = some t → args[j]? = some v → Value.okWide Try.prog W .any base t v := hval0
  have hW' := hW
  obtain ⟨p, q, hA0, hV, rfl, hfz, hnd⟩ := hW
  have hA : DataW.TrodAll enc Try.prog W 0 (fun _ => true) true Try.f13.params.toList args.toList ds p := hA0
  rw [Try.params13] at hA hval
  obtain ⟨v0, vs0, d0, ds0, p0, q0, hargs, rfl, rfl, h0, tr0⟩ := trodAll_cons hA
  obtain ⟨v1, vs1, d1, ds1, p1, q1, rfl, rfl, rfl, h1, tr1⟩ := trodAll_cons tr0
  obtain ⟨rfl, rfl, rfl⟩ := trodAll_nil tr1
  obtain rfl : args = #[v0, v1] := by cases args; simp_all
  obtain ⟨rfl, rfl⟩ := trodVars_none hV
  have hb := bound hk
  simp only [List.append_nil, Rows.uptoBulkAll, List.nil_append] at hb
  have k0 := h0
  have lt0 : ∀ x ∈ p0, x.block < W.heap.size := by obtain ⟨m, hm⟩ := k0; exact DataW.trod_lt m _ _ _ hm
  have k1 := h1
  have lt1 : ∀ x ∈ p1, x.block < W.heap.size := by obtain ⟨m, hm⟩ := k1; exact DataW.trod_lt m _ _ _ hm
  obtain ⟨cs0, rfl, hcs0⟩ : ∃ cs, v0 = .agg cs ∧ True := by
    have z := (hval 0 39 v0 rfl rfl)
    simp only [Value.okWide, Try.underlying39] at z
    obtain ⟨cs, hc, _⟩ := z
    exact ⟨cs, hc, trivial⟩
  obtain ⟨f0, hf0⟩ := h0
  obtain ⟨x0, K0, b0, g0⟩ := rd39 W f0 H enc f0 (Nat.le_refl _) _ _ hf0
  obtain ⟨A0_1, c0_1, A0_2, c0_2, e0, l0_1, r0_1, l0_2, r0_2⟩ := k39_open K0
  obtain ⟨cl0⟩ := cs0
  have e0' : cl0 = _ := e0
  subst e0'
  obtain ⟨cs1, rfl, hcs1⟩ : ∃ cs, v1 = .agg cs ∧ True := by
    have z := (hval 1 39 v1 rfl rfl)
    simp only [Value.okWide, Try.underlying39] at z
    obtain ⟨cs, hc, _⟩ := z
    exact ⟨cs, hc, trivial⟩
  obtain ⟨f1, hf1⟩ := h1
  obtain ⟨x1, K1, b1, g1⟩ := rd39 W f1 H enc f1 (Nat.le_refl _) _ _ hf1
  obtain ⟨A1_1, c1_1, A1_2, c1_2, e1, l1_1, r1_1, l1_2, r1_2⟩ := k39_open K1
  obtain ⟨cl1⟩ := cs1
  have e1' : cl1 = _ := e1
  subst e1'
  obtain ⟨k, hk_⟩ := Pure.RegionReg x0 x1 (by (try simp only [Rows.uptoBulk, Array.length_toList] at hb); first | omega | (simp only [ByteArray.size] at *; omega)) g0 g1
  refine (arboretlaw12_RegionReg.calls k x0.f0 A0_1 c0_1 x0.f1 A0_2 c0_2 x0.f2 x1.f0 A1_1 c1_1 x1.f1 A1_2 c1_2 x1.f2 true W r0_1 l0_1 r0_2 l0_2 r1_1 l1_1 r1_2 l1_2 hk_).mono fun e W' ⟨he, bel0⟩ => ?_
  have bel : Below W.heap.size W W' := bel0
  subst he
  exact ⟨_, rfl, _, _, _, [], _, [], hW', trodAll_mk1 (shut_bool Try.underlying4 _), (trodAll_cons_mk (Below.trod laidOut (by kernel_rfl) (of_decide_eq_true (by kernel_rfl)) k0 bel lt0) (trodAll_cons_mk (Below.trod laidOut (by kernel_rfl) (of_decide_eq_true (by kernel_rfl)) k1 bel lt1) trodAll_mk0)), rfl, bel.frame _, fun h => by cases h⟩
set_option maxRecDepth 100000 in
theorem lifted (os : Os) (started : os.Started) (H : Type) (enc : TypeId × Value → H) (F : Stop.Interp) :
    ReturnsInHanded {} Try.checked os 13 .any ((Rows.OpenSpec.upto Rows.regionRegSpec).pre6 enc Try.prog Try.f13 Rows.regionRegUptoRow.domain false) (((Rows.OpenSpec.upto Rows.regionRegSpec).at F).post enc Try.prog Try.f13 false true false false) := by
  refine returnsInHanded_of_cond (C := Try.checked) (s := Rows.OpenSpec.upto Rows.regionRegSpec) (k := Rows.uptoSmall) rfl own started (by kernel_rfl) Try.func13
    (OpenSpec.witness (enc := enc) (C := Try.checked) (s := Rows.OpenSpec.upto Rows.regionRegSpec) (k := Rows.uptoSmall) rfl false ⟨#[], #[.agg #[.string ByteArray.empty, .slice none 0 0, .slice none 0 0], .agg #[.string ByteArray.empty, .slice none 0 0, .slice none 0 0]], []⟩ 16 (by kernel_rfl) (by kernel_rfl) (by kernel_rfl)
      (x := ([.agg [.lit (.string []), .nil, .nil], .agg [.lit (.string []), .nil, .nil]], [], [])) (by kernel_rfl) rfl (by kernel_rfl)) ?_
  intro W base args ds gs before hval hW _ hk _
  exact contract H enc W base args ds gs before hval hW hk
theorem over : Rows.regionRegUptoRow.holds Try.pinned (Rows.OpenSpec.upto Rows.regionRegSpec) :=
  OpenClaim.holds_of_cond 13 Try.f13 rfl rfl rfl rfl rfl rfl rfl ⟨rfl, rfl, rfl, rfl, rfl⟩ rfl rfl rfl rfl rfl (by kernel_rfl) Try.func13 (by kernel_rfl)
    (of_decide_eq_true (by kernel_rfl)) (by unfold Func.isWrapper; first | (rw [if_pos (by decide +kernel)]; kernel_rfl) | (rw [if_neg (by decide +kernel)]; exact ⟨rfl, rfl⟩))
    (fun os started H enc _ F => lifted os started H enc F)
theorem proved : Rows.RegionRegUptoSaid := over
end Go.Proofs.Yteejaaeglfpcmaa.regionReg
namespace Go.Proofs.Yteejaaeglfpcmaa
/-- The row, under a short name, for the claim. -/
theorem regionReg_holds : Rows.RegionRegUptoSaid := regionReg.proved
end Go.Proofs.Yteejaaeglfpcmaa
