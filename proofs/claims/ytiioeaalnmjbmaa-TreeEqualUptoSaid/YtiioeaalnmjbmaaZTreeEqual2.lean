/- TreeEqual: texts of this session's, and what the kit's print laid for this seat, as far as the law's row uses them (PEx_arboretref01_SameTree, PEx_arboretlaw03_size, PEx_arboretlaw03_Few, PEx_tree_names, PEx_arboretlaw03_awake, Treq1, Aid, Rdr, TreeC, Treq2, PEKinds, Tree, CloneB, CloneN, Same1, Treq3, PEStateTreeEqual, PureTreeEqual, LawTreeEqual). -/
import Derived.Lib.EndianBits
import Derived.Test.YtiioeaalnmjbmaaRows
import Derived.ChangeArms
import Derived.DataReads
import Derived.Deep.Slices
import Derived.ProofKit
import Derived.OpenShut
import Derived.ShutString
import Derived.ChangeOld
import Derived.JoinedCond
import Derived.Deep.CondSized
import Derived.Test.YtiioeaalnmjbmaaZTreeEqual1
set_option linter.unusedVariables false
set_option linter.unusedSimpArgs false
namespace Go.Proofs.Ytiioeaalnmjbmaa.PE
open Go.RowKit Go.Proofs.YtiioeaalnmjbmaaW.PrintWords Go.Proofs.YtiioeaalnmjbmaaW.PrintLast Go.Proofs.YtiioeaalnmjbmaaW.PrintMore
attribute [local go_sem] max2_int min2_int max_two min_two max_three min_three max_four min_four   -- for this text's walks alone
set_option linter.unusedVariables false
set_option linter.unusedSimpArgs false
attribute [local go_sem high] eqA45
mutual
def arboretref01_SameTree.j0 : Nat → Bool → Int → List (S45) → ByteArray → List (S35) → List (S27) → Int → List (S45) → ByteArray → List (S35) → List (S27) → Option (Bool)
  | 0, _, _, _, _, _, _, _, _, _, _, _ => none
  | k + 1, x19, x337000, x337001, x337002, x337003, x337004, x338000, x338001, x338002, x338003, x338004 => if x19 = true then (some false) else (arboretref01_SameTree.l0 k (x337001.length : Int) 0 x337000 x337001 x337002 x337003 x337004 x338000 x338001 x338002 x338003 x338004)
def arboretref01_SameTree.l0 : Nat → Int → Int → Int → List (S45) → ByteArray → List (S35) → List (S27) → Int → List (S45) → ByteArray → List (S35) → List (S27) → Option (Bool)
  | 0, _, _, _, _, _, _, _, _, _, _, _, _ => none
  | k + 1, x22, x23, x337000, x337001, x337002, x337003, x337004, x338000, x338001, x338002, x338003, x338004 => if x23 < x22 then (if 0 ≤ x23 then (if x23 < (x337001.length : Int) then (if x23 < (x338001.length : Int) then (if (!(((rd_T45 x337001 x23).f0) == ((rd_T45 x338001 x23).f0)) || (!(((rd_T45 x337001 x23).f1) == ((rd_T45 x338001 x23).f1)))) = true then (some false) else (arboretref01_SameTree.l0 k x22 (wrap64 (x23 + 1)) x337000 x337001 x337002 x337003 x337004 x338000 x338001 x338002 x338003 x338004)) else (none)) else (none)) else (none)) else ((arboretref01_Same.f k x337002 x337003 x337004 x338002 x338003 x338004).bind fun t340 => (some t340))
end
def arboretref01_SameTree.f (k : Nat) (a0_0 : Int) (l0_1 : List (S45)) (a0_2 : ByteArray) (l0_3 : List (S35)) (l0_4 : List (S27)) (a1_0 : Int) (l1_1 : List (S45)) (a1_2 : ByteArray) (l1_3 : List (S35)) (l1_4 : List (S27)) : Option (Bool) := if a0_0 = a1_0 then (arboretref01_SameTree.j0 k ((l0_1.length : Int) != (l1_1.length : Int)) a0_0 l0_1 a0_2 l0_3 l0_4 a1_0 l1_1 a1_2 l1_3 l1_4) else (arboretref01_SameTree.j0 k true a0_0 l0_1 a0_2 l0_3 l0_4 a1_0 l1_1 a1_2 l1_3 l1_4)
set_option maxHeartbeats 8000000 in
set_option maxRecDepth 100000 in
theorem arboretref01_SameTree.calls (k : Nat) (a0_0 : Int) (A0_1 : Option Addr) (c0_1 : Nat) (l0_1 : List (S45)) (a0_2 : ByteArray) (A0_3 : Option Addr) (c0_3 : Nat) (l0_3 : List (S35)) (A0_4 : Option Addr) (c0_4 : Nat) (l0_4 : List (S27)) (a1_0 : Int) (A1_1 : Option Addr) (c1_1 : Nat) (l1_1 : List (S45)) (a1_2 : ByteArray) (A1_3 : Option Addr) (c1_3 : Nat) (l1_3 : List (S35)) (A1_4 : Option Addr) (c1_4 : Nat) (l1_4 : List (S27)) (r : Bool) (w : World) (hr0_1 : Kd.C k45 w A0_1 l0_1.length l0_1) (hc0_1 : l0_1.length ≤ c0_1) (hr0_3 : Kd.C k35 w A0_3 l0_3.length l0_3) (hc0_3 : l0_3.length ≤ c0_3) (hr0_4 : Kd.C k27 w A0_4 l0_4.length l0_4) (hc0_4 : l0_4.length ≤ c0_4) (hr1_1 : Kd.C k45 w A1_1 l1_1.length l1_1) (hc1_1 : l1_1.length ≤ c1_1) (hr1_3 : Kd.C k35 w A1_3 l1_3.length l1_3) (hc1_3 : l1_3.length ≤ c1_3) (hr1_4 : Kd.C k27 w A1_4 l1_4.length l1_4) (hc1_4 : l1_4.length ≤ c1_4) (h : arboretref01_SameTree.f k a0_0 l0_1 a0_2 l0_3 l0_4 a1_0 l1_1 a1_2 l1_3 l1_4 = some r) :
    Calls Try.prog 8 #[.agg #[.int .u32 a0_0, .slice A0_1 l0_1.length c0_1, .string a0_2, .slice A0_3 l0_3.length c0_3, .slice A0_4 l0_4.length c0_4], .agg #[.int .u32 a1_0, .slice A1_1 l1_1.length c1_1, .string a1_2, .slice A1_3 l1_3.length c1_3, .slice A1_4 l1_4.length c1_4]] w fun e w' => e = .returned (.bool r) ∧ Below w.heap.size w w' := by
  have hu29 := Try.underlying29
  have hu45 := Try.underlying45
  have hu27 := Try.underlying27
  have HR0_1 := Aside0.mk hr0_1
  have HC0_1 := Aside0.mk hc0_1
  clear hr0_1 hc0_1
  have HR0_3 := Aside0.mk hr0_3
  have HC0_3 := Aside0.mk hc0_3
  clear hr0_3 hc0_3
  have HR0_4 := Aside0.mk hr0_4
  have HC0_4 := Aside0.mk hc0_4
  clear hr0_4 hc0_4
  have HR1_1 := Aside0.mk hr1_1
  have HC1_1 := Aside0.mk hc1_1
  clear hr1_1 hc1_1
  have HR1_3 := Aside0.mk hr1_3
  have HC1_3 := Aside0.mk hc1_3
  clear hr1_3 hc1_3
  have HR1_4 := Aside0.mk hr1_4
  have HC1_4 := Aside0.mk hc1_4
  clear hr1_4 hc1_4
  have HB := Aside0.mk (Below.refl w.heap.size w)
  have H : (if a0_0 = a1_0 then (arboretref01_SameTree.j0 k ((l0_1.length : Int) != (l1_1.length : Int)) a0_0 l0_1 a0_2 l0_3 l0_4 a1_0 l1_1 a1_2 l1_3 l1_4) else (arboretref01_SameTree.j0 k true a0_0 l0_1 a0_2 l0_3 l0_4 a1_0 l1_1 a1_2 l1_3 l1_4)) = some r := h
  clear h
  have HC3 := Aside0.mk H
  clear H
  go_enter Try.func8, Try.ntmps8
  go_upto_region 1 with (first | ((with_reducible refine gate_dst (N := 2) rfl ?_); (try (refine gate_guard (by rfl) ?_; dsimp only)); refine box_event ?hg (N := 2) ?hd (cs := #[.int .u32 a0_0, .slice A0_1 l0_1.length c0_1, .string a0_2, .slice A0_3 l0_3.length c0_3, .slice A0_4 l0_4.length c0_4]) (t := 29) ?hr ?_; (case hd => rfl); (case hg => rfl); (case hr => first | (go_simp; done) | (go_simp; rfl)); intro gb336 hg w4 hbox hb; have n0_ := Aside0.mk (below_step (by repeat (first | (with_reducible first | exact HB.out | apply below_alloc | apply pw_below_drewN | apply below_drew1) | exact HB.out)) hb); have n1_ := Aside0.mk (hbox); have n2_ := Aside0.mk ((by rw [hg]; exact (below_size (by repeat (first | (with_reducible first | exact HB.out | apply below_alloc | apply pw_below_drewN | apply below_drew1) | exact HB.out))) : w.heap.size ≤ gb336)); have n3_ := Aside0.mk ((by rw [hg]; exact (below_size (by repeat (first | (with_reducible first | exact HB.out | apply below_alloc | apply pw_below_drewN | apply below_drew1) | exact HB.out))) : w.heap.size ≤ gb336)); clear HB; have HB := n0_; have BK336 := n1_; have GW336 := n2_; have GE336 := n3_; clear n0_ n1_ n2_ n3_; clear hb hbox hg) | ((with_reducible refine gate_dst (N := 3) rfl ?_); (try (refine gate_guard (by rfl) ?_; dsimp only)); refine box_event ?hg (N := 3) ?hd (cs := #[.int .u32 a1_0, .slice A1_1 l1_1.length c1_1, .string a1_2, .slice A1_3 l1_3.length c1_3, .slice A1_4 l1_4.length c1_4]) (t := 29) ?hr ?_; (case hd => rfl); (case hg => rfl); (case hr => first | (go_simp; done) | (go_simp; rfl)); intro gb337 hg w5 hbox hb; have n0_ := Aside0.mk (blk_below (g := gb336) (o := .cells #[.int .u32 a0_0, .slice A0_1 l0_1.length c0_1, .string a0_2, .slice A0_3 l0_3.length c0_3, .slice A0_4 l0_4.length c0_4] 29 (0, 0)) (by (with_reducible repeat (first | refine blk_drewN ?_ _ | refine blk_drew ?_ | refine blk_alloc ?_ _)); exact BK336.out) hb); have n1_ := Aside0.mk (below_step (by repeat (first | (with_reducible first | exact HB.out | apply below_alloc | apply pw_below_drewN | apply below_drew1 | refine below_set ?_ GE336.out) | exact HB.out)) hb); have n2_ := Aside0.mk (hbox); have n3_ := Aside0.mk ((by rw [hg]; exact (below_size (by repeat (first | (with_reducible first | exact HB.out | apply below_alloc | apply pw_below_drewN | apply below_drew1 | refine below_set ?_ GE336.out) | exact HB.out))) : w.heap.size ≤ gb337)); have n4_ := Aside0.mk ((by rw [hg]; exact (below_size (by repeat (first | (with_reducible first | exact HB.out | apply below_alloc | apply pw_below_drewN | apply below_drew1 | refine below_set ?_ GE336.out) | exact HB.out))) : w.heap.size ≤ gb337)); have n5_ := Aside0.mk ((by rw [hg]; exact Nat.ne_of_lt (blk_lt (g := gb336) (o := .cells #[.int .u32 a0_0, .slice A0_1 l0_1.length c0_1, .string a0_2, .slice A0_3 l0_3.length c0_3, .slice A0_4 l0_4.length c0_4] 29 (0, 0)) (by (with_reducible repeat (first | refine blk_drewN ?_ _ | refine blk_drew ?_ | refine blk_alloc ?_ _)); exact BK336.out)) : gb336 ≠ gb337)); have n6_ := Aside0.mk ((by rw [hg]; exact Nat.ne_of_gt (blk_lt (g := gb336) (o := .cells #[.int .u32 a0_0, .slice A0_1 l0_1.length c0_1, .string a0_2, .slice A0_3 l0_3.length c0_3, .slice A0_4 l0_4.length c0_4] 29 (0, 0)) (by (with_reducible repeat (first | refine blk_drewN ?_ _ | refine blk_drew ?_ | refine blk_alloc ?_ _)); exact BK336.out)) : gb337 ≠ gb336)); clear BK336; clear HB; have BK336 := n0_; have HB := n1_; have BK337 := n2_; have GW337 := n3_; have GE337 := n4_; have NB336_337 := n5_; have NB337_336 := n6_; clear n0_ n1_ n2_ n3_ n4_ n5_ n6_; clear hb hbox hg))
  repeat (go_quiet (first | ((with_reducible refine gate_dst (N := 2) rfl ?_); (try (refine gate_guard (by rfl) ?_; dsimp only)); refine box_event ?hg (N := 2) ?hd (cs := #[.int .u32 a0_0, .slice A0_1 l0_1.length c0_1, .string a0_2, .slice A0_3 l0_3.length c0_3, .slice A0_4 l0_4.length c0_4]) (t := 29) ?hr ?_; (case hd => rfl); (case hg => rfl); (case hr => first | (go_simp; done) | (go_simp; rfl)); intro gb336 hg w4 hbox hb; have n0_ := Aside0.mk (below_step (by repeat (first | (with_reducible first | exact HB.out | apply below_alloc | apply pw_below_drewN | apply below_drew1) | exact HB.out)) hb); have n1_ := Aside0.mk (hbox); have n2_ := Aside0.mk ((by rw [hg]; exact (below_size (by repeat (first | (with_reducible first | exact HB.out | apply below_alloc | apply pw_below_drewN | apply below_drew1) | exact HB.out))) : w.heap.size ≤ gb336)); have n3_ := Aside0.mk ((by rw [hg]; exact (below_size (by repeat (first | (with_reducible first | exact HB.out | apply below_alloc | apply pw_below_drewN | apply below_drew1) | exact HB.out))) : w.heap.size ≤ gb336)); clear HB; have HB := n0_; have BK336 := n1_; have GW336 := n2_; have GE336 := n3_; clear n0_ n1_ n2_ n3_; clear hb hbox hg) | ((with_reducible refine gate_dst (N := 3) rfl ?_); (try (refine gate_guard (by rfl) ?_; dsimp only)); refine box_event ?hg (N := 3) ?hd (cs := #[.int .u32 a1_0, .slice A1_1 l1_1.length c1_1, .string a1_2, .slice A1_3 l1_3.length c1_3, .slice A1_4 l1_4.length c1_4]) (t := 29) ?hr ?_; (case hd => rfl); (case hg => rfl); (case hr => first | (go_simp; done) | (go_simp; rfl)); intro gb337 hg w5 hbox hb; have n0_ := Aside0.mk (blk_below (g := gb336) (o := .cells #[.int .u32 a0_0, .slice A0_1 l0_1.length c0_1, .string a0_2, .slice A0_3 l0_3.length c0_3, .slice A0_4 l0_4.length c0_4] 29 (0, 0)) (by (with_reducible repeat (first | refine blk_drewN ?_ _ | refine blk_drew ?_ | refine blk_alloc ?_ _)); exact BK336.out) hb); have n1_ := Aside0.mk (below_step (by repeat (first | (with_reducible first | exact HB.out | apply below_alloc | apply pw_below_drewN | apply below_drew1 | refine below_set ?_ GE336.out) | exact HB.out)) hb); have n2_ := Aside0.mk (hbox); have n3_ := Aside0.mk ((by rw [hg]; exact (below_size (by repeat (first | (with_reducible first | exact HB.out | apply below_alloc | apply pw_below_drewN | apply below_drew1 | refine below_set ?_ GE336.out) | exact HB.out))) : w.heap.size ≤ gb337)); have n4_ := Aside0.mk ((by rw [hg]; exact (below_size (by repeat (first | (with_reducible first | exact HB.out | apply below_alloc | apply pw_below_drewN | apply below_drew1 | refine below_set ?_ GE336.out) | exact HB.out))) : w.heap.size ≤ gb337)); have n5_ := Aside0.mk ((by rw [hg]; exact Nat.ne_of_lt (blk_lt (g := gb336) (o := .cells #[.int .u32 a0_0, .slice A0_1 l0_1.length c0_1, .string a0_2, .slice A0_3 l0_3.length c0_3, .slice A0_4 l0_4.length c0_4] 29 (0, 0)) (by (with_reducible repeat (first | refine blk_drewN ?_ _ | refine blk_drew ?_ | refine blk_alloc ?_ _)); exact BK336.out)) : gb336 ≠ gb337)); have n6_ := Aside0.mk ((by rw [hg]; exact Nat.ne_of_gt (blk_lt (g := gb336) (o := .cells #[.int .u32 a0_0, .slice A0_1 l0_1.length c0_1, .string a0_2, .slice A0_3 l0_3.length c0_3, .slice A0_4 l0_4.length c0_4] 29 (0, 0)) (by (with_reducible repeat (first | refine blk_drewN ?_ _ | refine blk_drew ?_ | refine blk_alloc ?_ _)); exact BK336.out)) : gb337 ≠ gb336)); clear BK336; clear HB; have BK336 := n0_; have HB := n1_; have BK337 := n2_; have GW337 := n3_; have GE337 := n4_; have NB336_337 := n5_; have NB337_336 := n6_; clear n0_ n1_ n2_ n3_ n4_ n5_ n6_; clear hb hbox hg)); go_upto_region 1 with (first | ((with_reducible refine gate_dst (N := 2) rfl ?_); (try (refine gate_guard (by rfl) ?_; dsimp only)); refine box_event ?hg (N := 2) ?hd (cs := #[.int .u32 a0_0, .slice A0_1 l0_1.length c0_1, .string a0_2, .slice A0_3 l0_3.length c0_3, .slice A0_4 l0_4.length c0_4]) (t := 29) ?hr ?_; (case hd => rfl); (case hg => rfl); (case hr => first | (go_simp; done) | (go_simp; rfl)); intro gb336 hg w4 hbox hb; have n0_ := Aside0.mk (below_step (by repeat (first | (with_reducible first | exact HB.out | apply below_alloc | apply pw_below_drewN | apply below_drew1) | exact HB.out)) hb); have n1_ := Aside0.mk (hbox); have n2_ := Aside0.mk ((by rw [hg]; exact (below_size (by repeat (first | (with_reducible first | exact HB.out | apply below_alloc | apply pw_below_drewN | apply below_drew1) | exact HB.out))) : w.heap.size ≤ gb336)); have n3_ := Aside0.mk ((by rw [hg]; exact (below_size (by repeat (first | (with_reducible first | exact HB.out | apply below_alloc | apply pw_below_drewN | apply below_drew1) | exact HB.out))) : w.heap.size ≤ gb336)); clear HB; have HB := n0_; have BK336 := n1_; have GW336 := n2_; have GE336 := n3_; clear n0_ n1_ n2_ n3_; clear hb hbox hg) | ((with_reducible refine gate_dst (N := 3) rfl ?_); (try (refine gate_guard (by rfl) ?_; dsimp only)); refine box_event ?hg (N := 3) ?hd (cs := #[.int .u32 a1_0, .slice A1_1 l1_1.length c1_1, .string a1_2, .slice A1_3 l1_3.length c1_3, .slice A1_4 l1_4.length c1_4]) (t := 29) ?hr ?_; (case hd => rfl); (case hg => rfl); (case hr => first | (go_simp; done) | (go_simp; rfl)); intro gb337 hg w5 hbox hb; have n0_ := Aside0.mk (blk_below (g := gb336) (o := .cells #[.int .u32 a0_0, .slice A0_1 l0_1.length c0_1, .string a0_2, .slice A0_3 l0_3.length c0_3, .slice A0_4 l0_4.length c0_4] 29 (0, 0)) (by (with_reducible repeat (first | refine blk_drewN ?_ _ | refine blk_drew ?_ | refine blk_alloc ?_ _)); exact BK336.out) hb); have n1_ := Aside0.mk (below_step (by repeat (first | (with_reducible first | exact HB.out | apply below_alloc | apply pw_below_drewN | apply below_drew1 | refine below_set ?_ GE336.out) | exact HB.out)) hb); have n2_ := Aside0.mk (hbox); have n3_ := Aside0.mk ((by rw [hg]; exact (below_size (by repeat (first | (with_reducible first | exact HB.out | apply below_alloc | apply pw_below_drewN | apply below_drew1 | refine below_set ?_ GE336.out) | exact HB.out))) : w.heap.size ≤ gb337)); have n4_ := Aside0.mk ((by rw [hg]; exact (below_size (by repeat (first | (with_reducible first | exact HB.out | apply below_alloc | apply pw_below_drewN | apply below_drew1 | refine below_set ?_ GE336.out) | exact HB.out))) : w.heap.size ≤ gb337)); have n5_ := Aside0.mk ((by rw [hg]; exact Nat.ne_of_lt (blk_lt (g := gb336) (o := .cells #[.int .u32 a0_0, .slice A0_1 l0_1.length c0_1, .string a0_2, .slice A0_3 l0_3.length c0_3, .slice A0_4 l0_4.length c0_4] 29 (0, 0)) (by (with_reducible repeat (first | refine blk_drewN ?_ _ | refine blk_drew ?_ | refine blk_alloc ?_ _)); exact BK336.out)) : gb336 ≠ gb337)); have n6_ := Aside0.mk ((by rw [hg]; exact Nat.ne_of_gt (blk_lt (g := gb336) (o := .cells #[.int .u32 a0_0, .slice A0_1 l0_1.length c0_1, .string a0_2, .slice A0_3 l0_3.length c0_3, .slice A0_4 l0_4.length c0_4] 29 (0, 0)) (by (with_reducible repeat (first | refine blk_drewN ?_ _ | refine blk_drew ?_ | refine blk_alloc ?_ _)); exact BK336.out)) : gb337 ≠ gb336)); clear BK336; clear HB; have BK336 := n0_; have HB := n1_; have BK337 := n2_; have GW337 := n3_; have GE337 := n4_; have NB336_337 := n5_; have NB337_336 := n6_; clear n0_ n1_ n2_ n3_ n4_ n5_ n6_; clear hb hbox hg)))
  (try simp only [Act.put, List.setIfInBounds_toArray, List.set_cons_zero, List.set_cons_succ])
  go_cut [19] (fun v19 wc => ∃ (kq : Nat) (x19_2 : Bool), v19 = .bool x19_2 ∧ Aside0 (arboretref01_SameTree.j0 kq x19_2 a0_0 l0_1 a0_2 l0_3 l0_4 a1_0 l1_1 a1_2 l1_3 l1_4 = some r) ∧ Aside0 (kq ≤ k) ∧ Aside0 (wc.heap[gb336]? = some (.cells #[.int .u32 a0_0, (.slice A0_1 l0_1.length c0_1), .string a0_2, (.slice A0_3 l0_3.length c0_3), (.slice A0_4 l0_4.length c0_4)] 29 (0, 0))) ∧ Aside0 (wc.heap[gb337]? = some (.cells #[.int .u32 a1_0, (.slice A1_1 l1_1.length c1_1), .string a1_2, (.slice A1_3 l1_3.length c1_3), (.slice A1_4 l1_4.length c1_4)] 29 (0, 0))) ∧ Aside0 (Below w.heap.size w wc))
  case first =>
    have H := HC3.out
    clear HC3
    by_cases c6 : a0_0 = a1_0
    · rw [if_pos c6] at H
      have c6b0 : (a0_0 == a1_0) = true := beq_iff_eq.mpr c6
      have c6b1 : (a0_0 != a1_0) = false := bne_eq_false_iff_eq.mpr c6
      clear c6
      (first | rw [c6b0] | (simp only [i64_w, i32_w]; rw [c6b0]) | skip)
      have H' := Aside0.mk H
      clear H
      have hnb7 := NB336_337.out
      have hnc7 := NB337_336.out
      have hcz8_0 : w5.cell? ⟨gb336, 0, none⟩ = some (.int .u32 a0_0) := (blk_cell BK336.out 0).trans rfl
      have hcz8_1 : w5.cell? ⟨gb336, 1, none⟩ = some (.slice A0_1 l0_1.length c0_1) := (blk_cell BK336.out 1).trans rfl
      have hcz8_2 : w5.cell? ⟨gb336, 2, none⟩ = some (.string a0_2) := (blk_cell BK336.out 2).trans rfl
      have hcz8_3 : w5.cell? ⟨gb336, 3, none⟩ = some (.slice A0_3 l0_3.length c0_3) := (blk_cell BK336.out 3).trans rfl
      have hcz8_4 : w5.cell? ⟨gb336, 4, none⟩ = some (.slice A0_4 l0_4.length c0_4) := (blk_cell BK336.out 4).trans rfl
      have hfz8_0 := blk_frozen BK336.out 0
      have hfz8_1 := blk_frozen BK336.out 1
      have hfz8_2 := blk_frozen BK336.out 2
      have hfz8_3 := blk_frozen BK336.out 3
      have hfz8_4 := blk_frozen BK336.out 4
      have hcz9_0 : w5.cell? ⟨gb337, 0, none⟩ = some (.int .u32 a1_0) := (blk_cell BK337.out 0).trans rfl
      have hcz9_1 : w5.cell? ⟨gb337, 1, none⟩ = some (.slice A1_1 l1_1.length c1_1) := (blk_cell BK337.out 1).trans rfl
      have hcz9_2 : w5.cell? ⟨gb337, 2, none⟩ = some (.string a1_2) := (blk_cell BK337.out 2).trans rfl
      have hcz9_3 : w5.cell? ⟨gb337, 3, none⟩ = some (.slice A1_3 l1_3.length c1_3) := (blk_cell BK337.out 3).trans rfl
      have hcz9_4 : w5.cell? ⟨gb337, 4, none⟩ = some (.slice A1_4 l1_4.length c1_4) := (blk_cell BK337.out 4).trans rfl
      have hfz9_0 := blk_frozen BK337.out 0
      have hfz9_1 := blk_frozen BK337.out 1
      have hfz9_2 := blk_frozen BK337.out 2
      have hfz9_3 := blk_frozen BK337.out 3
      have hfz9_4 := blk_frozen BK337.out 4
      go_wp2
      repeat (go_quiet (fail); try go_wp2)
      go_meet
      case rel => exact ⟨_, (((l0_1.length : Int) != (l1_1.length : Int))), (by first | rfl | (simp; done) | (simp [*]; done)), H', ⟨by first | omega | exact Nat.le_refl _⟩, ⟨by (with_reducible repeat (first | refine blk_drewN ?_ _ | refine blk_drew ?_ | refine blk_alloc ?_ _)); exact BK336.out⟩, ⟨by (with_reducible repeat (first | refine blk_drewN ?_ _ | refine blk_drew ?_ | refine blk_alloc ?_ _)); exact BK337.out⟩, ⟨by repeat (first | (with_reducible first | exact HB.out | apply below_alloc | apply pw_below_drewN | apply below_drew1 | refine below_set ?_ GE336.out | refine below_set ?_ GE337.out) | exact HB.out)⟩⟩
    · rw [if_neg c6] at H
      have c6b0 : (a0_0 == a1_0) = false := beq_eq_false_iff_ne.mpr c6
      have c6b1 : (a0_0 != a1_0) = true := bne_iff_ne.mpr c6
      (first | rw [c6b0] | (simp only [i64_w, i32_w]; rw [c6b0]) | skip)
      have H' := Aside0.mk H
      clear H
      have hnb10 := NB336_337.out
      have hnc10 := NB337_336.out
      have hcz11_0 : w5.cell? ⟨gb336, 0, none⟩ = some (.int .u32 a0_0) := (blk_cell BK336.out 0).trans rfl
      have hcz11_1 : w5.cell? ⟨gb336, 1, none⟩ = some (.slice A0_1 l0_1.length c0_1) := (blk_cell BK336.out 1).trans rfl
      have hcz11_2 : w5.cell? ⟨gb336, 2, none⟩ = some (.string a0_2) := (blk_cell BK336.out 2).trans rfl
      have hcz11_3 : w5.cell? ⟨gb336, 3, none⟩ = some (.slice A0_3 l0_3.length c0_3) := (blk_cell BK336.out 3).trans rfl
      have hcz11_4 : w5.cell? ⟨gb336, 4, none⟩ = some (.slice A0_4 l0_4.length c0_4) := (blk_cell BK336.out 4).trans rfl
      have hfz11_0 := blk_frozen BK336.out 0
      have hfz11_1 := blk_frozen BK336.out 1
      have hfz11_2 := blk_frozen BK336.out 2
      have hfz11_3 := blk_frozen BK336.out 3
      have hfz11_4 := blk_frozen BK336.out 4
      have hcz12_0 : w5.cell? ⟨gb337, 0, none⟩ = some (.int .u32 a1_0) := (blk_cell BK337.out 0).trans rfl
      have hcz12_1 : w5.cell? ⟨gb337, 1, none⟩ = some (.slice A1_1 l1_1.length c1_1) := (blk_cell BK337.out 1).trans rfl
      have hcz12_2 : w5.cell? ⟨gb337, 2, none⟩ = some (.string a1_2) := (blk_cell BK337.out 2).trans rfl
      have hcz12_3 : w5.cell? ⟨gb337, 3, none⟩ = some (.slice A1_3 l1_3.length c1_3) := (blk_cell BK337.out 3).trans rfl
      have hcz12_4 : w5.cell? ⟨gb337, 4, none⟩ = some (.slice A1_4 l1_4.length c1_4) := (blk_cell BK337.out 4).trans rfl
      have hfz12_0 := blk_frozen BK337.out 0
      have hfz12_1 := blk_frozen BK337.out 1
      have hfz12_2 := blk_frozen BK337.out 2
      have hfz12_3 := blk_frozen BK337.out 3
      have hfz12_4 := blk_frozen BK337.out 4
      go_wp2
      repeat (go_quiet (fail); try go_wp2)
      go_meet
      case rel => exact ⟨_, (true), (by first | rfl | (simp; done) | (simp [*]; done)), H', ⟨by first | omega | exact Nat.le_refl _⟩, ⟨by (with_reducible repeat (first | refine blk_drewN ?_ _ | refine blk_drew ?_ | refine blk_alloc ?_ _)); exact BK336.out⟩, ⟨by (with_reducible repeat (first | refine blk_drewN ?_ _ | refine blk_drew ?_ | refine blk_alloc ?_ _)); exact BK337.out⟩, ⟨by repeat (first | (with_reducible first | exact HB.out | apply below_alloc | apply pw_below_drewN | apply below_drew1 | refine below_set ?_ GE336.out | refine below_set ?_ GE337.out) | exact HB.out)⟩⟩
  case rest =>
    clear HC3
    try clear c1
    try clear p2
    try clear c6
    try clear c6b0
    try clear c6b1
    try clear c7
    try clear c8
    try clear c10
    try clear hcz11_0
    try clear hcz11_1
    try clear hcz11_2
    try clear hcz11_3
    try clear hcz11_4
    try clear hcz12_0
    try clear hcz12_1
    try clear hcz12_2
    try clear hcz12_3
    try clear hcz12_4
    try clear hcz8_0
    try clear hcz8_1
    try clear hcz8_2
    try clear hcz8_3
    try clear hcz8_4
    try clear hcz9_0
    try clear hcz9_1
    try clear hcz9_2
    try clear hcz9_3
    try clear hcz9_4
    try clear hfz11_0
    try clear hfz11_1
    try clear hfz11_2
    try clear hfz11_3
    try clear hfz11_4
    try clear hfz12_0
    try clear hfz12_1
    try clear hfz12_2
    try clear hfz12_3
    try clear hfz12_4
    try clear hfz8_0
    try clear hfz8_1
    try clear hfz8_2
    try clear hfz8_3
    try clear hfz8_4
    try clear hfz9_0
    try clear hfz9_1
    try clear hfz9_2
    try clear hfz9_3
    try clear hfz9_4
    obtain ⟨kq, x19_2, rfl, HA, HJ2, BK336, BK337, HB⟩ := hcut
    cases kq with
    | zero => exact absurd HA.out (by simp [arboretref01_SameTree.j0])
    | succ kj2 =>
      have H := HA.out
      clear HA
      simp only [arboretref01_SameTree.j0] at H
      by_cases c13 : x19_2 = true
      · subst c13
        have H1 : (some false) = some r := by rw [if_pos rfl] at H; exact H
        clear H
        have H := H1
        clear H1
        obtain rfl := Option.some.inj H
        go_wp2
        repeat (go_quiet (fail); try go_wp2)
        go_ret
        exact ⟨by first | rfl | (simp [errW_none, errW_some] <;> rfl) | (simp [*, errW_none, errW_some] <;> rfl), by repeat (first | (with_reducible first | exact HB.out | apply below_alloc | apply pw_below_drewN | apply below_drew1 | refine below_set ?_ GE336.out | refine below_set ?_ GE337.out) | exact HB.out)⟩
      · replace c13 := Bool.eq_false_iff.mpr c13
        subst c13
        have H1 : (arboretref01_SameTree.l0 kj2 (l0_1.length : Int) 0 a0_0 l0_1 a0_2 l0_3 l0_4 a1_0 l1_1 a1_2 l1_3 l1_4) = some r := by rw [if_neg (show ¬ (false = true) by decide)] at H; exact H
        clear H
        have H := H1
        clear H1
        have H' := Aside0.mk H
        clear H
        have hnb14 := NB336_337.out
        have hnc14 := NB337_336.out
        have hcz15_0 : wc.cell? ⟨gb336, 0, none⟩ = some (.int .u32 a0_0) := (blk_cell BK336.out 0).trans rfl
        have hcz15_1 : wc.cell? ⟨gb336, 1, none⟩ = some (.slice A0_1 l0_1.length c0_1) := (blk_cell BK336.out 1).trans rfl
        have hcz15_2 : wc.cell? ⟨gb336, 2, none⟩ = some (.string a0_2) := (blk_cell BK336.out 2).trans rfl
        have hcz15_3 : wc.cell? ⟨gb336, 3, none⟩ = some (.slice A0_3 l0_3.length c0_3) := (blk_cell BK336.out 3).trans rfl
        have hcz15_4 : wc.cell? ⟨gb336, 4, none⟩ = some (.slice A0_4 l0_4.length c0_4) := (blk_cell BK336.out 4).trans rfl
        have hfz15_0 := blk_frozen BK336.out 0
        have hfz15_1 := blk_frozen BK336.out 1
        have hfz15_2 := blk_frozen BK336.out 2
        have hfz15_3 := blk_frozen BK336.out 3
        have hfz15_4 := blk_frozen BK336.out 4
        go_wp2
        repeat (go_quiet (fail); try go_wp2)
        go_loopg [23] kj2 (fun kq v23 w' => ∃ (x23_2 : Int), v23 = .int .i64 x23_2 ∧ Aside0 (arboretref01_SameTree.l0 kq (l0_1.length : Int) x23_2 a0_0 l0_1 a0_2 l0_3 l0_4 a1_0 l1_1 a1_2 l1_3 l1_4 = some r) ∧ Aside0 (kq ≤ kj2) ∧ Aside0 (w'.heap[gb336]? = some (.cells #[.int .u32 a0_0, (.slice A0_1 l0_1.length c0_1), .string a0_2, (.slice A0_3 l0_3.length c0_3), (.slice A0_4 l0_4.length c0_4)] 29 (0, 0))) ∧ Aside0 (w'.heap[gb337]? = some (.cells #[.int .u32 a1_0, (.slice A1_1 l1_1.length c1_1), .string a1_2, (.slice A1_3 l1_3.length c1_3), (.slice A1_4 l1_4.length c1_4)] 29 (0, 0))) ∧ Aside0 (Below w.heap.size w w'))
        case atStart => exact ⟨(0), (by first | rfl | (simp; done) | (simp [*]; done)), H', ⟨Nat.le_refl _⟩, ⟨by (with_reducible repeat (first | refine blk_drewN ?_ _ | refine blk_drew ?_ | refine blk_alloc ?_ _)); exact BK336.out⟩, ⟨by (with_reducible repeat (first | refine blk_drewN ?_ _ | refine blk_drew ?_ | refine blk_alloc ?_ _)); exact BK337.out⟩, ⟨by repeat (first | (with_reducible first | exact HB.out | apply below_alloc | apply pw_below_drewN | apply below_drew1 | refine below_set ?_ GE336.out | refine below_set ?_ GE337.out) | exact HB.out)⟩⟩
        case round =>
          clear H'
          try clear c1
          try clear p2
          try clear c6
          try clear c6b0
          try clear c6b1
          try clear c7
          try clear c8
          try clear c10
          try clear c13
          try clear c14
          try clear hcz11_0
          try clear hcz11_1
          try clear hcz11_2
          try clear hcz11_3
          try clear hcz11_4
          try clear hcz12_0
          try clear hcz12_1
          try clear hcz12_2
          try clear hcz12_3
          try clear hcz12_4
          try clear hcz15_0
          try clear hcz15_1
          try clear hcz15_2
          try clear hcz15_3
          try clear hcz15_4
          try clear hcz8_0
          try clear hcz8_1
          try clear hcz8_2
          try clear hcz8_3
          try clear hcz8_4
          try clear hcz9_0
          try clear hcz9_1
          try clear hcz9_2
          try clear hcz9_3
          try clear hcz9_4
          try clear hfz11_0
          try clear hfz11_1
          try clear hfz11_2
          try clear hfz11_3
          try clear hfz11_4
          try clear hfz12_0
          try clear hfz12_1
          try clear hfz12_2
          try clear hfz12_3
          try clear hfz12_4
          try clear hfz15_0
          try clear hfz15_1
          try clear hfz15_2
          try clear hfz15_3
          try clear hfz15_4
          try clear hfz8_0
          try clear hfz8_1
          try clear hfz8_2
          try clear hfz8_3
          try clear hfz8_4
          try clear hfz9_0
          try clear hfz9_1
          try clear hfz9_2
          try clear hfz9_3
          try clear hfz9_4
          try clear p2
          obtain ⟨x23_2, rfl, HA, HK2, BK336, BK337, HB⟩ := hrel
          cases gk with
          | zero => exact absurd HA.out (by simp [arboretref01_SameTree.l0])
          | succ k2 =>
            have H := HA.out
            clear HA
            simp only [arboretref01_SameTree.l0] at H
            by_cases c16 : x23_2 < (l0_1.length : Int)
            · rw [if_pos c16] at H
              have c16b0 : decide (x23_2 < (l0_1.length : Int)) = true := decide_eq_true c16
              clear c16
              by_cases c17 : 0 ≤ x23_2
              · rw [if_pos c17] at H
                have c17b0 : decide (0 ≤ x23_2) = true := decide_eq_true c17
                clear c17
                by_cases c18 : x23_2 < (l0_1.length : Int)
                · rw [if_pos c18] at H
                  have c18b0 : decide (x23_2 < (l0_1.length : Int)) = true := decide_eq_true c18
                  clear c18
                  by_cases c19 : x23_2 < (l1_1.length : Int)
                  · rw [if_pos c19] at H
                    have c19b0 : decide (x23_2 < (l1_1.length : Int)) = true := decide_eq_true c19
                    clear c19
                    by_cases c20 : (!(((rd_T45 l0_1 x23_2).f0) == ((rd_T45 l1_1 x23_2).f0)) || (!(((rd_T45 l0_1 x23_2).f1) == ((rd_T45 l1_1 x23_2).f1)))) = true
                    · rw [if_pos c20] at H
                      have c20b0 : (!(((rd_T45 l0_1 x23_2).f0) == ((rd_T45 l1_1 x23_2).f0)) || (!(((rd_T45 l0_1 x23_2).f1) == ((rd_T45 l1_1 x23_2).f1)))) = true := c20
                      clear c20
                      obtain rfl := Option.some.inj H
                      have hnb21 := NB336_337.out
                      have hnc21 := NB337_336.out
                      have hcz22_0 : wr.cell? ⟨gb336, 0, none⟩ = some (.int .u32 a0_0) := (blk_cell BK336.out 0).trans rfl
                      have hcz22_1 : wr.cell? ⟨gb336, 1, none⟩ = some (.slice A0_1 l0_1.length c0_1) := (blk_cell BK336.out 1).trans rfl
                      have hcz22_2 : wr.cell? ⟨gb336, 2, none⟩ = some (.string a0_2) := (blk_cell BK336.out 2).trans rfl
                      have hcz22_3 : wr.cell? ⟨gb336, 3, none⟩ = some (.slice A0_3 l0_3.length c0_3) := (blk_cell BK336.out 3).trans rfl
                      have hcz22_4 : wr.cell? ⟨gb336, 4, none⟩ = some (.slice A0_4 l0_4.length c0_4) := (blk_cell BK336.out 4).trans rfl
                      have hfz22_0 := blk_frozen BK336.out 0
                      have hfz22_1 := blk_frozen BK336.out 1
                      have hfz22_2 := blk_frozen BK336.out 2
                      have hfz22_3 := blk_frozen BK336.out 3
                      have hfz22_4 := blk_frozen BK336.out 4
                      have p338 : 0 ≤ (x23_2 : Int) := of_decide_eq_true (by first | (with_reducible assumption) | assumption)
                      have q338 : x23_2 < (l0_1.length : Int) := of_decide_eq_true (by first | (with_reducible assumption) | assumption)
                      obtain ⟨ad338, e338, hx338_0, hx338_1⟩ := at_T45 HR0_1.out x23_2 p338 q338
                      cases e338
                      replace hx338_0 := (HB.out.cell (World.block_lt_of_cell? w _ hx338_0)).trans hx338_0
                      replace hx338_1 := (HB.out.cell (World.block_lt_of_cell? w _ hx338_1)).trans hx338_1
                      replace p338 := eq_true p338
                      replace q338 := eq_true q338
                      have hcz23_0 : wr.cell? ⟨gb337, 0, none⟩ = some (.int .u32 a1_0) := (blk_cell BK337.out 0).trans rfl
                      have hcz23_1 : wr.cell? ⟨gb337, 1, none⟩ = some (.slice A1_1 l1_1.length c1_1) := (blk_cell BK337.out 1).trans rfl
                      have hcz23_2 : wr.cell? ⟨gb337, 2, none⟩ = some (.string a1_2) := (blk_cell BK337.out 2).trans rfl
                      have hcz23_3 : wr.cell? ⟨gb337, 3, none⟩ = some (.slice A1_3 l1_3.length c1_3) := (blk_cell BK337.out 3).trans rfl
                      have hcz23_4 : wr.cell? ⟨gb337, 4, none⟩ = some (.slice A1_4 l1_4.length c1_4) := (blk_cell BK337.out 4).trans rfl
                      have hfz23_0 := blk_frozen BK337.out 0
                      have hfz23_1 := blk_frozen BK337.out 1
                      have hfz23_2 := blk_frozen BK337.out 2
                      have hfz23_3 := blk_frozen BK337.out 3
                      have hfz23_4 := blk_frozen BK337.out 4
                      have p339 : 0 ≤ (x23_2 : Int) := of_decide_eq_true (by first | (with_reducible assumption) | assumption)
                      have q339 : x23_2 < (l1_1.length : Int) := of_decide_eq_true (by first | (with_reducible assumption) | assumption)
                      obtain ⟨ad339, e339, hx339_0, hx339_1⟩ := at_T45 HR1_1.out x23_2 p339 q339
                      cases e339
                      replace hx339_0 := (HB.out.cell (World.block_lt_of_cell? w _ hx339_0)).trans hx339_0
                      replace hx339_1 := (HB.out.cell (World.block_lt_of_cell? w _ hx339_1)).trans hx339_1
                      replace p339 := eq_true p339
                      replace q339 := eq_true q339
                      go_wp2
                      repeat (go_quiet (fail); try go_wp2)
                      go_ret
                      exact ⟨by first | rfl | (simp [errW_none, errW_some] <;> rfl) | (simp [*, errW_none, errW_some] <;> rfl), by repeat (first | (with_reducible first | exact HB.out | apply below_alloc | apply pw_below_drewN | apply below_drew1 | refine below_set ?_ GE336.out | refine below_set ?_ GE337.out) | exact HB.out)⟩
                    · rw [if_neg c20] at H
                      have c20b0 : (!(((rd_T45 l0_1 x23_2).f0) == ((rd_T45 l1_1 x23_2).f0)) || (!(((rd_T45 l0_1 x23_2).f1) == ((rd_T45 l1_1 x23_2).f1)))) = false := by simpa using c20
                      clear c20
                      have H' := Aside0.mk H
                      clear H
                      have hnb24 := NB336_337.out
                      have hnc24 := NB337_336.out
                      have hcz25_0 : wr.cell? ⟨gb336, 0, none⟩ = some (.int .u32 a0_0) := (blk_cell BK336.out 0).trans rfl
                      have hcz25_1 : wr.cell? ⟨gb336, 1, none⟩ = some (.slice A0_1 l0_1.length c0_1) := (blk_cell BK336.out 1).trans rfl
                      have hcz25_2 : wr.cell? ⟨gb336, 2, none⟩ = some (.string a0_2) := (blk_cell BK336.out 2).trans rfl
                      have hcz25_3 : wr.cell? ⟨gb336, 3, none⟩ = some (.slice A0_3 l0_3.length c0_3) := (blk_cell BK336.out 3).trans rfl
                      have hcz25_4 : wr.cell? ⟨gb336, 4, none⟩ = some (.slice A0_4 l0_4.length c0_4) := (blk_cell BK336.out 4).trans rfl
                      have hfz25_0 := blk_frozen BK336.out 0
                      have hfz25_1 := blk_frozen BK336.out 1
                      have hfz25_2 := blk_frozen BK336.out 2
                      have hfz25_3 := blk_frozen BK336.out 3
                      have hfz25_4 := blk_frozen BK336.out 4
                      have p338 : 0 ≤ (x23_2 : Int) := of_decide_eq_true (by first | (with_reducible assumption) | assumption)
                      have q338 : x23_2 < (l0_1.length : Int) := of_decide_eq_true (by first | (with_reducible assumption) | assumption)
                      obtain ⟨ad338, e338, hx338_0, hx338_1⟩ := at_T45 HR0_1.out x23_2 p338 q338
                      cases e338
                      replace hx338_0 := (HB.out.cell (World.block_lt_of_cell? w _ hx338_0)).trans hx338_0
                      replace hx338_1 := (HB.out.cell (World.block_lt_of_cell? w _ hx338_1)).trans hx338_1
                      replace p338 := eq_true p338
                      replace q338 := eq_true q338
                      have hcz26_0 : wr.cell? ⟨gb337, 0, none⟩ = some (.int .u32 a1_0) := (blk_cell BK337.out 0).trans rfl
                      have hcz26_1 : wr.cell? ⟨gb337, 1, none⟩ = some (.slice A1_1 l1_1.length c1_1) := (blk_cell BK337.out 1).trans rfl
                      have hcz26_2 : wr.cell? ⟨gb337, 2, none⟩ = some (.string a1_2) := (blk_cell BK337.out 2).trans rfl
                      have hcz26_3 : wr.cell? ⟨gb337, 3, none⟩ = some (.slice A1_3 l1_3.length c1_3) := (blk_cell BK337.out 3).trans rfl
                      have hcz26_4 : wr.cell? ⟨gb337, 4, none⟩ = some (.slice A1_4 l1_4.length c1_4) := (blk_cell BK337.out 4).trans rfl
                      have hfz26_0 := blk_frozen BK337.out 0
                      have hfz26_1 := blk_frozen BK337.out 1
                      have hfz26_2 := blk_frozen BK337.out 2
                      have hfz26_3 := blk_frozen BK337.out 3
                      have hfz26_4 := blk_frozen BK337.out 4
                      have p339 : 0 ≤ (x23_2 : Int) := of_decide_eq_true (by first | (with_reducible assumption) | assumption)
                      have q339 : x23_2 < (l1_1.length : Int) := of_decide_eq_true (by first | (with_reducible assumption) | assumption)
                      obtain ⟨ad339, e339, hx339_0, hx339_1⟩ := at_T45 HR1_1.out x23_2 p339 q339
                      cases e339
                      replace hx339_0 := (HB.out.cell (World.block_lt_of_cell? w _ hx339_0)).trans hx339_0
                      replace hx339_1 := (HB.out.cell (World.block_lt_of_cell? w _ hx339_1)).trans hx339_1
                      replace p339 := eq_true p339
                      replace q339 := eq_true q339
                      go_wp2
                      repeat (go_quiet (fail); try go_wp2)
                      go_roundg k2
                      case measure => have := HJ2.out; have := HK2.out; omega
                      case rel => exact ⟨(wrap64 (x23_2 + 1)), (by first | rfl | (simp; done) | (simp [*]; done)), H', ⟨by have := HJ2.out; have := HK2.out; omega⟩, ⟨by (with_reducible repeat (first | refine blk_drewN ?_ _ | refine blk_drew ?_ | refine blk_alloc ?_ _)); exact BK336.out⟩, ⟨by (with_reducible repeat (first | refine blk_drewN ?_ _ | refine blk_drew ?_ | refine blk_alloc ?_ _)); exact BK337.out⟩, ⟨by repeat (first | (with_reducible first | exact HB.out | apply below_alloc | apply pw_below_drewN | apply below_drew1 | refine below_set ?_ GE336.out | refine below_set ?_ GE337.out) | exact HB.out)⟩⟩
                  · rw [if_neg c19] at H
                    exact absurd H (by simp)
                · rw [if_neg c18] at H
                  exact absurd H (by simp)
              · rw [if_neg c17] at H
                exact absurd H (by simp)
            · rw [if_neg c16] at H
              have c16b0 : decide (x23_2 < (l0_1.length : Int)) = false := decide_eq_false c16
              clear c16
              replace H := Option.bind_eq_some_iff.mp H
              obtain ⟨t340, A270, H⟩ := H
              replace H : (some t340) = some r := H
              have A27 := Aside0.mk A270
              clear A270
              obtain rfl := Option.some.inj H
              have hnb28 := NB336_337.out
              have hnc28 := NB337_336.out
              have hcz29_0 : wr.cell? ⟨gb336, 0, none⟩ = some (.int .u32 a0_0) := (blk_cell BK336.out 0).trans rfl
              have hcz29_1 : wr.cell? ⟨gb336, 1, none⟩ = some (.slice A0_1 l0_1.length c0_1) := (blk_cell BK336.out 1).trans rfl
              have hcz29_2 : wr.cell? ⟨gb336, 2, none⟩ = some (.string a0_2) := (blk_cell BK336.out 2).trans rfl
              have hcz29_3 : wr.cell? ⟨gb336, 3, none⟩ = some (.slice A0_3 l0_3.length c0_3) := (blk_cell BK336.out 3).trans rfl
              have hcz29_4 : wr.cell? ⟨gb336, 4, none⟩ = some (.slice A0_4 l0_4.length c0_4) := (blk_cell BK336.out 4).trans rfl
              have hfz29_0 := blk_frozen BK336.out 0
              have hfz29_1 := blk_frozen BK336.out 1
              have hfz29_2 := blk_frozen BK336.out 2
              have hfz29_3 := blk_frozen BK336.out 3
              have hfz29_4 := blk_frozen BK336.out 4
              have hcz30_0 : wr.cell? ⟨gb337, 0, none⟩ = some (.int .u32 a1_0) := (blk_cell BK337.out 0).trans rfl
              have hcz30_1 : wr.cell? ⟨gb337, 1, none⟩ = some (.slice A1_1 l1_1.length c1_1) := (blk_cell BK337.out 1).trans rfl
              have hcz30_2 : wr.cell? ⟨gb337, 2, none⟩ = some (.string a1_2) := (blk_cell BK337.out 2).trans rfl
              have hcz30_3 : wr.cell? ⟨gb337, 3, none⟩ = some (.slice A1_3 l1_3.length c1_3) := (blk_cell BK337.out 3).trans rfl
              have hcz30_4 : wr.cell? ⟨gb337, 4, none⟩ = some (.slice A1_4 l1_4.length c1_4) := (blk_cell BK337.out 4).trans rfl
              have hfz30_0 := blk_frozen BK337.out 0
              have hfz30_1 := blk_frozen BK337.out 1
              have hfz30_2 := blk_frozen BK337.out 2
              have hfz30_3 := blk_frozen BK337.out 3
              have hfz30_4 := blk_frozen BK337.out 4
              go_wp2_with (first | (go_at_call 10; (with_reducible refine (arboretref01_Same.calls k2 a0_2 _ _ l0_3 _ _ l0_4 a1_2 _ _ l1_3 _ _ l1_4 t340 _ ?side1 ?side2 ?side3 ?side4 ?side5 ?side6 ?side7 ?side8 A27.out).mono ?_); (case side1 => repeat (first | exact (Kd.C_below HR0_3.out HB.out) | (with_reducible refine Kd.C_alloc ?_ _) | (with_reducible refine Kd.C_drewN ?_ _) | (with_reducible refine Kd.C_drew ?_))); (case side2 => exact HC0_3.out); (case side3 => repeat (first | exact (Kd.C_below HR0_4.out HB.out) | (with_reducible refine Kd.C_alloc ?_ _) | (with_reducible refine Kd.C_drewN ?_ _) | (with_reducible refine Kd.C_drew ?_))); (case side4 => exact HC0_4.out); (case side5 => repeat (first | exact (Kd.C_below HR1_3.out HB.out) | (with_reducible refine Kd.C_alloc ?_ _) | (with_reducible refine Kd.C_drewN ?_ _) | (with_reducible refine Kd.C_drew ?_))); (case side6 => exact HC1_3.out); (case side7 => repeat (first | exact (Kd.C_below HR1_4.out HB.out) | (with_reducible refine Kd.C_alloc ?_ _) | (with_reducible refine Kd.C_drewN ?_ _) | (with_reducible refine Kd.C_drew ?_))); (case side8 => exact HC1_4.out); rintro e w31 ⟨rfl, hb⟩; have n0_ := Aside0.mk (blk_below (g := gb336) (o := .cells #[.int .u32 a0_0, .slice A0_1 l0_1.length c0_1, .string a0_2, .slice A0_3 l0_3.length c0_3, .slice A0_4 l0_4.length c0_4] 29 (0, 0)) (by (with_reducible repeat (first | refine blk_drewN ?_ _ | refine blk_drew ?_ | refine blk_alloc ?_ _)); exact BK336.out) hb); have n1_ := Aside0.mk (blk_below (g := gb337) (o := .cells #[.int .u32 a1_0, .slice A1_1 l1_1.length c1_1, .string a1_2, .slice A1_3 l1_3.length c1_3, .slice A1_4 l1_4.length c1_4] 29 (0, 0)) (by (with_reducible repeat (first | refine blk_drewN ?_ _ | refine blk_drew ?_ | refine blk_alloc ?_ _)); exact BK337.out) hb); have n2_ := Aside0.mk (below_step (by repeat (first | (with_reducible first | exact HB.out | apply below_alloc | apply pw_below_drewN | apply below_drew1 | refine below_set ?_ GE336.out | refine below_set ?_ GE337.out) | exact HB.out)) hb); clear BK336; clear BK337; clear HB; have BK336 := n0_; have BK337 := n1_; have HB := n2_; clear n0_ n1_ n2_; (try clear hb); (try clear hb2); (try clear hk); (try clear hi)))
              repeat (go_quiet (first | (go_at_call 10; (with_reducible refine (arboretref01_Same.calls k2 a0_2 _ _ l0_3 _ _ l0_4 a1_2 _ _ l1_3 _ _ l1_4 t340 _ ?side1 ?side2 ?side3 ?side4 ?side5 ?side6 ?side7 ?side8 A27.out).mono ?_); (case side1 => repeat (first | exact (Kd.C_below HR0_3.out HB.out) | (with_reducible refine Kd.C_alloc ?_ _) | (with_reducible refine Kd.C_drewN ?_ _) | (with_reducible refine Kd.C_drew ?_))); (case side2 => exact HC0_3.out); (case side3 => repeat (first | exact (Kd.C_below HR0_4.out HB.out) | (with_reducible refine Kd.C_alloc ?_ _) | (with_reducible refine Kd.C_drewN ?_ _) | (with_reducible refine Kd.C_drew ?_))); (case side4 => exact HC0_4.out); (case side5 => repeat (first | exact (Kd.C_below HR1_3.out HB.out) | (with_reducible refine Kd.C_alloc ?_ _) | (with_reducible refine Kd.C_drewN ?_ _) | (with_reducible refine Kd.C_drew ?_))); (case side6 => exact HC1_3.out); (case side7 => repeat (first | exact (Kd.C_below HR1_4.out HB.out) | (with_reducible refine Kd.C_alloc ?_ _) | (with_reducible refine Kd.C_drewN ?_ _) | (with_reducible refine Kd.C_drew ?_))); (case side8 => exact HC1_4.out); rintro e w31 ⟨rfl, hb⟩; have n0_ := Aside0.mk (blk_below (g := gb336) (o := .cells #[.int .u32 a0_0, .slice A0_1 l0_1.length c0_1, .string a0_2, .slice A0_3 l0_3.length c0_3, .slice A0_4 l0_4.length c0_4] 29 (0, 0)) (by (with_reducible repeat (first | refine blk_drewN ?_ _ | refine blk_drew ?_ | refine blk_alloc ?_ _)); exact BK336.out) hb); have n1_ := Aside0.mk (blk_below (g := gb337) (o := .cells #[.int .u32 a1_0, .slice A1_1 l1_1.length c1_1, .string a1_2, .slice A1_3 l1_3.length c1_3, .slice A1_4 l1_4.length c1_4] 29 (0, 0)) (by (with_reducible repeat (first | refine blk_drewN ?_ _ | refine blk_drew ?_ | refine blk_alloc ?_ _)); exact BK337.out) hb); have n2_ := Aside0.mk (below_step (by repeat (first | (with_reducible first | exact HB.out | apply below_alloc | apply pw_below_drewN | apply below_drew1 | refine below_set ?_ GE336.out | refine below_set ?_ GE337.out) | exact HB.out)) hb); clear BK336; clear BK337; clear HB; have BK336 := n0_; have BK337 := n1_; have HB := n2_; clear n0_ n1_ n2_; (try clear hb); (try clear hb2); (try clear hk); (try clear hi))); try go_wp2_with (first | (go_at_call 10; (with_reducible refine (arboretref01_Same.calls k2 a0_2 _ _ l0_3 _ _ l0_4 a1_2 _ _ l1_3 _ _ l1_4 t340 _ ?side1 ?side2 ?side3 ?side4 ?side5 ?side6 ?side7 ?side8 A27.out).mono ?_); (case side1 => repeat (first | exact (Kd.C_below HR0_3.out HB.out) | (with_reducible refine Kd.C_alloc ?_ _) | (with_reducible refine Kd.C_drewN ?_ _) | (with_reducible refine Kd.C_drew ?_))); (case side2 => exact HC0_3.out); (case side3 => repeat (first | exact (Kd.C_below HR0_4.out HB.out) | (with_reducible refine Kd.C_alloc ?_ _) | (with_reducible refine Kd.C_drewN ?_ _) | (with_reducible refine Kd.C_drew ?_))); (case side4 => exact HC0_4.out); (case side5 => repeat (first | exact (Kd.C_below HR1_3.out HB.out) | (with_reducible refine Kd.C_alloc ?_ _) | (with_reducible refine Kd.C_drewN ?_ _) | (with_reducible refine Kd.C_drew ?_))); (case side6 => exact HC1_3.out); (case side7 => repeat (first | exact (Kd.C_below HR1_4.out HB.out) | (with_reducible refine Kd.C_alloc ?_ _) | (with_reducible refine Kd.C_drewN ?_ _) | (with_reducible refine Kd.C_drew ?_))); (case side8 => exact HC1_4.out); rintro e w31 ⟨rfl, hb⟩; have n0_ := Aside0.mk (blk_below (g := gb336) (o := .cells #[.int .u32 a0_0, .slice A0_1 l0_1.length c0_1, .string a0_2, .slice A0_3 l0_3.length c0_3, .slice A0_4 l0_4.length c0_4] 29 (0, 0)) (by (with_reducible repeat (first | refine blk_drewN ?_ _ | refine blk_drew ?_ | refine blk_alloc ?_ _)); exact BK336.out) hb); have n1_ := Aside0.mk (blk_below (g := gb337) (o := .cells #[.int .u32 a1_0, .slice A1_1 l1_1.length c1_1, .string a1_2, .slice A1_3 l1_3.length c1_3, .slice A1_4 l1_4.length c1_4] 29 (0, 0)) (by (with_reducible repeat (first | refine blk_drewN ?_ _ | refine blk_drew ?_ | refine blk_alloc ?_ _)); exact BK337.out) hb); have n2_ := Aside0.mk (below_step (by repeat (first | (with_reducible first | exact HB.out | apply below_alloc | apply pw_below_drewN | apply below_drew1 | refine below_set ?_ GE336.out | refine below_set ?_ GE337.out) | exact HB.out)) hb); clear BK336; clear BK337; clear HB; have BK336 := n0_; have BK337 := n1_; have HB := n2_; clear n0_ n1_ n2_; (try clear hb); (try clear hb2); (try clear hk); (try clear hi))))
              go_ret
              exact ⟨by first | rfl | (simp [errW_none, errW_some] <;> rfl) | (simp [*, errW_none, errW_some] <;> rfl), by repeat (first | (with_reducible first | exact HB.out | apply below_alloc | apply pw_below_drewN | apply below_drew1 | refine below_set ?_ GE336.out | refine below_set ?_ GE337.out) | exact HB.out)⟩
end Go.Proofs.Ytiioeaalnmjbmaa.PE

namespace Go.Proofs.Ytiioeaalnmjbmaa.PE
open Go.RowKit Go.Proofs.YtiioeaalnmjbmaaW.PrintWords Go.Proofs.YtiioeaalnmjbmaaW.PrintLast Go.Proofs.YtiioeaalnmjbmaaW.PrintMore
attribute [local go_sem] max2_int min2_int max_two min_two max_three min_three max_four min_four   -- for this text's walks alone
set_option linter.unusedVariables false
set_option linter.unusedSimpArgs false
mutual
def arboretlaw03_size.l0 : Nat → Int → Int → Int → Int → ByteArray → List (S35) → List (S27) → Option (Int)
  | 0, _, _, _, _, _, _, _ => none
  | k + 1, x1, x5, x14, x15, x280000, x280001, x280002 => if x15 < x14 then (if 0 ≤ x15 then (if x15 < (x280001.length : Int) then (arboretlaw03_size.l0 k x1 (wrap64 ((wrap64 ((wrap64 (x5 + 1)) + (((rd_T35 x280001 x15).f0).size : Int))) + (((rd_T35 x280001 x15).f1).length : Int))) x14 (wrap64 (x15 + 1)) x280000 x280001 x280002) else (none)) else (none)) else (arboretlaw03_size.l1 k x1 x5 (x280002.length : Int) 0 x280000 x280001 x280002)
def arboretlaw03_size.l1 : Nat → Int → Int → Int → Int → ByteArray → List (S35) → List (S27) → Option (Int)
  | 0, _, _, _, _, _, _, _ => none
  | k + 1, x1, x5, x39, x40, x280000, x280001, x280002 => if x40 < x39 then (if x1 > 20 then (some 1048576) else (if x5 > 100000 then (some 1048576) else (if 0 ≤ x40 then (if x40 < (x280002.length : Int) then ((arboretlaw03_size.f k ((rd_T27 x280002 x40).f0) ((rd_T27 x280002 x40).f1) ((rd_T27 x280002 x40).f2) (wrap64 (x1 + 1))).bind fun t283 => (arboretlaw03_size.l1 k x1 (wrap64 (x5 + t283)) x39 (wrap64 (x40 + 1)) x280000 x280001 x280002)) else (none)) else (none)))) else (some x5)
def arboretlaw03_size.f : Nat → ByteArray → List (S35) → List (S27) → Int → Option (Int)
  | 0, _, _, _, _ => none
  | k + 1, a0_0, l0_1, l0_2, a1 => arboretlaw03_size.l0 k a1 (wrap64 (1 + (a0_0.size : Int))) (l0_1.length : Int) 0 a0_0 l0_1 l0_2
end
set_option maxHeartbeats 8000000 in
set_option maxRecDepth 100000 in
theorem arboretlaw03_size.calls (k : Nat) : ∀ (a0_0 : ByteArray) (A0_1 : Option Addr) (c0_1 : Nat) (l0_1 : List (S35)) (A0_2 : Option Addr) (c0_2 : Nat) (l0_2 : List (S27)) (a1 : Int) (r : Int) (w : World) (hr0_1 : Kd.C k35 w A0_1 l0_1.length l0_1) (hc0_1 : l0_1.length ≤ c0_1) (hr0_2 : Kd.C k27 w A0_2 l0_2.length l0_2) (hc0_2 : l0_2.length ≤ c0_2) (h : arboretlaw03_size.f k a0_0 l0_1 l0_2 a1 = some r),
    Calls Try.prog 12 #[.agg #[.string a0_0, .slice A0_1 l0_1.length c0_1, .slice A0_2 l0_2.length c0_2], .int .i64 a1] w fun e w' => e = .returned (.int .i64 r) ∧ Below w.heap.size w w' := by
  induction k using Nat.strongRecOn with
  | _ k ih =>
  intro a0_0 A0_1 c0_1 l0_1 A0_2 c0_2 l0_2 a1 r w hr0_1 hc0_1 hr0_2 hc0_2 h
  cases k with
  | zero => exact absurd h (by simp [arboretlaw03_size.f])
  | succ k =>
  simp only [arboretlaw03_size.f] at h
  have hu27 := Try.underlying27
  have HR0_1 := Aside0.mk hr0_1
  have HC0_1 := Aside0.mk hc0_1
  clear hr0_1 hc0_1
  have HR0_2 := Aside0.mk hr0_2
  have HC0_2 := Aside0.mk hc0_2
  clear hr0_2 hc0_2
  have HB := Aside0.mk (Below.refl w.heap.size w)
  have H : (arboretlaw03_size.l0 k a1 (wrap64 (1 + (a0_0.size : Int))) (l0_1.length : Int) 0 a0_0 l0_1 l0_2) = some r := h
  clear h
  have H' := Aside0.mk H
  clear H
  go_enter Try.func12, Try.ntmps12
  go_wp2_with (first | ((with_reducible refine gate_dst (N := 2) rfl ?_); refine box_event ?hg (N := 2) ?hd (cs := #[.string a0_0, .slice A0_1 l0_1.length c0_1, .slice A0_2 l0_2.length c0_2]) (t := 27) ?hr ?_; (case hd => rfl); (case hg => rfl); (case hr => first | (go_simp; done) | (go_simp; rfl)); intro gb279 hg w3 hbox hb; have n0_ := Aside0.mk (below_step (by repeat (first | (with_reducible first | exact HB.out | apply below_alloc | apply pw_below_drewN | apply below_drew1) | exact HB.out)) hb); have n1_ := Aside0.mk (hbox); have n2_ := Aside0.mk ((by rw [hg]; exact (below_size (by repeat (first | (with_reducible first | exact HB.out | apply below_alloc | apply pw_below_drewN | apply below_drew1) | exact HB.out))) : w.heap.size ≤ gb279)); have n3_ := Aside0.mk ((by rw [hg]; exact (below_size (by repeat (first | (with_reducible first | exact HB.out | apply below_alloc | apply pw_below_drewN | apply below_drew1) | exact HB.out))) : w.heap.size ≤ gb279)); clear HB; have HB := n0_; have BK279 := n1_; have GW279 := n2_; have GE279 := n3_; clear n0_ n1_ n2_ n3_; clear hb hbox hg; have hcz4_0 : w3.cell? ⟨gb279, 0, none⟩ = some (.string a0_0) := (blk_cell BK279.out 0).trans rfl; have hcz4_1 : w3.cell? ⟨gb279, 1, none⟩ = some (.slice A0_1 l0_1.length c0_1) := (blk_cell BK279.out 1).trans rfl; have hcz4_2 : w3.cell? ⟨gb279, 2, none⟩ = some (.slice A0_2 l0_2.length c0_2) := (blk_cell BK279.out 2).trans rfl; have hfz4_0 := blk_frozen BK279.out 0; have hfz4_1 := blk_frozen BK279.out 1; have hfz4_2 := blk_frozen BK279.out 2))
  repeat (go_quiet (first | ((with_reducible refine gate_dst (N := 2) rfl ?_); refine box_event ?hg (N := 2) ?hd (cs := #[.string a0_0, .slice A0_1 l0_1.length c0_1, .slice A0_2 l0_2.length c0_2]) (t := 27) ?hr ?_; (case hd => rfl); (case hg => rfl); (case hr => first | (go_simp; done) | (go_simp; rfl)); intro gb279 hg w3 hbox hb; have n0_ := Aside0.mk (below_step (by repeat (first | (with_reducible first | exact HB.out | apply below_alloc | apply pw_below_drewN | apply below_drew1) | exact HB.out)) hb); have n1_ := Aside0.mk (hbox); have n2_ := Aside0.mk ((by rw [hg]; exact (below_size (by repeat (first | (with_reducible first | exact HB.out | apply below_alloc | apply pw_below_drewN | apply below_drew1) | exact HB.out))) : w.heap.size ≤ gb279)); have n3_ := Aside0.mk ((by rw [hg]; exact (below_size (by repeat (first | (with_reducible first | exact HB.out | apply below_alloc | apply pw_below_drewN | apply below_drew1) | exact HB.out))) : w.heap.size ≤ gb279)); clear HB; have HB := n0_; have BK279 := n1_; have GW279 := n2_; have GE279 := n3_; clear n0_ n1_ n2_ n3_; clear hb hbox hg; have hcz4_0 : w3.cell? ⟨gb279, 0, none⟩ = some (.string a0_0) := (blk_cell BK279.out 0).trans rfl; have hcz4_1 : w3.cell? ⟨gb279, 1, none⟩ = some (.slice A0_1 l0_1.length c0_1) := (blk_cell BK279.out 1).trans rfl; have hcz4_2 : w3.cell? ⟨gb279, 2, none⟩ = some (.slice A0_2 l0_2.length c0_2) := (blk_cell BK279.out 2).trans rfl; have hfz4_0 := blk_frozen BK279.out 0; have hfz4_1 := blk_frozen BK279.out 1; have hfz4_2 := blk_frozen BK279.out 2)); try go_wp2_with (first | ((with_reducible refine gate_dst (N := 2) rfl ?_); refine box_event ?hg (N := 2) ?hd (cs := #[.string a0_0, .slice A0_1 l0_1.length c0_1, .slice A0_2 l0_2.length c0_2]) (t := 27) ?hr ?_; (case hd => rfl); (case hg => rfl); (case hr => first | (go_simp; done) | (go_simp; rfl)); intro gb279 hg w3 hbox hb; have n0_ := Aside0.mk (below_step (by repeat (first | (with_reducible first | exact HB.out | apply below_alloc | apply pw_below_drewN | apply below_drew1) | exact HB.out)) hb); have n1_ := Aside0.mk (hbox); have n2_ := Aside0.mk ((by rw [hg]; exact (below_size (by repeat (first | (with_reducible first | exact HB.out | apply below_alloc | apply pw_below_drewN | apply below_drew1) | exact HB.out))) : w.heap.size ≤ gb279)); have n3_ := Aside0.mk ((by rw [hg]; exact (below_size (by repeat (first | (with_reducible first | exact HB.out | apply below_alloc | apply pw_below_drewN | apply below_drew1) | exact HB.out))) : w.heap.size ≤ gb279)); clear HB; have HB := n0_; have BK279 := n1_; have GW279 := n2_; have GE279 := n3_; clear n0_ n1_ n2_ n3_; clear hb hbox hg; have hcz4_0 : w3.cell? ⟨gb279, 0, none⟩ = some (.string a0_0) := (blk_cell BK279.out 0).trans rfl; have hcz4_1 : w3.cell? ⟨gb279, 1, none⟩ = some (.slice A0_1 l0_1.length c0_1) := (blk_cell BK279.out 1).trans rfl; have hcz4_2 : w3.cell? ⟨gb279, 2, none⟩ = some (.slice A0_2 l0_2.length c0_2) := (blk_cell BK279.out 2).trans rfl; have hfz4_0 := blk_frozen BK279.out 0; have hfz4_1 := blk_frozen BK279.out 1; have hfz4_2 := blk_frozen BK279.out 2)))
  go_loopg [5, 15] k (fun kq v5 v15 w' => ∃ (x5_1 : Int) (x15_1 : Int), v5 = .int .i64 x5_1 ∧ v15 = .int .i64 x15_1 ∧ Aside0 (arboretlaw03_size.l0 kq a1 x5_1 (l0_1.length : Int) x15_1 a0_0 l0_1 l0_2 = some r) ∧ Aside0 (kq ≤ k) ∧ Aside0 (w'.heap[gb279]? = some (.cells #[.string a0_0, (.slice A0_1 l0_1.length c0_1), (.slice A0_2 l0_2.length c0_2)] 27 (0, 0))) ∧ Aside0 (Below w.heap.size w w'))
  case atStart => exact ⟨(wrap64 (1 + (a0_0.size : Int))), (0), (by first | rfl | (simp; done) | (simp [*]; done)), (by first | rfl | (simp; done) | (simp [*]; done)), H', ⟨Nat.le_refl _⟩, ⟨by (with_reducible repeat (first | refine blk_drewN ?_ _ | refine blk_drew ?_ | refine blk_alloc ?_ _)); exact BK279.out⟩, ⟨by repeat (first | (with_reducible first | exact HB.out | apply below_alloc | apply pw_below_drewN | apply below_drew1 | refine below_set ?_ GE279.out) | exact HB.out)⟩⟩
  case round =>
    clear H'
    try clear c1
    try clear p2
    try clear hcz4_0
    try clear hcz4_1
    try clear hcz4_2
    try clear hfz4_0
    try clear hfz4_1
    try clear hfz4_2
    obtain ⟨x5_1, x15_1, rfl, rfl, HA, HK1, BK279, HB⟩ := hrel
    cases gk with
    | zero => exact absurd HA.out (by simp [arboretlaw03_size.l0])
    | succ k1 =>
      have H := HA.out
      clear HA
      simp only [arboretlaw03_size.l0] at H
      by_cases c5 : x15_1 < (l0_1.length : Int)
      · rw [if_pos c5] at H
        have c5b0 : decide (x15_1 < (l0_1.length : Int)) = true := decide_eq_true c5
        clear c5
        by_cases c6 : 0 ≤ x15_1
        · rw [if_pos c6] at H
          have c6b0 : decide (0 ≤ x15_1) = true := decide_eq_true c6
          clear c6
          by_cases c7 : x15_1 < (l0_1.length : Int)
          · rw [if_pos c7] at H
            have c7b0 : decide (x15_1 < (l0_1.length : Int)) = true := decide_eq_true c7
            clear c7
            have H' := Aside0.mk H
            clear H
            have hcz8_0 : wr.cell? ⟨gb279, 0, none⟩ = some (.string a0_0) := (blk_cell BK279.out 0).trans rfl
            have hcz8_1 : wr.cell? ⟨gb279, 1, none⟩ = some (.slice A0_1 l0_1.length c0_1) := (blk_cell BK279.out 1).trans rfl
            have hcz8_2 : wr.cell? ⟨gb279, 2, none⟩ = some (.slice A0_2 l0_2.length c0_2) := (blk_cell BK279.out 2).trans rfl
            have hfz8_0 := blk_frozen BK279.out 0
            have hfz8_1 := blk_frozen BK279.out 1
            have hfz8_2 := blk_frozen BK279.out 2
            have p280 : 0 ≤ (x15_1 : Int) := of_decide_eq_true (by first | (with_reducible assumption) | assumption)
            have q280 : x15_1 < (l0_1.length : Int) := of_decide_eq_true (by first | (with_reducible assumption) | assumption)
            obtain ⟨ad280, A280_1, c280_1, e280, hx280_0, hx280_1, hl280_1, hi280_1⟩ := at_T35 HR0_1.out x15_1 p280 q280
            cases e280
            replace hx280_0 := (HB.out.cell (World.block_lt_of_cell? w _ hx280_0)).trans hx280_0
            replace hx280_1 := (HB.out.cell (World.block_lt_of_cell? w _ hx280_1)).trans hx280_1
            have HR280_1 := Aside0.mk hi280_1
            have HC280_1 := Aside0.mk hl280_1
            clear hi280_1 hl280_1
            replace p280 := eq_true p280
            replace q280 := eq_true q280
            have p281 : 0 ≤ (x15_1 : Int) := of_decide_eq_true (by first | (with_reducible assumption) | assumption)
            have q281 : x15_1 < (l0_1.length : Int) := of_decide_eq_true (by first | (with_reducible assumption) | assumption)
            obtain ⟨ad281, A281_1, c281_1, e281, hx281_0, hx281_1, hl281_1, hi281_1⟩ := at_T35 HR0_1.out x15_1 p281 q281
            obtain rfl : ad280 = ad281 := (by injection e281)
            replace hx281_0 := (HB.out.cell (World.block_lt_of_cell? w _ hx281_0)).trans hx281_0
            replace hx281_1 := (HB.out.cell (World.block_lt_of_cell? w _ hx281_1)).trans hx281_1
            have HR281_1 := Aside0.mk hi281_1
            have HC281_1 := Aside0.mk hl281_1
            clear hi281_1 hl281_1
            replace p281 := eq_true p281
            replace q281 := eq_true q281
            have ea_ := Option.some.inj (hx280_1.symm.trans hx281_1)
            injection ea_ with ea_ en_ ec_
            subst ea_
            subst ec_
            clear en_
            go_wp2
            repeat (go_quiet (fail); try go_wp2)
            go_roundg k1
            case measure => have := HK1.out; omega
            case rel => exact ⟨(wrap64 ((wrap64 ((wrap64 (x5_1 + 1)) + (((rd_T35 l0_1 x15_1).f0).size : Int))) + (((rd_T35 l0_1 x15_1).f1).length : Int))), (wrap64 (x15_1 + 1)), (by first | rfl | (simp; done) | (simp [*]; done)), (by first | rfl | (simp; done) | (simp [*]; done)), H', ⟨by have := HK1.out; omega⟩, ⟨by (with_reducible repeat (first | refine blk_drewN ?_ _ | refine blk_drew ?_ | refine blk_alloc ?_ _)); exact BK279.out⟩, ⟨by repeat (first | (with_reducible first | exact HB.out | apply below_alloc | apply pw_below_drewN | apply below_drew1 | refine below_set ?_ GE279.out) | exact HB.out)⟩⟩
          · rw [if_neg c7] at H
            exact absurd H (by simp)
        · rw [if_neg c6] at H
          exact absurd H (by simp)
      · rw [if_neg c5] at H
        have c5b0 : decide (x15_1 < (l0_1.length : Int)) = false := decide_eq_false c5
        clear c5
        have H' := Aside0.mk H
        clear H
        have hcz9_0 : wr.cell? ⟨gb279, 0, none⟩ = some (.string a0_0) := (blk_cell BK279.out 0).trans rfl
        have hcz9_1 : wr.cell? ⟨gb279, 1, none⟩ = some (.slice A0_1 l0_1.length c0_1) := (blk_cell BK279.out 1).trans rfl
        have hcz9_2 : wr.cell? ⟨gb279, 2, none⟩ = some (.slice A0_2 l0_2.length c0_2) := (blk_cell BK279.out 2).trans rfl
        have hfz9_0 := blk_frozen BK279.out 0
        have hfz9_1 := blk_frozen BK279.out 1
        have hfz9_2 := blk_frozen BK279.out 2
        go_wp2
        repeat (go_quiet (fail); try go_wp2)
        go_loopg [5, 40] k1 (fun kq v5 v40 w' => ∃ (x5_2 : Int) (x40_2 : Int), v5 = .int .i64 x5_2 ∧ v40 = .int .i64 x40_2 ∧ Aside0 (arboretlaw03_size.l1 kq a1 x5_2 (l0_2.length : Int) x40_2 a0_0 l0_1 l0_2 = some r) ∧ Aside0 (kq ≤ k1) ∧ Aside0 (w'.heap[gb279]? = some (.cells #[.string a0_0, (.slice A0_1 l0_1.length c0_1), (.slice A0_2 l0_2.length c0_2)] 27 (0, 0))) ∧ Aside0 (Below w.heap.size w w'))
        case atStart => exact ⟨(x5_1), (0), (by first | rfl | (simp; done) | (simp [*]; done)), (by first | rfl | (simp; done) | (simp [*]; done)), H', ⟨Nat.le_refl _⟩, ⟨by (with_reducible repeat (first | refine blk_drewN ?_ _ | refine blk_drew ?_ | refine blk_alloc ?_ _)); exact BK279.out⟩, ⟨by repeat (first | (with_reducible first | exact HB.out | apply below_alloc | apply pw_below_drewN | apply below_drew1 | refine below_set ?_ GE279.out) | exact HB.out)⟩⟩
        case round =>
          clear H'
          try clear c1
          try clear c2
          try clear p2
          try clear q2
          try clear hx2
          try clear c5
          try clear c5b0
          try clear c6
          try clear c6b0
          try clear p6
          try clear c7
          try clear c7b0
          try clear hcz4_0
          try clear hcz4_1
          try clear hcz4_2
          try clear hcz8_0
          try clear hcz8_1
          try clear hcz8_2
          try clear hcz9_0
          try clear hcz9_1
          try clear hcz9_2
          try clear hfz4_0
          try clear hfz4_1
          try clear hfz4_2
          try clear hfz8_0
          try clear hfz8_1
          try clear hfz8_2
          try clear hfz9_0
          try clear hfz9_1
          try clear hfz9_2
          try clear hx280_0
          try clear hx280_1
          try clear hx281_0
          try clear hx281_1
          try clear p2
          try clear p280
          try clear p281
          try clear q280
          try clear q281
          obtain ⟨x5_2, x40_2, rfl, rfl, HA, HK2, BK279, HB⟩ := hrel
          cases gk with
          | zero => exact absurd HA.out (by simp [arboretlaw03_size.l1])
          | succ k2 =>
            have H := HA.out
            clear HA
            simp only [arboretlaw03_size.l1] at H
            by_cases c10 : x40_2 < (l0_2.length : Int)
            · rw [if_pos c10] at H
              have c10b0 : decide (x40_2 < (l0_2.length : Int)) = true := decide_eq_true c10
              clear c10
              by_cases c11 : a1 > 20
              · rw [if_pos c11] at H
                have c11b0 : decide (20 < a1) = true := decide_eq_true c11
                clear c11
                obtain rfl := Option.some.inj H
                go_wp2
                repeat (go_quiet (fail); try go_wp2)
                go_ret
                exact ⟨by first | rfl | (simp [errW_none, errW_some] <;> rfl) | (simp [*, errW_none, errW_some] <;> rfl), by repeat (first | (with_reducible first | exact HB.out | apply below_alloc | apply pw_below_drewN | apply below_drew1 | refine below_set ?_ GE279.out) | exact HB.out)⟩
              · rw [if_neg c11] at H
                have c11b0 : decide (20 < a1) = false := decide_eq_false c11
                clear c11
                by_cases c12 : x5_2 > 100000
                · rw [if_pos c12] at H
                  have c12b0 : decide (100000 < x5_2) = true := decide_eq_true c12
                  clear c12
                  obtain rfl := Option.some.inj H
                  go_wp2
                  repeat (go_quiet (fail); try go_wp2)
                  go_ret
                  exact ⟨by first | rfl | (simp [errW_none, errW_some] <;> rfl) | (simp [*, errW_none, errW_some] <;> rfl), by repeat (first | (with_reducible first | exact HB.out | apply below_alloc | apply pw_below_drewN | apply below_drew1 | refine below_set ?_ GE279.out) | exact HB.out)⟩
                · rw [if_neg c12] at H
                  have c12b0 : decide (100000 < x5_2) = false := decide_eq_false c12
                  clear c12
                  by_cases c13 : 0 ≤ x40_2
                  · rw [if_pos c13] at H
                    have c13b0 : decide (0 ≤ x40_2) = true := decide_eq_true c13
                    clear c13
                    by_cases c14 : x40_2 < (l0_2.length : Int)
                    · rw [if_pos c14] at H
                      have c14b0 : decide (x40_2 < (l0_2.length : Int)) = true := decide_eq_true c14
                      clear c14
                      replace H := Option.bind_eq_some_iff.mp H
                      obtain ⟨t283, A150, H⟩ := H
                      replace H : (arboretlaw03_size.l1 k2 a1 (wrap64 (x5_2 + t283)) (l0_2.length : Int) (wrap64 (x40_2 + 1)) a0_0 l0_1 l0_2) = some r := H
                      have A15 := Aside0.mk A150
                      clear A150
                      have H' := Aside0.mk H
                      clear H
                      have hcz16_0 : wr.cell? ⟨gb279, 0, none⟩ = some (.string a0_0) := (blk_cell BK279.out 0).trans rfl
                      have hcz16_1 : wr.cell? ⟨gb279, 1, none⟩ = some (.slice A0_1 l0_1.length c0_1) := (blk_cell BK279.out 1).trans rfl
                      have hcz16_2 : wr.cell? ⟨gb279, 2, none⟩ = some (.slice A0_2 l0_2.length c0_2) := (blk_cell BK279.out 2).trans rfl
                      have hfz16_0 := blk_frozen BK279.out 0
                      have hfz16_1 := blk_frozen BK279.out 1
                      have hfz16_2 := blk_frozen BK279.out 2
                      have p282 : 0 ≤ (x40_2 : Int) := of_decide_eq_true (by first | (with_reducible assumption) | assumption)
                      have q282 : x40_2 < (l0_2.length : Int) := of_decide_eq_true (by first | (with_reducible assumption) | assumption)
                      obtain ⟨ad282, A282_1, c282_1, A282_2, c282_2, e282, hx282_0, hx282_1, hx282_2, hl282_1, hi282_1, hl282_2, hi282_2⟩ := at_T27 HR0_2.out x40_2 p282 q282
                      cases e282
                      replace hx282_0 := (HB.out.cell (World.block_lt_of_cell? w _ hx282_0)).trans hx282_0
                      replace hx282_1 := (HB.out.cell (World.block_lt_of_cell? w _ hx282_1)).trans hx282_1
                      replace hx282_2 := (HB.out.cell (World.block_lt_of_cell? w _ hx282_2)).trans hx282_2
                      have HR282_1 := Aside0.mk hi282_1
                      have HC282_1 := Aside0.mk hl282_1
                      clear hi282_1 hl282_1
                      have HR282_2 := Aside0.mk hi282_2
                      have HC282_2 := Aside0.mk hl282_2
                      clear hi282_2 hl282_2
                      replace p282 := eq_true p282
                      replace q282 := eq_true q282
                      go_wp2_with (first | (go_at_call 12; (with_reducible refine (ih k2 (by have := HK1.out; have := HK2.out; omega) ((rd_T27 l0_2 x40_2).f0) _ _ ((rd_T27 l0_2 x40_2).f1) _ _ ((rd_T27 l0_2 x40_2).f2) (wrap64 (a1 + 1)) t283 _ ?side1 ?side2 ?side3 ?side4 A15.out).mono ?_); (case side1 => repeat (first | exact (Kd.C_below HR282_1.out HB.out) | (with_reducible refine Kd.C_alloc ?_ _) | (with_reducible refine Kd.C_drewN ?_ _) | (with_reducible refine Kd.C_drew ?_))); (case side2 => exact HC282_1.out); (case side3 => repeat (first | exact (Kd.C_below HR282_2.out HB.out) | (with_reducible refine Kd.C_alloc ?_ _) | (with_reducible refine Kd.C_drewN ?_ _) | (with_reducible refine Kd.C_drew ?_))); (case side4 => exact HC282_2.out); rintro e w17 ⟨rfl, hb⟩; have n0_ := Aside0.mk (blk_below (g := gb279) (o := .cells #[.string a0_0, .slice A0_1 l0_1.length c0_1, .slice (some ad282) l0_2.length c0_2] 27 (0, 0)) (by (with_reducible repeat (first | refine blk_drewN ?_ _ | refine blk_drew ?_ | refine blk_alloc ?_ _)); exact BK279.out) hb); have n1_ := Aside0.mk (below_step (by repeat (first | (with_reducible first | exact HB.out | apply below_alloc | apply pw_below_drewN | apply below_drew1 | refine below_set ?_ GE279.out) | exact HB.out)) hb); clear BK279; clear HB; have BK279 := n0_; have HB := n1_; clear n0_ n1_; (try clear hb); (try clear hb2); (try clear hk); (try clear hi)))
                      repeat (go_quiet (first | (go_at_call 12; (with_reducible refine (ih k2 (by have := HK1.out; have := HK2.out; omega) ((rd_T27 l0_2 x40_2).f0) _ _ ((rd_T27 l0_2 x40_2).f1) _ _ ((rd_T27 l0_2 x40_2).f2) (wrap64 (a1 + 1)) t283 _ ?side1 ?side2 ?side3 ?side4 A15.out).mono ?_); (case side1 => repeat (first | exact (Kd.C_below HR282_1.out HB.out) | (with_reducible refine Kd.C_alloc ?_ _) | (with_reducible refine Kd.C_drewN ?_ _) | (with_reducible refine Kd.C_drew ?_))); (case side2 => exact HC282_1.out); (case side3 => repeat (first | exact (Kd.C_below HR282_2.out HB.out) | (with_reducible refine Kd.C_alloc ?_ _) | (with_reducible refine Kd.C_drewN ?_ _) | (with_reducible refine Kd.C_drew ?_))); (case side4 => exact HC282_2.out); rintro e w17 ⟨rfl, hb⟩; have n0_ := Aside0.mk (blk_below (g := gb279) (o := .cells #[.string a0_0, .slice A0_1 l0_1.length c0_1, .slice (some ad282) l0_2.length c0_2] 27 (0, 0)) (by (with_reducible repeat (first | refine blk_drewN ?_ _ | refine blk_drew ?_ | refine blk_alloc ?_ _)); exact BK279.out) hb); have n1_ := Aside0.mk (below_step (by repeat (first | (with_reducible first | exact HB.out | apply below_alloc | apply pw_below_drewN | apply below_drew1 | refine below_set ?_ GE279.out) | exact HB.out)) hb); clear BK279; clear HB; have BK279 := n0_; have HB := n1_; clear n0_ n1_; (try clear hb); (try clear hb2); (try clear hk); (try clear hi))); try go_wp2_with (first | (go_at_call 12; (with_reducible refine (ih k2 (by have := HK1.out; have := HK2.out; omega) ((rd_T27 l0_2 x40_2).f0) _ _ ((rd_T27 l0_2 x40_2).f1) _ _ ((rd_T27 l0_2 x40_2).f2) (wrap64 (a1 + 1)) t283 _ ?side1 ?side2 ?side3 ?side4 A15.out).mono ?_); (case side1 => repeat (first | exact (Kd.C_below HR282_1.out HB.out) | (with_reducible refine Kd.C_alloc ?_ _) | (with_reducible refine Kd.C_drewN ?_ _) | (with_reducible refine Kd.C_drew ?_))); (case side2 => exact HC282_1.out); (case side3 => repeat (first | exact (Kd.C_below HR282_2.out HB.out) | (with_reducible refine Kd.C_alloc ?_ _) | (with_reducible refine Kd.C_drewN ?_ _) | (with_reducible refine Kd.C_drew ?_))); (case side4 => exact HC282_2.out); rintro e w17 ⟨rfl, hb⟩; have n0_ := Aside0.mk (blk_below (g := gb279) (o := .cells #[.string a0_0, .slice A0_1 l0_1.length c0_1, .slice (some ad282) l0_2.length c0_2] 27 (0, 0)) (by (with_reducible repeat (first | refine blk_drewN ?_ _ | refine blk_drew ?_ | refine blk_alloc ?_ _)); exact BK279.out) hb); have n1_ := Aside0.mk (below_step (by repeat (first | (with_reducible first | exact HB.out | apply below_alloc | apply pw_below_drewN | apply below_drew1 | refine below_set ?_ GE279.out) | exact HB.out)) hb); clear BK279; clear HB; have BK279 := n0_; have HB := n1_; clear n0_ n1_; (try clear hb); (try clear hb2); (try clear hk); (try clear hi))))
                      go_roundg k2
                      case measure => have := HK1.out; have := HK2.out; omega
                      case rel => exact ⟨(wrap64 (x5_2 + t283)), (wrap64 (x40_2 + 1)), (by first | rfl | (simp; done) | (simp [*]; done)), (by first | rfl | (simp; done) | (simp [*]; done)), H', ⟨by have := HK1.out; have := HK2.out; omega⟩, ⟨by (with_reducible repeat (first | refine blk_drewN ?_ _ | refine blk_drew ?_ | refine blk_alloc ?_ _)); exact BK279.out⟩, ⟨by repeat (first | (with_reducible first | exact HB.out | apply below_alloc | apply pw_below_drewN | apply below_drew1 | refine below_set ?_ GE279.out) | exact HB.out)⟩⟩
                    · rw [if_neg c14] at H
                      exact absurd H (by simp)
                  · rw [if_neg c13] at H
                    exact absurd H (by simp)
            · rw [if_neg c10] at H
              have c10b0 : decide (x40_2 < (l0_2.length : Int)) = false := decide_eq_false c10
              clear c10
              obtain rfl := Option.some.inj H
              go_wp2
              repeat (go_quiet (fail); try go_wp2)
              go_ret
              exact ⟨by first | rfl | (simp [errW_none, errW_some] <;> rfl) | (simp [*, errW_none, errW_some] <;> rfl), by repeat (first | (with_reducible first | exact HB.out | apply below_alloc | apply pw_below_drewN | apply below_drew1 | refine below_set ?_ GE279.out) | exact HB.out)⟩
end Go.Proofs.Ytiioeaalnmjbmaa.PE

namespace Go.Proofs.Ytiioeaalnmjbmaa.PE
open Go.RowKit Go.Proofs.YtiioeaalnmjbmaaW.PrintWords Go.Proofs.YtiioeaalnmjbmaaW.PrintLast Go.Proofs.YtiioeaalnmjbmaaW.PrintMore
attribute [local go_sem] max2_int min2_int max_two min_two max_three min_three max_four min_four   -- for this text's walks alone
set_option linter.unusedVariables false
set_option linter.unusedSimpArgs false
def arboretlaw03_Few.f (k : Nat) (a0_0 : Int) (l0_1 : List (S45)) (a0_2 : ByteArray) (l0_3 : List (S35)) (l0_4 : List (S27)) : Option (Bool) := (arboretlaw03_size.f k a0_2 l0_3 l0_4 0).bind fun t285 => (if t285 ≤ 100000 then (some (decide ((l0_1.length : Int) ≤ 200))) else (some false))
set_option maxHeartbeats 8000000 in
set_option maxRecDepth 100000 in
theorem arboretlaw03_Few.calls (k : Nat) (a0_0 : Int) (A0_1 : Option Addr) (c0_1 : Nat) (l0_1 : List (S45)) (a0_2 : ByteArray) (A0_3 : Option Addr) (c0_3 : Nat) (l0_3 : List (S35)) (A0_4 : Option Addr) (c0_4 : Nat) (l0_4 : List (S27)) (r : Bool) (w : World) (hr0_1 : Kd.C k45 w A0_1 l0_1.length l0_1) (hc0_1 : l0_1.length ≤ c0_1) (hr0_3 : Kd.C k35 w A0_3 l0_3.length l0_3) (hc0_3 : l0_3.length ≤ c0_3) (hr0_4 : Kd.C k27 w A0_4 l0_4.length l0_4) (hc0_4 : l0_4.length ≤ c0_4) (h : arboretlaw03_Few.f k a0_0 l0_1 a0_2 l0_3 l0_4 = some r) :
    Calls Try.prog 5 #[.agg #[.int .u32 a0_0, .slice A0_1 l0_1.length c0_1, .string a0_2, .slice A0_3 l0_3.length c0_3, .slice A0_4 l0_4.length c0_4]] w fun e w' => e = .returned (.bool r) ∧ Below w.heap.size w w' := by
  have hu29 := Try.underlying29
  have hu27 := Try.underlying27
  have HR0_1 := Aside0.mk hr0_1
  have HC0_1 := Aside0.mk hc0_1
  clear hr0_1 hc0_1
  have HR0_3 := Aside0.mk hr0_3
  have HC0_3 := Aside0.mk hc0_3
  clear hr0_3 hc0_3
  have HR0_4 := Aside0.mk hr0_4
  have HC0_4 := Aside0.mk hc0_4
  clear hr0_4 hc0_4
  have HB := Aside0.mk (Below.refl w.heap.size w)
  have H : ((arboretlaw03_size.f k a0_2 l0_3 l0_4 0).bind fun t285 => (if t285 ≤ 100000 then (some (decide ((l0_1.length : Int) ≤ 200))) else (some false))) = some r := h
  clear h
  replace H := Option.bind_eq_some_iff.mp H
  obtain ⟨t285, A20, H⟩ := H
  replace H : (if t285 ≤ 100000 then (some (decide ((l0_1.length : Int) ≤ 200))) else (some false)) = some r := H
  have A2 := Aside0.mk A20
  clear A20
  by_cases c3 : t285 ≤ 100000
  · rw [if_pos c3] at H
    have c3b0 : decide (t285 ≤ 100000) = true := decide_eq_true c3
    clear c3
    obtain rfl := Option.some.inj H
    go_enter Try.func5, Try.ntmps5
    go_wp2_with (first | ((with_reducible refine gate_dst (N := 1) rfl ?_); (try (refine gate_guard (by rfl) ?_; dsimp only)); refine box_event ?hg (N := 1) ?hd (cs := #[.int .u32 a0_0, .slice A0_1 l0_1.length c0_1, .string a0_2, .slice A0_3 l0_3.length c0_3, .slice A0_4 l0_4.length c0_4]) (t := 29) ?hr ?_; (case hd => rfl); (case hg => rfl); (case hr => first | (go_simp; done) | (go_simp; rfl)); intro gb284 hg w4 hbox hb; have n0_ := Aside0.mk (below_step (by repeat (first | (with_reducible first | exact HB.out | apply below_alloc | apply pw_below_drewN | apply below_drew1) | exact HB.out)) hb); have n1_ := Aside0.mk (hbox); have n2_ := Aside0.mk ((by rw [hg]; exact (below_size (by repeat (first | (with_reducible first | exact HB.out | apply below_alloc | apply pw_below_drewN | apply below_drew1) | exact HB.out))) : w.heap.size ≤ gb284)); have n3_ := Aside0.mk ((by rw [hg]; exact (below_size (by repeat (first | (with_reducible first | exact HB.out | apply below_alloc | apply pw_below_drewN | apply below_drew1) | exact HB.out))) : w.heap.size ≤ gb284)); clear HB; have HB := n0_; have BK284 := n1_; have GW284 := n2_; have GE284 := n3_; clear n0_ n1_ n2_ n3_; clear hb hbox hg; have hcz5_0 : w4.cell? ⟨gb284, 0, none⟩ = some (.int .u32 a0_0) := (blk_cell BK284.out 0).trans rfl; have hcz5_1 : w4.cell? ⟨gb284, 1, none⟩ = some (.slice A0_1 l0_1.length c0_1) := (blk_cell BK284.out 1).trans rfl; have hcz5_2 : w4.cell? ⟨gb284, 2, none⟩ = some (.string a0_2) := (blk_cell BK284.out 2).trans rfl; have hcz5_3 : w4.cell? ⟨gb284, 3, none⟩ = some (.slice A0_3 l0_3.length c0_3) := (blk_cell BK284.out 3).trans rfl; have hcz5_4 : w4.cell? ⟨gb284, 4, none⟩ = some (.slice A0_4 l0_4.length c0_4) := (blk_cell BK284.out 4).trans rfl; have hfz5_0 := blk_frozen BK284.out 0; have hfz5_1 := blk_frozen BK284.out 1; have hfz5_2 := blk_frozen BK284.out 2; have hfz5_3 := blk_frozen BK284.out 3; have hfz5_4 := blk_frozen BK284.out 4) | ((with_reducible refine gate_callee (f := 12) rfl ?_); refine goesL_ (some 5) rfl rfl Try.func12 (by kernel_rfl) rfl #[.agg #[.string a0_2, .slice A0_3 l0_3.length c0_3, .slice A0_4 l0_4.length c0_4], .int .i64 0] rfl (by (try simp only [List.map_toArray, List.map_cons, List.map_nil]); first | done | rfl | (simp only [List.length_drop, List.length_take]; rfl)) ?_; (with_reducible refine (arboretlaw03_size.calls k a0_2 _ _ l0_3 _ _ l0_4 0 t285 _ ?side1 ?side2 ?side3 ?side4 A2.out).mono ?_); (case side1 => repeat (first | exact (Kd.C_below HR0_3.out HB.out) | (with_reducible refine Kd.C_alloc ?_ _) | (with_reducible refine Kd.C_drewN ?_ _) | (with_reducible refine Kd.C_drew ?_))); (case side2 => exact HC0_3.out); (case side3 => repeat (first | exact (Kd.C_below HR0_4.out HB.out) | (with_reducible refine Kd.C_alloc ?_ _) | (with_reducible refine Kd.C_drewN ?_ _) | (with_reducible refine Kd.C_drew ?_))); (case side4 => exact HC0_4.out); rintro e w6 ⟨rfl, hb⟩; refine ⟨_, rfl, ?_⟩; have n0_ := Aside0.mk (blk_below (g := gb284) (o := .cells #[.int .u32 a0_0, .slice A0_1 l0_1.length c0_1, .string a0_2, .slice A0_3 l0_3.length c0_3, .slice A0_4 l0_4.length c0_4] 29 (0, 0)) (by (with_reducible repeat (first | refine blk_drewN ?_ _ | refine blk_drew ?_ | refine blk_alloc ?_ _)); exact BK284.out) hb); have n1_ := Aside0.mk (below_step (by repeat (first | (with_reducible first | exact HB.out | apply below_alloc | apply pw_below_drewN | apply below_drew1 | refine below_set ?_ GE284.out) | exact HB.out)) hb); clear BK284; clear HB; have BK284 := n0_; have HB := n1_; clear n0_ n1_; (try clear hb); (try clear hb2); (try clear hk); (try clear hi); have hcz7_0 : w6.cell? ⟨gb284, 0, none⟩ = some (.int .u32 a0_0) := (blk_cell BK284.out 0).trans rfl; have hcz7_1 : w6.cell? ⟨gb284, 1, none⟩ = some (.slice A0_1 l0_1.length c0_1) := (blk_cell BK284.out 1).trans rfl; have hcz7_2 : w6.cell? ⟨gb284, 2, none⟩ = some (.string a0_2) := (blk_cell BK284.out 2).trans rfl; have hcz7_3 : w6.cell? ⟨gb284, 3, none⟩ = some (.slice A0_3 l0_3.length c0_3) := (blk_cell BK284.out 3).trans rfl; have hcz7_4 : w6.cell? ⟨gb284, 4, none⟩ = some (.slice A0_4 l0_4.length c0_4) := (blk_cell BK284.out 4).trans rfl; have hfz7_0 := blk_frozen BK284.out 0; have hfz7_1 := blk_frozen BK284.out 1; have hfz7_2 := blk_frozen BK284.out 2; have hfz7_3 := blk_frozen BK284.out 3; have hfz7_4 := blk_frozen BK284.out 4))
    go_ret
    exact ⟨by first | rfl | (simp [errW_none, errW_some] <;> rfl) | (simp [*, errW_none, errW_some] <;> rfl), by repeat (first | (with_reducible first | exact HB.out | apply below_alloc | apply pw_below_drewN | apply below_drew1 | refine below_set ?_ GE284.out) | exact HB.out)⟩
  · rw [if_neg c3] at H
    have c3b0 : decide (t285 ≤ 100000) = false := decide_eq_false c3
    clear c3
    obtain rfl := Option.some.inj H
    go_enter Try.func5, Try.ntmps5
    go_wp2_with (first | ((with_reducible refine gate_dst (N := 1) rfl ?_); (try (refine gate_guard (by rfl) ?_; dsimp only)); refine box_event ?hg (N := 1) ?hd (cs := #[.int .u32 a0_0, .slice A0_1 l0_1.length c0_1, .string a0_2, .slice A0_3 l0_3.length c0_3, .slice A0_4 l0_4.length c0_4]) (t := 29) ?hr ?_; (case hd => rfl); (case hg => rfl); (case hr => first | (go_simp; done) | (go_simp; rfl)); intro gb284 hg w8 hbox hb; have n0_ := Aside0.mk (below_step (by repeat (first | (with_reducible first | exact HB.out | apply below_alloc | apply pw_below_drewN | apply below_drew1) | exact HB.out)) hb); have n1_ := Aside0.mk (hbox); have n2_ := Aside0.mk ((by rw [hg]; exact (below_size (by repeat (first | (with_reducible first | exact HB.out | apply below_alloc | apply pw_below_drewN | apply below_drew1) | exact HB.out))) : w.heap.size ≤ gb284)); have n3_ := Aside0.mk ((by rw [hg]; exact (below_size (by repeat (first | (with_reducible first | exact HB.out | apply below_alloc | apply pw_below_drewN | apply below_drew1) | exact HB.out))) : w.heap.size ≤ gb284)); clear HB; have HB := n0_; have BK284 := n1_; have GW284 := n2_; have GE284 := n3_; clear n0_ n1_ n2_ n3_; clear hb hbox hg; have hcz9_0 : w8.cell? ⟨gb284, 0, none⟩ = some (.int .u32 a0_0) := (blk_cell BK284.out 0).trans rfl; have hcz9_1 : w8.cell? ⟨gb284, 1, none⟩ = some (.slice A0_1 l0_1.length c0_1) := (blk_cell BK284.out 1).trans rfl; have hcz9_2 : w8.cell? ⟨gb284, 2, none⟩ = some (.string a0_2) := (blk_cell BK284.out 2).trans rfl; have hcz9_3 : w8.cell? ⟨gb284, 3, none⟩ = some (.slice A0_3 l0_3.length c0_3) := (blk_cell BK284.out 3).trans rfl; have hcz9_4 : w8.cell? ⟨gb284, 4, none⟩ = some (.slice A0_4 l0_4.length c0_4) := (blk_cell BK284.out 4).trans rfl; have hfz9_0 := blk_frozen BK284.out 0; have hfz9_1 := blk_frozen BK284.out 1; have hfz9_2 := blk_frozen BK284.out 2; have hfz9_3 := blk_frozen BK284.out 3; have hfz9_4 := blk_frozen BK284.out 4) | ((with_reducible refine gate_callee (f := 12) rfl ?_); refine goesL_ (some 5) rfl rfl Try.func12 (by kernel_rfl) rfl #[.agg #[.string a0_2, .slice A0_3 l0_3.length c0_3, .slice A0_4 l0_4.length c0_4], .int .i64 0] rfl (by (try simp only [List.map_toArray, List.map_cons, List.map_nil]); first | done | rfl | (simp only [List.length_drop, List.length_take]; rfl)) ?_; (with_reducible refine (arboretlaw03_size.calls k a0_2 _ _ l0_3 _ _ l0_4 0 t285 _ ?side1 ?side2 ?side3 ?side4 A2.out).mono ?_); (case side1 => repeat (first | exact (Kd.C_below HR0_3.out HB.out) | (with_reducible refine Kd.C_alloc ?_ _) | (with_reducible refine Kd.C_drewN ?_ _) | (with_reducible refine Kd.C_drew ?_))); (case side2 => exact HC0_3.out); (case side3 => repeat (first | exact (Kd.C_below HR0_4.out HB.out) | (with_reducible refine Kd.C_alloc ?_ _) | (with_reducible refine Kd.C_drewN ?_ _) | (with_reducible refine Kd.C_drew ?_))); (case side4 => exact HC0_4.out); rintro e w10 ⟨rfl, hb⟩; refine ⟨_, rfl, ?_⟩; have n0_ := Aside0.mk (blk_below (g := gb284) (o := .cells #[.int .u32 a0_0, .slice A0_1 l0_1.length c0_1, .string a0_2, .slice A0_3 l0_3.length c0_3, .slice A0_4 l0_4.length c0_4] 29 (0, 0)) (by (with_reducible repeat (first | refine blk_drewN ?_ _ | refine blk_drew ?_ | refine blk_alloc ?_ _)); exact BK284.out) hb); have n1_ := Aside0.mk (below_step (by repeat (first | (with_reducible first | exact HB.out | apply below_alloc | apply pw_below_drewN | apply below_drew1 | refine below_set ?_ GE284.out) | exact HB.out)) hb); clear BK284; clear HB; have BK284 := n0_; have HB := n1_; clear n0_ n1_; (try clear hb); (try clear hb2); (try clear hk); (try clear hi)))
    go_ret
    exact ⟨by first | rfl | (simp [errW_none, errW_some] <;> rfl) | (simp [*, errW_none, errW_some] <;> rfl), by repeat (first | (with_reducible first | exact HB.out | apply below_alloc | apply pw_below_drewN | apply below_drew1 | refine below_set ?_ GE284.out) | exact HB.out)⟩
end Go.Proofs.Ytiioeaalnmjbmaa.PE

namespace Go.Proofs.Ytiioeaalnmjbmaa.PE
open Go.RowKit Go.Proofs.YtiioeaalnmjbmaaW.PrintWords Go.Proofs.YtiioeaalnmjbmaaW.PrintLast Go.Proofs.YtiioeaalnmjbmaaW.PrintMore
attribute [local go_sem] max2_int min2_int max_two min_two max_three min_three max_four min_four   -- for this text's walks alone
set_option linter.unusedVariables false
set_option linter.unusedSimpArgs false
mutual
def tree_names.l0 : Nat → List ByteArray → List (S35) → Int → Int → ByteArray → List (S35) → List (S27) → Option (List ByteArray × List ByteArray)
  | 0, _, _, _, _, _, _, _ => none
  | k + 1, x4, x11, x12, x13, x108000, x108001, x108002 => if x13 < x12 then (if 0 ≤ x13 then (if x13 < (x11.length : Int) then (if x4.length < 8796093022208 then (tree_names.l0 k (x4 ++ [(rd_T35 x11 x13).f0]) x11 x12 (wrap64 (x13 + 1)) x108000 x108001 x108002) else (none)) else (none)) else (none)) else (tree_names.l1 k x4 ([] : List ByteArray) x108002 (x108002.length : Int) 0)
def tree_names.l1 : Nat → List ByteArray → List ByteArray → List (S27) → Int → Int → Option (List ByteArray × List ByteArray)
  | 0, _, _, _, _, _ => none
  | k + 1, x4, x5, x24, x25, x26 => if x26 < x25 then (if 0 ≤ x26 then (if x26 < (x24.length : Int) then (if x5.length < 8796093022208 then (tree_names.l1 k x4 (x5 ++ [(rd_T27 x24 x26).f0]) x24 x25 (wrap64 (x26 + 1))) else (none)) else (none)) else (none)) else (some (x4, x5))
end
def tree_names.f (k : Nat) (a0_0 : ByteArray) (l0_1 : List (S35)) (l0_2 : List (S27)) : Option (List ByteArray × List ByteArray) := tree_names.l0 k ([] : List ByteArray) l0_1 (l0_1.length : Int) 0 a0_0 l0_1 l0_2
set_option maxHeartbeats 8000000 in
set_option maxRecDepth 100000 in
theorem tree_names.calls (k : Nat) (a0_0 : ByteArray) (A0_1 : Option Addr) (c0_1 : Nat) (l0_1 : List (S35)) (A0_2 : Option Addr) (c0_2 : Nat) (l0_2 : List (S27)) (r1 : List ByteArray) (r2 : List ByteArray) (w : World) (hr0_1 : Kd.C k35 w A0_1 l0_1.length l0_1) (hc0_1 : l0_1.length ≤ c0_1) (hr0_2 : Kd.C k27 w A0_2 l0_2.length l0_2) (hc0_2 : l0_2.length ≤ c0_2) (h : tree_names.f k a0_0 l0_1 l0_2 = some (r1, r2)) :
    Calls Try.prog 24 #[.agg #[.string a0_0, .slice A0_1 l0_1.length c0_1, .slice A0_2 l0_2.length c0_2]] w fun e w' => ∃ v0_ v1_ : Value, e = .returned (.tuple #[v0_, v1_]) ∧ Kd.R Kd.string 9 w' w.heap.size (fun k_ => some k_ ≠ (v1_ : Value).ownBlock) v0_ r1 ∧ Kd.R Kd.string 9 w' w.heap.size (fun k_ => some k_ ≠ (v0_ : Value).ownBlock) v1_ r2 ∧ Below w.heap.size w w' := by
  have hu27 := Try.underlying27
  have hu35 := Try.underlying35
  have HR0_1 := Aside0.mk hr0_1
  have HC0_1 := Aside0.mk hc0_1
  clear hr0_1 hc0_1
  have HR0_2 := Aside0.mk hr0_2
  have HC0_2 := Aside0.mk hc0_2
  clear hr0_2 hc0_2
  have HB := Aside0.mk (Below.refl w.heap.size w)
  have H : (tree_names.l0 k ([] : List ByteArray) l0_1 (l0_1.length : Int) 0 a0_0 l0_1 l0_2) = some (r1, r2) := h
  clear h
  have H' := Aside0.mk H
  clear H
  go_enter Try.func24, Try.ntmps24
  go_wp2_with (first | ((with_reducible refine gate_dst (N := 1) rfl ?_); refine box_event ?hg (N := 1) ?hd (cs := #[.string a0_0, .slice A0_1 l0_1.length c0_1, .slice A0_2 l0_2.length c0_2]) (t := 27) ?hr ?_; (case hd => rfl); (case hg => rfl); (case hr => first | (go_simp; done) | (go_simp; rfl)); intro gb107 hg w2 hbox hb; have n0_ := Aside0.mk (below_step (by repeat (first | (with_reducible first | exact HB.out | apply below_alloc | apply pw_below_drewN | apply below_drew1) | exact HB.out)) hb); have n1_ := Aside0.mk (hbox); have n2_ := Aside0.mk ((by rw [hg]; exact (below_size (by repeat (first | (with_reducible first | exact HB.out | apply below_alloc | apply pw_below_drewN | apply below_drew1) | exact HB.out))) : w.heap.size ≤ gb107)); have n3_ := Aside0.mk ((by rw [hg]; exact (below_size (by repeat (first | (with_reducible first | exact HB.out | apply below_alloc | apply pw_below_drewN | apply below_drew1) | exact HB.out))) : w.heap.size ≤ gb107)); clear HB; have HB := n0_; have BK107 := n1_; have GW107 := n2_; have GE107 := n3_; clear n0_ n1_ n2_ n3_; clear hb hbox hg; have hcz3_0 : w2.cell? ⟨gb107, 0, none⟩ = some (.string a0_0) := (blk_cell BK107.out 0).trans rfl; have hcz3_1 : w2.cell? ⟨gb107, 1, none⟩ = some (.slice A0_1 l0_1.length c0_1) := (blk_cell BK107.out 1).trans rfl; have hcz3_2 : w2.cell? ⟨gb107, 2, none⟩ = some (.slice A0_2 l0_2.length c0_2) := (blk_cell BK107.out 2).trans rfl; have hfz3_0 := blk_frozen BK107.out 0; have hfz3_1 := blk_frozen BK107.out 1; have hfz3_2 := blk_frozen BK107.out 2))
  go_loopg [4, 13] k (fun kq v4 v13 w' => ∃ (x4_1 : List ByteArray) (x13_1 : Int), v13 = .int .i64 x13_1 ∧ Aside0 (tree_names.l0 kq x4_1 l0_1 (l0_1.length : Int) x13_1 a0_0 l0_1 l0_2 = some (r1, r2)) ∧ Aside0 (kq ≤ k) ∧ Aside0 (Kd.R Kd.string 9 w' w.heap.size (fun _ => True) v4 x4_1) ∧ Aside0 (w'.heap[gb107]? = some (.cells #[.string a0_0, (.slice A0_1 l0_1.length c0_1), (.slice A0_2 l0_2.length c0_2)] 27 (0, 0))) ∧ Aside0 (Below w.heap.size w w'))
  case atStart => exact ⟨(([] : List ByteArray)), (0), (by first | rfl | (simp; done) | (simp [*]; done)), H', ⟨Nat.le_refl _⟩, ⟨by first | exact Kd.R_nil _ _ _ _ _ | exact Kd.N_nil _ _ _ _ _ | exact Kd.V_nil _ _ _ _ _ | exact Kd.Q_nil _ _ _ _ _ | exact Kd.S_nil _ _ _ _ _⟩, ⟨by (with_reducible repeat (first | refine blk_drewN ?_ _ | refine blk_drew ?_ | refine blk_alloc ?_ _)); exact BK107.out⟩, ⟨by repeat (first | (with_reducible first | exact HB.out | apply below_alloc | apply pw_below_drewN | apply below_drew1 | refine below_set ?_ GE107.out) | exact HB.out)⟩⟩
  case round =>
    clear H'
    try clear c2
    try clear p2
    try clear hcz3_0
    try clear hcz3_1
    try clear hcz3_2
    try clear hfz3_0
    try clear hfz3_1
    try clear hfz3_2
    obtain ⟨x4_1, x13_1, rfl, HA, HK1, HO_4, BK107, HB⟩ := hrel
    cases gk with
    | zero => exact absurd HA.out (by simp [tree_names.l0])
    | succ k1 =>
      have H := HA.out
      clear HA
      simp only [tree_names.l0] at H
      by_cases c4 : x13_1 < (l0_1.length : Int)
      · rw [if_pos c4] at H
        have c4b0 : decide (x13_1 < (l0_1.length : Int)) = true := decide_eq_true c4
        clear c4
        by_cases c5 : 0 ≤ x13_1
        · rw [if_pos c5] at H
          have c5b0 : decide (0 ≤ x13_1) = true := decide_eq_true c5
          clear c5
          by_cases c6 : x13_1 < (l0_1.length : Int)
          · rw [if_pos c6] at H
            have c6b0 : decide (x13_1 < (l0_1.length : Int)) = true := decide_eq_true c6
            clear c6
            by_cases c7 : x4_1.length < 8796093022208
            · rw [if_pos c7] at H
              have LMc7 := Aside0.mk c7
              clear c7
              obtain ⟨y110, hy110⟩ : ∃ y_ : List ByteArray, y_ = (x4_1 ++ [(rd_T35 l0_1 x13_1).f0]) := ⟨_, rfl⟩
              replace H : (tree_names.l0 k1 y110 l0_1 (l0_1.length : Int) (wrap64 (x13_1 + 1)) a0_0 l0_1 l0_2) = some (r1, r2) := by first | (rw [hy110]; with_reducible exact H) | (have H2_ := (Option.bind_some _ _).symm.trans H; rw [hy110]; with_reducible exact H2_) | (have H2_ := (Option.bind_some _ _).symm.trans H; with_reducible exact H2_) | with_reducible exact H | (rw [hy110]; exact H) | exact H
              have Ny110 := Aside0.mk hy110
              clear hy110
              have H' := Aside0.mk H
              clear H
              have p108 : 0 ≤ (x13_1 : Int) := of_decide_eq_true (by first | (with_reducible assumption) | assumption)
              have q108 : x13_1 < (l0_1.length : Int) := of_decide_eq_true (by first | (with_reducible assumption) | assumption)
              obtain ⟨ad108, A108_1, c108_1, e108, hx108_0, hx108_1, hl108_1, hi108_1⟩ := at_T35 HR0_1.out x13_1 p108 q108
              cases e108
              replace hx108_0 := (HB.out.cell (World.block_lt_of_cell? w _ hx108_0)).trans hx108_0
              replace hx108_1 := (HB.out.cell (World.block_lt_of_cell? w _ hx108_1)).trans hx108_1
              have HR108_1 := Aside0.mk hi108_1
              have HC108_1 := Aside0.mk hl108_1
              clear hi108_1 hl108_1
              replace p108 := eq_true p108
              replace q108 := eq_true q108
              go_wp2_with (first | ((with_reducible refine gate_dst (N := 7) rfl ?_); refine box_event ?hg (N := 7) ?hd (cs := #[.string (⟨#[]⟩ : ByteArray), .slice none 0 0]) (t := 35) ?hr ?_; (case hd => rfl); (case hg => rfl); (case hr => first | (go_simp; done) | (go_simp; rfl)); intro gb109 hg w8 hbox hb; have n0_ := Aside0.mk (Kd.R_below (by (with_reducible repeat (first | apply Kd.R_alloc | apply Kd.R_drewN | apply Kd.R_drew)); exact HO_4.out) hb); have n1_ := Aside0.mk (blk_below (g := gb107) (o := .cells #[.string a0_0, .slice (some ad108) l0_1.length c0_1, .slice A0_2 l0_2.length c0_2] 27 (0, 0)) (by (with_reducible repeat (first | refine blk_drewN ?_ _ | refine blk_drew ?_ | refine blk_alloc ?_ _)); exact BK107.out) hb); have n2_ := Aside0.mk (below_step (by repeat (first | (with_reducible first | exact HB.out | apply below_alloc | apply pw_below_drewN | apply below_drew1 | refine below_set ?_ GE107.out) | exact HB.out)) hb); have n3_ := Aside0.mk (hbox); have n4_ := Aside0.mk ((by rw [hg]; exact (below_size (by repeat (first | (with_reducible first | exact HB.out | apply below_alloc | apply pw_below_drewN | apply below_drew1 | refine below_set ?_ GE107.out) | exact HB.out))) : w.heap.size ≤ gb109)); have n5_ := Aside0.mk ((by rw [hg]; exact (below_size (by repeat (first | (with_reducible first | exact HB.out | apply below_alloc | apply pw_below_drewN | apply below_drew1 | refine below_set ?_ GE107.out) | exact HB.out))) : w.heap.size ≤ gb109)); have n6_ := Aside0.mk ((by rw [hg]; exact Nat.ne_of_lt (blk_lt (g := gb107) (o := .cells #[.string a0_0, .slice (some ad108) l0_1.length c0_1, .slice A0_2 l0_2.length c0_2] 27 (0, 0)) (by (with_reducible repeat (first | refine blk_drewN ?_ _ | refine blk_drew ?_ | refine blk_alloc ?_ _)); exact BK107.out)) : gb107 ≠ gb109)); have n7_ := Aside0.mk ((by rw [hg]; exact Nat.ne_of_gt (blk_lt (g := gb107) (o := .cells #[.string a0_0, .slice (some ad108) l0_1.length c0_1, .slice A0_2 l0_2.length c0_2] 27 (0, 0)) (by (with_reducible repeat (first | refine blk_drewN ?_ _ | refine blk_drew ?_ | refine blk_alloc ?_ _)); exact BK107.out)) : gb109 ≠ gb107)); clear HO_4; clear BK107; clear HB; have HO_4 := n0_; have BK107 := n1_; have HB := n2_; have BK109 := n3_; have GW109 := n4_; have GE109 := n5_; have NB107_109 := n6_; have NB109_107 := n7_; clear n0_ n1_ n2_ n3_ n4_ n5_ n6_ n7_; clear hb hbox hg; have hnb9 := NB109_107.out; have hnc9 := NB107_109.out; have hcz10_0 : w8.cell? ⟨gb109, 0, none⟩ = some (.string (⟨#[]⟩ : ByteArray)) := (blk_cell BK109.out 0).trans rfl; have hcz10_1 : w8.cell? ⟨gb109, 1, none⟩ = some (.slice none 0 0) := (blk_cell BK109.out 1).trans rfl; have hfz10_0 := blk_frozen BK109.out 0; have hfz10_1 := blk_frozen BK109.out 1) | ((with_reducible refine gate_builtin (b := .append) (xs := #[.tmp 17, .tmp 20]) rfl ?_); at_builtin; refine Kd.R_append Kd.string (w0 := w) w.heap.size rfl (.tmp 17) (.tmp 20) 57 9 (.string ⟨#[]⟩) 16 rfl Try.underlying57 info9 rfl (by decide) (by omega) u4 x4_1 ((rd_T35 l0_1 x13_1).f0) [.string ((rd_T35 l0_1 x13_1).f0)] (fun _ => True) (fun _ => False) rfl (by first | (go_simp; done) | (go_simp; rfl)) ?aP (fun _ hk => hk.elim) ?aF ?aO ?aB ?aS ?aL ?_; (case aP => exact rfl); (case aB => exact (by repeat (first | (with_reducible first | exact HB.out | apply below_alloc | apply pw_below_drewN | apply below_drew1 | refine below_set ?_ GE107.out | refine below_set ?_ GE109.out) | exact HB.out))); (case aF => exact (fun _ _ => trivial)); (case aO => exact (by (with_reducible repeat (first | apply Kd.R_alloc | apply Kd.R_drewN | apply Kd.R_drew)); exact Kd.R_mono (Kd.R_far (p := ⟨gb109, 1, none⟩) (Kd.R_far (p := ⟨gb109, 0, none⟩) (Kd.R_types HO_4.out BK109.out (by decide)) (fun _ hk => hk.2) (.string ((rd_T35 l0_1 x13_1).f0))) (fun _ hk => hk.2) (.slice A108_1 ((rd_T35 l0_1 x13_1).f1).length c108_1)) (fun _ hk => trivial))); (case aS => exact (below_size (by repeat (first | (with_reducible first | exact HB.out | apply below_alloc | apply pw_below_drewN | apply below_drew1 | refine below_set ?_ GE107.out | refine below_set ?_ GE109.out) | exact HB.out)))); (case aL => have := LMc7.out; omega); intro v111 w11 ho hb hg hat; rw [← Ny110.out] at ho; have n0_ := Aside0.mk (blk_grown (g := gb107) (o := .cells #[.string a0_0, .slice (some ad108) l0_1.length c0_1, .slice A0_2 l0_2.length c0_2] 27 (0, 0)) (by (with_reducible repeat (first | refine blk_drewN ?_ _ | refine blk_drew ?_ | refine blk_alloc ?_ _)); refine blk_far ?_ NB107_109.out _; (with_reducible repeat (first | refine blk_drewN ?_ _ | refine blk_drew ?_ | refine blk_alloc ?_ _)); refine blk_far ?_ NB107_109.out _; (with_reducible repeat (first | refine blk_drewN ?_ _ | refine blk_drew ?_ | refine blk_alloc ?_ _)); exact BK107.out) hg (Kd.R_ne HO_4.out BK107.out (by decide))); have n1_ := Aside0.mk (blk_grown (g := gb109) (o := .cells #[.string ((rd_T35 l0_1 x13_1).f0), .slice A108_1 ((rd_T35 l0_1 x13_1).f1).length c108_1] 35 (0, 0)) (by (with_reducible repeat (first | refine blk_drewN ?_ _ | refine blk_drew ?_ | refine blk_alloc ?_ _)); refine blk_put (cs := #[.string ((rd_T35 l0_1 x13_1).f0), .slice none 0 0]) ?_ 1 _ rfl; (with_reducible repeat (first | refine blk_drewN ?_ _ | refine blk_drew ?_ | refine blk_alloc ?_ _)); refine blk_put (cs := #[.string (⟨#[]⟩ : ByteArray), .slice none 0 0]) ?_ 0 _ rfl; (with_reducible repeat (first | refine blk_drewN ?_ _ | refine blk_drew ?_ | refine blk_alloc ?_ _)); exact BK109.out) hg (Kd.R_ne HO_4.out BK109.out (by decide))); have n2_ := Aside0.mk (hb); have n3_ := Aside0.mk (ho); clear BK107; clear BK109; clear HB; clear HO_4; have BK107 := n0_; have BK109 := n1_; have HB := n2_; have HO112 := n3_; clear n0_ n1_ n2_ n3_; clear ho hb hg hat))
              go_roundg k1
              case measure => have := HK1.out; omega
              case rel => exact ⟨(y110), (wrap64 (x13_1 + 1)), (by first | rfl | (simp; done) | (simp [*]; done)), H', ⟨by have := HK1.out; omega⟩, ⟨by (with_reducible repeat (first | apply Kd.R_alloc | apply Kd.R_drewN | apply Kd.R_drew)); exact HO112.out⟩, ⟨by (with_reducible repeat (first | refine blk_drewN ?_ _ | refine blk_drew ?_ | refine blk_alloc ?_ _)); exact BK107.out⟩, ⟨by repeat (first | (with_reducible first | exact HB.out | apply below_alloc | apply pw_below_drewN | apply below_drew1 | refine below_set ?_ GE107.out | refine below_set ?_ GE109.out) | exact HB.out)⟩⟩
            · rw [if_neg c7] at H
              exact absurd H (by simp)
          · rw [if_neg c6] at H
            exact absurd H (by simp)
        · rw [if_neg c5] at H
          exact absurd H (by simp)
      · rw [if_neg c4] at H
        have c4b0 : decide (x13_1 < (l0_1.length : Int)) = false := decide_eq_false c4
        clear c4
        have H' := Aside0.mk H
        clear H
        have hcz12_0 : wr.cell? ⟨gb107, 0, none⟩ = some (.string a0_0) := (blk_cell BK107.out 0).trans rfl
        have hcz12_1 : wr.cell? ⟨gb107, 1, none⟩ = some (.slice A0_1 l0_1.length c0_1) := (blk_cell BK107.out 1).trans rfl
        have hcz12_2 : wr.cell? ⟨gb107, 2, none⟩ = some (.slice A0_2 l0_2.length c0_2) := (blk_cell BK107.out 2).trans rfl
        have hfz12_0 := blk_frozen BK107.out 0
        have hfz12_1 := blk_frozen BK107.out 1
        have hfz12_2 := blk_frozen BK107.out 2
        go_wp2
        go_loopg [5, 26] k1 (fun kq v5 v26 w' => ∃ (x5_2 : List ByteArray) (x26_2 : Int), v26 = .int .i64 x26_2 ∧ Aside0 (tree_names.l1 kq x4_1 x5_2 l0_2 (l0_2.length : Int) x26_2 = some (r1, r2)) ∧ Aside0 (kq ≤ k1) ∧ Aside0 (Kd.R Kd.string 9 w' w.heap.size (fun k_ => some k_ ≠ (v5 : Value).ownBlock) u4 x4_1) ∧ Aside0 (Kd.R Kd.string 9 w' w.heap.size (fun k_ => some k_ ≠ (u4 : Value).ownBlock) v5 x5_2) ∧ Aside0 (w'.heap[gb107]? = some (.cells #[.string a0_0, (.slice A0_1 l0_1.length c0_1), (.slice A0_2 l0_2.length c0_2)] 27 (0, 0))) ∧ Aside0 (Below w.heap.size w w'))
        case atStart => exact ⟨(([] : List ByteArray)), (0), (by first | rfl | (simp; done) | (simp [*]; done)), H', ⟨Nat.le_refl _⟩, ⟨by (with_reducible repeat (first | apply Kd.R_alloc | apply Kd.R_drewN | apply Kd.R_drew)); exact Kd.R_mono HO_4.out (fun _ hk => (by simp [Value.ownBlock]))⟩, ⟨by first | exact Kd.R_nil _ _ _ _ _ | exact Kd.N_nil _ _ _ _ _ | exact Kd.V_nil _ _ _ _ _ | exact Kd.Q_nil _ _ _ _ _ | exact Kd.S_nil _ _ _ _ _⟩, ⟨by (with_reducible repeat (first | refine blk_drewN ?_ _ | refine blk_drew ?_ | refine blk_alloc ?_ _)); exact BK107.out⟩, ⟨by repeat (first | (with_reducible first | exact HB.out | apply below_alloc | apply pw_below_drewN | apply below_drew1 | refine below_set ?_ GE107.out) | exact HB.out)⟩⟩
        case round =>
          clear H'
          try clear c1
          try clear p1
          try clear q1
          try clear hx1
          try clear c2
          try clear p2
          try clear c4
          try clear c4b0
          try clear c5
          try clear c5b0
          try clear c6
          try clear c6b0
          try clear p6
          try clear c7
          try clear c9
          try clear c10
          try clear p10
          try clear q10
          try clear hx10
          try clear hcz10_0
          try clear hcz10_1
          try clear hcz12_0
          try clear hcz12_1
          try clear hcz12_2
          try clear hcz3_0
          try clear hcz3_1
          try clear hcz3_2
          try clear hfz10_0
          try clear hfz10_1
          try clear hfz12_0
          try clear hfz12_1
          try clear hfz12_2
          try clear hfz3_0
          try clear hfz3_1
          try clear hfz3_2
          try clear hx108_0
          try clear hx108_1
          try clear p108
          try clear p2
          try clear q108
          obtain ⟨x5_2, x26_2, rfl, HA, HK2, HO_4, HO_5, BK107, HB⟩ := hrel
          cases gk with
          | zero => exact absurd HA.out (by simp [tree_names.l1])
          | succ k2 =>
            have H := HA.out
            clear HA
            simp only [tree_names.l1] at H
            by_cases c13 : x26_2 < (l0_2.length : Int)
            · rw [if_pos c13] at H
              have c13b0 : decide (x26_2 < (l0_2.length : Int)) = true := decide_eq_true c13
              clear c13
              by_cases c14 : 0 ≤ x26_2
              · rw [if_pos c14] at H
                have c14b0 : decide (0 ≤ x26_2) = true := decide_eq_true c14
                clear c14
                by_cases c15 : x26_2 < (l0_2.length : Int)
                · rw [if_pos c15] at H
                  have c15b0 : decide (x26_2 < (l0_2.length : Int)) = true := decide_eq_true c15
                  clear c15
                  by_cases c16 : x5_2.length < 8796093022208
                  · rw [if_pos c16] at H
                    have LMc16 := Aside0.mk c16
                    clear c16
                    obtain ⟨y115, hy115⟩ : ∃ y_ : List ByteArray, y_ = (x5_2 ++ [(rd_T27 l0_2 x26_2).f0]) := ⟨_, rfl⟩
                    replace H : (tree_names.l1 k2 x4_1 y115 l0_2 (l0_2.length : Int) (wrap64 (x26_2 + 1))) = some (r1, r2) := by first | (rw [hy115]; with_reducible exact H) | (have H2_ := (Option.bind_some _ _).symm.trans H; rw [hy115]; with_reducible exact H2_) | (have H2_ := (Option.bind_some _ _).symm.trans H; with_reducible exact H2_) | with_reducible exact H | (rw [hy115]; exact H) | exact H
                    have Ny115 := Aside0.mk hy115
                    clear hy115
                    have H' := Aside0.mk H
                    clear H
                    have p113 : 0 ≤ (x26_2 : Int) := of_decide_eq_true (by first | (with_reducible assumption) | assumption)
                    have q113 : x26_2 < (l0_2.length : Int) := of_decide_eq_true (by first | (with_reducible assumption) | assumption)
                    obtain ⟨ad113, A113_1, c113_1, A113_2, c113_2, e113, hx113_0, hx113_1, hx113_2, hl113_1, hi113_1, hl113_2, hi113_2⟩ := at_T27 HR0_2.out x26_2 p113 q113
                    cases e113
                    replace hx113_0 := (HB.out.cell (World.block_lt_of_cell? w _ hx113_0)).trans hx113_0
                    replace hx113_1 := (HB.out.cell (World.block_lt_of_cell? w _ hx113_1)).trans hx113_1
                    replace hx113_2 := (HB.out.cell (World.block_lt_of_cell? w _ hx113_2)).trans hx113_2
                    have HR113_1 := Aside0.mk hi113_1
                    have HC113_1 := Aside0.mk hl113_1
                    clear hi113_1 hl113_1
                    have HR113_2 := Aside0.mk hi113_2
                    have HC113_2 := Aside0.mk hl113_2
                    clear hi113_2 hl113_2
                    replace p113 := eq_true p113
                    replace q113 := eq_true q113
                    go_wp2_with (first | ((with_reducible refine gate_dst (N := 9) rfl ?_); refine box_event ?hg (N := 9) ?hd (cs := #[.string (⟨#[]⟩ : ByteArray), .slice none 0 0, .slice none 0 0]) (t := 27) ?hr ?_; (case hd => rfl); (case hg => rfl); (case hr => first | (go_simp; done) | (go_simp; rfl)); intro gb114 hg w17 hbox hb; have n0_ := Aside0.mk (Kd.R_below (by (with_reducible repeat (first | apply Kd.R_alloc | apply Kd.R_drewN | apply Kd.R_drew)); exact HO_4.out) hb); have n1_ := Aside0.mk (Kd.R_below (by (with_reducible repeat (first | apply Kd.R_alloc | apply Kd.R_drewN | apply Kd.R_drew)); exact HO_5.out) hb); have n2_ := Aside0.mk (blk_below (g := gb107) (o := .cells #[.string a0_0, .slice A0_1 l0_1.length c0_1, .slice (some ad113) l0_2.length c0_2] 27 (0, 0)) (by (with_reducible repeat (first | refine blk_drewN ?_ _ | refine blk_drew ?_ | refine blk_alloc ?_ _)); exact BK107.out) hb); have n3_ := Aside0.mk (below_step (by repeat (first | (with_reducible first | exact HB.out | apply below_alloc | apply pw_below_drewN | apply below_drew1 | refine below_set ?_ GE107.out) | exact HB.out)) hb); have n4_ := Aside0.mk (hbox); have n5_ := Aside0.mk ((by rw [hg]; exact (below_size (by repeat (first | (with_reducible first | exact HB.out | apply below_alloc | apply pw_below_drewN | apply below_drew1 | refine below_set ?_ GE107.out) | exact HB.out))) : w.heap.size ≤ gb114)); have n6_ := Aside0.mk ((by rw [hg]; exact (below_size (by repeat (first | (with_reducible first | exact HB.out | apply below_alloc | apply pw_below_drewN | apply below_drew1 | refine below_set ?_ GE107.out) | exact HB.out))) : w.heap.size ≤ gb114)); have n7_ := Aside0.mk ((by rw [hg]; exact Nat.ne_of_lt (blk_lt (g := gb107) (o := .cells #[.string a0_0, .slice A0_1 l0_1.length c0_1, .slice (some ad113) l0_2.length c0_2] 27 (0, 0)) (by (with_reducible repeat (first | refine blk_drewN ?_ _ | refine blk_drew ?_ | refine blk_alloc ?_ _)); exact BK107.out)) : gb107 ≠ gb114)); have n8_ := Aside0.mk ((by rw [hg]; exact Nat.ne_of_gt (blk_lt (g := gb107) (o := .cells #[.string a0_0, .slice A0_1 l0_1.length c0_1, .slice (some ad113) l0_2.length c0_2] 27 (0, 0)) (by (with_reducible repeat (first | refine blk_drewN ?_ _ | refine blk_drew ?_ | refine blk_alloc ?_ _)); exact BK107.out)) : gb114 ≠ gb107)); clear HO_4; clear HO_5; clear BK107; clear HB; have HO_4 := n0_; have HO_5 := n1_; have BK107 := n2_; have HB := n3_; have BK114 := n4_; have GW114 := n5_; have GE114 := n6_; have NB107_114 := n7_; have NB114_107 := n8_; clear n0_ n1_ n2_ n3_ n4_ n5_ n6_ n7_ n8_; clear hb hbox hg; have hnb18 := NB114_107.out; have hnc18 := NB107_114.out; have hcz19_0 : w17.cell? ⟨gb114, 0, none⟩ = some (.string (⟨#[]⟩ : ByteArray)) := (blk_cell BK114.out 0).trans rfl; have hcz19_1 : w17.cell? ⟨gb114, 1, none⟩ = some (.slice none 0 0) := (blk_cell BK114.out 1).trans rfl; have hcz19_2 : w17.cell? ⟨gb114, 2, none⟩ = some (.slice none 0 0) := (blk_cell BK114.out 2).trans rfl; have hfz19_0 := blk_frozen BK114.out 0; have hfz19_1 := blk_frozen BK114.out 1; have hfz19_2 := blk_frozen BK114.out 2) | ((with_reducible refine gate_builtin (b := .append) (xs := #[.tmp 30, .tmp 33]) rfl ?_); at_builtin; refine Kd.R_append Kd.string (w0 := w) w.heap.size rfl (.tmp 30) (.tmp 33) 57 9 (.string ⟨#[]⟩) 16 rfl Try.underlying57 info9 rfl (by decide) (by omega) u5 x5_2 ((rd_T27 l0_2 x26_2).f0) [.string ((rd_T27 l0_2 x26_2).f0)] (fun k_ => some k_ ≠ (u4 : Value).ownBlock) (fun _ => False) rfl (by first | (go_simp; done) | (go_simp; rfl)) ?aP (fun _ hk => hk.elim) ?aF ?aO ?aB ?aS ?aL ?_; (case aP => exact rfl); (case aB => exact (by repeat (first | (with_reducible first | exact HB.out | apply below_alloc | apply pw_below_drewN | apply below_drew1 | refine below_set ?_ GE107.out | refine below_set ?_ GE114.out) | exact HB.out))); (case aF => exact (fun k_ hk => Kd.fresh' (Kd.R_lt (by (with_reducible repeat (first | apply Kd.R_alloc | apply Kd.R_drewN | apply Kd.R_drew)); exact (Kd.R_mono (Kd.R_far (p := ⟨gb114, 2, none⟩) (Kd.R_far (p := ⟨gb114, 1, none⟩) (Kd.R_far (p := ⟨gb114, 0, none⟩) (Kd.R_types HO_4.out BK114.out (by decide)) (fun _ hk => hk.2) (.string ((rd_T27 l0_2 x26_2).f0))) (fun _ hk => hk.2) (.slice A113_1 ((rd_T27 l0_2 x26_2).f1).length c113_1)) (fun _ hk => hk.2) (.slice A113_2 ((rd_T27 l0_2 x26_2).f2).length c113_2)) (fun _ h_ => h_.1)))) k_ hk)); (case aO => exact (by (with_reducible repeat (first | apply Kd.R_alloc | apply Kd.R_drewN | apply Kd.R_drew)); exact Kd.R_mono (Kd.R_far (p := ⟨gb114, 2, none⟩) (Kd.R_far (p := ⟨gb114, 1, none⟩) (Kd.R_far (p := ⟨gb114, 0, none⟩) (Kd.R_types HO_5.out BK114.out (by decide)) (fun _ hk => hk.2) (.string ((rd_T27 l0_2 x26_2).f0))) (fun _ hk => hk.2) (.slice A113_1 ((rd_T27 l0_2 x26_2).f1).length c113_1)) (fun _ hk => hk.2) (.slice A113_2 ((rd_T27 l0_2 x26_2).f2).length c113_2)) (fun _ hk => hk.1))); (case aS => exact (below_size (by repeat (first | (with_reducible first | exact HB.out | apply below_alloc | apply pw_below_drewN | apply below_drew1 | refine below_set ?_ GE107.out | refine below_set ?_ GE114.out) | exact HB.out)))); (case aL => have := LMc16.out; omega); intro v116 w20 ho hb hg hat; rw [← Ny115.out] at ho; have n0_ := Aside0.mk (Kd.R_after (ok := (fun _ => True)) (by (with_reducible repeat (first | apply Kd.R_alloc | apply Kd.R_drewN | apply Kd.R_drew)); exact Kd.R_mono (Kd.R_far (p := ⟨gb114, 2, none⟩) (Kd.R_far (p := ⟨gb114, 1, none⟩) (Kd.R_far (p := ⟨gb114, 0, none⟩) (Kd.R_types HO_4.out BK114.out (by decide)) (fun _ hk => hk.2) (.string ((rd_T27 l0_2 x26_2).f0))) (fun _ hk => hk.2) (.slice A113_1 ((rd_T27 l0_2 x26_2).f1).length c113_1)) (fun _ hk => hk.2) (.slice A113_2 ((rd_T27 l0_2 x26_2).f2).length c113_2)) (fun _ hk => ⟨trivial, hk.1⟩)) hg hat); have n1_ := Aside0.mk (blk_grown (g := gb107) (o := .cells #[.string a0_0, .slice A0_1 l0_1.length c0_1, .slice (some ad113) l0_2.length c0_2] 27 (0, 0)) (by (with_reducible repeat (first | refine blk_drewN ?_ _ | refine blk_drew ?_ | refine blk_alloc ?_ _)); refine blk_far ?_ NB107_114.out _; (with_reducible repeat (first | refine blk_drewN ?_ _ | refine blk_drew ?_ | refine blk_alloc ?_ _)); refine blk_far ?_ NB107_114.out _; (with_reducible repeat (first | refine blk_drewN ?_ _ | refine blk_drew ?_ | refine blk_alloc ?_ _)); refine blk_far ?_ NB107_114.out _; (with_reducible repeat (first | refine blk_drewN ?_ _ | refine blk_drew ?_ | refine blk_alloc ?_ _)); exact BK107.out) hg (Kd.R_ne HO_5.out BK107.out (by decide))); have n2_ := Aside0.mk (blk_grown (g := gb114) (o := .cells #[.string ((rd_T27 l0_2 x26_2).f0), .slice A113_1 ((rd_T27 l0_2 x26_2).f1).length c113_1, .slice A113_2 ((rd_T27 l0_2 x26_2).f2).length c113_2] 27 (0, 0)) (by (with_reducible repeat (first | refine blk_drewN ?_ _ | refine blk_drew ?_ | refine blk_alloc ?_ _)); refine blk_put (cs := #[.string ((rd_T27 l0_2 x26_2).f0), .slice A113_1 ((rd_T27 l0_2 x26_2).f1).length c113_1, .slice none 0 0]) ?_ 2 _ rfl; (with_reducible repeat (first | refine blk_drewN ?_ _ | refine blk_drew ?_ | refine blk_alloc ?_ _)); refine blk_put (cs := #[.string ((rd_T27 l0_2 x26_2).f0), .slice none 0 0, .slice none 0 0]) ?_ 1 _ rfl; (with_reducible repeat (first | refine blk_drewN ?_ _ | refine blk_drew ?_ | refine blk_alloc ?_ _)); refine blk_put (cs := #[.string (⟨#[]⟩ : ByteArray), .slice none 0 0, .slice none 0 0]) ?_ 0 _ rfl; (with_reducible repeat (first | refine blk_drewN ?_ _ | refine blk_drew ?_ | refine blk_alloc ?_ _)); exact BK114.out) hg (Kd.R_ne HO_5.out BK114.out (by decide))); have n3_ := Aside0.mk (hb); have n4_ := Aside0.mk (ho); clear HO_4; clear BK107; clear BK114; clear HB; clear HO_5; have HO_4 := n0_; have BK107 := n1_; have BK114 := n2_; have HB := n3_; have HO117 := n4_; clear n0_ n1_ n2_ n3_ n4_; clear ho hb hg hat))
                    go_roundg k2
                    case measure => have := HK1.out; have := HK2.out; omega
                    case rel => exact ⟨(y115), (wrap64 (x26_2 + 1)), (by first | rfl | (simp; done) | (simp [*]; done)), H', ⟨by have := HK1.out; have := HK2.out; omega⟩, ⟨by (with_reducible repeat (first | apply Kd.R_alloc | apply Kd.R_drewN | apply Kd.R_drew)); exact Kd.R_mono HO_4.out (fun _ hk => hk.2)⟩, ⟨by (with_reducible repeat (first | apply Kd.R_alloc | apply Kd.R_drewN | apply Kd.R_drew)); exact HO117.out⟩, ⟨by (with_reducible repeat (first | refine blk_drewN ?_ _ | refine blk_drew ?_ | refine blk_alloc ?_ _)); exact BK107.out⟩, ⟨by repeat (first | (with_reducible first | exact HB.out | apply below_alloc | apply pw_below_drewN | apply below_drew1 | refine below_set ?_ GE107.out | refine below_set ?_ GE114.out) | exact HB.out)⟩⟩
                  · rw [if_neg c16] at H
                    exact absurd H (by simp)
                · rw [if_neg c15] at H
                  exact absurd H (by simp)
              · rw [if_neg c14] at H
                exact absurd H (by simp)
            · rw [if_neg c13] at H
              have c13b0 : decide (x26_2 < (l0_2.length : Int)) = false := decide_eq_false c13
              clear c13
              simp only [Option.some.injEq, Prod.mk.injEq] at H
              obtain ⟨rfl, rfl⟩ := H
              go_wp2
              go_ret2
              exact ⟨_, _, by first | rfl | (simp [errW_none, errW_some] <;> rfl) | (simp [*, errW_none, errW_some] <;> rfl), by (with_reducible repeat (first | apply Kd.R_alloc | apply Kd.R_drewN | apply Kd.R_drew)); exact HO_4.out, by (with_reducible repeat (first | apply Kd.R_alloc | apply Kd.R_drewN | apply Kd.R_drew)); exact HO_5.out, by repeat (first | (with_reducible first | exact HB.out | apply below_alloc | apply pw_below_drewN | apply below_drew1 | refine below_set ?_ GE107.out) | exact HB.out)⟩
end Go.Proofs.Ytiioeaalnmjbmaa.PE

namespace Go.Proofs.Ytiioeaalnmjbmaa.PE
open Go.RowKit Go.Proofs.YtiioeaalnmjbmaaW.PrintWords Go.Proofs.YtiioeaalnmjbmaaW.PrintLast Go.Proofs.YtiioeaalnmjbmaaW.PrintMore
attribute [local go_sem] max2_int min2_int max_two min_two max_three min_three max_four min_four   -- for this text's walks alone
set_option linter.unusedVariables false
set_option linter.unusedSimpArgs false
set_option maxRecDepth 100000 in
theorem same_none (w : World) : Calls Try.prog 16 #[.slice none 0 0, .slice none 0 0, .func (.func 17) #[] #[]] w fun e w' => e = .returned (.bool true) ∧ Drawn0 w w' := by
  go_enter Try.func16, Try.ntmps16
  go_wp2
  go_loopg [17] 0 (fun kq v17 w' => v17 = .int .i64 0 ∧ Drawn0 w w')
  case atStart => exact ⟨rfl, Drawn0.refl _⟩
  case round =>
    obtain ⟨rfl, hd⟩ := hrel
    go_wp2
    go_ret
    exact ⟨rfl, by repeat (first | exact hd | apply Drawn0.step)⟩
set_option maxRecDepth 100000 in
theorem same_none2 (w : World) : Calls Try.prog 19 #[.slice none 0 0, .slice none 0 0, .func (.func 9) #[] #[]] w fun e w' => e = .returned (.bool true) ∧ Drawn0 w w' := by
  go_enter Try.func19, Try.ntmps19
  go_wp2
  go_loopg [17] 0 (fun kq v17 w' => v17 = .int .i64 0 ∧ Drawn0 w w')
  case atStart => exact ⟨rfl, Drawn0.refl _⟩
  case round =>
    obtain ⟨rfl, hd⟩ := hrel
    go_wp2
    go_ret
    exact ⟨rfl, by repeat (first | exact hd | apply Drawn0.step)⟩
set_option maxRecDepth 100000 in
theorem samenode_none (w : World) : Calls Try.prog 9 #[.agg #[.string ⟨#[]⟩, .slice none 0 0, .slice none 0 0], .agg #[.string ⟨#[]⟩, .slice none 0 0, .slice none 0 0]] w fun e w' => e = .returned (.bool true) ∧ Below w.heap.size w w' := by
  have hu27 := Try.underlying27
  go_enter Try.func9, Try.ntmps9
  go_wp2_with (first | (go_at_call 16; refine (same_none _).mono ?_; rintro e w' ⟨rfl, ⟨nd, rfl⟩⟩) | (go_at_call 19; refine (same_none2 _).mono ?_; rintro e w' ⟨rfl, ⟨nd, rfl⟩⟩))
  go_ret
  exact ⟨rfl, by repeat (first | exact Below.refl _ _ | apply below_alloc | apply pw_below_drewN | apply below_drew1)⟩
set_option maxRecDepth 100000 in
theorem check_a (w : World) : Calls Try.prog 20 #[.agg #[.string ⟨#[97]⟩, .slice none 0 0, .slice none 0 0], .int .i64 1] w fun e w' => e = .returned (.int .i64 5) ∧ Below w.heap.size w w' := by
  have hu27 := Try.underlying27
  have q := fun W => tree_names.calls 4 ⟨#[97]⟩ none 0 [] none 0 [] [] [] W (Kd.C_nil _ _) (Nat.le_refl 0) (Kd.C_nil _ _) (Nat.le_refl 0) (by rfl)
  go_enter Try.func20, Try.ntmps20
  have hbk := Aside0.mk (blk_new w (.cells #[.string ⟨#[97]⟩, .slice none 0 0, .slice none 0 0] 27 (0, 0)))
  go_wp2_with (go_at_call 24; refine (q _).mono ?_; rintro e w' ⟨v0, v1, rfl, h0, h1, hb⟩; have hk := blk_below hbk.out hb; have HBB := Aside0.mk hb; clear h0 h1 hb; have hc0 : w'.cell? ⟨w.heap.size, 0, none⟩ = some (.string ⟨#[97]⟩) := (blk_cell hk 0).trans rfl; have hz0 := blk_frozen hk 0; clear hk)
  go_ret
  exact ⟨rfl, below_step (below_alloc (Below.refl _ _) _) HBB.out⟩
set_option maxRecDepth 100000 in
theorem Check_a (w : World) : Calls Try.prog 11 #[.agg #[.int .u32 0, .slice none 0 0, .string ⟨#[97]⟩, .slice none 0 0, .slice none 0 0]] w fun e w' => e = .returned (.int .i64 5) ∧ Below w.heap.size w w' := by
  have hu27 := Try.underlying27
  have hu29 := Try.underlying29
  have q := fun W => check_a W
  go_enter Try.func11, Try.ntmps11
  go_wp2_with (go_at_call 20; refine (q _).mono ?_; rintro e w' ⟨rfl, hb⟩; have HBB := Aside0.mk hb; clear hb)
  go_ret
  exact ⟨rfl, below_step (below_alloc (Below.refl _ _) _) HBB.out⟩
def arboretlaw03_awake.f : Option Bool := some true
set_option maxRecDepth 100000 in
theorem arboretlaw03_awake.calls (r : Bool) (w : World) (h : arboretlaw03_awake.f = some r) : Calls Try.prog 4 #[] w fun e w' => e = .returned (.bool r) ∧ Below w.heap.size w w' := by
  obtain rfl := Option.some.inj h
  have hu27 := Try.underlying27
  have hu29 := Try.underlying29
  have q := fun W => Check_a W
  have q2 := fun W => samenode_none W
  go_enter Try.func4, Try.ntmps4
  go_wp2_with (first | (go_at_call 11; refine (q _).mono ?_; rintro e w' ⟨rfl, hb⟩; have HB1 := Aside0.mk hb; clear hb) | (go_at_call 9; refine (q2 _).mono ?_; rintro e w'' ⟨rfl, hb⟩; have HB2 := Aside0.mk hb; clear hb))
  go_ret
  exact ⟨rfl, below_step HB1.out HB2.out⟩
end Go.Proofs.Ytiioeaalnmjbmaa.PE

namespace Go.Proofs.Ytiioeaalnmjbmaa.PE
open Go.RowKit Go.Proofs.YtiioeaalnmjbmaaW.PrintWords Go.Proofs.YtiioeaalnmjbmaaW.PrintLast Go.Proofs.YtiioeaalnmjbmaaW.PrintMore
attribute [local go_sem] max2_int min2_int max_two min_two max_three min_three max_four min_four
set_option linter.unusedVariables false
set_option linter.unusedSimpArgs false
structure Wr (lo hi : Nat) (T : List Nat) (W W2 : World) : Prop where
  size : W2.heap.size = W.heap.size
  blk : ∀ k, W2.heap[k]? = W.heap[k]? ∨ (lo ≤ k ∧ k < hi ∧ ∃ cs cs2 t, t ∈ T ∧ W.heap[k]? = some (Obj.cells cs t (0, 0)) ∧ W2.heap[k]? = some (Obj.cells cs2 t (0, 0)) ∧ cs2.size = cs.size)
section
variable {lo hi : Nat} {T : List Nat} {W W2 : World}
theorem Wr.refl (lo hi : Nat) (T : List Nat) (W : World) : Wr lo hi T W W := ⟨rfl, fun _ => .inl rfl⟩
theorem Wr.now (h : Wr lo hi T W W2) {g : Nat} {cs : Array Value} {t : Nat} (hb : W.heap[g]? = some (Obj.cells cs t (0, 0))) : ∃ cs2, W2.heap[g]? = some (Obj.cells cs2 t (0, 0)) ∧ cs2.size = cs.size := by
  rcases h.blk g with e | ⟨_, _, cs1, cs2, t2, _, h1, h2, h3⟩
  · exact ⟨cs, e.trans hb, rfl⟩
  · rw [hb] at h1
    simp only [Option.some.injEq, Obj.cells.injEq] at h1
    obtain ⟨rfl, rfl, _⟩ := h1
    exact ⟨cs2, h2, h3⟩
theorem Wr.keep (h : Wr lo hi T W W2) {g : Nat} {cs : Array Value} {t : Nat} (hb : W.heap[g]? = some (Obj.cells cs t (0, 0))) (ht : t ∉ T) : W2.heap[g]? = some (Obj.cells cs t (0, 0)) := by
  rcases h.blk g with e | ⟨_, _, cs1, cs2, t2, hm, h1, _⟩
  · exact e.trans hb
  · rw [hb] at h1
    simp only [Option.some.injEq, Obj.cells.injEq] at h1
    obtain ⟨_, rfl, _⟩ := h1
    exact absurd hm ht
theorem Wr.far (h : Wr lo hi T W W2) {g : Nat} (hg : hi ≤ g) : W2.heap[g]? = W.heap[g]? := by
  rcases h.blk g with e | ⟨_, h1, _⟩
  · exact e
  · omega
theorem Wr.set (h : Wr lo hi T W W2) {g : Nat} {cs : Array Value} {t : Nat} (hb : W.heap[g]? = some (Obj.cells cs t (0, 0))) (ht : t ∈ T) (h1 : lo ≤ g) (h2 : g < hi) (i : Nat) (u : Value) : Wr lo hi T W (W2.setCell ⟨g, i, none⟩ u) := by
  refine ⟨by simp [h.size], fun k => ?_⟩
  by_cases e : k = g
  · subst e
    obtain ⟨cs2, hb2, hs⟩ := h.now hb
    exact .inr ⟨h1, h2, cs, _, t, ht, hb, blk_set hb2 i u, by simpa using hs⟩
  · have e2 : (W2.setCell ⟨g, i, none⟩ u).heap[k]? = W2.heap[k]? := Below.heap_setCell W2 ⟨g, i, none⟩ u k e
    rcases h.blk k with e3 | ⟨q1, q2, cs1, cs2, t2, q3, q4, q5, q6⟩
    · exact .inl (e2.trans e3)
    · exact .inr ⟨q1, q2, cs1, cs2, t2, q3, q4, e2.trans q5, q6⟩
theorem Wr.cell (h : Wr lo hi T W W2) {g : Nat} {cs : Array Value} {t : Nat} (hb : W.heap[g]? = some (Obj.cells cs t (0, 0))) {i : Nat} (hi : i < cs.size) : (∃ u, W2.cell? ⟨g, i, none⟩ = some u) ∧ W2.frozen? ⟨g, i, none⟩ = false := by
  obtain ⟨cs2, hb2, hs⟩ := h.now hb
  exact ⟨⟨cs2[i]'(by omega), (blk_cell hb2 i).trans (Array.getElem?_eq_getElem (by omega))⟩, blk_frozen hb2 i⟩
theorem Wr.R {α : Type} {d : Kd α} {e base : Nat} {ok : Nat → Prop} {v : Value} {xs : List α} (h : Wr lo hi T W W2) (hr : Kd.R d e W base ok v xs) (hb : hi ≤ base) : Kd.R d e W2 base ok v xs :=
  Kd.R_mono (Kd.R_move (Kd.R_bound hr) (fun k hk => h.far (Nat.le_trans hb hk.2.1))) (fun _ hk => hk.1)
end
theorem row_at {α : Type} {d : Kd α} {e : Nat} {W : World} {base : Nat} {ok : Nat → Prop} {A : Option Addr} {n c : Nat} {xs : List α} (h : Kd.R d e W base ok (.slice A n c) xs) (hn : 0 < n) : ∃ g cur, A = some ⟨g, 0, none⟩ ∧ base ≤ g ∧ ok g ∧ W.heap[g]? = some (Obj.cells cur e (0, 0)) := by
  obtain ⟨inner, ho⟩ := Kd.R_own h
  have ho2 := ho
  rcases ho.2 with ⟨hv, hz⟩ | ⟨g, cap, cur, hv, hg, hh, _⟩
  · injection hv with _ h2
    omega
  · injection hv with ha
    subst ha
    exact ⟨g, cur, rfl, hg, h.1 g (by simp [Value.ownBlock]), hh⟩
theorem prop_at {W : World} {base : Nat} {hi0 : Nat} {A : Option Addr} {n c : Nat} {ps : List S35} (h : Kd.R k35 35 W base (fun k => k < hi0) (.slice A n c) ps) (i : Nat) (hi : i < n) :
    ∃ ad P m Pc, A = some ad ∧ (∀ W2, Wr base hi0 [5, 27] W W2 → W2.cell? ⟨(ad.add (i * 2)).block, (ad.add (i * 2)).off + 1, none⟩ = some (.slice P m Pc)) ∧ m ≤ 9223372036854775807 ∧
      ∀ k, k < m → ∃ pb, P = some pb ∧ base ≤ (pb.add k).block ∧ ∀ W2, Wr base hi0 [5, 27] W W2 → (∃ u, W2.cell? (pb.add k) = some u) ∧ W2.frozen? (pb.add k) = false ∧ ∀ u, Wr base hi0 [5, 27] W (W2.setCell (pb.add k) u) := by
  obtain ⟨g, cur, rfl, hg, hlt, hh⟩ := row_at h (by omega)
  obtain ⟨hn, _, _⟩ := Kd.R_reads' h
  obtain ⟨cs, hcl, hM, hcc, _⟩ := Kd.R_elem h (ps[i]'(by omega)) (i : Int) (Int.natCast_nonneg i) (by omega)
  obtain ⟨v1, rfl, hv⟩ := k35_openM hM
  obtain ⟨P, Pc, rfl⟩ := Kd.R_slice hv
  obtain ⟨_, hmc, hC⟩ := Kd.R_reads' hv
  generalize (ps.getD (i : Int).toNat (ps[i]'(by omega))).f1 = bs at hv hC hmc hcc
  refine ⟨⟨g, 0, none⟩, P, bs.length, Pc, rfl, fun W2 h2 => ?_, hC.2.1, fun k hk => ?_⟩
  · have h3 := h2.keep hh (by decide)
    have h4 := hcc 1 _ rfl
    rw [blk_cell hh] at h4
    simp only [Int.toNat_natCast] at h4
    rw [add_at, Nat.zero_add]
    show W2.cell? ⟨g, i * 2 + 1, none⟩ = _
    rw [blk_cell h3]
    exact h4
  · obtain ⟨b, bc, rfl, hb, ⟨hlb, _⟩, hhb⟩ := row_at hv (by omega)
    obtain ⟨c2, hc2, hM2, hcc2, _⟩ := Kd.R_elem hv (0 : Int) (k : Int) (Int.natCast_nonneg k) (by omega)
    have h5 := hcc2 0 _ (List.getElem?_eq_getElem (by rw [hc2]; decide))
    rw [blk_cell hhb] at h5
    have e1 : (k : Int).toNat * (Kd.int IntKind.u8).sz + 0 = k := by simp [Kd.int, Kd.scalar]
    rw [e1] at h5
    have h6 : k < bc.size := by
      rcases Nat.lt_or_ge k bc.size with q | q
      · exact q
      · rw [Array.getElem?_eq_none q] at h5
        cases h5
    have ea : (Addr.add ⟨b, 0, none⟩ k) = ⟨b, k, none⟩ := by rw [add_at, Nat.zero_add]
    refine ⟨⟨b, 0, none⟩, rfl, by rw [ea]; exact hb, fun W2 h2 => ?_⟩
    rw [ea]
    obtain ⟨q1, q2⟩ := h2.cell hhb h6
    exact ⟨q1, q2, fun u => h2.set hhb (by simp) hb hlb k u⟩
theorem kid_at {W : World} {base : Nat} {hi0 : Nat} {A : Option Addr} {n c : Nat} {ks : List S27} (h : Kd.R k27 27 W base (fun k => k < hi0) (.slice A n c) ks) (i : Nat) (hi : i < n) :
    ∃ ad, A = some ad ∧ base ≤ (ad.add (i * 3)).block ∧ ∀ W2, Wr base hi0 [5, 27] W W2 → (∃ u, W2.cell? (ad.add (i * 3)) = some u) ∧ W2.frozen? (ad.add (i * 3)) = false ∧ ∀ u, Wr base hi0 [5, 27] W (W2.setCell (ad.add (i * 3)) u) := by
  obtain ⟨g, cur, rfl, hg, hlt, hh⟩ := row_at h (by omega)
  obtain ⟨hn, _, _⟩ := Kd.R_reads' h
  obtain ⟨cs, hcl, hM, hcc, _⟩ := Kd.R_elem h (ks[i]'(by omega)) (i : Int) (Int.natCast_nonneg i) (by omega)
  obtain ⟨v1, v2, rfl, _⟩ := k27_openM hM
  have h5 := hcc 0 _ rfl
  rw [blk_cell hh] at h5
  have e1 : (i : Int).toNat * k27.sz + 0 = i * 3 := by rw [Int.toNat_natCast]; rfl
  rw [e1] at h5
  have h6 : i * 3 < cur.size := by
    rcases Nat.lt_or_ge (i * 3) cur.size with q | q
    · exact q
    · rw [Array.getElem?_eq_none q] at h5
      cases h5
  have ea : (Addr.add ⟨g, 0, none⟩ (i * 3)) = ⟨g, i * 3, none⟩ := by rw [add_at, Nat.zero_add]
  refine ⟨⟨g, 0, none⟩, rfl, by rw [ea]; exact hg, fun W2 h2 => ?_⟩
  rw [ea]
  obtain ⟨q1, q2⟩ := h2.cell hh h6
  exact ⟨q1, q2, fun u => h2.set hh (by simp) hg hlt (i * 3) u⟩
end Go.Proofs.Ytiioeaalnmjbmaa.PE

set_option linter.unusedVariables false
set_option linter.unusedSimpArgs false
namespace Go.Proofs.Ytiioeaalnmjbmaa.Aid
open Go.RowKit Go.Proofs.YtiioeaalnmjbmaaW.PrintWords
section
variable {α β : Type} {r : α}
theorem Ev.pos {c : Prop} [Decidable c] {A B : Nat → Option α} (h : c) (hA : Ev A r) : Ev (fun k => if c then A k else B k) r := by
  simp only [if_pos h]
  exact hA
theorem Ev.neg {c : Prop} [Decidable c] {A B : Nat → Option α} (h : ¬ c) (hB : Ev B r) : Ev (fun k => if c then A k else B k) r := by
  simp only [if_neg h]
  exact hB
theorem Ev.succ {g : Nat → Option α} (h : Ev (fun k => g (k + 1)) r) : Ev g r := Ev.step (fun _ => rfl) h
theorem Ev.some (r : α) : Ev (fun _ => some r) r := ⟨0, fun _ _ => rfl⟩
theorem Ev.fix {g : Option α} (h : g = Option.some r) : Ev (fun _ => g) r := ⟨0, fun _ _ => h⟩
theorem Ev.then {g : Nat → Option α} {f : Nat → α → Option β} {a : α} {b : β} (h : Ev g a) (k : Ev (fun n => f n a) b) : Ev (fun n => (g n).bind (f n)) b := Ev.bind h k
theorem Ev.out {g : Nat → Option α} (h : Ev g r) : ∃ k, g k = Option.some r := Ev.rounds h
end
theorem getD_at {α : Type} {l : List α} {d : α} {i : Nat} (h : i < l.length) : l.getD i d = l[i] := by simp [List.getD_eq_getElem?_getD, List.getElem?_eq_getElem h]
theorem drop_at {α : Type} {l : List α} {d : α} {i : Nat} (h : i < l.length) : l.drop i = l.getD i d :: l.drop (i + 1) := by rw [getD_at h]; exact List.drop_eq_getElem_cons h
end Go.Proofs.Ytiioeaalnmjbmaa.Aid

set_option linter.unusedVariables false
namespace Go.Proofs.Ytiioeaalnmjbmaa.Rdr
open Go.RowKit Go.Proofs.YtiioeaalnmjbmaaW.PrintWords Go.ChangeShapes Go.WideShapes
def sumB {α : Type} (B : α → Nat) : List α → Nat
  | [] => 0
  | x :: r => B x + sumB B r
theorem sumB_le {α : Type} {H : Type} {B : α → Nat} : ∀ {xs : List α} {ds : List (DataW H)}, xs.length = ds.length → (∀ (i : Nat) (x : α) (d : DataW H), xs[i]? = some x → ds[i]? = some d → B x ≤ Rows.uptoBulk d) → sumB B xs ≤ Rows.uptoBulkAll ds
  | [], [], _, _ => Nat.le_refl _
  | x :: xs, d :: ds, hl, h => by
    have h0 := h 0 x d rfl rfl
    have h1 := sumB_le (xs := xs) (ds := ds) (by simpa using hl) (fun i a b ha hb => h (i + 1) a b (by simpa using ha) (by simpa using hb))
    simp only [sumB, Rows.uptoBulkAll]
    omega
  | [], _ :: _, hl, _ => by simp at hl
  | _ :: _, [], hl, _ => by simp at hl
theorem sumB_mem {α : Type} {B : α → Nat} {x : α} : ∀ {xs : List α}, x ∈ xs → B x ≤ sumB B xs
  | a :: r, h => by
    simp only [sumB]
    rcases List.mem_cons.1 h with rfl | h
    · omega
    · have := sumB_mem (B := B) h
      omega
theorem sumB_len {α : Type} {B : α → Nat} (h1 : ∀ x, 1 ≤ B x) : ∀ xs : List α, xs.length ≤ sumB B xs
  | [] => Nat.le_refl _
  | x :: r => by
    have := h1 x
    have := sumB_len h1 r
    simp only [sumB, List.length_cons]
    omega
theorem sumB_one {α : Type} (xs : List α) : sumB (fun _ => 1) xs = xs.length := by
  induction xs with
  | nil => rfl
  | cons x r ih => simp only [sumB, ih, List.length_cons]; omega
theorem list_of {α : Type} {n : Nat} {Q : Nat → α → Prop} (h : ∀ i, i < n → ∃ x, Q i x) : ∃ xs : List α, xs.length = n ∧ ∀ (i : Nat) (x : α), xs[i]? = some x → Q i x := by
  induction n with
  | zero => exact ⟨[], rfl, fun i x hx => by simp at hx⟩
  | succ n ih =>
    obtain ⟨xs, hl, hq⟩ := ih (fun i hi => h i (by omega))
    obtain ⟨y, hy⟩ := h n (by omega)
    refine ⟨xs ++ [y], by simp [hl], fun i x hx => ?_⟩
    rcases Nat.lt_trichotomy i xs.length with hi | hi | hi
    · rw [List.getElem?_append_left hi] at hx
      exact hq i x hx
    · subst hi
      rw [List.getElem?_append_right (Nat.le_refl _)] at hx
      simp at hx
      subst hx
      rw [hl]
      exact hy
    · rw [List.getElem?_append_right (by omega), List.getElem?_eq_none (by simp; omega)] at hx
      cases hx
def RdF (P : Program) (W : World) (n : Nat) {α : Type} (d : Kd α) (t : TypeId) (B : α → Nat) (G : α → Prop) : Prop :=
  ∀ (H : Type) (enc : TypeId × Value → H) (fuel : Nat), fuel ≤ n → ∀ (cs : List Value) (x : DataW H × List MemPlace),
    DataW.trod enc P W 0 (fun _ => true) true fuel t cs = some x → ∃ a, d.K W a cs ∧ B a ≤ Rows.uptoBulk x.1 ∧ G a
section
variable {P : Program} {W : World} {n : Nat}
def wfI (k : IntKind) (x : Int) : Prop := (Lit.int k x).wf = true
theorem rd_int {t : TypeId} {k : IntKind} (ht : P.underlying t = some (.int k)) : RdF P W n (Kd.int k) t (fun _ => 1) (wfI k) := by
  intro H enc fuel hf cs x h
  cases fuel with
  | zero => simp [DataW.trod] at h
  | succ m =>
    unfold DataW.trod at h
    rw [ht] at h
    split at h <;> simp_all
    rename_i k' y z
    obtain ⟨⟨rfl, hw⟩, rfl⟩ := h
    exact ⟨y, rfl, by simp [Rows.uptoBulk], hw⟩
theorem rd_string {t : TypeId} (ht : P.underlying t = some .string) : RdF P W n Kd.string t (fun s => s.size + 1) (fun _ => True) := by
  intro H enc fuel hf cs x h
  cases fuel with
  | zero => simp [DataW.trod] at h
  | succ m =>
    unfold DataW.trod at h
    rw [ht] at h
    split at h <;> simp_all
    obtain ⟨_, rfl⟩ := h
    refine ⟨_, rfl, ?_⟩
    simp [Rows.uptoBulk]
theorem rd_slice {t e : TypeId} {α : Type} {d : Kd α} {B : α → Nat} {G : α → Prop} (ht : P.underlying t = some (.slice e)) (hc : P.cellsOf e = d.sz) (h : RdF P W n d e B G) : RdF P W (n + 1) (Kd.slice e d) t (fun xs => sumB B xs + 1) (fun xs => ∀ x ∈ xs, G x) := by
  intro H enc fuel hf cs x hx
  rcases DataW.trod_slice ht hx with ⟨rfl, rfl⟩ | ⟨a, len, cap, elems, rest, m, rfl, rfl, rfl, hb, hl, hm, hlen, hel, _⟩
  · exact ⟨[], ⟨none, 0, rfl, Nat.le_refl _, rfl, by simp, fun h0 => absurd h0 (by simp)⟩, by simp [sumB, Rows.uptoBulk], fun x hx => by simp at hx⟩
  · have each : ∀ i, i < len → ∃ y : α, ∃ c : List Value, ∃ z, elems[i]? = some z ∧ W.cells? 0 (a.add (i * P.cellsOf e)) (P.cellsOf e) = some c ∧ d.K W y c ∧ B y ≤ Rows.uptoBulk z.1 ∧ G y := by
      intro i hi
      have h1 := hel i hi
      obtain ⟨z, hz⟩ : ∃ z, elems[i]? = some z := ⟨_, List.getElem?_eq_getElem (by omega)⟩
      rw [hz] at h1
      obtain ⟨c, hc1, hc2⟩ := Option.bind_eq_some_iff.1 h1
      obtain ⟨y, k1, k2, k3⟩ := h H enc m (by omega) c z hc2
      exact ⟨y, c, z, hz, hc1, k1, k2, k3⟩
    obtain ⟨ys, hyl, hy⟩ := list_of each
    refine ⟨ys, ⟨some a, cap, by rw [hyl], by omega, ?_⟩, ?_, ?_⟩
    · refine ⟨rfl, ?_, fun _ => ⟨a, rfl, fun j p hj => ?_⟩⟩
      · have : cap ≤ 9223372036854775807 := by simpa [maxLen] using hm
        omega
      · obtain ⟨c, z, _, hcs, hk, _, _⟩ := hy j p hj
        obtain ⟨_, hcl, hcc⟩ := World.cells?_some hcs
        refine ⟨c, by rw [hcl, hc], hk, fun i u hu => ?_⟩
        have hi : i < P.cellsOf e := by
          rw [← hcl]
          exact (List.getElem?_eq_some_iff.1 hu).1
        have h2 := hcc i hi
        rw [hu] at h2
        rw [← h2, hc]
        rw [Deep.add_add]
    · have : sumB B ys ≤ Rows.uptoBulkAll (elems.map (·.1)) := by
        refine sumB_le (by simp [hyl, hlen]) (fun i y dd hyi hdi => ?_)
        obtain ⟨c, z, hz, _, _, hB, _⟩ := hy i y hyi
        rw [List.getElem?_map, hz] at hdi
        simp at hdi
        rw [← hdi]
        exact hB
      simp only [Rows.uptoBulk]
      omega
    · intro y hyy
      obtain ⟨i, hi, he⟩ := List.getElem_of_mem hyy
      obtain ⟨_, _, _, _, _, _, hg⟩ := hy i y (by rw [List.getElem?_eq_getElem hi, he])
      exact hg
end
theorem len_2 {α : Type} {l : List α} (h : l.length = 2) : ∃ a0 a1, l = [a0, a1] := by
  match l, h with
  | [b0, b1], _ => exact ⟨b0, b1, rfl⟩
theorem len_3 {α : Type} {l : List α} (h : l.length = 3) : ∃ a0 a1 a2, l = [a0, a1, a2] := by
  match l, h with
  | [b0, b1, b2], _ => exact ⟨b0, b1, b2, rfl⟩
theorem len_5 {α : Type} {l : List α} (h : l.length = 5) : ∃ a0 a1 a2 a3 a4, l = [a0, a1, a2, a3, a4] := by
  match l, h with
  | [b0, b1, b2, b3, b4], _ => exact ⟨b0, b1, b2, b3, b4, rfl⟩
theorem bound {H : Type} {l : List (DataW H)} (hk : Rows.uptoSmall H l = true) : Rows.uptoBulkAll l ≤ 1048576 := of_decide_eq_true hk
end Go.Proofs.Ytiioeaalnmjbmaa.Rdr

namespace Go.Proofs.Ytiioeaalnmjbmaa.PE
open Go.RowKit Go.Proofs.YtiioeaalnmjbmaaW.PrintWords Go.Proofs.YtiioeaalnmjbmaaW.PrintLast Go.Proofs.YtiioeaalnmjbmaaW.PrintMore
attribute [local go_sem] max2_int min2_int max_two min_two max_three min_three max_four min_four
set_option linter.unusedVariables false
set_option linter.unusedSimpArgs false
open Go.Proofs.Ytiioeaalnmjbmaa.Aid Go.Proofs.Ytiioeaalnmjbmaa.Rdr
structure TreeC (W : World) (t : S29) (A1 : Option Addr) (c1 : Nat) (A3 : Option Addr) (c3 : Nat) (A4 : Option Addr) (c4 : Nat) : Prop where
  r1 : Kd.C k45 W A1 t.f1.length t.f1
  l1 : t.f1.length ≤ c1
  r3 : Kd.C k35 W A3 t.f2.f1.length t.f2.f1
  l3 : t.f2.f1.length ≤ c3
  r4 : Kd.C k27 W A4 t.f2.f2.length t.f2.f2
  l4 : t.f2.f2.length ≤ c4
theorem TreeC.below {W W' : World} {t : S29} {A1 A3 A4 : Option Addr} {c1 c3 c4 : Nat} (h : TreeC W t A1 c1 A3 c3 A4 c4) (hb : Below W.heap.size W W') : TreeC W' t A1 c1 A3 c3 A4 c4 := ⟨Kd.C_below h.r1 hb, h.l1, Kd.C_below h.r3 hb, h.l3, Kd.C_below h.r4 hb, h.l4⟩
abbrev treeV (t : S29) (A1 : Option Addr) (c1 : Nat) (A3 : Option Addr) (c3 : Nat) (A4 : Option Addr) (c4 : Nat) : Value := .agg #[.int .u32 t.f0, .slice A1 t.f1.length c1, .string t.f2.f0, .slice A3 t.f2.f1.length c3, .slice A4 t.f2.f2.length c4]
end Go.Proofs.Ytiioeaalnmjbmaa.PE

namespace Go.Proofs.Ytiioeaalnmjbmaa.PE
open Go.RowKit Go.Proofs.YtiioeaalnmjbmaaW.PrintWords Go.Proofs.YtiioeaalnmjbmaaW.PrintLast Go.Proofs.YtiioeaalnmjbmaaW.PrintMore
attribute [local go_sem] max2_int min2_int max_two min_two max_three min_three max_four min_four
set_option linter.unusedVariables false
set_option linter.unusedSimpArgs false
open Go.Proofs.Ytiioeaalnmjbmaa.Aid Go.Proofs.Ytiioeaalnmjbmaa.Rdr
set_option maxRecDepth 100000 in
set_option maxHeartbeats 2000000 in
theorem treq_a.calls (a b : S29) (A1 : Option Addr) (c1 : Nat) (A3 : Option Addr) (c3 : Nat) (A4 : Option Addr) (c4 : Nat) (B1 : Option Addr) (d1 : Nat) (B3 : Option Addr) (d3 : Nat) (B4 : Option Addr) (d4 : Nat) (v : Int) (w : World) (hA : TreeC w a A1 c1 A3 c3 A4 c4) (hB : TreeC w b B1 d1 B3 d3 B4 d4) (k : Nat) (hfa : arboretlaw03_Few.f k a.f0 a.f1 a.f2.f0 a.f2.f1 a.f2.f2 = some false) :
    Calls Try.prog 3 #[treeV a A1 c1 A3 c3 A4 c4, treeV b B1 d1 B3 d3 B4 d4, .int .u8 v] w fun e w' => e = .returned (.bool true) ∧ Below w.heap.size w w' := by
  have hu29 := Try.underlying29
  have hu27 := Try.underlying27
  have HB0 := Aside0.mk (below_alloc (below_alloc (Below.refl w.heap.size w) (.cells #[.int .u32 a.f0, .slice A1 a.f1.length c1, .string a.f2.f0, .slice A3 a.f2.f1.length c3, .slice A4 a.f2.f2.length c4] 29)) (.cells #[.int .u32 b.f0, .slice B1 b.f1.length d1, .string b.f2.f0, .slice B3 b.f2.f1.length d3, .slice B4 b.f2.f2.length d4] 29))
  have HKA := Aside0.mk (blk_alloc (blk_new w (.cells #[.int .u32 a.f0, .slice A1 a.f1.length c1, .string a.f2.f0, .slice A3 a.f2.f1.length c3, .slice A4 a.f2.f2.length c4] 29 (0, 0))) (.cells #[.int .u32 b.f0, .slice B1 b.f1.length d1, .string b.f2.f0, .slice B3 b.f2.f1.length d3, .slice B4 b.f2.f2.length d4] 29))
  have HKB : Aside0 (((w.alloc (.cells #[.int .u32 a.f0, .slice A1 a.f1.length c1, .string a.f2.f0, .slice A3 a.f2.f1.length c3, .slice A4 a.f2.f2.length c4] 29)).alloc (.cells #[.int .u32 b.f0, .slice B1 b.f1.length d1, .string b.f2.f0, .slice B3 b.f2.f1.length d3, .slice B4 b.f2.f2.length d4] 29)).heap[w.heap.size + 1]? = some (Obj.cells #[.int .u32 b.f0, .slice B1 b.f1.length d1, .string b.f2.f0, .slice B3 b.f2.f1.length d3, .slice B4 b.f2.f2.length d4] 29 (0, 0))) := Aside0.mk (by have z := blk_new (w.alloc (.cells #[.int .u32 a.f0, .slice A1 a.f1.length c1, .string a.f2.f0, .slice A3 a.f2.f1.length c3, .slice A4 a.f2.f2.length c4] 29)) (.cells #[.int .u32 b.f0, .slice B1 b.f1.length d1, .string b.f2.f0, .slice B3 b.f2.f1.length d3, .slice B4 b.f2.f2.length d4] 29); simpa using z)
  have HFA := Aside0.mk (fun (W : World) (hb : Below w.heap.size w W) => arboretlaw03_Few.calls k a.f0 A1 c1 a.f1 a.f2.f0 A3 c3 a.f2.f1 A4 c4 a.f2.f2 false W (hA.below hb).r1 hA.l1 (hA.below hb).r3 hA.l3 (hA.below hb).r4 hA.l4 hfa)
  clear hA hB hfa
  go_enter Try.func3, Try.ntmps3
  go_wp2_with (first | (go_at_call 4; refine (arboretlaw03_awake.calls true w2 rfl).mono ?_; rintro e w9 ⟨rfl, hb⟩; have HB9 := Aside0.mk (below_step HB2.out hb); clear hb) | (go_at_call 5; refine (HFA.out _ HB1.out).mono ?_; rintro e w2 ⟨rfl, hb⟩; have HB2 := Aside0.mk (below_step HB1.out hb); have HKA := Aside0.mk (blk_below HKA.out hb); have HKB := Aside0.mk (blk_below HKB.out hb); have z0 : w2.cell? ⟨w.heap.size, 0, none⟩ = some (.int .u32 a.f0) := (blk_cell HKA.out 0).trans rfl; have z1 : w2.cell? ⟨w.heap.size, 1, none⟩ = some (.slice A1 a.f1.length c1) := (blk_cell HKA.out 1).trans rfl; have z2 : w2.cell? ⟨w.heap.size, 2, none⟩ = some (.string a.f2.f0) := (blk_cell HKA.out 2).trans rfl; have z3 : w2.cell? ⟨w.heap.size, 3, none⟩ = some (.slice A3 a.f2.f1.length c3) := (blk_cell HKA.out 3).trans rfl; have z4 : w2.cell? ⟨w.heap.size, 4, none⟩ = some (.slice A4 a.f2.f2.length c4) := (blk_cell HKA.out 4).trans rfl; have y0 : w2.cell? ⟨w.heap.size + 1, 0, none⟩ = some (.int .u32 b.f0) := (blk_cell HKB.out 0).trans rfl; have y1 : w2.cell? ⟨w.heap.size + 1, 1, none⟩ = some (.slice B1 b.f1.length d1) := (blk_cell HKB.out 1).trans rfl; have y2 : w2.cell? ⟨w.heap.size + 1, 2, none⟩ = some (.string b.f2.f0) := (blk_cell HKB.out 2).trans rfl; have y3 : w2.cell? ⟨w.heap.size + 1, 3, none⟩ = some (.slice B3 b.f2.f1.length d3) := (blk_cell HKB.out 3).trans rfl; have y4 : w2.cell? ⟨w.heap.size + 1, 4, none⟩ = some (.slice B4 b.f2.f2.length d4) := (blk_cell HKB.out 4).trans rfl; clear hb) | (go_at_call 4; refine (arboretlaw03_awake.calls true ((w.alloc (.cells #[.int .u32 a.f0, .slice A1 a.f1.length c1, .string a.f2.f0, .slice A3 a.f2.f1.length c3, .slice A4 a.f2.f2.length c4] 29)).alloc (.cells #[.int .u32 b.f0, .slice B1 b.f1.length d1, .string b.f2.f0, .slice B3 b.f2.f1.length d3, .slice B4 b.f2.f2.length d4] 29)) rfl).mono ?_; rintro e w1 ⟨rfl, hb⟩; have HB1 := Aside0.mk (below_step HB0.out hb); have HKA := Aside0.mk (blk_below HKA.out hb); have HKB := Aside0.mk (blk_below HKB.out hb); have z0 : w1.cell? ⟨w.heap.size, 0, none⟩ = some (.int .u32 a.f0) := (blk_cell HKA.out 0).trans rfl; have z1 : w1.cell? ⟨w.heap.size, 1, none⟩ = some (.slice A1 a.f1.length c1) := (blk_cell HKA.out 1).trans rfl; have z2 : w1.cell? ⟨w.heap.size, 2, none⟩ = some (.string a.f2.f0) := (blk_cell HKA.out 2).trans rfl; have z3 : w1.cell? ⟨w.heap.size, 3, none⟩ = some (.slice A3 a.f2.f1.length c3) := (blk_cell HKA.out 3).trans rfl; have z4 : w1.cell? ⟨w.heap.size, 4, none⟩ = some (.slice A4 a.f2.f2.length c4) := (blk_cell HKA.out 4).trans rfl; have y0 : w1.cell? ⟨w.heap.size + 1, 0, none⟩ = some (.int .u32 b.f0) := (blk_cell HKB.out 0).trans rfl; have y1 : w1.cell? ⟨w.heap.size + 1, 1, none⟩ = some (.slice B1 b.f1.length d1) := (blk_cell HKB.out 1).trans rfl; have y2 : w1.cell? ⟨w.heap.size + 1, 2, none⟩ = some (.string b.f2.f0) := (blk_cell HKB.out 2).trans rfl; have y3 : w1.cell? ⟨w.heap.size + 1, 3, none⟩ = some (.slice B3 b.f2.f1.length d3) := (blk_cell HKB.out 3).trans rfl; have y4 : w1.cell? ⟨w.heap.size + 1, 4, none⟩ = some (.slice B4 b.f2.f2.length d4) := (blk_cell HKB.out 4).trans rfl; clear hb))
  refine bodyPost_ret (results_tmp rfl _ _ _) rfl ?_
  exact ⟨rfl, HB9.out⟩
set_option maxRecDepth 100000 in
set_option maxHeartbeats 2000000 in
theorem treq_b.calls (a b : S29) (A1 : Option Addr) (c1 : Nat) (A3 : Option Addr) (c3 : Nat) (A4 : Option Addr) (c4 : Nat) (B1 : Option Addr) (d1 : Nat) (B3 : Option Addr) (d3 : Nat) (B4 : Option Addr) (d4 : Nat) (v : Int) (w : World) (hA : TreeC w a A1 c1 A3 c3 A4 c4) (hB : TreeC w b B1 d1 B3 d3 B4 d4) (k : Nat) (hfa : arboretlaw03_Few.f k a.f0 a.f1 a.f2.f0 a.f2.f1 a.f2.f2 = some true) (hfb : arboretlaw03_Few.f k b.f0 b.f1 b.f2.f0 b.f2.f1 b.f2.f2 = some false) :
    Calls Try.prog 3 #[treeV a A1 c1 A3 c3 A4 c4, treeV b B1 d1 B3 d3 B4 d4, .int .u8 v] w fun e w' => e = .returned (.bool true) ∧ Below w.heap.size w w' := by
  have hu29 := Try.underlying29
  have hu27 := Try.underlying27
  have HB0 := Aside0.mk (below_alloc (below_alloc (Below.refl w.heap.size w) (.cells #[.int .u32 a.f0, .slice A1 a.f1.length c1, .string a.f2.f0, .slice A3 a.f2.f1.length c3, .slice A4 a.f2.f2.length c4] 29)) (.cells #[.int .u32 b.f0, .slice B1 b.f1.length d1, .string b.f2.f0, .slice B3 b.f2.f1.length d3, .slice B4 b.f2.f2.length d4] 29))
  have HKA := Aside0.mk (blk_alloc (blk_new w (.cells #[.int .u32 a.f0, .slice A1 a.f1.length c1, .string a.f2.f0, .slice A3 a.f2.f1.length c3, .slice A4 a.f2.f2.length c4] 29 (0, 0))) (.cells #[.int .u32 b.f0, .slice B1 b.f1.length d1, .string b.f2.f0, .slice B3 b.f2.f1.length d3, .slice B4 b.f2.f2.length d4] 29))
  have HKB : Aside0 (((w.alloc (.cells #[.int .u32 a.f0, .slice A1 a.f1.length c1, .string a.f2.f0, .slice A3 a.f2.f1.length c3, .slice A4 a.f2.f2.length c4] 29)).alloc (.cells #[.int .u32 b.f0, .slice B1 b.f1.length d1, .string b.f2.f0, .slice B3 b.f2.f1.length d3, .slice B4 b.f2.f2.length d4] 29)).heap[w.heap.size + 1]? = some (Obj.cells #[.int .u32 b.f0, .slice B1 b.f1.length d1, .string b.f2.f0, .slice B3 b.f2.f1.length d3, .slice B4 b.f2.f2.length d4] 29 (0, 0))) := Aside0.mk (by have z := blk_new (w.alloc (.cells #[.int .u32 a.f0, .slice A1 a.f1.length c1, .string a.f2.f0, .slice A3 a.f2.f1.length c3, .slice A4 a.f2.f2.length c4] 29)) (.cells #[.int .u32 b.f0, .slice B1 b.f1.length d1, .string b.f2.f0, .slice B3 b.f2.f1.length d3, .slice B4 b.f2.f2.length d4] 29); simpa using z)
  have HFA := Aside0.mk (fun (W : World) (hb : Below w.heap.size w W) => arboretlaw03_Few.calls k a.f0 A1 c1 a.f1 a.f2.f0 A3 c3 a.f2.f1 A4 c4 a.f2.f2 true W (hA.below hb).r1 hA.l1 (hA.below hb).r3 hA.l3 (hA.below hb).r4 hA.l4 hfa)
  have HFB := Aside0.mk (fun (W : World) (hb : Below w.heap.size w W) => arboretlaw03_Few.calls k b.f0 B1 d1 b.f1 b.f2.f0 B3 d3 b.f2.f1 B4 d4 b.f2.f2 false W (hB.below hb).r1 hB.l1 (hB.below hb).r3 hB.l3 (hB.below hb).r4 hB.l4 hfb)
  clear hA hB hfa hfb
  go_enter Try.func3, Try.ntmps3
  go_wp2_with (first | (go_at_call 4; refine (arboretlaw03_awake.calls true w3 rfl).mono ?_; rintro e w9 ⟨rfl, hb⟩; have HB9 := Aside0.mk (below_step HB3.out hb); clear hb) | (go_at_call 5; refine (HFB.out _ HB2.out).mono ?_; rintro e w3 ⟨rfl, hb⟩; have HB3 := Aside0.mk (below_step HB2.out hb); have HKA := Aside0.mk (blk_below HKA.out hb); have HKB := Aside0.mk (blk_below HKB.out hb); have z0 : w3.cell? ⟨w.heap.size, 0, none⟩ = some (.int .u32 a.f0) := (blk_cell HKA.out 0).trans rfl; have z1 : w3.cell? ⟨w.heap.size, 1, none⟩ = some (.slice A1 a.f1.length c1) := (blk_cell HKA.out 1).trans rfl; have z2 : w3.cell? ⟨w.heap.size, 2, none⟩ = some (.string a.f2.f0) := (blk_cell HKA.out 2).trans rfl; have z3 : w3.cell? ⟨w.heap.size, 3, none⟩ = some (.slice A3 a.f2.f1.length c3) := (blk_cell HKA.out 3).trans rfl; have z4 : w3.cell? ⟨w.heap.size, 4, none⟩ = some (.slice A4 a.f2.f2.length c4) := (blk_cell HKA.out 4).trans rfl; have y0 : w3.cell? ⟨w.heap.size + 1, 0, none⟩ = some (.int .u32 b.f0) := (blk_cell HKB.out 0).trans rfl; have y1 : w3.cell? ⟨w.heap.size + 1, 1, none⟩ = some (.slice B1 b.f1.length d1) := (blk_cell HKB.out 1).trans rfl; have y2 : w3.cell? ⟨w.heap.size + 1, 2, none⟩ = some (.string b.f2.f0) := (blk_cell HKB.out 2).trans rfl; have y3 : w3.cell? ⟨w.heap.size + 1, 3, none⟩ = some (.slice B3 b.f2.f1.length d3) := (blk_cell HKB.out 3).trans rfl; have y4 : w3.cell? ⟨w.heap.size + 1, 4, none⟩ = some (.slice B4 b.f2.f2.length d4) := (blk_cell HKB.out 4).trans rfl; clear hb) | (go_at_call 5; refine (HFA.out _ HB1.out).mono ?_; rintro e w2 ⟨rfl, hb⟩; have HB2 := Aside0.mk (below_step HB1.out hb); have HKA := Aside0.mk (blk_below HKA.out hb); have HKB := Aside0.mk (blk_below HKB.out hb); have z0 : w2.cell? ⟨w.heap.size, 0, none⟩ = some (.int .u32 a.f0) := (blk_cell HKA.out 0).trans rfl; have z1 : w2.cell? ⟨w.heap.size, 1, none⟩ = some (.slice A1 a.f1.length c1) := (blk_cell HKA.out 1).trans rfl; have z2 : w2.cell? ⟨w.heap.size, 2, none⟩ = some (.string a.f2.f0) := (blk_cell HKA.out 2).trans rfl; have z3 : w2.cell? ⟨w.heap.size, 3, none⟩ = some (.slice A3 a.f2.f1.length c3) := (blk_cell HKA.out 3).trans rfl; have z4 : w2.cell? ⟨w.heap.size, 4, none⟩ = some (.slice A4 a.f2.f2.length c4) := (blk_cell HKA.out 4).trans rfl; have y0 : w2.cell? ⟨w.heap.size + 1, 0, none⟩ = some (.int .u32 b.f0) := (blk_cell HKB.out 0).trans rfl; have y1 : w2.cell? ⟨w.heap.size + 1, 1, none⟩ = some (.slice B1 b.f1.length d1) := (blk_cell HKB.out 1).trans rfl; have y2 : w2.cell? ⟨w.heap.size + 1, 2, none⟩ = some (.string b.f2.f0) := (blk_cell HKB.out 2).trans rfl; have y3 : w2.cell? ⟨w.heap.size + 1, 3, none⟩ = some (.slice B3 b.f2.f1.length d3) := (blk_cell HKB.out 3).trans rfl; have y4 : w2.cell? ⟨w.heap.size + 1, 4, none⟩ = some (.slice B4 b.f2.f2.length d4) := (blk_cell HKB.out 4).trans rfl; clear hb) | (go_at_call 4; refine (arboretlaw03_awake.calls true ((w.alloc (.cells #[.int .u32 a.f0, .slice A1 a.f1.length c1, .string a.f2.f0, .slice A3 a.f2.f1.length c3, .slice A4 a.f2.f2.length c4] 29)).alloc (.cells #[.int .u32 b.f0, .slice B1 b.f1.length d1, .string b.f2.f0, .slice B3 b.f2.f1.length d3, .slice B4 b.f2.f2.length d4] 29)) rfl).mono ?_; rintro e w1 ⟨rfl, hb⟩; have HB1 := Aside0.mk (below_step HB0.out hb); have HKA := Aside0.mk (blk_below HKA.out hb); have HKB := Aside0.mk (blk_below HKB.out hb); have z0 : w1.cell? ⟨w.heap.size, 0, none⟩ = some (.int .u32 a.f0) := (blk_cell HKA.out 0).trans rfl; have z1 : w1.cell? ⟨w.heap.size, 1, none⟩ = some (.slice A1 a.f1.length c1) := (blk_cell HKA.out 1).trans rfl; have z2 : w1.cell? ⟨w.heap.size, 2, none⟩ = some (.string a.f2.f0) := (blk_cell HKA.out 2).trans rfl; have z3 : w1.cell? ⟨w.heap.size, 3, none⟩ = some (.slice A3 a.f2.f1.length c3) := (blk_cell HKA.out 3).trans rfl; have z4 : w1.cell? ⟨w.heap.size, 4, none⟩ = some (.slice A4 a.f2.f2.length c4) := (blk_cell HKA.out 4).trans rfl; have y0 : w1.cell? ⟨w.heap.size + 1, 0, none⟩ = some (.int .u32 b.f0) := (blk_cell HKB.out 0).trans rfl; have y1 : w1.cell? ⟨w.heap.size + 1, 1, none⟩ = some (.slice B1 b.f1.length d1) := (blk_cell HKB.out 1).trans rfl; have y2 : w1.cell? ⟨w.heap.size + 1, 2, none⟩ = some (.string b.f2.f0) := (blk_cell HKB.out 2).trans rfl; have y3 : w1.cell? ⟨w.heap.size + 1, 3, none⟩ = some (.slice B3 b.f2.f1.length d3) := (blk_cell HKB.out 3).trans rfl; have y4 : w1.cell? ⟨w.heap.size + 1, 4, none⟩ = some (.slice B4 b.f2.f2.length d4) := (blk_cell HKB.out 4).trans rfl; clear hb))
  refine bodyPost_ret (results_tmp rfl _ _ _) rfl ?_
  exact ⟨rfl, HB9.out⟩
set_option maxRecDepth 100000 in
set_option maxHeartbeats 4000000 in
theorem treq_c.calls (a b : S29) (A1 : Option Addr) (c1 : Nat) (A3 : Option Addr) (c3 : Nat) (A4 : Option Addr) (c4 : Nat) (B1 : Option Addr) (d1 : Nat) (B3 : Option Addr) (d3 : Nat) (B4 : Option Addr) (d4 : Nat) (v : Int) (w : World) (hA : TreeC w a A1 c1 A3 c3 A4 c4) (hB : TreeC w b B1 d1 B3 d3 B4 d4) (k : Nat) (hfa : arboretlaw03_Few.f k a.f0 a.f1 a.f2.f0 a.f2.f1 a.f2.f2 = some true) (hfb : arboretlaw03_Few.f k b.f0 b.f1 b.f2.f0 b.f2.f1 b.f2.f2 = some true) (hcl : tree_Clone.f k a.f0 a.f1 a.f2.f0 a.f2.f1 a.f2.f2 = some (a.f0, a.f1, a.f2.f0, a.f2.f1, a.f2.f2))
    (r1 r2 : Bool) (heq : tree_Equal.f k a.f0 a.f1 a.f2.f0 a.f2.f1 a.f2.f2 b.f0 b.f1 b.f2.f0 b.f2.f1 b.f2.f2 = some r1) (hst : arboretref01_SameTree.f k a.f0 a.f1 a.f2.f0 a.f2.f1 a.f2.f2 b.f0 b.f1 b.f2.f0 b.f2.f1 b.f2.f2 = some r1) (hsa : arboretref01_SameTree.f k a.f0 a.f1 a.f2.f0 a.f2.f1 a.f2.f2 a.f0 a.f1 a.f2.f0 a.f2.f1 a.f2.f2 = some true) (hsn : tree_SameNode.f k a.f2.f0 a.f2.f1 a.f2.f2 b.f2.f0 b.f2.f1 b.f2.f2 = some r2) (hsm : arboretref01_Same.f k a.f2.f0 a.f2.f1 a.f2.f2 b.f2.f0 b.f2.f1 b.f2.f2 = some r2) :
    Calls Try.prog 3 #[treeV a A1 c1 A3 c3 A4 c4, treeV b B1 d1 B3 d3 B4 d4, .int .u8 v] w fun e w' => e = .returned (.bool true) ∧ Below w.heap.size w w' := by
  have hu29 := Try.underlying29
  have hu27 := Try.underlying27
  have HB0 := Aside0.mk (below_alloc (below_alloc (Below.refl w.heap.size w) (.cells #[.int .u32 a.f0, .slice A1 a.f1.length c1, .string a.f2.f0, .slice A3 a.f2.f1.length c3, .slice A4 a.f2.f2.length c4] 29)) (.cells #[.int .u32 b.f0, .slice B1 b.f1.length d1, .string b.f2.f0, .slice B3 b.f2.f1.length d3, .slice B4 b.f2.f2.length d4] 29))
  have HKA := Aside0.mk (blk_alloc (blk_new w (.cells #[.int .u32 a.f0, .slice A1 a.f1.length c1, .string a.f2.f0, .slice A3 a.f2.f1.length c3, .slice A4 a.f2.f2.length c4] 29 (0, 0))) (.cells #[.int .u32 b.f0, .slice B1 b.f1.length d1, .string b.f2.f0, .slice B3 b.f2.f1.length d3, .slice B4 b.f2.f2.length d4] 29))
  have HKB : Aside0 (((w.alloc (.cells #[.int .u32 a.f0, .slice A1 a.f1.length c1, .string a.f2.f0, .slice A3 a.f2.f1.length c3, .slice A4 a.f2.f2.length c4] 29)).alloc (.cells #[.int .u32 b.f0, .slice B1 b.f1.length d1, .string b.f2.f0, .slice B3 b.f2.f1.length d3, .slice B4 b.f2.f2.length d4] 29)).heap[w.heap.size + 1]? = some (Obj.cells #[.int .u32 b.f0, .slice B1 b.f1.length d1, .string b.f2.f0, .slice B3 b.f2.f1.length d3, .slice B4 b.f2.f2.length d4] 29 (0, 0))) := Aside0.mk (by have z := blk_new (w.alloc (.cells #[.int .u32 a.f0, .slice A1 a.f1.length c1, .string a.f2.f0, .slice A3 a.f2.f1.length c3, .slice A4 a.f2.f2.length c4] 29)) (.cells #[.int .u32 b.f0, .slice B1 b.f1.length d1, .string b.f2.f0, .slice B3 b.f2.f1.length d3, .slice B4 b.f2.f2.length d4] 29); simpa using z)
  have HFA := Aside0.mk (fun (W : World) (hb : Below w.heap.size w W) => arboretlaw03_Few.calls k a.f0 A1 c1 a.f1 a.f2.f0 A3 c3 a.f2.f1 A4 c4 a.f2.f2 true W (hA.below hb).r1 hA.l1 (hA.below hb).r3 hA.l3 (hA.below hb).r4 hA.l4 hfa)
  have HFB := Aside0.mk (fun (W : World) (hb : Below w.heap.size w W) => arboretlaw03_Few.calls k b.f0 B1 d1 b.f1 b.f2.f0 B3 d3 b.f2.f1 B4 d4 b.f2.f2 true W (hB.below hb).r1 hB.l1 (hB.below hb).r3 hB.l3 (hB.below hb).r4 hB.l4 hfb)
  have HCL := Aside0.mk hcl
  have HEQ := Aside0.mk heq
  have HST := Aside0.mk hst
  have HSA := Aside0.mk hsa
  have HSN := Aside0.mk hsn
  have HSM := Aside0.mk hsm
  have HTA := Aside0.mk hA
  have HTB := Aside0.mk hB
  clear hA hB hfa hfb hcl heq hst hsa hsn hsm
  go_enter Try.func3, Try.ntmps3
  go_wp2_with (first | (go_at_call 6; have hbx := below_alloc (Below.refl w4.heap.size w4) (.cells #[.int .u32 a.f0, .slice C1 a.f1.length e1, .string a.f2.f0, .slice C3 a.f2.f1.length e3, .slice C4 a.f2.f2.length e4] 29); refine (tree_Clone.calls k a.f0 C1 e1 a.f1 a.f2.f0 C3 e3 a.f2.f1 C4 e4 a.f2.f2 a.f0 a.f1 a.f2.f0 a.f2.f1 a.f2.f2 (w4.alloc (.cells #[.int .u32 a.f0, .slice C1 a.f1.length e1, .string a.f2.f0, .slice C3 a.f2.f1.length e3, .slice C4 a.f2.f2.length e4] 29)) (HTC4.out.below hbx).r1 (HTC4.out.below hbx).l1 (HTC4.out.below hbx).r3 (HTC4.out.below hbx).l3 (HTC4.out.below hbx).r4 (HTC4.out.below hbx).l4 HCL.out).mono ?_; rintro e w5 ⟨u1, u3, u4, rfl, h1, h3, h4, hb⟩; obtain ⟨D1, f1, rfl⟩ := Kd.R_slice h1; obtain ⟨D3, f3, rfl⟩ := Kd.R_slice (Kd.S_R h3); obtain ⟨D4, f4, rfl⟩ := Kd.R_slice h4; have HD1 := Aside0.mk h1; have HD3 := Aside0.mk (Kd.S_R h3); have HD4 := Aside0.mk h4; have HV5 := Aside0.mk hb; have HKC := Aside0.mk (blk_alloc (blk_below HKC.out hb) (.cells #[.int .u32 a.f0, .slice D1 a.f1.length f1, .string a.f2.f0, .slice D3 a.f2.f1.length f3, .slice D4 a.f2.f2.length f4] 29)); have x0 : (w5.alloc (.cells #[.int .u32 a.f0, .slice D1 a.f1.length f1, .string a.f2.f0, .slice D3 a.f2.f1.length f3, .slice D4 a.f2.f2.length f4] 29)).cell? ⟨w4.heap.size, 0, none⟩ = some (.int .u32 a.f0) := (blk_cell HKC.out 0).trans rfl; have x1 : (w5.alloc (.cells #[.int .u32 a.f0, .slice D1 a.f1.length f1, .string a.f2.f0, .slice D3 a.f2.f1.length f3, .slice D4 a.f2.f2.length f4] 29)).cell? ⟨w4.heap.size, 1, none⟩ = some (.slice C1 a.f1.length e1) := (blk_cell HKC.out 1).trans rfl; have x2 : (w5.alloc (.cells #[.int .u32 a.f0, .slice D1 a.f1.length f1, .string a.f2.f0, .slice D3 a.f2.f1.length f3, .slice D4 a.f2.f2.length f4] 29)).cell? ⟨w4.heap.size, 2, none⟩ = some (.string a.f2.f0) := (blk_cell HKC.out 2).trans rfl; have x3 : (w5.alloc (.cells #[.int .u32 a.f0, .slice D1 a.f1.length f1, .string a.f2.f0, .slice D3 a.f2.f1.length f3, .slice D4 a.f2.f2.length f4] 29)).cell? ⟨w4.heap.size, 3, none⟩ = some (.slice C3 a.f2.f1.length e3) := (blk_cell HKC.out 3).trans rfl; have x4 : (w5.alloc (.cells #[.int .u32 a.f0, .slice D1 a.f1.length f1, .string a.f2.f0, .slice D3 a.f2.f1.length f3, .slice D4 a.f2.f2.length f4] 29)).cell? ⟨w4.heap.size, 4, none⟩ = some (.slice C4 a.f2.f2.length e4) := (blk_cell HKC.out 4).trans rfl; clear hb h1 h3 h4 hbx) | (go_at_call 6; refine (tree_Clone.calls k a.f0 A1 c1 a.f1 a.f2.f0 A3 c3 a.f2.f1 A4 c4 a.f2.f2 a.f0 a.f1 a.f2.f0 a.f2.f1 a.f2.f2 w3 (HTA.out.below HB3.out).r1 (HTA.out.below HB3.out).l1 (HTA.out.below HB3.out).r3 (HTA.out.below HB3.out).l3 (HTA.out.below HB3.out).r4 (HTA.out.below HB3.out).l4 HCL.out).mono ?_; rintro e w4 ⟨u1, u3, u4, rfl, h1, h3, h4, hb⟩; obtain ⟨C1, e1, rfl⟩ := Kd.R_slice h1; obtain ⟨C3, e3, rfl⟩ := Kd.R_slice (Kd.S_R h3); obtain ⟨C4, e4, rfl⟩ := Kd.R_slice h4; have HC3 := Aside0.mk (Kd.R_mono (ok' := fun k => k < w4.heap.size) (Kd.R_bound (Kd.S_R h3)) (fun _ hk => hk.2.2.1)); have HC4 := Aside0.mk (Kd.R_mono (ok' := fun k => k < w4.heap.size) (Kd.R_bound h4) (fun _ hk => hk.2.2.1)); have HTC4 := Aside0.mk (TreeC.mk (t := a) (Kd.R_reads' h1).2.2 (Kd.R_reads' h1).2.1 (Kd.S_reads' h3).2.2 (Kd.S_reads' h3).2.1 (Kd.R_reads' h4).2.2 (Kd.R_reads' h4).2.1); have HB4 := Aside0.mk (below_step HB3.out hb); have HKA := Aside0.mk (blk_below HKA.out hb); have HKB := Aside0.mk (blk_below HKB.out hb); have z0 : w4.cell? ⟨w.heap.size, 0, none⟩ = some (.int .u32 a.f0) := (blk_cell HKA.out 0).trans rfl; have z1 : w4.cell? ⟨w.heap.size, 1, none⟩ = some (.slice A1 a.f1.length c1) := (blk_cell HKA.out 1).trans rfl; have z2 : w4.cell? ⟨w.heap.size, 2, none⟩ = some (.string a.f2.f0) := (blk_cell HKA.out 2).trans rfl; have z3 : w4.cell? ⟨w.heap.size, 3, none⟩ = some (.slice A3 a.f2.f1.length c3) := (blk_cell HKA.out 3).trans rfl; have z4 : w4.cell? ⟨w.heap.size, 4, none⟩ = some (.slice A4 a.f2.f2.length c4) := (blk_cell HKA.out 4).trans rfl; have y0 : w4.cell? ⟨w.heap.size + 1, 0, none⟩ = some (.int .u32 b.f0) := (blk_cell HKB.out 0).trans rfl; have y1 : w4.cell? ⟨w.heap.size + 1, 1, none⟩ = some (.slice B1 b.f1.length d1) := (blk_cell HKB.out 1).trans rfl; have y2 : w4.cell? ⟨w.heap.size + 1, 2, none⟩ = some (.string b.f2.f0) := (blk_cell HKB.out 2).trans rfl; have y3 : w4.cell? ⟨w.heap.size + 1, 3, none⟩ = some (.slice B3 b.f2.f1.length d3) := (blk_cell HKB.out 3).trans rfl; have y4 : w4.cell? ⟨w.heap.size + 1, 4, none⟩ = some (.slice B4 b.f2.f2.length d4) := (blk_cell HKB.out 4).trans rfl; have HKC := Aside0.mk (blk_new w4 (.cells #[.int .u32 a.f0, .slice C1 a.f1.length e1, .string a.f2.f0, .slice C3 a.f2.f1.length e3, .slice C4 a.f2.f2.length e4] 29 (0, 0))); have x0 : (w4.alloc (.cells #[.int .u32 a.f0, .slice C1 a.f1.length e1, .string a.f2.f0, .slice C3 a.f2.f1.length e3, .slice C4 a.f2.f2.length e4] 29)).cell? ⟨w4.heap.size, 0, none⟩ = some (.int .u32 a.f0) := (blk_cell HKC.out 0).trans rfl; have x1 : (w4.alloc (.cells #[.int .u32 a.f0, .slice C1 a.f1.length e1, .string a.f2.f0, .slice C3 a.f2.f1.length e3, .slice C4 a.f2.f2.length e4] 29)).cell? ⟨w4.heap.size, 1, none⟩ = some (.slice C1 a.f1.length e1) := (blk_cell HKC.out 1).trans rfl; have x2 : (w4.alloc (.cells #[.int .u32 a.f0, .slice C1 a.f1.length e1, .string a.f2.f0, .slice C3 a.f2.f1.length e3, .slice C4 a.f2.f2.length e4] 29)).cell? ⟨w4.heap.size, 2, none⟩ = some (.string a.f2.f0) := (blk_cell HKC.out 2).trans rfl; have x3 : (w4.alloc (.cells #[.int .u32 a.f0, .slice C1 a.f1.length e1, .string a.f2.f0, .slice C3 a.f2.f1.length e3, .slice C4 a.f2.f2.length e4] 29)).cell? ⟨w4.heap.size, 3, none⟩ = some (.slice C3 a.f2.f1.length e3) := (blk_cell HKC.out 3).trans rfl; have x4 : (w4.alloc (.cells #[.int .u32 a.f0, .slice C1 a.f1.length e1, .string a.f2.f0, .slice C3 a.f2.f1.length e3, .slice C4 a.f2.f2.length e4] 29)).cell? ⟨w4.heap.size, 4, none⟩ = some (.slice C4 a.f2.f2.length e4) := (blk_cell HKC.out 4).trans rfl; clear hb h1 h3 h4) | (go_at_call 5; refine (HFB.out _ HB2.out).mono ?_; rintro e w3 ⟨rfl, hb⟩; have HB3 := Aside0.mk (below_step HB2.out hb); have HKA := Aside0.mk (blk_below HKA.out hb); have HKB := Aside0.mk (blk_below HKB.out hb); have z0 : w3.cell? ⟨w.heap.size, 0, none⟩ = some (.int .u32 a.f0) := (blk_cell HKA.out 0).trans rfl; have z1 : w3.cell? ⟨w.heap.size, 1, none⟩ = some (.slice A1 a.f1.length c1) := (blk_cell HKA.out 1).trans rfl; have z2 : w3.cell? ⟨w.heap.size, 2, none⟩ = some (.string a.f2.f0) := (blk_cell HKA.out 2).trans rfl; have z3 : w3.cell? ⟨w.heap.size, 3, none⟩ = some (.slice A3 a.f2.f1.length c3) := (blk_cell HKA.out 3).trans rfl; have z4 : w3.cell? ⟨w.heap.size, 4, none⟩ = some (.slice A4 a.f2.f2.length c4) := (blk_cell HKA.out 4).trans rfl; have y0 : w3.cell? ⟨w.heap.size + 1, 0, none⟩ = some (.int .u32 b.f0) := (blk_cell HKB.out 0).trans rfl; have y1 : w3.cell? ⟨w.heap.size + 1, 1, none⟩ = some (.slice B1 b.f1.length d1) := (blk_cell HKB.out 1).trans rfl; have y2 : w3.cell? ⟨w.heap.size + 1, 2, none⟩ = some (.string b.f2.f0) := (blk_cell HKB.out 2).trans rfl; have y3 : w3.cell? ⟨w.heap.size + 1, 3, none⟩ = some (.slice B3 b.f2.f1.length d3) := (blk_cell HKB.out 3).trans rfl; have y4 : w3.cell? ⟨w.heap.size + 1, 4, none⟩ = some (.slice B4 b.f2.f2.length d4) := (blk_cell HKB.out 4).trans rfl; clear hb) | (go_at_call 5; refine (HFA.out _ HB1.out).mono ?_; rintro e w2 ⟨rfl, hb⟩; have HB2 := Aside0.mk (below_step HB1.out hb); have HKA := Aside0.mk (blk_below HKA.out hb); have HKB := Aside0.mk (blk_below HKB.out hb); have z0 : w2.cell? ⟨w.heap.size, 0, none⟩ = some (.int .u32 a.f0) := (blk_cell HKA.out 0).trans rfl; have z1 : w2.cell? ⟨w.heap.size, 1, none⟩ = some (.slice A1 a.f1.length c1) := (blk_cell HKA.out 1).trans rfl; have z2 : w2.cell? ⟨w.heap.size, 2, none⟩ = some (.string a.f2.f0) := (blk_cell HKA.out 2).trans rfl; have z3 : w2.cell? ⟨w.heap.size, 3, none⟩ = some (.slice A3 a.f2.f1.length c3) := (blk_cell HKA.out 3).trans rfl; have z4 : w2.cell? ⟨w.heap.size, 4, none⟩ = some (.slice A4 a.f2.f2.length c4) := (blk_cell HKA.out 4).trans rfl; have y0 : w2.cell? ⟨w.heap.size + 1, 0, none⟩ = some (.int .u32 b.f0) := (blk_cell HKB.out 0).trans rfl; have y1 : w2.cell? ⟨w.heap.size + 1, 1, none⟩ = some (.slice B1 b.f1.length d1) := (blk_cell HKB.out 1).trans rfl; have y2 : w2.cell? ⟨w.heap.size + 1, 2, none⟩ = some (.string b.f2.f0) := (blk_cell HKB.out 2).trans rfl; have y3 : w2.cell? ⟨w.heap.size + 1, 3, none⟩ = some (.slice B3 b.f2.f1.length d3) := (blk_cell HKB.out 3).trans rfl; have y4 : w2.cell? ⟨w.heap.size + 1, 4, none⟩ = some (.slice B4 b.f2.f2.length d4) := (blk_cell HKB.out 4).trans rfl; clear hb) | (go_at_call 4; refine (arboretlaw03_awake.calls true ((w.alloc (.cells #[.int .u32 a.f0, .slice A1 a.f1.length c1, .string a.f2.f0, .slice A3 a.f2.f1.length c3, .slice A4 a.f2.f2.length c4] 29)).alloc (.cells #[.int .u32 b.f0, .slice B1 b.f1.length d1, .string b.f2.f0, .slice B3 b.f2.f1.length d3, .slice B4 b.f2.f2.length d4] 29)) rfl).mono ?_; rintro e w1 ⟨rfl, hb⟩; have HB1 := Aside0.mk (below_step HB0.out hb); have HKA := Aside0.mk (blk_below HKA.out hb); have HKB := Aside0.mk (blk_below HKB.out hb); have z0 : w1.cell? ⟨w.heap.size, 0, none⟩ = some (.int .u32 a.f0) := (blk_cell HKA.out 0).trans rfl; have z1 : w1.cell? ⟨w.heap.size, 1, none⟩ = some (.slice A1 a.f1.length c1) := (blk_cell HKA.out 1).trans rfl; have z2 : w1.cell? ⟨w.heap.size, 2, none⟩ = some (.string a.f2.f0) := (blk_cell HKA.out 2).trans rfl; have z3 : w1.cell? ⟨w.heap.size, 3, none⟩ = some (.slice A3 a.f2.f1.length c3) := (blk_cell HKA.out 3).trans rfl; have z4 : w1.cell? ⟨w.heap.size, 4, none⟩ = some (.slice A4 a.f2.f2.length c4) := (blk_cell HKA.out 4).trans rfl; have y0 : w1.cell? ⟨w.heap.size + 1, 0, none⟩ = some (.int .u32 b.f0) := (blk_cell HKB.out 0).trans rfl; have y1 : w1.cell? ⟨w.heap.size + 1, 1, none⟩ = some (.slice B1 b.f1.length d1) := (blk_cell HKB.out 1).trans rfl; have y2 : w1.cell? ⟨w.heap.size + 1, 2, none⟩ = some (.string b.f2.f0) := (blk_cell HKB.out 2).trans rfl; have y3 : w1.cell? ⟨w.heap.size + 1, 3, none⟩ = some (.slice B3 b.f2.f1.length d3) := (blk_cell HKB.out 3).trans rfl; have y4 : w1.cell? ⟨w.heap.size + 1, 4, none⟩ = some (.slice B4 b.f2.f2.length d4) := (blk_cell HKB.out 4).trans rfl; clear hb))
  have HB6 := Aside0.mk (below_alloc (below_step (below_step HB4.out (below_alloc (Below.refl w4.heap.size w4) (.cells #[.int .u32 a.f0, .slice C1 a.f1.length e1, .string a.f2.f0, .slice C3 a.f2.f1.length e3, .slice C4 a.f2.f2.length e4] 29))) HV5.out) (.cells #[.int .u32 a.f0, .slice D1 a.f1.length f1, .string a.f2.f0, .slice D3 a.f2.f1.length f3, .slice D4 a.f2.f2.length f4] 29))
  have hb6 : Below w4.heap.size w4 (w5.alloc (.cells #[.int .u32 a.f0, .slice D1 a.f1.length f1, .string a.f2.f0, .slice D3 a.f2.f1.length f3, .slice D4 a.f2.f2.length f4] 29)) := (below_alloc (below_step (below_alloc (Below.refl w4.heap.size w4) (.cells #[.int .u32 a.f0, .slice C1 a.f1.length e1, .string a.f2.f0, .slice C3 a.f2.f1.length e3, .slice C4 a.f2.f2.length e4] 29)) HV5.out) (.cells #[.int .u32 a.f0, .slice D1 a.f1.length f1, .string a.f2.f0, .slice D3 a.f2.f1.length f3, .slice D4 a.f2.f2.length f4] 29))
  have hb7 : Below w5.heap.size w5 (w5.alloc (.cells #[.int .u32 a.f0, .slice D1 a.f1.length f1, .string a.f2.f0, .slice D3 a.f2.f1.length f3, .slice D4 a.f2.f2.length f4] 29)) := below_alloc (Below.refl w5.heap.size w5) (.cells #[.int .u32 a.f0, .slice D1 a.f1.length f1, .string a.f2.f0, .slice D3 a.f2.f1.length f3, .slice D4 a.f2.f2.length f4] 29)
  have hle : w4.heap.size ≤ (w4.alloc (.cells #[.int .u32 a.f0, .slice C1 a.f1.length e1, .string a.f2.f0, .slice C3 a.f2.f1.length e3, .slice C4 a.f2.f2.length e4] 29)).heap.size := (below_alloc (Below.refl w4.heap.size w4) (.cells #[.int .u32 a.f0, .slice C1 a.f1.length e1, .string a.f2.f0, .slice C3 a.f2.f1.length e3, .slice C4 a.f2.f2.length e4] 29)).size
  have HKD := Aside0.mk (blk_new w5 (.cells #[.int .u32 a.f0, .slice D1 a.f1.length f1, .string a.f2.f0, .slice D3 a.f2.f1.length f3, .slice D4 a.f2.f2.length f4] 29 (0, 0)))
  have HKA := Aside0.mk (blk_alloc (blk_below (blk_alloc HKA.out (.cells #[.int .u32 a.f0, .slice C1 a.f1.length e1, .string a.f2.f0, .slice C3 a.f2.f1.length e3, .slice C4 a.f2.f2.length e4] 29)) HV5.out) (.cells #[.int .u32 a.f0, .slice D1 a.f1.length f1, .string a.f2.f0, .slice D3 a.f2.f1.length f3, .slice D4 a.f2.f2.length f4] 29))
  have HKB := Aside0.mk (blk_alloc (blk_below (blk_alloc HKB.out (.cells #[.int .u32 a.f0, .slice C1 a.f1.length e1, .string a.f2.f0, .slice C3 a.f2.f1.length e3, .slice C4 a.f2.f2.length e4] 29)) HV5.out) (.cells #[.int .u32 a.f0, .slice D1 a.f1.length f1, .string a.f2.f0, .slice D3 a.f2.f1.length f3, .slice D4 a.f2.f2.length f4] 29))
  have HP := Aside0.mk (Kd.R_below HC3.out hb6)
  have HN := Aside0.mk (Kd.R_below HC4.out hb6)
  have HD1 := Aside0.mk (Kd.R_lower (Kd.R_below HD1.out hb7) hle)
  have HD3 := Aside0.mk (Kd.R_lower (Kd.R_below HD3.out hb7) hle)
  have HD4 := Aside0.mk (Kd.R_lower (Kd.R_below HD4.out hb7) hle)
  have HLO := Aside0.mk (show w.heap.size ≤ w3.heap.size from HB3.out.size)
  have HNP := Aside0.mk (show a.f2.f1.length ≤ 9223372036854775807 from HTA.out.r3.2.1)
  have HNK := Aside0.mk (show a.f2.f2.length ≤ 9223372036854775807 from HTA.out.r4.2.1)
  clear HC3 HC4 hb6 hb7 hle HTC4 HV5
  generalize w5.heap.size = gd at *
  generalize w5.alloc (.cells #[.int .u32 a.f0, .slice D1 a.f1.length f1, .string a.f2.f0, .slice D3 a.f2.f1.length f3, .slice D4 a.f2.f2.length f4] 29) = w6 at *
  go_loopg [33] (a.f2.f1.length + 1) (fun kq v33 w' => ∃ i : Nat, v33 = .int .i64 (i : Int) ∧ Aside0 (i + kq = a.f2.f1.length + 1) ∧ Aside0 (Wr w3.heap.size w4.heap.size [5, 27] w6 w') ∧ Aside0 (Below w.heap.size w w'))
  case atStart => exact ⟨0, rfl, ⟨by omega⟩, ⟨Wr.refl _ _ _ _⟩, HB6⟩
  case round =>
    clear x0 x1 x2 x3 x4 z0 z1 z2 z3 z4 y0 y1 y2 y3 y4
    obtain ⟨i, rfl, HI, HW, HB⟩ := hrel
    obtain ⟨w10, rfl⟩ : ∃ x, x = wr := ⟨_, rfl⟩
    have HKC10 := Aside0.mk (HW.out.keep HKC.out (by decide))
    have x0 : w10.cell? ⟨w4.heap.size, 0, none⟩ = some (.int .u32 a.f0) := (blk_cell HKC10.out 0).trans rfl; have x1 : w10.cell? ⟨w4.heap.size, 1, none⟩ = some (.slice C1 a.f1.length e1) := (blk_cell HKC10.out 1).trans rfl; have x2 : w10.cell? ⟨w4.heap.size, 2, none⟩ = some (.string a.f2.f0) := (blk_cell HKC10.out 2).trans rfl; have x3 : w10.cell? ⟨w4.heap.size, 3, none⟩ = some (.slice C3 a.f2.f1.length e3) := (blk_cell HKC10.out 3).trans rfl; have x4 : w10.cell? ⟨w4.heap.size, 4, none⟩ = some (.slice C4 a.f2.f2.length e4) := (blk_cell HKC10.out 4).trans rfl
    by_cases ci : (i : Int) < (a.f2.f1.length : Int)
    · have cib : decide ((i : Int) < (a.f2.f1.length : Int)) = true := decide_eq_true ci
      have hw := i64_w ((i : Int) + 1)
      have hw2 : Go.RowKit.wrap64 ((i : Int) + 1) = ((i + 1 : Nat) : Int) := by have := HNP.out; unfold Go.RowKit.wrap64; omega
      cases gk with
      | zero => exact absurd HI.out (by omega)
      | succ k1 =>
        obtain ⟨ad, P, m, Pc, eA, hx, hm, hby⟩ := prop_at HP.out i (by omega)
        subst eA
        have HM := Aside0.mk hm
        have HX := Aside0.mk hx
        have HBY := Aside0.mk hby
        have hx := hx w10 HW.out
        clear hm hby
        go_wp2
        go_loopg [44] (m + 1) (fun kj v44 w' => ∃ j : Nat, v44 = .int .i64 (j : Int) ∧ Aside0 (j + kj = m + 1) ∧ Aside0 (Wr w3.heap.size w4.heap.size [5, 27] w6 w') ∧ Aside0 (Below w.heap.size w w'))
        case atStart => exact ⟨0, rfl, ⟨by omega⟩, HW, HB⟩
        case round =>
          clear x0 x1 x2 x3 x4 hx
          obtain ⟨j, rfl, HJ, HW2, HB2⟩ := hrel
          obtain ⟨w11, rfl⟩ : ∃ x, x = wr := ⟨_, rfl⟩
          have HKC11 := Aside0.mk (HW2.out.keep HKC.out (by decide))
          have x0 : w11.cell? ⟨w4.heap.size, 0, none⟩ = some (.int .u32 a.f0) := (blk_cell HKC11.out 0).trans rfl; have x1 : w11.cell? ⟨w4.heap.size, 1, none⟩ = some (.slice C1 a.f1.length e1) := (blk_cell HKC11.out 1).trans rfl; have x2 : w11.cell? ⟨w4.heap.size, 2, none⟩ = some (.string a.f2.f0) := (blk_cell HKC11.out 2).trans rfl; have x3 : w11.cell? ⟨w4.heap.size, 3, none⟩ = some (.slice (some ad) a.f2.f1.length e3) := (blk_cell HKC11.out 3).trans rfl; have x4 : w11.cell? ⟨w4.heap.size, 4, none⟩ = some (.slice C4 a.f2.f2.length e4) := (blk_cell HKC11.out 4).trans rfl
          have hx := HX.out w11 HW2.out
          by_cases cj : (j : Int) < (m : Int)
          · have cjb : decide ((j : Int) < (m : Int)) = true := decide_eq_true cj
            have hwj := i64_w ((j : Int) + 1)
            have hwj2 : Go.RowKit.wrap64 ((j : Int) + 1) = ((j + 1 : Nat) : Int) := by have := HM.out; unfold Go.RowKit.wrap64; omega
            cases gk with
            | zero => exact absurd HJ.out (by omega)
            | succ k2 =>
              obtain ⟨pb, eP, hlo, hpb⟩ := HBY.out j (by omega)
              subst eP
              obtain ⟨⟨u, hu⟩, hfz, hset⟩ := hpb w11 HW2.out
              have HSET := Aside0.mk hset
              have HLB := Aside0.mk hlo
              clear hset hpb hlo
              go_wp2
              go_roundg k2
              case measure => clear hw hw2 hwj hwj2; omega
              case rel => exact ⟨j + 1, by first | rfl | (simp; done) | (simp [*]; done), ⟨by clear hw hw2 hwj hwj2; have := HJ.out; omega⟩, ⟨HSET.out _⟩, ⟨HB2.out.setCell (Nat.le_trans HLO.out HLB.out) _⟩⟩
          · have cjb : decide ((j : Int) < (m : Int)) = false := decide_eq_false cj
            go_wp2
            go_roundg k1
            case measure => clear hw hw2; omega
            case rel => exact ⟨i + 1, by first | rfl | (simp; done) | (simp [*]; done), ⟨by clear hw hw2; have := HI.out; omega⟩, HW2, HB2⟩
    · have cib : decide ((i : Int) < (a.f2.f1.length : Int)) = false := decide_eq_false ci
      go_wp2
      go_loopg [63] (a.f2.f2.length + 1) (fun kq v63 w' => ∃ i : Nat, v63 = .int .i64 (i : Int) ∧ Aside0 (i + kq = a.f2.f2.length + 1) ∧ Aside0 (Wr w3.heap.size w4.heap.size [5, 27] w6 w') ∧ Aside0 (Below w.heap.size w w'))
      case atStart => exact ⟨0, rfl, ⟨by omega⟩, HW, HB⟩
      case round =>
        clear x0 x1 x2 x3 x4
        obtain ⟨l, rfl, HL, HW2, HB20⟩ := hrel
        obtain ⟨w20, rfl⟩ : ∃ x, x = wr := ⟨_, rfl⟩
        have HKC20 := Aside0.mk (HW2.out.keep HKC.out (by decide))
        have x0 : w20.cell? ⟨w4.heap.size, 0, none⟩ = some (.int .u32 a.f0) := (blk_cell HKC20.out 0).trans rfl; have x1 : w20.cell? ⟨w4.heap.size, 1, none⟩ = some (.slice C1 a.f1.length e1) := (blk_cell HKC20.out 1).trans rfl; have x2 : w20.cell? ⟨w4.heap.size, 2, none⟩ = some (.string a.f2.f0) := (blk_cell HKC20.out 2).trans rfl; have x3 : w20.cell? ⟨w4.heap.size, 3, none⟩ = some (.slice C3 a.f2.f1.length e3) := (blk_cell HKC20.out 3).trans rfl; have x4 : w20.cell? ⟨w4.heap.size, 4, none⟩ = some (.slice C4 a.f2.f2.length e4) := (blk_cell HKC20.out 4).trans rfl
        by_cases cl : (l : Int) < (a.f2.f2.length : Int)
        · have clb : decide ((l : Int) < (a.f2.f2.length : Int)) = true := decide_eq_true cl
          have hw := i64_w ((l : Int) + 1)
          have hw2 : Go.RowKit.wrap64 ((l : Int) + 1) = ((l + 1 : Nat) : Int) := by have := HNK.out; unfold Go.RowKit.wrap64; omega
          cases gk with
          | zero => exact absurd HL.out (by omega)
          | succ k1 =>
            obtain ⟨ad, eA, hlo, hkd⟩ := kid_at HN.out l (by omega)
            subst eA
            obtain ⟨⟨u, hu⟩, hfz, hset⟩ := hkd w20 HW2.out
            have HSET := Aside0.mk hset
            have HLB := Aside0.mk hlo
            clear hset hkd hlo
            go_wp2
            go_roundg k1
            case measure => clear hw hw2; omega
            case rel => exact ⟨l + 1, by first | rfl | (simp; done) | (simp [*]; done), ⟨by clear hw hw2; have := HL.out; omega⟩, ⟨HSET.out _⟩, ⟨HB20.out.setCell (Nat.le_trans HLO.out HLB.out) _⟩⟩
        · have clb : decide ((l : Int) < (a.f2.f2.length : Int)) = false := decide_eq_false cl
          have HKA20 := Aside0.mk (HW2.out.keep HKA.out (by decide))
          have HKB20 := Aside0.mk (HW2.out.keep HKB.out (by decide))
          have HKD20 := Aside0.mk (HW2.out.keep HKD.out (by decide))
          have HTA20 := Aside0.mk (HTA.out.below HB20.out)
          have HTB20 := Aside0.mk (HTB.out.below HB20.out)
          have q1 := HW2.out.R HD1.out (Nat.le_refl _)
          have q3 := HW2.out.R HD3.out (Nat.le_refl _)
          have q4 := HW2.out.R HD4.out (Nat.le_refl _)
          have HTD20 := Aside0.mk (TreeC.mk (t := a) (Kd.R_reads' q1).2.2 (Kd.R_reads' q1).2.1 (Kd.R_reads' q3).2.2 (Kd.R_reads' q3).2.1 (Kd.R_reads' q4).2.2 (Kd.R_reads' q4).2.1)
          have be1 : (r1 == r1) = true := beq_self_eq_true _
          have be2 : (r2 == r2) = true := beq_self_eq_true _
          clear x0 x1 x2 x3 x4 q1 q3 q4 HW HW2 HB HP HN HD1 HD3 HD4
          go_wp2
          refine start_ (n := 26) (S := fun w' => w'.cell? ⟨w.heap.size, 0, none⟩ = some (.int .u32 a.f0) ∧ w'.cell? ⟨w.heap.size, 1, none⟩ = some (.slice A1 a.f1.length c1) ∧ w'.cell? ⟨w.heap.size, 2, none⟩ = some (.string a.f2.f0) ∧ w'.cell? ⟨w.heap.size, 3, none⟩ = some (.slice A3 a.f2.f1.length c3) ∧ w'.cell? ⟨w.heap.size, 4, none⟩ = some (.slice A4 a.f2.f2.length c4) ∧ w'.cell? ⟨w.heap.size + 1, 0, none⟩ = some (.int .u32 b.f0) ∧ w'.cell? ⟨w.heap.size + 1, 1, none⟩ = some (.slice B1 b.f1.length d1) ∧ w'.cell? ⟨w.heap.size + 1, 2, none⟩ = some (.string b.f2.f0) ∧ w'.cell? ⟨w.heap.size + 1, 3, none⟩ = some (.slice B3 b.f2.f1.length d3) ∧ w'.cell? ⟨w.heap.size + 1, 4, none⟩ = some (.slice B4 b.f2.f2.length d4) ∧ w'.cell? ⟨gd, 0, none⟩ = some (.int .u32 a.f0) ∧ w'.cell? ⟨gd, 1, none⟩ = some (.slice D1 a.f1.length f1) ∧ w'.cell? ⟨gd, 2, none⟩ = some (.string a.f2.f0) ∧ w'.cell? ⟨gd, 3, none⟩ = some (.slice D3 a.f2.f1.length f3) ∧ w'.cell? ⟨gd, 4, none⟩ = some (.slice D4 a.f2.f2.length f4)) (ds := []) #[false, false, false, false, false, false, false, false, false, false, false, false, false, false, false, false, false, false, false, false, false, false, false, false, false, false] (by kernel_rfl) rfl rfl ⟨((blk_cell HKA20.out 0).trans rfl), ((blk_cell HKA20.out 1).trans rfl), ((blk_cell HKA20.out 2).trans rfl), ((blk_cell HKA20.out 3).trans rfl), ((blk_cell HKA20.out 4).trans rfl), ((blk_cell HKB20.out 0).trans rfl), ((blk_cell HKB20.out 1).trans rfl), ((blk_cell HKB20.out 2).trans rfl), ((blk_cell HKB20.out 3).trans rfl), ((blk_cell HKB20.out 4).trans rfl), ((blk_cell HKD20.out 0).trans rfl), ((blk_cell HKD20.out 1).trans rfl), ((blk_cell HKD20.out 2).trans rfl), ((blk_cell HKD20.out 3).trans rfl), ((blk_cell HKD20.out 4).trans rfl)⟩ (fun hHeld => ?_)
          refine take_ (i := 0) (N := some 73) (v := ?_) (a' := ?_) #[true, false, false, false, false, false, false, false, false, false, false, false, false, false, false, false, false, false, false, false, false, false, false, false, false, false] rfl rfl (by kernel_rfl) (fun _ _ _ h => h) (Or.inl ⟨by rfl, ?_⟩) hHeld ?_ ?_
          rotate_left
          · rintro w' ⟨s0, s1, s2, s3, s4, s5, s6, s7, s8, s9, s10, s11, s12, s13, s14⟩
            go_simp
            with_reducible rfl
          rotate_left
          · simp only [Act.put, List.setIfInBounds_toArray, List.set_cons_zero, List.set_cons_succ, i64_w, i32_w]
            rfl
          refine take_ (i := 1) (N := some 74) (v := ?_) (a' := ?_) #[true, true, false, false, false, false, false, false, false, false, false, false, false, false, false, false, false, false, false, false, false, false, false, false, false, false] rfl rfl (by kernel_rfl) (fun _ _ _ h => h) (Or.inl ⟨by rfl, ?_⟩) hHeld ?_ ?_
          rotate_left
          · rintro w' ⟨s0, s1, s2, s3, s4, s5, s6, s7, s8, s9, s10, s11, s12, s13, s14⟩
            go_simp
            with_reducible rfl
          rotate_left
          · simp only [Act.put, List.setIfInBounds_toArray, List.set_cons_zero, List.set_cons_succ, i64_w, i32_w]
            rfl
          refine take_ (i := 3) (N := some 76) (v := ?_) (a' := ?_) #[true, true, false, true, false, false, false, false, false, false, false, false, false, false, false, false, false, false, false, false, false, false, false, false, false, false] rfl rfl (by kernel_rfl) (fun _ _ _ h => h) (Or.inl ⟨by rfl, ?_⟩) hHeld ?_ ?_
          rotate_left
          · rintro w' ⟨s0, s1, s2, s3, s4, s5, s6, s7, s8, s9, s10, s11, s12, s13, s14⟩
            go_simp
            with_reducible rfl
          rotate_left
          · simp only [Act.put, List.setIfInBounds_toArray, List.set_cons_zero, List.set_cons_succ, i64_w, i32_w]
            rfl
          refine take_ (i := 4) (N := some 77) (v := ?_) (a' := ?_) #[true, true, false, true, true, false, false, false, false, false, false, false, false, false, false, false, false, false, false, false, false, false, false, false, false, false] rfl rfl (by kernel_rfl) (fun _ _ _ h => h) (Or.inl ⟨by rfl, ?_⟩) hHeld ?_ ?_
          rotate_left
          · rintro w' ⟨s0, s1, s2, s3, s4, s5, s6, s7, s8, s9, s10, s11, s12, s13, s14⟩
            go_simp
            with_reducible rfl
          rotate_left
          · simp only [Act.put, List.setIfInBounds_toArray, List.set_cons_zero, List.set_cons_succ, i64_w, i32_w]
            rfl
          refine one_ (i := 2) (N := some 75) #[true, true, true, true, true, false, false, false, false, false, false, false, false, false, false, false, false, false, false, false, false, false, false, false, false, false] rfl rfl (by kernel_rfl) (by decide) (fun K hK => ?_)
          refine goes_ Try.func7 (by kernel_rfl) rfl #[treeV a A1 c1 A3 c3 A4 c4, treeV b B1 d1 B3 d3 B4 d4] (by rfl) rfl rfl (by simp only [List.map_toArray, List.map_cons, List.map_nil]; rfl) ?_
          refine (tree_Equal.calls k a.f0 A1 c1 a.f1 a.f2.f0 A3 c3 a.f2.f1 A4 c4 a.f2.f2 b.f0 B1 d1 b.f1 b.f2.f0 B3 d3 b.f2.f1 B4 d4 b.f2.f2 r1 _ (HTA20.out.below (below_drew1 (Below.refl _ _))).r1 (HTA20.out.below (below_drew1 (Below.refl _ _))).l1 (HTA20.out.below (below_drew1 (Below.refl _ _))).r3 (HTA20.out.below (below_drew1 (Below.refl _ _))).l3 (HTA20.out.below (below_drew1 (Below.refl _ _))).r4 (HTA20.out.below (below_drew1 (Below.refl _ _))).l4 (HTB20.out.below (below_drew1 (Below.refl _ _))).r1 (HTB20.out.below (below_drew1 (Below.refl _ _))).l1 (HTB20.out.below (below_drew1 (Below.refl _ _))).r3 (HTB20.out.below (below_drew1 (Below.refl _ _))).l3 (HTB20.out.below (below_drew1 (Below.refl _ _))).r4 (HTB20.out.below (below_drew1 (Below.refl _ _))).l4 HEQ.out).mono ?_
          rintro e w21 ⟨rfl, hb0⟩
          have hb := below_step (below_drew1 (Below.refl w20.heap.size w20)) hb0
          have HKA21 := Aside0.mk (blk_below HKA20.out hb)
          have HKB21 := Aside0.mk (blk_below HKB20.out hb)
          have HKD21 := Aside0.mk (blk_below HKD20.out hb)
          have HTA21 := Aside0.mk (HTA20.out.below hb)
          have HTB21 := Aside0.mk (HTB20.out.below hb)
          have HTD21 := Aside0.mk (HTD20.out.below hb)
          have HB21 := Aside0.mk (below_step HB20.out hb)
          clear hb hb0
          refine ⟨_, rfl, ?_⟩
          refine hK.out _ _ ⟨((blk_cell HKA21.out 0).trans rfl), ((blk_cell HKA21.out 1).trans rfl), ((blk_cell HKA21.out 2).trans rfl), ((blk_cell HKA21.out 3).trans rfl), ((blk_cell HKA21.out 4).trans rfl), ((blk_cell HKB21.out 0).trans rfl), ((blk_cell HKB21.out 1).trans rfl), ((blk_cell HKB21.out 2).trans rfl), ((blk_cell HKB21.out 3).trans rfl), ((blk_cell HKB21.out 4).trans rfl), ((blk_cell HKD21.out 0).trans rfl), ((blk_cell HKD21.out 1).trans rfl), ((blk_cell HKD21.out 2).trans rfl), ((blk_cell HKD21.out 3).trans rfl), ((blk_cell HKD21.out 4).trans rfl)⟩ (fun hHeld => ?_)
          clear hK K
          refine norm_ (a' := ?_) ?_ ?_
          rotate_left
          · show Act.put _ (some 75) _ = _
            simp only [Act.put, List.setIfInBounds_toArray, List.set_cons_zero, List.set_cons_succ, i64_w, i32_w]
            rfl
          refine one_ (i := 5) (N := some 78) #[true, true, true, true, true, true, false, false, false, false, false, false, false, false, false, false, false, false, false, false, false, false, false, false, false, false] rfl rfl (by kernel_rfl) (by decide) (fun K hK => ?_)
          refine goes_ Try.func8 (by kernel_rfl) rfl #[treeV a A1 c1 A3 c3 A4 c4, treeV b B1 d1 B3 d3 B4 d4] (by rfl) rfl rfl (by simp only [List.map_toArray, List.map_cons, List.map_nil]; rfl) ?_
          refine (arboretref01_SameTree.calls k a.f0 A1 c1 a.f1 a.f2.f0 A3 c3 a.f2.f1 A4 c4 a.f2.f2 b.f0 B1 d1 b.f1 b.f2.f0 B3 d3 b.f2.f1 B4 d4 b.f2.f2 r1 w21 (HTA21.out).r1 (HTA21.out).l1 (HTA21.out).r3 (HTA21.out).l3 (HTA21.out).r4 (HTA21.out).l4 (HTB21.out).r1 (HTB21.out).l1 (HTB21.out).r3 (HTB21.out).l3 (HTB21.out).r4 (HTB21.out).l4 HST.out).mono ?_
          rintro e w22 ⟨rfl, hb⟩
          have HKA22 := Aside0.mk (blk_below HKA21.out hb)
          have HKB22 := Aside0.mk (blk_below HKB21.out hb)
          have HKD22 := Aside0.mk (blk_below HKD21.out hb)
          have HTA22 := Aside0.mk (HTA21.out.below hb)
          have HTB22 := Aside0.mk (HTB21.out.below hb)
          have HTD22 := Aside0.mk (HTD21.out.below hb)
          have HB22 := Aside0.mk (below_step HB21.out hb)
          clear hb
          refine ⟨_, rfl, ?_⟩
          refine hK.out _ _ ⟨((blk_cell HKA22.out 0).trans rfl), ((blk_cell HKA22.out 1).trans rfl), ((blk_cell HKA22.out 2).trans rfl), ((blk_cell HKA22.out 3).trans rfl), ((blk_cell HKA22.out 4).trans rfl), ((blk_cell HKB22.out 0).trans rfl), ((blk_cell HKB22.out 1).trans rfl), ((blk_cell HKB22.out 2).trans rfl), ((blk_cell HKB22.out 3).trans rfl), ((blk_cell HKB22.out 4).trans rfl), ((blk_cell HKD22.out 0).trans rfl), ((blk_cell HKD22.out 1).trans rfl), ((blk_cell HKD22.out 2).trans rfl), ((blk_cell HKD22.out 3).trans rfl), ((blk_cell HKD22.out 4).trans rfl)⟩ (fun hHeld => ?_)
          clear hK K
          refine norm_ (a' := ?_) ?_ ?_
          rotate_left
          · show Act.put _ (some 78) _ = _
            simp only [Act.put, List.setIfInBounds_toArray, List.set_cons_zero, List.set_cons_succ, i64_w, i32_w]
            rfl
          refine pure_ (i := 6) (N := some 79) (v := ?_) (a' := ?_) #[true, true, true, true, true, true, true, false, false, false, false, false, false, false, false, false, false, false, false, false, false, false, false, false, false, false] rfl rfl (by kernel_rfl) (fun _ _ _ h => h) (Or.inl ⟨by rfl, ?_⟩) ?_ ?_
          rotate_left
          · intro w'
            go_simp
            with_reducible rfl
          rotate_left
          · simp only [Act.put, List.setIfInBounds_toArray, List.set_cons_zero, List.set_cons_succ, i64_w, i32_w]
            rfl
          refine pure_ (i := 7) (N := some 80) (v := ?_) (a' := ?_) #[true, true, true, true, true, true, true, true, false, false, false, false, false, false, false, false, false, false, false, false, false, false, false, false, false, false] rfl rfl (by kernel_rfl) (fun _ _ _ h => h) (Or.inl ⟨by rfl, ?_⟩) ?_ ?_
          rotate_left
          · intro w'
            go_simp
            with_reducible rfl
          rotate_left
          · simp only [Act.put, List.setIfInBounds_toArray, List.set_cons_zero, List.set_cons_succ, i64_w, i32_w]
            rfl
          refine take_ (i := 8) (N := some 81) (v := ?_) (a' := ?_) #[true, true, true, true, true, true, true, true, true, false, false, false, false, false, false, false, false, false, false, false, false, false, false, false, false, false] rfl rfl (by kernel_rfl) (fun _ _ _ h => h) (Or.inl ⟨by rfl, ?_⟩) hHeld ?_ ?_
          rotate_left
          · rintro w' ⟨s0, s1, s2, s3, s4, s5, s6, s7, s8, s9, s10, s11, s12, s13, s14⟩
            go_simp
            with_reducible rfl
          rotate_left
          · simp only [Act.put, List.setIfInBounds_toArray, List.set_cons_zero, List.set_cons_succ, i64_w, i32_w]
            rfl
          refine take_ (i := 9) (N := some 82) (v := ?_) (a' := ?_) #[true, true, true, true, true, true, true, true, true, true, false, false, false, false, false, false, false, false, false, false, false, false, false, false, false, false] rfl rfl (by kernel_rfl) (fun _ _ _ h => h) (Or.inl ⟨by rfl, ?_⟩) hHeld ?_ ?_
          rotate_left
          · rintro w' ⟨s0, s1, s2, s3, s4, s5, s6, s7, s8, s9, s10, s11, s12, s13, s14⟩
            go_simp
            with_reducible rfl
          rotate_left
          · simp only [Act.put, List.setIfInBounds_toArray, List.set_cons_zero, List.set_cons_succ, i64_w, i32_w]
            rfl
          refine one_ (i := 10) (N := some 83) #[true, true, true, true, true, true, true, true, true, true, true, false, false, false, false, false, false, false, false, false, false, false, false, false, false, false] rfl rfl (by kernel_rfl) (by decide) (fun K hK => ?_)
          refine goes_ Try.func8 (by kernel_rfl) rfl #[treeV a A1 c1 A3 c3 A4 c4, treeV a D1 f1 D3 f3 D4 f4] (by rfl) rfl rfl (by simp only [List.map_toArray, List.map_cons, List.map_nil]; rfl) ?_
          refine (arboretref01_SameTree.calls k a.f0 A1 c1 a.f1 a.f2.f0 A3 c3 a.f2.f1 A4 c4 a.f2.f2 a.f0 D1 f1 a.f1 a.f2.f0 D3 f3 a.f2.f1 D4 f4 a.f2.f2 true w22 (HTA22.out).r1 (HTA22.out).l1 (HTA22.out).r3 (HTA22.out).l3 (HTA22.out).r4 (HTA22.out).l4 (HTD22.out).r1 (HTD22.out).l1 (HTD22.out).r3 (HTD22.out).l3 (HTD22.out).r4 (HTD22.out).l4 HSA.out).mono ?_
          rintro e w23 ⟨rfl, hb⟩
          have HKA23 := Aside0.mk (blk_below HKA22.out hb)
          have HKB23 := Aside0.mk (blk_below HKB22.out hb)
          have HKD23 := Aside0.mk (blk_below HKD22.out hb)
          have HTA23 := Aside0.mk (HTA22.out.below hb)
          have HTB23 := Aside0.mk (HTB22.out.below hb)
          have HTD23 := Aside0.mk (HTD22.out.below hb)
          have HB23 := Aside0.mk (below_step HB22.out hb)
          clear hb
          refine ⟨_, rfl, ?_⟩
          refine hK.out _ _ ⟨((blk_cell HKA23.out 0).trans rfl), ((blk_cell HKA23.out 1).trans rfl), ((blk_cell HKA23.out 2).trans rfl), ((blk_cell HKA23.out 3).trans rfl), ((blk_cell HKA23.out 4).trans rfl), ((blk_cell HKB23.out 0).trans rfl), ((blk_cell HKB23.out 1).trans rfl), ((blk_cell HKB23.out 2).trans rfl), ((blk_cell HKB23.out 3).trans rfl), ((blk_cell HKB23.out 4).trans rfl), ((blk_cell HKD23.out 0).trans rfl), ((blk_cell HKD23.out 1).trans rfl), ((blk_cell HKD23.out 2).trans rfl), ((blk_cell HKD23.out 3).trans rfl), ((blk_cell HKD23.out 4).trans rfl)⟩ (fun hHeld => ?_)
          clear hK K
          refine norm_ (a' := ?_) ?_ ?_
          rotate_left
          · show Act.put _ (some 83) _ = _
            simp only [Act.put, List.setIfInBounds_toArray, List.set_cons_zero, List.set_cons_succ, i64_w, i32_w]
            rfl
          refine pure_ (i := 11) (N := some 84) (v := ?_) (a' := ?_) #[true, true, true, true, true, true, true, true, true, true, true, true, false, false, false, false, false, false, false, false, false, false, false, false, false, false] rfl rfl (by kernel_rfl) (fun _ _ _ h => h) (Or.inl ⟨by rfl, ?_⟩) ?_ ?_
          rotate_left
          · intro w'
            go_simp
            with_reducible rfl
          rotate_left
          · simp only [Act.put, List.setIfInBounds_toArray, List.set_cons_zero, List.set_cons_succ, i64_w, i32_w]
            rfl
          refine pure_ (i := 12) (N := some 85) (v := ?_) (a' := ?_) #[true, true, true, true, true, true, true, true, true, true, true, true, true, false, false, false, false, false, false, false, false, false, false, false, false, false] rfl rfl (by kernel_rfl) (fun _ _ _ h => h) (Or.inl ⟨by rfl, ?_⟩) ?_ ?_
          rotate_left
          · intro w'
            go_simp
            with_reducible rfl
          rotate_left
          · simp only [Act.put, List.setIfInBounds_toArray, List.set_cons_zero, List.set_cons_succ, i64_w, i32_w]
            rfl
          refine pure_ (i := 13) (N := some 86) (v := ?_) (a' := ?_) #[true, true, true, true, true, true, true, true, true, true, true, true, true, true, false, false, false, false, false, false, false, false, false, false, false, false] rfl rfl (by kernel_rfl) (fun _ _ _ h => h) (Or.inl ⟨by rfl, ?_⟩) ?_ ?_
          rotate_left
          · intro w'
            go_simp
            with_reducible rfl
          rotate_left
          · simp only [Act.put, List.setIfInBounds_toArray, List.set_cons_zero, List.set_cons_succ, i64_w, i32_w]
            rfl
          refine pure_ (i := 15) (N := some 88) (v := ?_) (a' := ?_) #[true, true, true, true, true, true, true, true, true, true, true, true, true, true, false, true, false, false, false, false, false, false, false, false, false, false] rfl rfl (by kernel_rfl) (fun _ _ _ h => h) (Or.inl ⟨by rfl, ?_⟩) ?_ ?_
          rotate_left
          · intro w'
            go_simp
            with_reducible rfl
          rotate_left
          · simp only [Act.put, List.setIfInBounds_toArray, List.set_cons_zero, List.set_cons_succ, i64_w, i32_w]
            rfl
          refine pure_ (i := 18) (N := some 91) (v := ?_) (a' := ?_) #[true, true, true, true, true, true, true, true, true, true, true, true, true, true, false, true, false, false, true, false, false, false, false, false, false, false] rfl rfl (by kernel_rfl) (fun _ _ _ h => h) (Or.inl ⟨by rfl, ?_⟩) ?_ ?_
          rotate_left
          · intro w'
            go_simp
            with_reducible rfl
          rotate_left
          · simp only [Act.put, List.setIfInBounds_toArray, List.set_cons_zero, List.set_cons_succ, i64_w, i32_w]
            rfl
          refine pure_ (i := 20) (N := some 93) (v := ?_) (a' := ?_) #[true, true, true, true, true, true, true, true, true, true, true, true, true, true, false, true, false, false, true, false, true, false, false, false, false, false] rfl rfl (by kernel_rfl) (fun _ _ _ h => h) (Or.inl ⟨by rfl, ?_⟩) ?_ ?_
          rotate_left
          · intro w'
            go_simp
            with_reducible rfl
          rotate_left
          · simp only [Act.put, List.setIfInBounds_toArray, List.set_cons_zero, List.set_cons_succ, i64_w, i32_w]
            rfl
          refine take_ (i := 14) (N := some 87) (v := ?_) (a' := ?_) #[true, true, true, true, true, true, true, true, true, true, true, true, true, true, true, true, false, false, true, false, true, false, false, false, false, false] rfl rfl (by kernel_rfl) (fun _ _ _ h => h) (Or.inl ⟨by rfl, ?_⟩) hHeld ?_ ?_
          rotate_left
          · rintro w' ⟨s0, s1, s2, s3, s4, s5, s6, s7, s8, s9, s10, s11, s12, s13, s14⟩
            go_simp
            with_reducible rfl
          rotate_left
          · simp only [Act.put, List.setIfInBounds_toArray, List.set_cons_zero, List.set_cons_succ, i64_w, i32_w]
            rfl
          refine take_ (i := 16) (N := some 89) (v := ?_) (a' := ?_) #[true, true, true, true, true, true, true, true, true, true, true, true, true, true, true, true, true, false, true, false, true, false, false, false, false, false] rfl rfl (by kernel_rfl) (fun _ _ _ h => h) (Or.inl ⟨by rfl, ?_⟩) hHeld ?_ ?_
          rotate_left
          · rintro w' ⟨s0, s1, s2, s3, s4, s5, s6, s7, s8, s9, s10, s11, s12, s13, s14⟩
            go_simp
            with_reducible rfl
          rotate_left
          · simp only [Act.put, List.setIfInBounds_toArray, List.set_cons_zero, List.set_cons_succ, i64_w, i32_w]
            rfl
          refine take_ (i := 19) (N := some 92) (v := ?_) (a' := ?_) #[true, true, true, true, true, true, true, true, true, true, true, true, true, true, true, true, true, false, true, true, true, false, false, false, false, false] rfl rfl (by kernel_rfl) (fun _ _ _ h => h) (Or.inl ⟨by rfl, ?_⟩) hHeld ?_ ?_
          rotate_left
          · rintro w' ⟨s0, s1, s2, s3, s4, s5, s6, s7, s8, s9, s10, s11, s12, s13, s14⟩
            go_simp
            with_reducible rfl
          rotate_left
          · simp only [Act.put, List.setIfInBounds_toArray, List.set_cons_zero, List.set_cons_succ, i64_w, i32_w]
            rfl
          refine take_ (i := 21) (N := some 94) (v := ?_) (a' := ?_) #[true, true, true, true, true, true, true, true, true, true, true, true, true, true, true, true, true, false, true, true, true, true, false, false, false, false] rfl rfl (by kernel_rfl) (fun _ _ _ h => h) (Or.inl ⟨by rfl, ?_⟩) hHeld ?_ ?_
          rotate_left
          · rintro w' ⟨s0, s1, s2, s3, s4, s5, s6, s7, s8, s9, s10, s11, s12, s13, s14⟩
            go_simp
            with_reducible rfl
          rotate_left
          · simp only [Act.put, List.setIfInBounds_toArray, List.set_cons_zero, List.set_cons_succ, i64_w, i32_w]
            rfl
          refine one_ (i := 17) (N := some 90) #[true, true, true, true, true, true, true, true, true, true, true, true, true, true, true, true, true, true, true, true, true, true, false, false, false, false] rfl rfl (by kernel_rfl) (by decide) (fun K hK => ?_)
          refine goes_ Try.func9 (by kernel_rfl) rfl #[.agg #[.string a.f2.f0, .slice A3 a.f2.f1.length c3, .slice A4 a.f2.f2.length c4], .agg #[.string b.f2.f0, .slice B3 b.f2.f1.length d3, .slice B4 b.f2.f2.length d4]] (by rfl) rfl rfl (by simp only [List.map_toArray, List.map_cons, List.map_nil]; rfl) ?_
          refine (tree_SameNode.calls k a.f2.f0 A3 c3 a.f2.f1 A4 c4 a.f2.f2 b.f2.f0 B3 d3 b.f2.f1 B4 d4 b.f2.f2 r2 w23 HTA23.out.r3 HTA23.out.l3 HTA23.out.r4 HTA23.out.l4 HTB23.out.r3 HTB23.out.l3 HTB23.out.r4 HTB23.out.l4 HSN.out).mono ?_
          rintro e w24 ⟨rfl, hb⟩
          have HKA24 := Aside0.mk (blk_below HKA23.out hb)
          have HKB24 := Aside0.mk (blk_below HKB23.out hb)
          have HKD24 := Aside0.mk (blk_below HKD23.out hb)
          have HTA24 := Aside0.mk (HTA23.out.below hb)
          have HTB24 := Aside0.mk (HTB23.out.below hb)
          have HTD24 := Aside0.mk (HTD23.out.below hb)
          have HB24 := Aside0.mk (below_step HB23.out hb)
          clear hb
          refine ⟨_, rfl, ?_⟩
          refine hK.out _ _ ⟨((blk_cell HKA24.out 0).trans rfl), ((blk_cell HKA24.out 1).trans rfl), ((blk_cell HKA24.out 2).trans rfl), ((blk_cell HKA24.out 3).trans rfl), ((blk_cell HKA24.out 4).trans rfl), ((blk_cell HKB24.out 0).trans rfl), ((blk_cell HKB24.out 1).trans rfl), ((blk_cell HKB24.out 2).trans rfl), ((blk_cell HKB24.out 3).trans rfl), ((blk_cell HKB24.out 4).trans rfl), ((blk_cell HKD24.out 0).trans rfl), ((blk_cell HKD24.out 1).trans rfl), ((blk_cell HKD24.out 2).trans rfl), ((blk_cell HKD24.out 3).trans rfl), ((blk_cell HKD24.out 4).trans rfl)⟩ (fun hHeld => ?_)
          clear hK K
          refine norm_ (a' := ?_) ?_ ?_
          rotate_left
          · show Act.put _ (some 90) _ = _
            simp only [Act.put, List.setIfInBounds_toArray, List.set_cons_zero, List.set_cons_succ, i64_w, i32_w]
            rfl
          refine one_ (i := 22) (N := some 95) #[true, true, true, true, true, true, true, true, true, true, true, true, true, true, true, true, true, true, true, true, true, true, true, false, false, false] rfl rfl (by kernel_rfl) (by decide) (fun K hK => ?_)
          refine goes_ Try.func10 (by kernel_rfl) rfl #[.agg #[.string a.f2.f0, .slice A3 a.f2.f1.length c3, .slice A4 a.f2.f2.length c4], .agg #[.string b.f2.f0, .slice B3 b.f2.f1.length d3, .slice B4 b.f2.f2.length d4]] (by rfl) rfl rfl (by simp only [List.map_toArray, List.map_cons, List.map_nil]; rfl) ?_
          refine (arboretref01_Same.calls k a.f2.f0 A3 c3 a.f2.f1 A4 c4 a.f2.f2 b.f2.f0 B3 d3 b.f2.f1 B4 d4 b.f2.f2 r2 w24 HTA24.out.r3 HTA24.out.l3 HTA24.out.r4 HTA24.out.l4 HTB24.out.r3 HTB24.out.l3 HTB24.out.r4 HTB24.out.l4 HSM.out).mono ?_
          rintro e w25 ⟨rfl, hb⟩
          have HKA25 := Aside0.mk (blk_below HKA24.out hb)
          have HKB25 := Aside0.mk (blk_below HKB24.out hb)
          have HKD25 := Aside0.mk (blk_below HKD24.out hb)
          have HTA25 := Aside0.mk (HTA24.out.below hb)
          have HTB25 := Aside0.mk (HTB24.out.below hb)
          have HTD25 := Aside0.mk (HTD24.out.below hb)
          have HB25 := Aside0.mk (below_step HB24.out hb)
          clear hb
          refine ⟨_, rfl, ?_⟩
          refine hK.out _ _ ⟨((blk_cell HKA25.out 0).trans rfl), ((blk_cell HKA25.out 1).trans rfl), ((blk_cell HKA25.out 2).trans rfl), ((blk_cell HKA25.out 3).trans rfl), ((blk_cell HKA25.out 4).trans rfl), ((blk_cell HKB25.out 0).trans rfl), ((blk_cell HKB25.out 1).trans rfl), ((blk_cell HKB25.out 2).trans rfl), ((blk_cell HKB25.out 3).trans rfl), ((blk_cell HKB25.out 4).trans rfl), ((blk_cell HKD25.out 0).trans rfl), ((blk_cell HKD25.out 1).trans rfl), ((blk_cell HKD25.out 2).trans rfl), ((blk_cell HKD25.out 3).trans rfl), ((blk_cell HKD25.out 4).trans rfl)⟩ (fun hHeld => ?_)
          clear hK K
          refine norm_ (a' := ?_) ?_ ?_
          rotate_left
          · show Act.put _ (some 95) _ = _
            simp only [Act.put, List.setIfInBounds_toArray, List.set_cons_zero, List.set_cons_succ, i64_w, i32_w]
            rfl
          refine pure_ (i := 23) (N := some 96) (v := ?_) (a' := ?_) #[true, true, true, true, true, true, true, true, true, true, true, true, true, true, true, true, true, true, true, true, true, true, true, true, false, false] rfl rfl (by kernel_rfl) (fun _ _ _ h => h) (Or.inl ⟨by rfl, ?_⟩) ?_ ?_
          rotate_left
          · intro w'
            go_simp
            with_reducible rfl
          rotate_left
          · simp only [Act.put, List.setIfInBounds_toArray, List.set_cons_zero, List.set_cons_succ, i64_w, i32_w]
            rfl
          refine pure_ (i := 24) (N := some 97) (v := ?_) (a' := ?_) #[true, true, true, true, true, true, true, true, true, true, true, true, true, true, true, true, true, true, true, true, true, true, true, true, true, false] rfl rfl (by kernel_rfl) (fun _ _ _ h => h) (Or.inl ⟨by rfl, ?_⟩) ?_ ?_
          rotate_left
          · intro w'
            go_simp
            with_reducible rfl
          rotate_left
          · simp only [Act.put, List.setIfInBounds_toArray, List.set_cons_zero, List.set_cons_succ, i64_w, i32_w]
            rfl
          refine pure_ (i := 25) (N := some 6) (v := ?_) (a' := ?_) #[true, true, true, true, true, true, true, true, true, true, true, true, true, true, true, true, true, true, true, true, true, true, true, true, true, true] rfl rfl (by kernel_rfl) (fun _ _ _ h => h) (Or.inl ⟨by rfl, ?_⟩) ?_ ?_
          rotate_left
          · intro w'
            go_simp
            with_reducible rfl
          rotate_left
          · simp only [Act.put, List.setIfInBounds_toArray, List.set_cons_zero, List.set_cons_succ, i64_w, i32_w]
            rfl
          refine done_ (by kernel_rfl) ?_
          go_wp2
          refine bodyPost_ret (results_tmp rfl _ _ _) rfl ?_
          exact ⟨rfl, HB25.out⟩
end Go.Proofs.Ytiioeaalnmjbmaa.PE

set_option linter.unusedVariables false
set_option linter.unusedSimpArgs false
namespace Go.Proofs.Ytiioeaalnmjbmaa.PE
open Go.RowKit Go.Proofs.Ytiioeaalnmjbmaa.Rdr Go.Proofs.YtiioeaalnmjbmaaW.PrintWords Go.Proofs.YtiioeaalnmjbmaaW.PrintLast Go.Proofs.YtiioeaalnmjbmaaW.PrintMore
def bulk45 (x : S45) : Nat := (fun _ => 1) x.f0 + (fun _ => 1) x.f1 + 1
def good45 (x : S45) : Prop := (wfI .u64) x.f0 ∧ (wfI .u64) x.f1
theorem rd45 (W : World) (n : Nat) : RdF Try.prog W n k45 45 bulk45 good45 := by
  intro H enc fuel hfu cs x h
  cases n with
  | zero =>
    obtain rfl : fuel = 0 := by omega
    simp [DataW.trod] at h
  | succ n =>
  obtain ⟨xs, m, rfl, rfl, hl, hlen, hf⟩ := DataW.trod_struct Try.underlying45 h
  have hl' : cs.length = 2 := hl.trans (by kernel_rfl)
  clear hl
  obtain ⟨u0, u1, rfl⟩ := len_2 hl'
  have z43 : Try.prog.cellsOf 43 = 1 := by kernel_rfl
  obtain ⟨y0, hy0⟩ : ∃ y, xs[0]? = some y := ⟨_, List.getElem?_eq_getElem (by rw [hlen]; decide)⟩
  have h0 := hf 0 _ rfl
  rw [hy0] at h0
  simp only [z43, List.getElem_toArray, List.getElem_cons_zero, List.getElem_cons_succ, List.drop_zero, List.drop_succ_cons, List.take_succ_cons, List.take_zero] at h0
  have h0' : DataW.trod enc Try.prog W 0 (fun _ => true) true m 43 [u0] = some y0 := h0
  obtain ⟨y1, hy1⟩ : ∃ y, xs[1]? = some y := ⟨_, List.getElem?_eq_getElem (by rw [hlen]; decide)⟩
  have h1 := hf 1 _ rfl
  rw [hy1] at h1
  simp only [z43, List.getElem_toArray, List.getElem_cons_zero, List.getElem_cons_succ, List.drop_zero, List.drop_succ_cons, List.take_succ_cons, List.take_zero] at h1
  have h1' : DataW.trod enc Try.prog W 0 (fun _ => true) true m 43 [u1] = some y1 := h1
  obtain ⟨a0, k0, b0, g0⟩ := (rd_int (n := (n + 1)) Try.underlying43) H enc m (by omega) _ _ h0'
  obtain ⟨a1, k1, b1, g1⟩ := (rd_int (n := (n + 1)) Try.underlying43) H enc m (by omega) _ _ h1'
  have hall : xs = [y0, y1] := by
    obtain ⟨q0, q1, rfl⟩ := len_2 (l := xs) hlen
    simp only [List.getElem?_cons_zero, List.getElem?_cons_succ, Option.some.injEq] at hy0 hy1
    rw [hy0, hy1]
  subst hall
  refine ⟨⟨a0, a1⟩, ⟨[u0], [u1], rfl, k0, k1⟩, ?_, ?_⟩
  · (try dsimp only at b0); (try dsimp only at b1); simp only [bulk45, Rows.uptoBulk, Rows.uptoBulkAll, List.map_cons, List.map_nil]; omega
  · exact ⟨g0, g1⟩
def bulk35 (x : S35) : Nat := (fun s => s.size + 1) x.f0 + (fun xs => sumB (fun _ => 1) xs + 1) x.f1 + 1
def good35 (x : S35) : Prop := (fun _ => True) x.f0 ∧ (fun xs => ∀ x ∈ xs, (wfI .u8) x) x.f1
theorem rd35 (W : World) (n : Nat) : RdF Try.prog W n k35 35 bulk35 good35 := by
  intro H enc fuel hfu cs x h
  cases n with
  | zero =>
    obtain rfl : fuel = 0 := by omega
    simp [DataW.trod] at h
  | succ n =>
  obtain ⟨xs, m, rfl, rfl, hl, hlen, hf⟩ := DataW.trod_struct Try.underlying35 h
  have hl' : cs.length = 2 := hl.trans (by kernel_rfl)
  clear hl
  obtain ⟨u0, u1, rfl⟩ := len_2 hl'
  have z9 : Try.prog.cellsOf 9 = 1 := by kernel_rfl
  have z33 : Try.prog.cellsOf 33 = 1 := by kernel_rfl
  obtain ⟨y0, hy0⟩ : ∃ y, xs[0]? = some y := ⟨_, List.getElem?_eq_getElem (by rw [hlen]; decide)⟩
  have h0 := hf 0 _ rfl
  rw [hy0] at h0
  simp only [z9, List.getElem_toArray, List.getElem_cons_zero, List.getElem_cons_succ, List.drop_zero, List.drop_succ_cons, List.take_succ_cons, List.take_zero] at h0
  have h0' : DataW.trod enc Try.prog W 0 (fun _ => true) true m 9 [u0] = some y0 := h0
  obtain ⟨y1, hy1⟩ : ∃ y, xs[1]? = some y := ⟨_, List.getElem?_eq_getElem (by rw [hlen]; decide)⟩
  have h1 := hf 1 _ rfl
  rw [hy1] at h1
  simp only [z33, List.getElem_toArray, List.getElem_cons_zero, List.getElem_cons_succ, List.drop_zero, List.drop_succ_cons, List.take_succ_cons, List.take_zero] at h1
  have h1' : DataW.trod enc Try.prog W 0 (fun _ => true) true m 33 [u1] = some y1 := h1
  obtain ⟨a0, k0, b0, g0⟩ := (rd_string (n := (n + 1)) Try.underlying9) H enc m (by omega) _ _ h0'
  obtain ⟨a1, k1, b1, g1⟩ := (rd_slice (n := n) Try.underlying33 (by kernel_rfl) (rd_int (n := n) Try.underlying5)) H enc m (by omega) _ _ h1'
  have hall : xs = [y0, y1] := by
    obtain ⟨q0, q1, rfl⟩ := len_2 (l := xs) hlen
    simp only [List.getElem?_cons_zero, List.getElem?_cons_succ, Option.some.injEq] at hy0 hy1
    rw [hy0, hy1]
  subst hall
  refine ⟨⟨a0, a1⟩, ⟨[u0], [u1], rfl, k0, k1⟩, ?_, ?_⟩
  · (try dsimp only at b0); (try dsimp only at b1); simp only [bulk35, Rows.uptoBulk, Rows.uptoBulkAll, List.map_cons, List.map_nil]; omega
  · exact ⟨g0, g1⟩
mutual
def bulk27 : S27 → Nat
  | ⟨x0, x1, x2⟩ => (fun s => s.size + 1) x0 + (fun xs => sumB bulk35 xs + 1) x1 + (bulks27 x2 + 1) + 1
def bulks27 : List S27 → Nat
  | [] => 0
  | x :: r => bulk27 x + bulks27 r
end
theorem bulks27_eq (l : List S27) : bulks27 l = sumB bulk27 l := by
  induction l with
  | nil => rfl
  | cons x r ih => simp only [bulks27, sumB, ih]
mutual
def good27 : S27 → Prop
  | ⟨x0, x1, x2⟩ => (fun _ => True) x0 ∧ (fun xs => ∀ x ∈ xs, good35 x) x1 ∧ goods27 x2
def goods27 : List S27 → Prop
  | [] => True
  | x :: r => good27 x ∧ goods27 r
end
theorem goods27_iff (l : List S27) : goods27 l ↔ ∀ x ∈ l, good27 x := by
  induction l with
  | nil => simp [goods27]
  | cons x r ih => simp [goods27, ih]
theorem rd27 (W : World) (n : Nat) : RdF Try.prog W n k27 27 bulk27 good27 := by
  induction n with
  | zero =>
    intro H enc fuel hf cs x h
    obtain rfl : fuel = 0 := by omega
    simp [DataW.trod] at h
  | succ n ih =>
  intro H enc fuel hfu cs x h
  obtain ⟨xs, m, rfl, rfl, hl, hlen, hf⟩ := DataW.trod_struct Try.underlying27 h
  have hl' : cs.length = 3 := hl.trans (by kernel_rfl)
  clear hl
  obtain ⟨u0, u1, u2, rfl⟩ := len_3 hl'
  have z9 : Try.prog.cellsOf 9 = 1 := by kernel_rfl
  have z24 : Try.prog.cellsOf 24 = 1 := by kernel_rfl
  have z25 : Try.prog.cellsOf 25 = 1 := by kernel_rfl
  obtain ⟨y0, hy0⟩ : ∃ y, xs[0]? = some y := ⟨_, List.getElem?_eq_getElem (by rw [hlen]; decide)⟩
  have h0 := hf 0 _ rfl
  rw [hy0] at h0
  simp only [z9, List.getElem_toArray, List.getElem_cons_zero, List.getElem_cons_succ, List.drop_zero, List.drop_succ_cons, List.take_succ_cons, List.take_zero] at h0
  have h0' : DataW.trod enc Try.prog W 0 (fun _ => true) true m 9 [u0] = some y0 := h0
  obtain ⟨y1, hy1⟩ : ∃ y, xs[1]? = some y := ⟨_, List.getElem?_eq_getElem (by rw [hlen]; decide)⟩
  have h1 := hf 1 _ rfl
  rw [hy1] at h1
  simp only [z24, List.getElem_toArray, List.getElem_cons_zero, List.getElem_cons_succ, List.drop_zero, List.drop_succ_cons, List.take_succ_cons, List.take_zero] at h1
  have h1' : DataW.trod enc Try.prog W 0 (fun _ => true) true m 24 [u1] = some y1 := h1
  obtain ⟨y2, hy2⟩ : ∃ y, xs[2]? = some y := ⟨_, List.getElem?_eq_getElem (by rw [hlen]; decide)⟩
  have h2 := hf 2 _ rfl
  rw [hy2] at h2
  simp only [z25, List.getElem_toArray, List.getElem_cons_zero, List.getElem_cons_succ, List.drop_zero, List.drop_succ_cons, List.take_succ_cons, List.take_zero] at h2
  have h2' : DataW.trod enc Try.prog W 0 (fun _ => true) true m 25 [u2] = some y2 := h2
  obtain ⟨a0, k0, b0, g0⟩ := (rd_string (n := (n + 1)) Try.underlying9) H enc m (by omega) _ _ h0'
  obtain ⟨a1, k1, b1, g1⟩ := (rd_slice (n := n) Try.underlying24 (by kernel_rfl) (rd35 W n)) H enc m (by omega) _ _ h1'
  obtain ⟨a2, k2, b2, g2⟩ := (rd_slice (n := n) Try.underlying25 (by kernel_rfl) ih) H enc m (by omega) _ _ h2'
  have hall : xs = [y0, y1, y2] := by
    obtain ⟨q0, q1, q2, rfl⟩ := len_3 (l := xs) hlen
    simp only [List.getElem?_cons_zero, List.getElem?_cons_succ, Option.some.injEq] at hy0 hy1 hy2
    rw [hy0, hy1, hy2]
  subst hall
  cases k0
  obtain ⟨A1, c1, e1, l1, r1⟩ := k1
  cases e1
  obtain ⟨A2, c2, e2, l2, r2⟩ := k2
  cases e2
  refine ⟨⟨a0, a1, a2⟩, k27_mk W ⟨a0, a1, a2⟩ l1 r1 l2 r2, ?_, ?_⟩
  · (try dsimp only at b0); (try dsimp only at b1); (try dsimp only at b2); simp only [bulk27, bulks27_eq, Rows.uptoBulk, Rows.uptoBulkAll, List.map_cons, List.map_nil]; omega
  · exact ⟨g0, g1, (goods27_iff _).mpr g2⟩
def bulk29 (x : S29) : Nat := (fun _ => 1) x.f0 + (fun xs => sumB bulk45 xs + 1) x.f1 + bulk27 x.f2 + 1
def good29 (x : S29) : Prop := (wfI .u32) x.f0 ∧ (fun xs => ∀ x ∈ xs, good45 x) x.f1 ∧ good27 x.f2
theorem rd29 (W : World) (n : Nat) : RdF Try.prog W n k29 29 bulk29 good29 := by
  intro H enc fuel hfu cs x h
  cases n with
  | zero =>
    obtain rfl : fuel = 0 := by omega
    simp [DataW.trod] at h
  | succ n =>
  obtain ⟨xs, m, rfl, rfl, hl, hlen, hf⟩ := DataW.trod_struct Try.underlying29 h
  have hl' : cs.length = 5 := hl.trans (by kernel_rfl)
  clear hl
  obtain ⟨u0, u1, u2, u3, u4, rfl⟩ := len_5 hl'
  have z22 : Try.prog.cellsOf 22 = 1 := by kernel_rfl
  have z23 : Try.prog.cellsOf 23 = 1 := by kernel_rfl
  have z27 : Try.prog.cellsOf 27 = 3 := by kernel_rfl
  obtain ⟨y0, hy0⟩ : ∃ y, xs[0]? = some y := ⟨_, List.getElem?_eq_getElem (by rw [hlen]; decide)⟩
  have h0 := hf 0 _ rfl
  rw [hy0] at h0
  simp only [z22, List.getElem_toArray, List.getElem_cons_zero, List.getElem_cons_succ, List.drop_zero, List.drop_succ_cons, List.take_succ_cons, List.take_zero] at h0
  have h0' : DataW.trod enc Try.prog W 0 (fun _ => true) true m 22 [u0] = some y0 := h0
  obtain ⟨y1, hy1⟩ : ∃ y, xs[1]? = some y := ⟨_, List.getElem?_eq_getElem (by rw [hlen]; decide)⟩
  have h1 := hf 1 _ rfl
  rw [hy1] at h1
  simp only [z23, List.getElem_toArray, List.getElem_cons_zero, List.getElem_cons_succ, List.drop_zero, List.drop_succ_cons, List.take_succ_cons, List.take_zero] at h1
  have h1' : DataW.trod enc Try.prog W 0 (fun _ => true) true m 23 [u1] = some y1 := h1
  obtain ⟨y2, hy2⟩ : ∃ y, xs[2]? = some y := ⟨_, List.getElem?_eq_getElem (by rw [hlen]; decide)⟩
  have h2 := hf 2 _ rfl
  rw [hy2] at h2
  simp only [z27, List.getElem_toArray, List.getElem_cons_zero, List.getElem_cons_succ, List.drop_zero, List.drop_succ_cons, List.take_succ_cons, List.take_zero] at h2
  have h2' : DataW.trod enc Try.prog W 0 (fun _ => true) true m 27 [u2, u3, u4] = some y2 := h2
  obtain ⟨a0, k0, b0, g0⟩ := (rd_int (n := (n + 1)) Try.underlying22) H enc m (by omega) _ _ h0'
  obtain ⟨a1, k1, b1, g1⟩ := (rd_slice (n := n) Try.underlying23 (by kernel_rfl) (rd45 W n)) H enc m (by omega) _ _ h1'
  obtain ⟨a2, k2, b2, g2⟩ := (rd27 W (n + 1)) H enc m (by omega) _ _ h2'
  have hall : xs = [y0, y1, y2] := by
    obtain ⟨q0, q1, q2, rfl⟩ := len_3 (l := xs) hlen
    simp only [List.getElem?_cons_zero, List.getElem?_cons_succ, Option.some.injEq] at hy0 hy1 hy2
    rw [hy0, hy1, hy2]
  subst hall
  refine ⟨⟨a0, a1, a2⟩, ⟨[u0], [u1, u2, u3, u4], rfl, k0, ⟨[u1], [u2, u3, u4], rfl, k1, k2⟩⟩, ?_, ?_⟩
  · (try dsimp only at b0); (try dsimp only at b1); (try dsimp only at b2); simp only [bulk29, Rows.uptoBulk, Rows.uptoBulkAll, List.map_cons, List.map_nil]; omega
  · exact ⟨g0, g1, g2⟩
end Go.Proofs.Ytiioeaalnmjbmaa.PE

set_option linter.unusedVariables false
set_option linter.unusedSimpArgs false
namespace Go.Proofs.Ytiioeaalnmjbmaa.PE
open Go.RowKit Go.Proofs.Ytiioeaalnmjbmaa.Rdr Go.Proofs.Ytiioeaalnmjbmaa.Aid Go.Proofs.YtiioeaalnmjbmaaW.PrintWords
theorem rdN (xs : List S27) (i : Nat) : rd_T27 xs (i : Int) = xs.getD i z27 := by simp [rd_T27]
theorem rdP (xs : List S35) (i : Nat) : rd_T35 xs (i : Int) = xs.getD i z35 := by simp [rd_T35]
theorem getN {xs : List S27} {i : Nat} (h : i < xs.length) : xs.getD i z27 ∈ xs := by rw [getD_at h]; exact List.getElem_mem h
theorem getP {xs : List S35} {i : Nat} (h : i < xs.length) : xs.getD i z35 ∈ xs := by rw [getD_at h]; exact List.getElem_mem h
theorem bulk_pos (x : S27) : 1 ≤ bulk27 x := by
  cases x
  simp only [bulk27]
  omega
theorem bulk_eq (x : S27) : bulk27 x = x.f0.size + sumB bulk35 x.f1 + sumB bulk27 x.f2 + 4 := by
  cases x
  simp only [bulk27, bulks27_eq]
  omega
theorem bulk_kid {x k : S27} (h : k ∈ x.f2) : bulk27 k + 4 ≤ bulk27 x := by
  have := sumB_mem (B := bulk27) h
  rw [bulk_eq x]
  omega
theorem bulk_prop {x : S27} {p : S35} (h : p ∈ x.f1) : bulk35 p + 4 ≤ bulk27 x := by
  have := sumB_mem (B := bulk35) h
  rw [bulk_eq x]
  omega
theorem bulk_kids (x : S27) : x.f2.length + 4 ≤ bulk27 x := by
  have := sumB_len bulk_pos x.f2
  rw [bulk_eq x]
  omega
theorem bulk_props (x : S27) : x.f1.length + 4 ≤ bulk27 x := by
  have := sumB_len (B := bulk35) (fun p => by unfold bulk35; omega) x.f1
  rw [bulk_eq x]
  omega
theorem bulk_value (p : S35) : p.f0.size + p.f1.length + 3 ≤ bulk35 p := by
  unfold bulk35
  simp only [sumB_one]
  omega
theorem step64 {i n : Nat} (h : i < n) (hn : n ≤ 1048576) : wrap64 ((i : Int) + 1) = ((i + 1 : Nat) : Int) := by unfold wrap64; omega
theorem size_ends (m : Nat) (hm : m ≤ 1048576) : ∀ x : S27, bulk27 x ≤ m → ∀ d : Int, ∃ v, Ev (fun k => arboretlaw03_size.f k x.f0 x.f1 x.f2 d) v := by
  induction m with
  | zero => intro x hx; have := bulk_pos x; omega
  | succ m ih =>
    intro x hx d
    have hk := bulk_kids x
    have hp := bulk_props x
    have kids : ∀ (j i : Nat) (acc : Int), i + j = x.f2.length → ∃ v, Ev (fun k => arboretlaw03_size.l1 k d acc (x.f2.length : Int) (i : Int) x.f0 x.f1 x.f2) v := by
      intro j
      induction j with
      | zero =>
        intro i acc hi
        refine ⟨acc, Ev.succ ?_⟩
        simp only [arboretlaw03_size.l1]
        exact Ev.neg (by omega) (Ev.some _)
      | succ j ihj =>
        intro i acc hi
        have hw := step64 (i := i) (n := x.f2.length) (by omega) (by omega)
        by_cases h1 : d > 20
        · refine ⟨1048576, Ev.succ ?_⟩
          simp only [arboretlaw03_size.l1]
          exact Ev.pos (by omega) (Ev.pos h1 (Ev.some _))
        by_cases h2 : acc > 100000
        · refine ⟨1048576, Ev.succ ?_⟩
          simp only [arboretlaw03_size.l1]
          exact Ev.pos (by omega) (Ev.neg h1 (Ev.pos h2 (Ev.some _)))
        have hmem := getN (xs := x.f2) (i := i) (by omega)
        obtain ⟨v, hv⟩ := ih (by omega) (x.f2.getD i z27) (by have := bulk_kid hmem; omega) (wrap64 (d + 1))
        obtain ⟨r, hr⟩ := ihj (i + 1) (wrap64 (acc + v)) (by omega)
        refine ⟨r, Ev.succ ?_⟩
        simp only [arboretlaw03_size.l1, rdN, hw]
        exact Ev.pos (by omega) (Ev.neg h1 (Ev.neg h2 (Ev.pos (by omega) (Ev.pos (by omega) (Ev.then hv hr)))))
    have props : ∀ (j i : Nat) (acc : Int), i + j = x.f1.length → ∃ v, Ev (fun k => arboretlaw03_size.l0 k d acc (x.f1.length : Int) (i : Int) x.f0 x.f1 x.f2) v := by
      intro j
      induction j with
      | zero =>
        intro i acc hi
        obtain ⟨v, hv⟩ := kids x.f2.length 0 acc (by omega)
        refine ⟨v, Ev.succ ?_⟩
        simp only [arboretlaw03_size.l0]
        exact Ev.neg (by omega) hv
      | succ j ihj =>
        intro i acc hi
        have hw := step64 (i := i) (n := x.f1.length) (by omega) (by omega)
        obtain ⟨v, hv⟩ := ihj (i + 1) (wrap64 ((wrap64 ((wrap64 (acc + 1)) + (((rd_T35 x.f1 i).f0).size : Int))) + (((rd_T35 x.f1 i).f1).length : Int))) (by omega)
        refine ⟨v, Ev.succ ?_⟩
        simp only [arboretlaw03_size.l0, hw]
        exact Ev.pos (by omega) (Ev.pos (by omega) (Ev.pos (by omega) hv))
    obtain ⟨v, hv⟩ := props x.f1.length 0 (wrap64 (1 + (x.f0.size : Int))) (by omega)
    refine ⟨v, Ev.succ ?_⟩
    simp only [arboretlaw03_size.f]
    exact hv
theorem few_ends (b : Int) (l : List S45) (x : S27) (hx : bulk27 x ≤ 1048576) : ∃ v, Ev (fun k => arboretlaw03_Few.f k b l x.f0 x.f1 x.f2) v := by
  obtain ⟨v, hv⟩ := size_ends 1048576 (by omega) x hx 0
  by_cases h : v ≤ 100000
  · refine ⟨decide ((l.length : Int) ≤ 200), ?_⟩
    unfold arboretlaw03_Few.f
    exact Ev.then hv (Ev.pos h (Ev.some _))
  · refine ⟨false, ?_⟩
    unfold arboretlaw03_Few.f
    exact Ev.then hv (Ev.neg h (Ev.some _))
end Go.Proofs.Ytiioeaalnmjbmaa.PE

set_option linter.unusedVariables false
set_option linter.unusedSimpArgs false
namespace Go.Proofs.Ytiioeaalnmjbmaa.PE
open Go.RowKit Go.Proofs.Ytiioeaalnmjbmaa.Aid Go.Proofs.YtiioeaalnmjbmaaW.PrintWords
theorem clone_bytes (v : List Int) (h : v.length ≤ 1048576) : bytes_Clone.f v = some v := by
  unfold bytes_Clone.f
  rw [if_pos (by omega)]
end Go.Proofs.Ytiioeaalnmjbmaa.PE

set_option linter.unusedVariables false
set_option linter.unusedSimpArgs false
namespace Go.Proofs.Ytiioeaalnmjbmaa.PE
open Go.RowKit Go.Proofs.Ytiioeaalnmjbmaa.Rdr Go.Proofs.Ytiioeaalnmjbmaa.Aid Go.Proofs.YtiioeaalnmjbmaaW.PrintWords
theorem etaN (x : S27) : (⟨x.f0, x.f1, x.f2⟩ : S27) = x := by cases x; rfl
theorem clone_ends (m : Nat) (hm : m ≤ 1048576) : ∀ x : S27, bulk27 x ≤ m → Ev (fun k => tree_CloneNode.f k x.f0 x.f1 x.f2) (x.f0, x.f1, x.f2) := by
  induction m with
  | zero => intro x hx; have := bulk_pos x; omega
  | succ m ih =>
    intro x hx
    have hk := bulk_kids x
    have hp := bulk_props x
    have kids : ∀ (j i : Nat) (acc : List S27), i + j = x.f2.length → acc = x.f2.take i → Ev (fun k => tree_CloneNode.l1 k x.f2 (x.f2.length : Int) (i : Int) x.f0 x.f1 acc) (x.f0, x.f1, x.f2) := by
      intro j
      induction j with
      | zero =>
        intro i acc hi ha
        have e : acc = x.f2 := by rw [ha, List.take_of_length_le (by omega)]
        rw [e]
        refine Ev.succ ?_
        simp only [tree_CloneNode.l1]
        exact Ev.neg (by omega) (Ev.some _)
      | succ j ihj =>
        intro i acc hi ha
        have hw := step64 (i := i) (n := x.f2.length) (by omega) (by omega)
        have hmem := getN (xs := x.f2) (i := i) (by omega)
        have hc := ih (by omega) (x.f2.getD i z27) (by have := bulk_kid hmem; omega)
        have hlen : acc.length ≤ 1048576 := by rw [ha, List.length_take]; omega
        have h := ihj (i + 1) (acc ++ [⟨(x.f2.getD i z27).f0, (x.f2.getD i z27).f1, (x.f2.getD i z27).f2⟩]) (by omega) (by rw [etaN, ha, getD_at (by omega : i < x.f2.length), List.take_append_getElem (by omega : i < x.f2.length)])
        refine Ev.succ ?_
        simp only [tree_CloneNode.l1, rdN, hw]
        exact Ev.pos (by omega) (Ev.pos (Int.natCast_nonneg i) (Ev.pos (by omega) (Ev.then hc (Ev.pos (by omega) h))))
    have props : ∀ (j i : Nat) (acc : List S35), i + j = x.f1.length → acc = x.f1.take i → Ev (fun k => tree_CloneNode.l0 k x.f1 (x.f1.length : Int) (i : Int) x.f0 x.f1 x.f2 x.f0 acc) (x.f0, x.f1, x.f2) := by
      intro j
      induction j with
      | zero =>
        intro i acc hi ha
        have e : acc = x.f1 := by rw [ha, List.take_of_length_le (by omega)]
        rw [e]
        refine Ev.succ ?_
        simp only [tree_CloneNode.l0]
        exact Ev.neg (by omega) (kids x.f2.length 0 [] (by omega) rfl)
      | succ j ihj =>
        intro i acc hi ha
        have hw := step64 (i := i) (n := x.f1.length) (by omega) (by omega)
        have hmem := getP (xs := x.f1) (i := i) (by omega)
        have hb := bulk_prop hmem
        have hv := bulk_value (x.f1.getD i z35)
        have hc := clone_bytes (x.f1.getD i z35).f1 (by omega)
        have hlen : acc.length ≤ 1048576 := by rw [ha, List.length_take]; omega
        have h := ihj (i + 1) (acc ++ [x.f1.getD i z35]) (by omega) (by rw [ha, getD_at (by omega : i < x.f1.length), List.take_append_getElem (by omega : i < x.f1.length)])
        refine Ev.succ ?_
        simp only [tree_CloneNode.l0, rdP, hw, hc, Option.bind_some]
        exact Ev.pos (by omega) (Ev.pos (Int.natCast_nonneg i) (Ev.pos (by omega) (Ev.pos (by omega) h)))
    refine Ev.succ ?_
    simp only [tree_CloneNode.f]
    exact props x.f1.length 0 [] (by omega) rfl
end Go.Proofs.Ytiioeaalnmjbmaa.PE

namespace Go.Proofs.Ytiioeaalnmjbmaa.PE
open Go.RowKit Go.Proofs.YtiioeaalnmjbmaaW.PrintWords Go.Proofs.YtiioeaalnmjbmaaW.PrintLast Go.Proofs.YtiioeaalnmjbmaaW.PrintMore
attribute [local go_sem] max2_int min2_int max_two min_two max_three min_three max_four min_four
set_option linter.unusedVariables false
set_option linter.unusedSimpArgs false
open Go.Proofs.Ytiioeaalnmjbmaa.Aid Go.Proofs.Ytiioeaalnmjbmaa.Rdr
theorem same_refl (m : Nat) (hm : m ≤ 1048576) : ∀ x : S27, bulk27 x ≤ m → Ev (fun k => arboretref01_Same.f k x.f0 x.f1 x.f2 x.f0 x.f1 x.f2) true := by
  induction m with
  | zero => intro x hx; have := bulk_pos x; omega
  | succ m ih =>
    intro x hx
    have hk := bulk_kids x
    have hp := bulk_props x
    have kids : ∀ (j i : Nat), i + j = x.f2.length → Ev (fun k => arboretref01_Same.l1 k (x.f2.length : Int) (i : Int) x.f0 x.f1 x.f2 x.f0 x.f1 x.f2) true := by
      intro j
      induction j with
      | zero =>
        intro i hi
        refine Ev.succ ?_
        simp only [arboretref01_Same.l1]
        exact Ev.neg (by omega) (Ev.some _)
      | succ j ihj =>
        intro i hi
        have hw := step64 (i := i) (n := x.f2.length) (by omega) (by omega)
        have hmem := getN (xs := x.f2) (i := i) (by omega)
        have hbk := bulk_kid hmem
        refine Ev.succ ?_
        simp only [arboretref01_Same.l1, rdN, hw]
        exact Ev.pos (by omega) (Ev.pos (Int.natCast_nonneg i) (Ev.pos (by omega) (Ev.pos (by omega) (Ev.then (ih (by omega) _ (by omega)) (Ev.pos rfl (ihj (i + 1) (by omega)))))))
    have props : ∀ (j i : Nat), i + j = x.f1.length → Ev (fun k => arboretref01_Same.l0 k (x.f1.length : Int) (i : Int) x.f0 x.f1 x.f2 x.f0 x.f1 x.f2) true := by
      intro j
      induction j with
      | zero =>
        intro i hi
        refine Ev.succ ?_
        simp only [arboretref01_Same.l0]
        exact Ev.neg (by omega) (kids x.f2.length 0 (by omega))
      | succ j ihj =>
        intro i hi
        have hw := step64 (i := i) (n := x.f1.length) (by omega) (by omega)
        refine Ev.succ ?_
        simp only [arboretref01_Same.l0, rdP, hw]
        exact Ev.pos (by omega) (Ev.pos (Int.natCast_nonneg i) (Ev.pos (by omega) (Ev.pos (by omega) (Ev.pos trivial (Ev.pos trivial (ihj (i + 1) (by omega)))))))
    refine Ev.succ ?_
    have j0 : Ev (fun k => arboretref01_Same.j0 k false x.f0 x.f1 x.f2 x.f0 x.f1 x.f2) true := by
      refine Ev.succ ?_
      simp only [arboretref01_Same.j0]
      exact Ev.neg Bool.false_ne_true (props x.f1.length 0 (by omega))
    have e1 : ((x.f1.length : Int) != (x.f1.length : Int)) = false := by simp
    have e2 : ((x.f2.length : Int) != (x.f2.length : Int)) = false := by simp
    simp only [arboretref01_Same.f, e1, e2]
    simp only [if_true, Bool.false_eq_true, if_false]
    exact j0
theorem same_tree (a0 : Int) (l1 : List S45) (x : S27) (hx : bulk27 x ≤ 1048576) (hl : l1.length ≤ 1048576) : Ev (fun k => arboretref01_SameTree.f k a0 l1 x.f0 x.f1 x.f2 a0 l1 x.f0 x.f1 x.f2) true := by
  have loop : ∀ (j i : Nat), i + j = l1.length → Ev (fun k => arboretref01_SameTree.l0 k (l1.length : Int) (i : Int) a0 l1 x.f0 x.f1 x.f2 a0 l1 x.f0 x.f1 x.f2) true := by
    intro j
    induction j with
    | zero =>
      intro i hi
      refine Ev.succ ?_
      simp only [arboretref01_SameTree.l0]
      exact Ev.neg (by omega) (Ev.then (same_refl 1048576 (by omega) x hx) (Ev.some _))
    | succ j ihj =>
      intro i hi
      have hw := step64 (i := i) (n := l1.length) (by omega) (by omega)
      refine Ev.succ ?_
      simp only [arboretref01_SameTree.l0, hw]
      exact Ev.pos (by omega) (Ev.pos (Int.natCast_nonneg i) (Ev.pos (by omega) (Ev.pos (by omega) (Ev.neg (by simp) (ihj (i + 1) (by omega))))))
  have e1 : ((l1.length : Int) != (l1.length : Int)) = false := by simp
  have j0 : Ev (fun k => arboretref01_SameTree.j0 k false a0 l1 x.f0 x.f1 x.f2 a0 l1 x.f0 x.f1 x.f2) true := by
    refine Ev.succ ?_
    simp only [arboretref01_SameTree.j0]
    exact Ev.neg Bool.false_ne_true (loop l1.length 0 (by omega))
  unfold arboretref01_SameTree.f
  simp only [e1, if_true]
  exact j0
end Go.Proofs.Ytiioeaalnmjbmaa.PE

namespace Go.Proofs.Ytiioeaalnmjbmaa.PE
open Go.RowKit Go.Proofs.YtiioeaalnmjbmaaW.PrintWords Go.Proofs.YtiioeaalnmjbmaaW.PrintLast Go.Proofs.YtiioeaalnmjbmaaW.PrintMore
attribute [local go_sem] max2_int min2_int max_two min_two max_three min_three max_four min_four
set_option linter.unusedVariables false
set_option linter.unusedSimpArgs false
open Go.Proofs.Ytiioeaalnmjbmaa.Aid Go.Proofs.Ytiioeaalnmjbmaa.Rdr
def eqP (x y : S35) : Bool := decide (x.f0.toList = y.f0.toList) && ((strOfNums x.f1).toList == (strOfNums y.f1).toList)
def eqPs : List S35 → List S35 → Bool
  | x :: r, y :: s => eqP x y && eqPs r s
  | _, _ => true
theorem sameP_eq (x y : S35) : sameP x y = some (eqP x y) := by
  unfold sameP eqP
  by_cases h : x.f0.toList = y.f0.toList
  · rw [if_pos h, decide_eq_true h, Bool.true_and]; rfl
  · rw [if_neg h, decide_eq_false h, Bool.false_and]
theorem samePs_eq : ∀ l m : List S35, samePs l m = some (eqPs l m)
  | [], _ => by simp only [samePs, eqPs]
  | _ :: _, [] => by simp only [samePs, eqPs]
  | x :: r, y :: s => by
    simp only [samePs, eqPs, sameP_eq, Option.bind_some]
    cases eqP x y with
    | true => rw [if_pos rfl, samePs_eq r s, Bool.true_and]
    | false => rw [if_neg (by decide), Bool.false_and]
theorem same_both (m : Nat) (hm : m ≤ 1048576) : ∀ x y : S27, bulk27 x ≤ m → ∃ r, Ev (fun k => tree_SameNode.f k x.f0 x.f1 x.f2 y.f0 y.f1 y.f2) r ∧ Ev (fun k => arboretref01_Same.f k x.f0 x.f1 x.f2 y.f0 y.f1 y.f2) r := by
  induction m with
  | zero => intro x y hx; have := bulk_pos x; omega
  | succ m ih =>
    intro x y hx
    have hk := bulk_kids x
    have hp := bulk_props x
    have j0t : Ev (fun k => arboretref01_Same.j0 k true x.f0 x.f1 x.f2 y.f0 y.f1 y.f2) false := by
      refine Ev.succ ?_
      simp only [arboretref01_Same.j0]
      exact Ev.pos (by trivial) (Ev.some _)
    by_cases h1 : x.f0.toList = y.f0.toList
    case neg =>
      refine ⟨false, Ev.succ ?_, Ev.succ ?_⟩
      · simp only [tree_SameNode.f]
        exact Ev.neg h1 (Ev.some _)
      · simp only [arboretref01_Same.f]
        exact Ev.neg h1 j0t
    by_cases h2 : x.f1.length = y.f1.length
    case neg =>
      refine ⟨false, Ev.succ ?_, Ev.succ ?_⟩
      · simp only [tree_SameNode.f]
        exact Ev.pos h1 (Ev.neg h2 (Ev.some _))
      · simp only [arboretref01_Same.f]
        exact Ev.pos h1 (Ev.neg (by omega) j0t)
    -- the kids, from some place on
    have kids : x.f2.length = y.f2.length → ∀ (j i : Nat), i + j = x.f2.length → ∃ r, Ev (fun k => sameKs (tree_SameNode.f k) (x.f2.drop i) (y.f2.drop i)) r ∧ Ev (fun k => arboretref01_Same.l1 k (x.f2.length : Int) (i : Int) x.f0 x.f1 x.f2 y.f0 y.f1 y.f2) r := by
      intro hl j
      induction j with
      | zero =>
        intro i hi
        refine ⟨true, ?_, Ev.succ ?_⟩
        · rw [List.drop_of_length_le (by omega)]
          simp only [sameKs]
          exact Ev.some _
        · simp only [arboretref01_Same.l1]
          exact Ev.neg (by omega) (Ev.some _)
      | succ j ihj =>
        intro i hi
        have hw := step64 (i := i) (n := x.f2.length) (by omega) (by omega)
        have hmem := getN (xs := x.f2) (i := i) (by omega)
        obtain ⟨r1, a1, b1⟩ := ih (by omega) (x.f2.getD i z27) (y.f2.getD i z27) (by have := bulk_kid hmem; omega)
        obtain ⟨r2, a2, b2⟩ := ihj (i + 1) (by omega)
        rw [drop_at (d := z27) (by omega : i < x.f2.length), drop_at (d := z27) (by omega : i < y.f2.length)]
        cases r1 with
        | true =>
          refine ⟨r2, ?_, Ev.succ ?_⟩
          · simp only [sameKs]
            exact Ev.then a1 (Ev.pos rfl a2)
          · simp only [arboretref01_Same.l1, rdN, hw]
            exact Ev.pos (by omega) (Ev.pos (Int.natCast_nonneg i) (Ev.pos (by omega) (Ev.pos (by omega) (Ev.then b1 (Ev.pos rfl b2)))))
        | false =>
          refine ⟨false, ?_, Ev.succ ?_⟩
          · simp only [sameKs]
            exact Ev.then a1 (Ev.neg (by decide) (Ev.some _))
          · simp only [arboretref01_Same.l1, rdN, hw]
            exact Ev.pos (by omega) (Ev.pos (Int.natCast_nonneg i) (Ev.pos (by omega) (Ev.pos (by omega) (Ev.then b1 (Ev.neg (by decide) (Ev.some _))))))
    have props : ∀ rk, Ev (fun k => arboretref01_Same.l1 k (x.f2.length : Int) 0 x.f0 x.f1 x.f2 y.f0 y.f1 y.f2) rk → ∀ (j i : Nat), i + j = x.f1.length → Ev (fun k => arboretref01_Same.l0 k (x.f1.length : Int) (i : Int) x.f0 x.f1 x.f2 y.f0 y.f1 y.f2) (eqPs (x.f1.drop i) (y.f1.drop i) && rk) := by
      intro rk hrk j
      induction j with
      | zero =>
        intro i hi
        rw [List.drop_of_length_le (by omega)]
        simp only [eqPs, Bool.true_and]
        refine Ev.succ ?_
        simp only [arboretref01_Same.l0]
        exact Ev.neg (by omega) hrk
      | succ j ihj =>
        intro i hi
        have hw := step64 (i := i) (n := x.f1.length) (by omega) (by omega)
        have h3 := ihj (i + 1) (by omega)
        rw [drop_at (d := z35) (by omega : i < x.f1.length), drop_at (d := z35) (by omega : i < y.f1.length)]
        refine Ev.succ ?_
        simp only [arboretref01_Same.l0, rdP, hw, eqPs]
        refine Ev.pos (by omega) (Ev.pos (Int.natCast_nonneg i) (Ev.pos (by omega) (Ev.pos (by omega) ?_)))
        unfold eqP
        by_cases c1 : (x.f1.getD i z35).f0.toList = (y.f1.getD i z35).f0.toList
        · by_cases c2 : (strOfNums (x.f1.getD i z35).f1).toList = (strOfNums (y.f1.getD i z35).f1).toList
          · rw [decide_eq_true c1, c2, beq_self_eq_true, Bool.and_self, Bool.true_and]
            exact Ev.pos c1 (Ev.pos (by trivial) h3)
          · rw [beq_eq_false_iff_ne.mpr c2, Bool.and_false, Bool.false_and, Bool.false_and]
            exact Ev.pos c1 (Ev.neg c2 (Ev.some _))
        · rw [decide_eq_false c1, Bool.false_and, Bool.false_and, Bool.false_and]
          exact Ev.neg c1 (Ev.some _)
    by_cases h3 : x.f2.length = y.f2.length
    case neg =>
      have e2 : ((x.f2.length : Int) != (y.f2.length : Int)) = true := by rw [bne_iff_ne]; omega
      refine ⟨false, Ev.succ ?_, Ev.succ ?_⟩
      · simp only [tree_SameNode.f, samePs_eq, Option.bind_some]
        refine Ev.pos h1 (Ev.pos h2 ?_)
        cases eqPs x.f1 y.f1 with
        | true => exact Ev.pos rfl (Ev.neg h3 (Ev.some _))
        | false => exact Ev.neg (by decide) (Ev.some _)
      · simp only [arboretref01_Same.f, e2]
        exact Ev.pos h1 (Ev.pos (by omega) j0t)
    obtain ⟨rk, ka, kb⟩ := kids h3 x.f2.length 0 (by omega)
    have pb := props rk kb x.f1.length 0 (by omega)
    rw [List.drop_zero, List.drop_zero] at pb
    rw [List.drop_zero, List.drop_zero] at ka
    have e2 : ((x.f2.length : Int) != (y.f2.length : Int)) = false := by rw [bne_eq_false_iff_eq]; omega
    refine ⟨eqPs x.f1 y.f1 && rk, Ev.succ ?_, Ev.succ ?_⟩
    · simp only [tree_SameNode.f, samePs_eq, Option.bind_some]
      refine Ev.pos h1 (Ev.pos h2 ?_)
      cases eqPs x.f1 y.f1 with
      | true => rw [Bool.true_and]; exact Ev.pos rfl (Ev.pos h3 ka)
      | false => rw [Bool.false_and]; exact Ev.neg (by decide) (Ev.some _)
    · simp only [arboretref01_Same.f, e2]
      refine Ev.pos h1 (Ev.pos (by omega) (Ev.succ ?_))
      simp only [arboretref01_Same.j0]
      exact Ev.neg (by decide) pb
def eqR (x y : S45) : Bool := !(!(x.f0 == y.f0) || (!(x.f1 == y.f1)))
def eqRs : List S45 → List S45 → Bool
  | x :: r, y :: s => eqR x y && eqRs r s
  | _, _ => true
theorem rdR (xs : List S45) (i : Nat) : rd_T45 xs (i : Int) = xs.getD i z45 := by simp [rd_T45]
theorem same_trees (a b : S29) (hx : bulk27 a.f2 ≤ 1048576) (hl : a.f1.length ≤ 1048576) : ∃ r1 r2, Ev (fun k => tree_Equal.f k a.f0 a.f1 a.f2.f0 a.f2.f1 a.f2.f2 b.f0 b.f1 b.f2.f0 b.f2.f1 b.f2.f2) r1 ∧ Ev (fun k => arboretref01_SameTree.f k a.f0 a.f1 a.f2.f0 a.f2.f1 a.f2.f2 b.f0 b.f1 b.f2.f0 b.f2.f1 b.f2.f2) r1 ∧
    Ev (fun k => tree_SameNode.f k a.f2.f0 a.f2.f1 a.f2.f2 b.f2.f0 b.f2.f1 b.f2.f2) r2 ∧ Ev (fun k => arboretref01_Same.f k a.f2.f0 a.f2.f1 a.f2.f2 b.f2.f0 b.f2.f1 b.f2.f2) r2 := by
  obtain ⟨r2, s1, s2⟩ := same_both 1048576 (by omega) a.f2 b.f2 hx
  have j0t : Ev (fun k => arboretref01_SameTree.j0 k true a.f0 a.f1 a.f2.f0 a.f2.f1 a.f2.f2 b.f0 b.f1 b.f2.f0 b.f2.f1 b.f2.f2) false := by
    refine Ev.succ ?_
    simp only [arboretref01_SameTree.j0]
    exact Ev.pos (by trivial) (Ev.some _)
  by_cases h1 : a.f0 = b.f0
  case neg =>
    refine ⟨false, r2, ?_, ?_, s1, s2⟩
    · unfold tree_Equal.f
      exact Ev.neg h1 (Ev.some _)
    · unfold arboretref01_SameTree.f
      exact Ev.neg h1 j0t
  by_cases h2 : a.f1.length = b.f1.length
  case neg =>
    have e2 : ((a.f1.length : Int) != (b.f1.length : Int)) = true := by rw [bne_iff_ne]; omega
    refine ⟨false, r2, ?_, ?_, s1, s2⟩
    · unfold tree_Equal.f api_Reserve_15.f
      refine Ev.pos h1 (Ev.then (a := false) (Ev.neg (by omega) (Ev.some _)) (Ev.neg (by decide) (Ev.some _)))
    · unfold arboretref01_SameTree.f
      simp only [e2]
      exact Ev.pos h1 j0t
  have e2 : ((a.f1.length : Int) != (b.f1.length : Int)) = false := by rw [bne_eq_false_iff_eq]; omega
  have rs : ∀ (j i : Nat), i + j = a.f1.length → Ev (fun k => api_Reserve_15.l0 k a.f1 b.f1 (a.f1.length : Int) (i : Int)) (eqRs (a.f1.drop i) (b.f1.drop i)) ∧ Ev (fun k => arboretref01_SameTree.l0 k (a.f1.length : Int) (i : Int) a.f0 a.f1 a.f2.f0 a.f2.f1 a.f2.f2 b.f0 b.f1 b.f2.f0 b.f2.f1 b.f2.f2) (eqRs (a.f1.drop i) (b.f1.drop i) && r2) := by
    intro j
    induction j with
    | zero =>
      intro i hi
      rw [List.drop_of_length_le (by omega)]
      simp only [eqRs, Bool.true_and]
      refine ⟨Ev.succ ?_, Ev.succ ?_⟩
      · simp only [api_Reserve_15.l0]
        exact Ev.neg (by omega) (Ev.some _)
      · simp only [arboretref01_SameTree.l0]
        exact Ev.neg (by omega) (Ev.then s2 (Ev.some _))
    | succ j ihj =>
      intro i hi
      have hw := step64 (i := i) (n := a.f1.length) (by omega) (by omega)
      obtain ⟨g1, g2⟩ := ihj (i + 1) (by omega)
      rw [drop_at (d := z45) (by omega : i < a.f1.length), drop_at (d := z45) (by omega : i < b.f1.length)]
      simp only [eqRs]
      obtain ⟨q, hq⟩ : ∃ q, q = (!((a.f1.getD i z45).f0 == (b.f1.getD i z45).f0) || (!((a.f1.getD i z45).f1 == (b.f1.getD i z45).f1))) := ⟨_, rfl⟩
      refine ⟨Ev.succ ?_, Ev.succ ?_⟩
      · simp only [api_Reserve_15.l0, rdR, hw, eqR, ← hq]
        refine Ev.pos (by omega) (Ev.pos (Int.natCast_nonneg i) (Ev.pos (by omega) (Ev.pos (by omega) ?_)))
        cases q with
        | true => exact Ev.pos rfl (Ev.some _)
        | false => exact Ev.neg (by decide) g1
      · simp only [arboretref01_SameTree.l0, rdR, hw, eqR, ← hq]
        refine Ev.pos (by omega) (Ev.pos (Int.natCast_nonneg i) (Ev.pos (by omega) (Ev.pos (by omega) ?_)))
        cases q with
        | true => exact Ev.pos rfl (Ev.some _)
        | false => exact Ev.neg (by decide) g2
  obtain ⟨q1, q2⟩ := rs a.f1.length 0 (by omega)
  rw [List.drop_zero, List.drop_zero] at q1
  rw [List.drop_zero, List.drop_zero] at q2
  refine ⟨eqRs a.f1 b.f1 && r2, r2, ?_, ?_, s1, s2⟩
  · unfold tree_Equal.f api_Reserve_15.f
    refine Ev.pos h1 (Ev.then (a := eqRs a.f1 b.f1) (Ev.pos (by omega) q1) ?_)
    cases eqRs a.f1 b.f1 with
    | true => rw [Bool.true_and]; exact Ev.pos rfl (Ev.then s1 (Ev.some _))
    | false => rw [Bool.false_and]; exact Ev.neg (by decide) (Ev.some _)
  · unfold arboretref01_SameTree.f
    simp only [e2]
    refine Ev.pos h1 (Ev.succ ?_)
    simp only [arboretref01_SameTree.j0]
    exact Ev.neg (by decide) q2
theorem clone_tree (a : S29) (hx : bulk27 a.f2 ≤ 1048576) (hl : a.f1.length ≤ 1048576) : Ev (fun k => tree_Clone.f k a.f0 a.f1 a.f2.f0 a.f2.f1 a.f2.f2) (a.f0, a.f1, a.f2.f0, a.f2.f1, a.f2.f2) := by
  unfold tree_Clone.f
  have h1 : api_Reserve_13.f a.f1 = some a.f1 := by
    unfold api_Reserve_13.f
    rw [if_pos (by omega)]
  exact Ev.then (Ev.fix h1) (Ev.then (clone_ends 1048576 (by omega) a.f2 hx) (Ev.some _))
def EqFact (k : Nat) (a b : S29) : Prop := (∃ fa fb, arboretlaw03_Few.f k a.f0 a.f1 a.f2.f0 a.f2.f1 a.f2.f2 = some fa ∧ arboretlaw03_Few.f k b.f0 b.f1 b.f2.f0 b.f2.f1 b.f2.f2 = some fb) ∧ tree_Clone.f k a.f0 a.f1 a.f2.f0 a.f2.f1 a.f2.f2 = some (a.f0, a.f1, a.f2.f0, a.f2.f1, a.f2.f2) ∧
  ∃ r1 r2, tree_Equal.f k a.f0 a.f1 a.f2.f0 a.f2.f1 a.f2.f2 b.f0 b.f1 b.f2.f0 b.f2.f1 b.f2.f2 = some r1 ∧ arboretref01_SameTree.f k a.f0 a.f1 a.f2.f0 a.f2.f1 a.f2.f2 b.f0 b.f1 b.f2.f0 b.f2.f1 b.f2.f2 = some r1 ∧ arboretref01_SameTree.f k a.f0 a.f1 a.f2.f0 a.f2.f1 a.f2.f2 a.f0 a.f1 a.f2.f0 a.f2.f1 a.f2.f2 = some true ∧ tree_SameNode.f k a.f2.f0 a.f2.f1 a.f2.f2 b.f2.f0 b.f2.f1 b.f2.f2 = some r2 ∧ arboretref01_Same.f k a.f2.f0 a.f2.f1 a.f2.f2 b.f2.f0 b.f2.f1 b.f2.f2 = some r2
theorem eq_fact (a b : S29) (hx : bulk27 a.f2 ≤ 1048576) (hl : a.f1.length ≤ 1048576) (hy : bulk27 b.f2 ≤ 1048576) : ∃ k, EqFact k a b := by
  obtain ⟨fa, k1, h1⟩ := few_ends a.f0 a.f1 a.f2 hx
  obtain ⟨fb, k2, h2⟩ := few_ends b.f0 b.f1 b.f2 hy
  obtain ⟨k3, h3⟩ := clone_tree a hx hl
  obtain ⟨r1, r2, ⟨k4, h4⟩, ⟨k5, h5⟩, ⟨k6, h6⟩, k7, h7⟩ := same_trees a b hx hl
  obtain ⟨k8, h8⟩ := same_tree a.f0 a.f1 a.f2 hx hl
  refine ⟨k1 + k2 + k3 + k4 + k5 + k6 + k7 + k8, ⟨fa, fb, h1 _ (by omega), h2 _ (by omega)⟩, h3 _ (by omega), r1, r2, h4 _ (by omega), h5 _ (by omega), h8 _ (by omega), h6 _ (by omega), h7 _ (by omega)⟩
noncomputable def arboretlaw03_TreeEqual.f (k : Nat) (a0 : Int) (l1 : List S45) (a2 : ByteArray) (l3 : List S35) (l4 : List S27) (b0 : Int) (m1 : List S45) (b2 : ByteArray) (m3 : List S35) (m4 : List S27) (_v : Int) : Option Bool := @ite _ (EqFact k ⟨a0, l1, ⟨a2, l3, l4⟩⟩ ⟨b0, m1, ⟨b2, m3, m4⟩⟩) (Classical.propDecidable _) (some true) none
theorem arboretlaw03_TreeEqual.calls (k : Nat) (a0 : Int) (A1 : Option Addr) (c1 : Nat) (l1 : List S45) (a2 : ByteArray) (A3 : Option Addr) (c3 : Nat) (l3 : List S35) (A4 : Option Addr) (c4 : Nat) (l4 : List S27) (b0 : Int) (B1 : Option Addr) (d1 : Nat) (m1 : List S45) (b2 : ByteArray) (B3 : Option Addr) (d3 : Nat) (m3 : List S35) (B4 : Option Addr) (d4 : Nat) (m4 : List S27) (v : Int) (r : Bool) (w : World)
    (hr1 : Kd.C k45 w A1 l1.length l1) (hc1 : l1.length ≤ c1) (hr3 : Kd.C k35 w A3 l3.length l3) (hc3 : l3.length ≤ c3) (hr4 : Kd.C k27 w A4 l4.length l4) (hc4 : l4.length ≤ c4)
    (hs1 : Kd.C k45 w B1 m1.length m1) (hd1 : m1.length ≤ d1) (hs3 : Kd.C k35 w B3 m3.length m3) (hd3 : m3.length ≤ d3) (hs4 : Kd.C k27 w B4 m4.length m4) (hd4 : m4.length ≤ d4) (h : arboretlaw03_TreeEqual.f k a0 l1 a2 l3 l4 b0 m1 b2 m3 m4 v = some r) :
    Calls Try.prog 3 #[.agg #[.int .u32 a0, .slice A1 l1.length c1, .string a2, .slice A3 l3.length c3, .slice A4 l4.length c4], .agg #[.int .u32 b0, .slice B1 m1.length d1, .string b2, .slice B3 m3.length d3, .slice B4 m4.length d4], .int .u8 v] w fun e w' => e = .returned (.bool r) ∧ Below w.heap.size w w' := by
  unfold arboretlaw03_TreeEqual.f at h
  by_cases hf : EqFact k ⟨a0, l1, ⟨a2, l3, l4⟩⟩ ⟨b0, m1, ⟨b2, m3, m4⟩⟩
  · rw [if_pos hf] at h
    obtain rfl := Option.some.inj h
    obtain ⟨⟨fa, fb, h1, h2⟩, h3, r1, r2, h4, h5, h6, h7, h8⟩ := hf
    cases fa with
    | false => exact treq_a.calls ⟨a0, l1, ⟨a2, l3, l4⟩⟩ ⟨b0, m1, ⟨b2, m3, m4⟩⟩ A1 c1 A3 c3 A4 c4 B1 d1 B3 d3 B4 d4 v w ⟨hr1, hc1, hr3, hc3, hr4, hc4⟩ ⟨hs1, hd1, hs3, hd3, hs4, hd4⟩ k h1
    | true =>
      cases fb with
      | false => exact treq_b.calls ⟨a0, l1, ⟨a2, l3, l4⟩⟩ ⟨b0, m1, ⟨b2, m3, m4⟩⟩ A1 c1 A3 c3 A4 c4 B1 d1 B3 d3 B4 d4 v w ⟨hr1, hc1, hr3, hc3, hr4, hc4⟩ ⟨hs1, hd1, hs3, hd3, hs4, hd4⟩ k h1 h2
      | true => exact treq_c.calls ⟨a0, l1, ⟨a2, l3, l4⟩⟩ ⟨b0, m1, ⟨b2, m3, m4⟩⟩ A1 c1 A3 c3 A4 c4 B1 d1 B3 d3 B4 d4 v w ⟨hr1, hc1, hr3, hc3, hr4, hc4⟩ ⟨hs1, hd1, hs3, hd3, hs4, hd4⟩ k h1 h2 h3 r1 r2 h4 h5 h6 h7 h8
  · rw [if_neg hf] at h
    cases h
end Go.Proofs.Ytiioeaalnmjbmaa.PE

namespace Go.Proofs.Ytiioeaalnmjbmaa.PE
open Go.RowKit Go.Proofs.Ytiioeaalnmjbmaa.Rdr Go.Proofs.YtiioeaalnmjbmaaW.PrintWords Go.Proofs.YtiioeaalnmjbmaaW.PrintLast Go.Proofs.YtiioeaalnmjbmaaW.PrintMore
def arboretlaw03_TreeEqual.Pure : Prop := ∀ (x0 : S29) (x1 : S29) (x2 : Int), bulk29 x0 + bulk29 x1 + (fun _ => 1) x2 ≤ 1048576 → good29 x0 → good29 x1 → (wfI .u8) x2 → ∃ k, arboretlaw03_TreeEqual.f k x0.f0 x0.f1 x0.f2.f0 x0.f2.f1 x0.f2.f2 x1.f0 x1.f1 x1.f2.f0 x1.f2.f1 x1.f2.f2 x2 = some true
end Go.Proofs.Ytiioeaalnmjbmaa.PE

set_option linter.unusedVariables false
set_option linter.unusedSimpArgs false
namespace Go.Proofs.Ytiioeaalnmjbmaa.Pure
open Go.RowKit Go.Proofs.Ytiioeaalnmjbmaa.PE Go.Proofs.Ytiioeaalnmjbmaa.Rdr Go.Proofs.Ytiioeaalnmjbmaa.Aid Go.Proofs.YtiioeaalnmjbmaaW.PrintWords
theorem TreeEqual : arboretlaw03_TreeEqual.Pure := by
  intro a b v hb ga gb gv
  have hb2 : (1 + (sumB bulk45 a.f1 + 1) + bulk27 a.f2 + 1) + (1 + (sumB bulk45 b.f1 + 1) + bulk27 b.f2 + 1) + 1 ≤ 1048576 := hb
  have hr : a.f1.length ≤ 1048576 := by
    have := sumB_len (B := bulk45) (fun r => by unfold bulk45; omega) a.f1
    omega
  obtain ⟨k, hk⟩ := eq_fact a b (by omega) hr (by omega)
  refine ⟨k, ?_⟩
  obtain ⟨a0, l1, ⟨a2, l3, l4⟩⟩ := a
  obtain ⟨b0, m1, ⟨b2, m3, m4⟩⟩ := b
  unfold arboretlaw03_TreeEqual.f
  exact if_pos hk
end Go.Proofs.Ytiioeaalnmjbmaa.Pure

namespace Go.Proofs.Ytiioeaalnmjbmaa.treeEqual
open Go.ChangeShapes Go.WideShapes Go.ChangeAt Go.RowKit Go.Proofs.Ytiioeaalnmjbmaa.Rdr Go.Proofs.Ytiioeaalnmjbmaa.PE
open Go.ChangeMaps (open_string shut_string)
set_option linter.unusedVariables false
set_option linter.unusedSimpArgs false
theorem own : ownKnob Try.prog.godebug = none := by kernel_rfl
theorem laidOut : laidOutB Try.prog = true := by kernel_rfl
set_option maxRecDepth 100000 in
theorem contract (H : Type) (enc : TypeId × Value → H) (W : World) (base : Nat) (args : Array Value) (ds gs : List (DataW H)) (before : List MemPlace)
    (hval0 : ∀ (j : Nat) t v, Try.f3.params[j]? = some t → args[j]? = some v → Value.okWide Try.prog W .any base t v)
    (hW : DataW.Whole enc Try.prog Try.f3.params.toList Rows.treeEqualSpec.vars false W args.toList ds gs before) (hk : Rows.uptoSmall H (ds ++ gs) = true) :
    Calls Try.prog 3 args W fun e W' => ∃ v, e = .returned v ∧ Rows.treeEqualSpec.post enc Try.prog Try.f3 false true false false W args v W' := by
  have hval : ∀ (j : Nat) t v, Try.f3.params[j]? = some t → args[j]? = some v → Value.okWide Try.prog W .any base t v := hval0
  have hW' := hW
  obtain ⟨p, q, hA0, hV, rfl, hfz, hnd⟩ := hW
  have hA : DataW.TrodAll enc Try.prog W 0 (fun _ => true) true Try.f3.params.toList args.toList ds p := hA0
  rw [Try.params3] at hA hval
  obtain ⟨v0, vs0, d0, ds0, p0, q0, hargs, rfl, rfl, h0, tr0⟩ := trodAll_cons hA
  obtain ⟨v1, vs1, d1, ds1, p1, q1, rfl, rfl, rfl, h1, tr1⟩ := trodAll_cons tr0
  obtain ⟨v2, vs2, d2, ds2, p2, q2, rfl, rfl, rfl, h2, tr2⟩ := trodAll_cons tr1
  obtain ⟨rfl, rfl, rfl⟩ := trodAll_nil tr2
  obtain rfl : args = #[v0, v1, v2] := by cases args; simp_all
  obtain ⟨rfl, rfl⟩ := trodVars_none hV
  have hb := bound hk
  simp only [List.append_nil, Rows.uptoBulkAll, List.nil_append] at hb
  have k0 := h0
  have lt0 : ∀ x ∈ p0, x.block < W.heap.size := by obtain ⟨m, hm⟩ := k0; exact DataW.trod_lt m _ _ _ hm
  have k1 := h1
  have lt1 : ∀ x ∈ p1, x.block < W.heap.size := by obtain ⟨m, hm⟩ := k1; exact DataW.trod_lt m _ _ _ hm
  have k2 := h2
  have lt2 : ∀ x ∈ p2, x.block < W.heap.size := by obtain ⟨m, hm⟩ := k2; exact DataW.trod_lt m _ _ _ hm
  obtain ⟨cs0, rfl, hcs0⟩ : ∃ cs, v0 = .agg cs ∧ True := by
    have z := (hval 0 29 v0 rfl rfl)
    simp only [Value.okWide, Try.underlying29] at z
    obtain ⟨cs, hc, _⟩ := z
    exact ⟨cs, hc, trivial⟩
  obtain ⟨f0, hf0⟩ := h0
  obtain ⟨x0, K0, b0, g0⟩ := rd29 W f0 H enc f0 (Nat.le_refl _) _ _ hf0
  obtain ⟨A0_1, c0_1, A0_3, c0_3, A0_4, c0_4, e0, l0_1, r0_1, l0_3, r0_3, l0_4, r0_4⟩ := k29_open K0
  obtain ⟨cl0⟩ := cs0
  have e0' : cl0 = _ := e0
  subst e0'
  obtain ⟨cs1, rfl, hcs1⟩ : ∃ cs, v1 = .agg cs ∧ True := by
    have z := (hval 1 29 v1 rfl rfl)
    simp only [Value.okWide, Try.underlying29] at z
    obtain ⟨cs, hc, _⟩ := z
    exact ⟨cs, hc, trivial⟩
  obtain ⟨f1, hf1⟩ := h1
  obtain ⟨x1, K1, b1, g1⟩ := rd29 W f1 H enc f1 (Nat.le_refl _) _ _ hf1
  obtain ⟨A1_1, c1_1, A1_3, c1_3, A1_4, c1_4, e1, l1_1, r1_1, l1_3, r1_3, l1_4, r1_4⟩ := k29_open K1
  obtain ⟨cl1⟩ := cs1
  have e1' : cl1 = _ := e1
  subst e1'
  obtain ⟨x2, rfl, rfl, rfl, g2⟩ := open_int Try.underlying5 (hval 2 5 v2 rfl rfl) h2
  obtain ⟨k, hk_⟩ := Pure.TreeEqual x0 x1 x2 (by (try simp only [Rows.uptoBulk, Array.length_toList] at hb); first | omega | (simp only [ByteArray.size] at *; omega)) g0 g1 g2
  refine (arboretlaw03_TreeEqual.calls k x0.f0 A0_1 c0_1 x0.f1 x0.f2.f0 A0_3 c0_3 x0.f2.f1 A0_4 c0_4 x0.f2.f2 x1.f0 A1_1 c1_1 x1.f1 x1.f2.f0 A1_3 c1_3 x1.f2.f1 A1_4 c1_4 x1.f2.f2 x2 true W r0_1 l0_1 r0_3 l0_3 r0_4 l0_4 r1_1 l1_1 r1_3 l1_3 r1_4 l1_4 hk_).mono fun e W' ⟨he, bel0⟩ => ?_
  have bel : Below W.heap.size W W' := bel0
  subst he
  exact ⟨_, rfl, _, _, _, [], _, [], hW', trodAll_mk1 (shut_bool Try.underlying4 _), (trodAll_cons_mk (Below.trod laidOut (by kernel_rfl) (of_decide_eq_true (by kernel_rfl)) k0 bel lt0) (trodAll_cons_mk (Below.trod laidOut (by kernel_rfl) (of_decide_eq_true (by kernel_rfl)) k1 bel lt1) (trodAll_cons_mk (Below.trod laidOut (by kernel_rfl) (of_decide_eq_true (by kernel_rfl)) k2 bel lt2) trodAll_mk0))), rfl, bel.frame _, fun h => by cases h⟩
set_option maxRecDepth 100000 in
theorem lifted (os : Os) (started : os.Started) (H : Type) (enc : TypeId × Value → H) (F : Stop.Interp) :
    ReturnsInHanded {} Try.checked os 3 .any ((Rows.OpenSpec.upto Rows.treeEqualSpec).pre6 enc Try.prog Try.f3 Rows.treeEqualUptoRow.domain false) (((Rows.OpenSpec.upto Rows.treeEqualSpec).at F).post enc Try.prog Try.f3 false true false false) := by
  refine returnsInHanded_of_cond (C := Try.checked) (s := Rows.OpenSpec.upto Rows.treeEqualSpec) (k := Rows.uptoSmall) rfl own started (by kernel_rfl) Try.func3
    (OpenSpec.witness (enc := enc) (C := Try.checked) (s := Rows.OpenSpec.upto Rows.treeEqualSpec) (k := Rows.uptoSmall) rfl false ⟨#[], #[.agg #[.int .u32 0, .slice none 0 0, .string ByteArray.empty, .slice none 0 0, .slice none 0 0], .agg #[.int .u32 0, .slice none 0 0, .string ByteArray.empty, .slice none 0 0, .slice none 0 0], .int .u8 0], []⟩ 16 (by kernel_rfl) (by kernel_rfl) (by kernel_rfl)
      (x := ([.agg [.lit (.int .u32 0), .nil, .agg [.lit (.string []), .nil, .nil]], .agg [.lit (.int .u32 0), .nil, .agg [.lit (.string []), .nil, .nil]], .lit (.int .u8 0)], [], [])) (by kernel_rfl) rfl (by kernel_rfl)) ?_
  intro W base args ds gs before hval hW _ hk _
  exact contract H enc W base args ds gs before hval hW hk
theorem over : Rows.treeEqualUptoRow.holds Try.pinned (Rows.OpenSpec.upto Rows.treeEqualSpec) :=
  OpenClaim.holds_of_cond 3 Try.f3 rfl rfl rfl rfl rfl rfl rfl ⟨rfl, rfl, rfl, rfl, rfl⟩ rfl rfl rfl rfl rfl (by kernel_rfl) Try.func3 (by kernel_rfl)
    (of_decide_eq_true (by kernel_rfl)) (by unfold Func.isWrapper; first | (rw [if_pos (by decide +kernel)]; kernel_rfl) | (rw [if_neg (by decide +kernel)]; exact ⟨rfl, rfl⟩))
    (fun os started H enc _ F => lifted os started H enc F)
theorem proved : Rows.TreeEqualUptoSaid := over
end Go.Proofs.Ytiioeaalnmjbmaa.treeEqual
namespace Go.Proofs.Ytiioeaalnmjbmaa
theorem treeEqual_holds : Rows.TreeEqualUptoSaid := treeEqual.proved
end Go.Proofs.Ytiioeaalnmjbmaa
