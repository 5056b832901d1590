/- HandleFinds: texts of this session's, and what the kit's print laid for this seat, as far as the law's row uses them (PHx_arboretref06_Index, PHx_arboretref06_Handle, PHx_arboretref12_Equal). -/
import Derived.Test.YteejaaeglfpcmaaZHandleFinds2
set_option linter.unusedVariables false
set_option linter.unusedSimpArgs false
namespace Go.Proofs.Yteejaaeglfpcmaa.PH
open Go.RowKit Go.Proofs.YteejaaeglfpcmaaW.PrintWords Go.Proofs.YteejaaeglfpcmaaW.PrintLast Go.Proofs.YteejaaeglfpcmaaW.PrintMore
attribute [local go_sem] max2_int min2_int max_two min_two max_three min_three max_four min_four   -- for this text's walks alone
set_option linter.unusedVariables false
set_option linter.unusedSimpArgs false
mutual
def arboretref06_Index.l0 : Nat → List (S83) → List (List Int) → Int → Int → Int → List (S151) → ByteArray → List (S104) → List (S39) → Option ((List (S83)) × Int)
  | 0, _, _, _, _, _, _, _, _, _ => none
  | k + 1, x4, x5, x17, x18, x186000, x186001, x186002, x186003, x186004 => if x18 < x17 then (if 0 ≤ x18 then (if x18 < (x5.length : Int) then ((arboretref06_Get.f k x186000 x186001 x186002 x186003 x186004 (rd_L13 x5 x18)).bind fun bt190 => ((arboretref06_One.f k bt190.1 bt190.2.1 bt190.2.2.1 (⟨#[112, 104, 97, 110, 100, 108, 101]⟩ : ByteArray)).bind fun bt199 => (if bt199.2.2 = 0 then (if bt199.2.1 = true then (if bt199.1 = 0 then (arboretref06_Index.j1 k x4 x5 x18 bt199.1 x17 x18 true x186000 x186001 x186002 x186003 x186004) else (arboretref06_Index.j1 k x4 x5 x18 bt199.1 x17 x18 (bt199.1 == 4294967295) x186000 x186001 x186002 x186003 x186004)) else (arboretref06_Index.l0 k x4 x5 x17 (wrap64 (x18 + 1)) x186000 x186001 x186002 x186003 x186004)) else (some (([] : List (S83)), bt199.2.2))))) else (none)) else (none)) else (some (x4, 0))
def arboretref06_Index.j1 : Nat → List (S83) → List (List Int) → Int → Int → Int → Int → Bool → Int → List (S151) → ByteArray → List (S104) → List (S39) → Option ((List (S83)) × Int)
  | 0, _, _, _, _, _, _, _, _, _, _, _, _ => none
  | k + 1, x4, x5, x6, x9, x17, x18, x46, x186000, x186001, x186002, x186003, x186004 => if x46 = true then (some (([] : List (S83)), 11)) else (arboretref06_Index.l1 k x4 x5 x6 x9 x17 x18 (x4.length : Int) 0 x186000 x186001 x186002 x186003 x186004)
def arboretref06_Index.l1 : Nat → List (S83) → List (List Int) → Int → Int → Int → Int → Int → Int → Int → List (S151) → ByteArray → List (S104) → List (S39) → Option ((List (S83)) × Int)
  | 0, _, _, _, _, _, _, _, _, _, _, _, _, _ => none
  | k + 1, x4, x5, x6, x9, x17, x18, x48, x49, x186000, x186001, x186002, x186003, x186004 => if x49 < x48 then (if 0 ≤ x49 then (if x49 < (x4.length : Int) then (if ((rd_T83 x4 x49).f0) = x9 then (some (([] : List (S83)), 9)) else (arboretref06_Index.l1 k x4 x5 x6 x9 x17 x18 x48 (wrap64 (x49 + 1)) x186000 x186001 x186002 x186003 x186004)) else (none)) else (none)) else (if 0 ≤ x6 then (if x6 < (x5.length : Int) then (if x4.length < 4398046511104 then (arboretref06_Index.l0 k (x4 ++ [(⟨x9, rd_L13 x5 x6⟩ : S83)]) x5 x17 (wrap64 (x18 + 1)) x186000 x186001 x186002 x186003 x186004) else (none)) else (none)) else (none))
end
def arboretref06_Index.f (k : Nat) (a0_0 : Int) (l0_1 : List (S151)) (a0_2 : ByteArray) (l0_3 : List (S104)) (l0_4 : List (S39)) : Option ((List (S83)) × Int) := (arboretref06_All.f k a0_2 l0_3 l0_4 ([] : List Int)).bind fun t186 => (arboretref06_Index.l0 k ([] : List (S83)) t186 (t186.length : Int) 0 a0_0 l0_1 a0_2 l0_3 l0_4)
def arboretref06_Index.T6 : Bool × List (List Nat × List Nat) := (true, [([], []), ([], []), ([], []), ([1, 2], [1, 2]), ([3], [3]), ([0, 4], [0, 4]), ([5], [5]), ([6], [6]), ([6], [6]), ([], []), ([9, 7, 5, 0, 1, 2, 3, 4, 5, 6, 7, 9], [7, 9]), ([8, 10, 0, 1, 2, 3, 4, 5, 6, 7, 8, 9, 10], [8])])
def arboretref06_Index.B6 : List Nat := [0, 0, 0, 6, 14, 31, 63, 127, 127, 0, 767, 2047]
theorem arboretref06_Index.tab6 : rtab .any (opsOf Try.f38 6) = arboretref06_Index.T6 := by kernel_rfl
theorem arboretref06_Index.bits6 : waitsOk arboretref06_Index.T6.2 arboretref06_Index.B6 = true := by kernel_rfl
set_option maxHeartbeats 8000000 in
set_option maxRecDepth 100000 in
theorem arboretref06_Index.calls (k : Nat) (a0_0 : Int) (A0_1 : Option Addr) (c0_1 : Nat) (l0_1 : List (S151)) (a0_2 : ByteArray) (P0_3_ : Nat → Prop) (A0_3 : Option Addr) (c0_3 : Nat) (l0_3 : List (S104)) (P0_4_ : Nat → Prop) (A0_4 : Option Addr) (c0_4 : Nat) (l0_4 : List (S39)) (r1 : List (S83)) (r2 : Int) (w : World) (hr0_1 : Kd.C k151 w A0_1 l0_1.length l0_1) (hc0_1 : l0_1.length ≤ c0_1) (hs0_3 : Kd.V k104 104 w w.heap.size (fun k_ => P0_3_ k_) (.slice A0_3 l0_3.length c0_3) l0_3) (hs0_4 : Kd.V k39 39 w w.heap.size (fun k_ => P0_4_ k_) (.slice A0_4 l0_4.length c0_4) l0_4) (h : arboretref06_Index.f k a0_0 l0_1 a0_2 l0_3 l0_4 = some (r1, r2)) :
    Calls Try.prog 38 #[.agg #[.int .u32 a0_0, .slice A0_1 l0_1.length c0_1, .string a0_2, .slice A0_3 l0_3.length c0_3, .slice A0_4 l0_4.length c0_4]] w fun e w' => ∃ v0_ : Value, e = .returned (.tuple #[v0_, .int .i64 r2]) ∧ Kd.N k83 83 w' w.heap.size (fun k_ => ((P0_3_ k_ ∨ P0_4_ k_) ∨ w.heap.size ≤ k_)) v0_ r1 ∧ Below w.heap.size w w' := by
  have hu43 := Try.underlying43
  have hu39 := Try.underlying39
  have hu83 := Try.underlying83
  have HR0_1 := Aside0.mk hr0_1
  have HC0_1 := Aside0.mk hc0_1
  clear hr0_1 hc0_1
  have HO0_3 := Aside0.mk (show Kd.V k104 104 w w.heap.size (fun k_ => ((P0_3_ k_ ∨ P0_4_ k_) ∨ w.heap.size ≤ k_)) (.slice A0_3 l0_3.length c0_3) l0_3 from Kd.V_mono hs0_3 (fun k_ hk => .inl (.inl hk)))
  have HO0_4 := Aside0.mk (show Kd.V k39 39 w w.heap.size (fun k_ => ((P0_3_ k_ ∨ P0_4_ k_) ∨ w.heap.size ≤ k_)) (.slice A0_4 l0_4.length c0_4) l0_4 from Kd.V_mono hs0_4 (fun k_ hk => .inl (.inr hk)))
  have HB := Aside0.mk (Below.refl w.heap.size w)
  have H : ((arboretref06_All.f k a0_2 l0_3 l0_4 ([] : List Int)).bind fun t186 => (arboretref06_Index.l0 k ([] : List (S83)) t186 (t186.length : Int) 0 a0_0 l0_1 a0_2 l0_3 l0_4)) = some (r1, r2) := h
  clear h
  replace H := Option.bind_eq_some_iff.mp H
  obtain ⟨t186, A20, H⟩ := H
  replace H : (arboretref06_Index.l0 k ([] : List (S83)) t186 (t186.length : Int) 0 a0_0 l0_1 a0_2 l0_3 l0_4) = some (r1, r2) := H
  have A2 := Aside0.mk A20
  clear A20
  have H' := Aside0.mk H
  clear H
  go_enter Try.func38, Try.ntmps38
  go_wp2_with (first | ((with_reducible refine gate_dst (N := 1) rfl ?_); refine box_event ?hg (N := 1) ?hd (cs := #[.int .u32 a0_0, .slice A0_1 l0_1.length c0_1, .string a0_2, .slice A0_3 l0_3.length c0_3, .slice A0_4 l0_4.length c0_4]) (t := 43) ?hr ?_; (case hd => rfl); (case hg => rfl); (case hr => first | (go_simp; done) | (go_simp; rfl)); intro gb185 hg w3 hbox hb; have n0_ := Aside0.mk (Kd.V_below (Kd.V_elderB (by (with_reducible repeat (first | apply Kd.V_alloc | apply Kd.V_drewN | apply Kd.V_drew)); exact HO0_3.out) gb185 (Nat.le_of_eq hg.symm)) hb); have n1_ := Aside0.mk (Kd.V_below (Kd.V_elderB (by (with_reducible repeat (first | apply Kd.V_alloc | apply Kd.V_drewN | apply Kd.V_drew)); exact HO0_4.out) gb185 (Nat.le_of_eq hg.symm)) hb); have n2_ := Aside0.mk (below_step (by repeat (first | (with_reducible first | exact HB.out | apply below_alloc | apply pw_below_drewN | apply below_drew1) | exact HB.out)) hb); have n3_ := Aside0.mk (hbox); have n4_ := Aside0.mk ((by rw [hg]; exact (below_size (by repeat (first | (with_reducible first | exact HB.out | apply below_alloc | apply pw_below_drewN | apply below_drew1) | exact HB.out))) : w.heap.size ≤ gb185)); have n5_ := Aside0.mk ((by rw [hg]; exact (below_size (by repeat (first | (with_reducible first | exact HB.out | apply below_alloc | apply pw_below_drewN | apply below_drew1) | exact HB.out))) : w.heap.size ≤ gb185)); clear HO0_3; clear HO0_4; clear HB; have HO0_3 := n0_; have HO0_4 := n1_; have HB := n2_; have BK185 := n3_; have GW185 := n4_; have GE185 := n5_; clear n0_ n1_ n2_ n3_ n4_ n5_; clear hb hbox hg; have hcz4_0 : w3.cell? ⟨gb185, 0, none⟩ = some (.int .u32 a0_0) := (blk_cell BK185.out 0).trans rfl; have hcz4_1 : w3.cell? ⟨gb185, 1, none⟩ = some (.slice A0_1 l0_1.length c0_1) := (blk_cell BK185.out 1).trans rfl; have hcz4_2 : w3.cell? ⟨gb185, 2, none⟩ = some (.string a0_2) := (blk_cell BK185.out 2).trans rfl; have hcz4_3 : w3.cell? ⟨gb185, 3, none⟩ = some (.slice A0_3 l0_3.length c0_3) := (blk_cell BK185.out 3).trans rfl; have hcz4_4 : w3.cell? ⟨gb185, 4, none⟩ = some (.slice A0_4 l0_4.length c0_4) := (blk_cell BK185.out 4).trans rfl; have hfz4_0 := blk_frozen BK185.out 0; have hfz4_1 := blk_frozen BK185.out 1; have hfz4_2 := blk_frozen BK185.out 2; have hfz4_3 := blk_frozen BK185.out 3; have hfz4_4 := blk_frozen BK185.out 4) | ((with_reducible refine gate_callee (f := 27) rfl ?_); refine goesL_ (some 15) rfl rfl Try.func27 (by kernel_rfl) rfl #[.agg #[.string a0_2, .slice A0_3 l0_3.length c0_3, .slice A0_4 l0_4.length c0_4], .slice none 0 0] rfl (by (try simp only [List.map_toArray, List.map_cons, List.map_nil]); first | done | rfl | (simp only [List.length_drop, List.length_take]; rfl)) ?_; (refine (arboretref06_All.calls k a0_2 _ _ l0_3 _ _ l0_4 _ _ ([] : List Int) t186 _ ?side1 ?side2 ?side3 ?side4 ?side5 ?side6 A2.out).mono ?_); (case side1 => repeat (first | exact (Kd.V_reads' HO0_3.out).2.2 | (with_reducible refine Kd.C_alloc ?_ _) | (with_reducible refine Kd.C_drewN ?_ _) | (with_reducible refine Kd.C_drew ?_))); (case side2 => exact (Kd.V_reads' HO0_3.out).2.1); (case side3 => repeat (first | exact (Kd.V_reads' HO0_4.out).2.2 | (with_reducible refine Kd.C_alloc ?_ _) | (with_reducible refine Kd.C_drewN ?_ _) | (with_reducible refine Kd.C_drew ?_))); (case side4 => exact (Kd.V_reads' HO0_4.out).2.1); (case side5 => exact Kd.C_nil _ _); (case side6 => exact Nat.le_refl _); rintro e w5 ⟨v187, rfl, ho0, hb⟩; refine ⟨_, rfl, ?_⟩; have n0_ := Aside0.mk (Kd.V_elder' (by (with_reducible repeat (first | apply Kd.V_alloc | apply Kd.V_drewN | apply Kd.V_drew)); exact HO0_3.out) (Kd.N_base ho0) hb); have n1_ := Aside0.mk (Kd.V_elder' (by (with_reducible repeat (first | apply Kd.V_alloc | apply Kd.V_drewN | apply Kd.V_drew)); exact HO0_4.out) (Kd.N_base ho0) hb); have n2_ := Aside0.mk (Kd.N_lower (Kd.N_mono (ok' := fun k_ => ((P0_3_ k_ ∨ P0_4_ k_) ∨ w.heap.size ≤ k_) ∧ k_ ≠ gb185) ho0 (fun k_ hk_ => ⟨(.inr (Nat.le_trans (below_size (by repeat (first | (with_reducible first | exact HB.out | apply below_alloc | apply pw_below_drewN | apply below_drew1 | refine below_set ?_ GE185.out) | exact HB.out))) hk_)), (Kd.freshB (g := gb185) (o := .cells #[.int .u32 a0_0, .slice A0_1 l0_1.length c0_1, .string a0_2, .slice A0_3 l0_3.length c0_3, .slice A0_4 l0_4.length c0_4] 43 (0, 0)) (by (with_reducible repeat (first | refine blk_drewN ?_ _ | refine blk_drew ?_ | refine blk_alloc ?_ _)); exact BK185.out) k_ hk_)⟩)) (below_size (by repeat (first | (with_reducible first | exact HB.out | apply below_alloc | apply pw_below_drewN | apply below_drew1 | refine below_set ?_ GE185.out) | exact HB.out)))); have n3_ := Aside0.mk (blk_below (g := gb185) (o := .cells #[.int .u32 a0_0, .slice A0_1 l0_1.length c0_1, .string a0_2, .slice A0_3 l0_3.length c0_3, .slice A0_4 l0_4.length c0_4] 43 (0, 0)) (by (with_reducible repeat (first | refine blk_drewN ?_ _ | refine blk_drew ?_ | refine blk_alloc ?_ _)); exact BK185.out) hb); have n4_ := Aside0.mk (below_step (by repeat (first | (with_reducible first | exact HB.out | apply below_alloc | apply pw_below_drewN | apply below_drew1 | refine below_set ?_ GE185.out) | exact HB.out)) hb); clear HO0_3; clear HO0_4; clear BK185; clear HB; have HO0_3 := n0_; have HO0_4 := n1_; have HO188 := n2_; have BK185 := n3_; have HB := n4_; clear n0_ n1_ n2_ n3_ n4_; (try clear hb); (try clear hb2); (try clear hk); (try clear hi); (try clear ho0); obtain ⟨Ao6, co6, eo6⟩ := Kd.N_slice HO188.out; subst eo6))
  go_loopg [4, 18] k (fun kq v4 v18 w' => ∃ (x4_1 : List (S83)) (x18_1 : Int), v18 = .int .i64 x18_1 ∧ Aside0 (arboretref06_Index.l0 kq x4_1 t186 (t186.length : Int) x18_1 a0_0 l0_1 a0_2 l0_3 l0_4 = some (r1, r2)) ∧ Aside0 (kq ≤ k) ∧ Aside0 (Kd.N k83 83 w' w.heap.size (fun k_ => ((P0_3_ k_ ∨ P0_4_ k_) ∨ w.heap.size ≤ k_) ∧ some k_ ≠ ((.slice Ao6 t186.length co6) : Value).ownBlock ∧ k_ ≠ gb185) v4 x4_1) ∧ Aside0 (Kd.N (Kd.slice 3 (Kd.int .i64)) 65 w' w.heap.size (fun k_ => ((P0_3_ k_ ∨ P0_4_ k_) ∨ w.heap.size ≤ k_) ∧ some k_ ≠ (v4 : Value).ownBlock ∧ k_ ≠ gb185) (.slice Ao6 t186.length co6) t186) ∧ Aside0 (Kd.V k104 104 w' w.heap.size (fun k_ => ((P0_3_ k_ ∨ P0_4_ k_) ∨ w.heap.size ≤ k_) ∧ some k_ ≠ (v4 : Value).ownBlock ∧ some k_ ≠ ((.slice Ao6 t186.length co6) : Value).ownBlock ∧ k_ ≠ gb185) (.slice A0_3 l0_3.length c0_3) l0_3) ∧ Aside0 (Kd.V k39 39 w' w.heap.size (fun k_ => ((P0_3_ k_ ∨ P0_4_ k_) ∨ w.heap.size ≤ k_) ∧ some k_ ≠ (v4 : Value).ownBlock ∧ some k_ ≠ ((.slice Ao6 t186.length co6) : Value).ownBlock ∧ k_ ≠ gb185) (.slice A0_4 l0_4.length c0_4) l0_4) ∧ Aside0 (w'.heap[gb185]? = some (.cells #[.int .u32 a0_0, (.slice A0_1 l0_1.length c0_1), .string a0_2, (.slice A0_3 l0_3.length c0_3), (.slice A0_4 l0_4.length c0_4)] 43 (0, 0))) ∧ Aside0 (Below w.heap.size w w'))
  case atStart => exact ⟨(([] : List (S83))), (0), (by first | rfl | (simp; done) | (simp [*]; done)), H', ⟨Nat.le_refl _⟩, ⟨by first | exact Kd.S_nil _ _ _ _ _ | exact Kd.N_nil _ _ _ _ _ | exact Kd.V_nil _ _ _ _ _ | exact Kd.Q_nil _ _ _ _ _ | exact Kd.R_nil _ _ _ _ _⟩, ⟨by (with_reducible repeat (first | apply Kd.N_alloc | apply Kd.N_drewN | apply Kd.N_drew)); exact Kd.N_mono HO188.out (fun _ hk => ⟨hk.1, ⟨(by simp [Value.ownBlock]), hk.2⟩⟩)⟩, ⟨by (with_reducible repeat (first | apply Kd.V_alloc | apply Kd.V_drewN | apply Kd.V_drew)); exact Kd.V_mono HO0_3.out (fun _ hk => ⟨hk.1.1, ⟨(by simp [Value.ownBlock]), ⟨hk.2, hk.1.2⟩⟩⟩)⟩, ⟨by (with_reducible repeat (first | apply Kd.V_alloc | apply Kd.V_drewN | apply Kd.V_drew)); exact Kd.V_mono HO0_4.out (fun _ hk => ⟨hk.1.1, ⟨(by simp [Value.ownBlock]), ⟨hk.2, hk.1.2⟩⟩⟩)⟩, ⟨by (with_reducible repeat (first | refine blk_drewN ?_ _ | refine blk_drew ?_ | refine blk_alloc ?_ _)); exact BK185.out⟩, ⟨by repeat (first | (with_reducible first | exact HB.out | apply below_alloc | apply pw_below_drewN | apply below_drew1 | refine below_set ?_ GE185.out) | exact HB.out)⟩⟩
  case round =>
    clear H'
    try clear c2
    try clear p2
    try clear c3
    try clear hcz4_0
    try clear hcz4_1
    try clear hcz4_2
    try clear hcz4_3
    try clear hcz4_4
    try clear hfz4_0
    try clear hfz4_1
    try clear hfz4_2
    try clear hfz4_3
    try clear hfz4_4
    obtain ⟨x4_1, x18_1, rfl, HA, HK1, HO_4, HO_5, HO_186003, HO_186004, BK185, HB⟩ := hrel
    cases gk with
    | zero => exact absurd HA.out (by simp [arboretref06_Index.l0])
    | succ k1 =>
      have H := HA.out
      clear HA
      simp only [arboretref06_Index.l0] at H
      by_cases c7 : x18_1 < (t186.length : Int)
      · rw [if_pos c7] at H
        have c7b0 : decide (x18_1 < (t186.length : Int)) = true := decide_eq_true c7
        clear c7
        by_cases c8 : 0 ≤ x18_1
        · rw [if_pos c8] at H
          have c8b0 : decide (0 ≤ x18_1) = true := decide_eq_true c8
          clear c8
          by_cases c9 : x18_1 < (t186.length : Int)
          · rw [if_pos c9] at H
            have c9b0 : decide (x18_1 < (t186.length : Int)) = true := decide_eq_true c9
            clear c9
            replace H := Option.bind_eq_some_iff.mp H
            obtain ⟨⟨t190, t191, t194, t197⟩, A100, H⟩ := H
            replace H : ((arboretref06_One.f k1 t190 t191 t194 (⟨#[112, 104, 97, 110, 100, 108, 101]⟩ : ByteArray)).bind fun bt199 => (if bt199.2.2 = 0 then (if bt199.2.1 = true then (if bt199.1 = 0 then (arboretref06_Index.j1 k1 x4_1 t186 x18_1 bt199.1 (t186.length : Int) x18_1 true a0_0 l0_1 a0_2 l0_3 l0_4) else (arboretref06_Index.j1 k1 x4_1 t186 x18_1 bt199.1 (t186.length : Int) x18_1 (bt199.1 == 4294967295) a0_0 l0_1 a0_2 l0_3 l0_4)) else (arboretref06_Index.l0 k1 x4_1 t186 (t186.length : Int) (wrap64 (x18_1 + 1)) a0_0 l0_1 a0_2 l0_3 l0_4)) else (some (([] : List (S83)), bt199.2.2)))) = some (r1, r2) := H
            have A10 := Aside0.mk A100
            clear A100
            replace H := Option.bind_eq_some_iff.mp H
            obtain ⟨⟨t199, t200, t201⟩, A110, H⟩ := H
            replace H : (if t201 = 0 then (if t200 = true then (if t199 = 0 then (arboretref06_Index.j1 k1 x4_1 t186 x18_1 t199 (t186.length : Int) x18_1 true a0_0 l0_1 a0_2 l0_3 l0_4) else (arboretref06_Index.j1 k1 x4_1 t186 x18_1 t199 (t186.length : Int) x18_1 (t199 == 4294967295) a0_0 l0_1 a0_2 l0_3 l0_4)) else (arboretref06_Index.l0 k1 x4_1 t186 (t186.length : Int) (wrap64 (x18_1 + 1)) a0_0 l0_1 a0_2 l0_3 l0_4)) else (some (([] : List (S83)), t201))) = some (r1, r2) := H
            have A11 := Aside0.mk A110
            clear A110
            by_cases c12 : t201 = 0
            · rw [if_pos c12] at H
              have c12b0 : (t201 == 0) = true := beq_iff_eq.mpr c12
              have c12b1 : (t201 != 0) = false := bne_eq_false_iff_eq.mpr c12
              clear c12
              by_cases c13 : t200 = true
              · subst c13
                have H1 : (if t199 = 0 then (arboretref06_Index.j1 k1 x4_1 t186 x18_1 t199 (t186.length : Int) x18_1 true a0_0 l0_1 a0_2 l0_3 l0_4) else (arboretref06_Index.j1 k1 x4_1 t186 x18_1 t199 (t186.length : Int) x18_1 (t199 == 4294967295) a0_0 l0_1 a0_2 l0_3 l0_4)) = some (r1, r2) := by rw [if_pos rfl] at H; exact H
                clear H
                have H := H1
                clear H1
                have HC14 := Aside0.mk H
                clear H
                try go_wp2
                have n0_ := Aside0.mk (Kd.N_drew HO_4.out)
                have n1_ := Aside0.mk (Kd.N_drew HO_5.out)
                have n2_ := Aside0.mk (Kd.V_drew HO_186003.out)
                have n3_ := Aside0.mk (Kd.V_drew HO_186004.out)
                have n4_ := Aside0.mk (blk_drew BK185.out)
                have n5_ := Aside0.mk (below_drew1 HB.out)
                clear HO_4
                clear HO_5
                clear HO_186003
                clear HO_186004
                clear BK185
                clear HB
                have HO_4 := n0_
                have HO_5 := n1_
                have HO_186003 := n2_
                have HO_186004 := n3_
                have BK185 := n4_
                have HB := n5_
                clear n0_ n1_ n2_ n3_ n4_ n5_
                have p189 : 0 ≤ (x18_1 : Int) := of_decide_eq_true (by first | (with_reducible assumption) | assumption)
                have q189 : x18_1 < (t186.length : Int) := of_decide_eq_true (by first | (with_reducible assumption) | assumption)
                obtain ⟨ad189, A189_0, c189_0, e189, hx189_0, hl189_0, hi189_0⟩ := at_L13 (Kd.N_reads' HO_5.out).2.2 x18_1 p189 q189
                cases e189
                obtain ⟨ce189, hce189, hMe189, hcc189⟩ := Kd.N_get HO_5.out [] x18_1 p189 (by first | exact q189 | exact of_decide_eq_true (by first | (with_reducible assumption) | assumption) | (have e_ := (Kd.N_reads' HO_5.out).1; omega))
                obtain ⟨ua189_0, uc189_0, rfl, ul189_0, ge189_0⟩ := Kd.FK_slice_open hMe189
                have hv189_0 := hcc189 0 _ rfl
                rw [Nat.add_zero, show ((Kd.slice 3 (Kd.int .i64))).sz = 1 from rfl, Nat.mul_one] at hv189_0
                replace hv189_0 := Option.some.inj (hv189_0.symm.trans hx189_0)
                injection hv189_0 with hva_ hvn_ hvc_
                rw [hva_] at ge189_0
                rw [hvc_] at ul189_0
                have HL189_0 := Aside0.mk (show Kd.V (Kd.int .i64) 3 _ w.heap.size _ _ (rd_L13 t186 x18_1) from Kd.V_mk ul189_0 ge189_0)
                clear hva_ hvn_ hvc_ ge189_0 ul189_0
                clear hcc189 hce189
                have HR189_0 := Aside0.mk hi189_0
                have HC189_0 := Aside0.mk hl189_0
                clear hi189_0 hl189_0
                replace p189 := eq_true p189
                replace q189 := eq_true q189
                refine start_ (n := 12) (S := fun w' => w'.cell? ⟨gb185, 0, none⟩ = some (.int .u32 a0_0) ∧ w'.cell? ⟨gb185, 1, none⟩ = some (.slice A0_1 l0_1.length c0_1) ∧ w'.cell? ⟨gb185, 2, none⟩ = some (.string a0_2) ∧ w'.cell? ⟨gb185, 3, none⟩ = some (.slice A0_3 l0_3.length c0_3) ∧ w'.cell? ⟨gb185, 4, none⟩ = some (.slice A0_4 l0_4.length c0_4) ∧ w'.cell? (ad189.add (x18_1).toNat) = some (.slice A189_0 (rd_L13 t186 x18_1).length c189_0)) (ds := []) #[false, false, false, false, false, false, false, false, false, false, false, false] (by kernel_rfl) rfl rfl ⟨(blk_cell BK185.out 0).trans rfl, (blk_cell BK185.out 1).trans rfl, (blk_cell BK185.out 2).trans rfl, (blk_cell BK185.out 3).trans rfl, (blk_cell BK185.out 4).trans rfl, hx189_0⟩ (fun hHeld => ?_); refine with_tabW arboretref06_Index.tab6 arboretref06_Index.bits6 (fun HT_ HW_ => ?_)
                generalize wr.drew = w15 at HO_4 HO_5 HO_186003 HO_186004 BK185 HB HL189_0 HR189_0 hx189_0 hHeld ⊢
                refine pure_ (i := 1) (N := some 23) (v := ?_) (a' := ?_) #[false, true, false, false, false, false, false, false, false, false, false, false] rfl rfl (any_of HT_.out (by kernel_rfl)) (fun _ _ _ h => h) (Or.inl ⟨by rfl, ?_⟩) ?_ ?_
                rotate_left
                · intro w'
                  go_simp
                  with_reducible rfl
                rotate_left
                · simp only [Act.put, List.setIfInBounds_toArray, List.set_cons_zero, List.set_cons_succ, i64_w, i32_w]
                  rfl
                refine pure_ (i := 2) (N := some 24) (v := ?_) (a' := ?_) #[false, true, true, false, false, false, false, false, false, false, false, false] rfl rfl (any_of HT_.out (by kernel_rfl)) (fun _ _ _ h => h) (Or.inl ⟨by rfl, ?_⟩) ?_ ?_
                rotate_left
                · intro w'
                  go_simp
                  with_reducible rfl
                rotate_left
                · simp only [Act.put, List.setIfInBounds_toArray, List.set_cons_zero, List.set_cons_succ, i64_w, i32_w]
                  rfl
                refine pure_ (i := 3) (N := some 25) (v := ?_) (a' := ?_) #[false, true, true, true, false, false, false, false, false, false, false, false] rfl rfl (any_of HT_.out (by kernel_rfl)) (fun _ _ _ h => h) (Or.inl ⟨by rfl, ?_⟩) ?_ ?_
                rotate_left
                · intro w'
                  go_simp
                  with_reducible rfl
                rotate_left
                · simp only [Act.put, List.setIfInBounds_toArray, List.set_cons_zero, List.set_cons_succ, i64_w, i32_w]
                  rfl
                refine take_ (i := 0) (N := some 22) (v := ?_) (a' := ?_) #[true, true, true, true, false, false, false, false, false, false, false, false] rfl rfl (take_ofW HT_.out HW_.out (by kernel_rfl)) (fun _ _ _ h => h) (Or.inl ⟨by rfl, ?_⟩) hHeld ?_ ?_
                rotate_left
                · rintro w' ⟨s0, s1, s2, s3, s4, s5⟩
                  go_simp
                  with_reducible rfl
                rotate_left
                · simp only [Act.put, List.setIfInBounds_toArray, List.set_cons_zero, List.set_cons_succ, i64_w, i32_w]
                  rfl
                refine take_ (i := 4) (N := some 26) (v := ?_) (a' := ?_) #[true, true, true, true, true, false, false, false, false, false, false, false] rfl rfl (take_ofW HT_.out HW_.out (by kernel_rfl)) (fun _ _ _ h => h) (Or.inl ⟨by rfl, ?_⟩) hHeld ?_ ?_
                rotate_left
                · rintro w' ⟨s0, s1, s2, s3, s4, s5⟩
                  go_simp
                  with_reducible rfl
                rotate_left
                · simp only [Act.put, List.setIfInBounds_toArray, List.set_cons_zero, List.set_cons_succ, i64_w, i32_w]
                  rfl
                refine join_ (σ := Value × Value × Nat) 2 #[true, true, true, true, true, true, true, true, true, true, false, false] (fun s_ => [(27, .tuple #[.agg #[.string t190, s_.1, s_.2.1], .bool t197]), (7, .pointer (some ⟨s_.2.2, 0, none⟩)), (21, .tuple #[.agg #[.string t190, s_.1, s_.2.1], .bool t197]), (28, .agg #[.string t190, s_.1, s_.2.1]), (29, .bool t197)]) (fun s_ w' => (w'.cell? ⟨gb185, 0, none⟩ = some (.int .u32 a0_0) ∧ w'.cell? ⟨gb185, 1, none⟩ = some (.slice A0_1 l0_1.length c0_1) ∧ w'.cell? ⟨gb185, 2, none⟩ = some (.string a0_2) ∧ w'.cell? ⟨gb185, 3, none⟩ = some (.slice A0_3 l0_3.length c0_3) ∧ w'.cell? ⟨gb185, 4, none⟩ = some (.slice A0_4 l0_4.length c0_4) ∧ w'.cell? (ad189.add (x18_1).toNat) = some (.slice A189_0 (rd_L13 t186 x18_1).length c189_0)) ∧ (Kd.V (Kd.int .i64) 3 w' w.heap.size (fun k_ => ((P0_3_ k_ ∨ P0_4_ k_) ∨ w.heap.size ≤ k_) ∧ some k_ ≠ (u4 : Value).ownBlock ∧ some k_ ≠ (.slice (some ad189) t186.length co6 : Value).ownBlock ∧ k_ ≠ gb185 ∧ k_ ≠ s_.2.2) (.slice A189_0 (rd_L13 t186 x18_1).length c189_0) (rd_L13 t186 x18_1)) ∧ (Kd.V k104 104 w' w.heap.size (fun k_ => ((P0_3_ k_ ∨ P0_4_ k_) ∨ w.heap.size ≤ k_) ∧ some k_ ≠ (u4 : Value).ownBlock ∧ some k_ ≠ (.slice (some ad189) t186.length co6 : Value).ownBlock ∧ k_ ≠ gb185 ∧ k_ ≠ s_.2.2) s_.1 t191) ∧ (Kd.V k39 39 w' w.heap.size (fun k_ => ((P0_3_ k_ ∨ P0_4_ k_) ∨ w.heap.size ≤ k_) ∧ some k_ ≠ (u4 : Value).ownBlock ∧ some k_ ≠ (.slice (some ad189) t186.length co6 : Value).ownBlock ∧ k_ ≠ gb185 ∧ k_ ≠ s_.2.2) s_.2.1 t194) ∧ (Kd.V k104 104 w' w.heap.size (fun k_ => ((P0_3_ k_ ∨ P0_4_ k_) ∨ w.heap.size ≤ k_) ∧ some k_ ≠ (u4 : Value).ownBlock ∧ some k_ ≠ (.slice (some ad189) t186.length co6 : Value).ownBlock ∧ k_ ≠ gb185 ∧ k_ ≠ s_.2.2) (.slice A0_3 l0_3.length c0_3) l0_3) ∧ (Kd.V k39 39 w' w.heap.size (fun k_ => ((P0_3_ k_ ∨ P0_4_ k_) ∨ w.heap.size ≤ k_) ∧ some k_ ≠ (u4 : Value).ownBlock ∧ some k_ ≠ (.slice (some ad189) t186.length co6 : Value).ownBlock ∧ k_ ≠ gb185 ∧ k_ ≠ s_.2.2) (.slice A0_4 l0_4.length c0_4) l0_4) ∧ (Kd.N k83 83 w' w.heap.size (fun k_ => ((P0_3_ k_ ∨ P0_4_ k_) ∨ w.heap.size ≤ k_) ∧ some k_ ≠ (.slice (some ad189) t186.length co6 : Value).ownBlock ∧ k_ ≠ gb185 ∧ k_ ≠ s_.2.2) u4 x4_1) ∧ (Kd.N (Kd.slice 3 (Kd.int .i64)) 65 w' w.heap.size (fun k_ => ((P0_3_ k_ ∨ P0_4_ k_) ∨ w.heap.size ≤ k_) ∧ some k_ ≠ (u4 : Value).ownBlock ∧ k_ ≠ gb185 ∧ k_ ≠ s_.2.2) (.slice (some ad189) t186.length co6) t186) ∧ (w'.heap[gb185]? = some (.cells #[.int .u32 a0_0, .slice A0_1 l0_1.length c0_1, .string a0_2, .slice A0_3 l0_3.length c0_3, .slice A0_4 l0_4.length c0_4] 43 (0, 0))) ∧ (w'.heap[s_.2.2]? = some (.cells #[.string (⟨#[]⟩ : ByteArray), .slice none 0 0, .slice none 0 0] 39 (0, 0))) ∧ (w.heap.size ≤ s_.2.2) ∧ (w.heap.size ≤ s_.2.2) ∧ (gb185 ≠ s_.2.2) ∧ (s_.2.2 ≠ gb185) ∧ (Below w.heap.size w w')) ?_ ?_
                rotate_left
                · intro hCont
                  refine two_ (i := 5) (j := 9) (Ni := some 27) (Nj := some 7) #[true, true, true, true, true, true, false, false, false, false, false, false] #[true, true, true, true, true, false, false, false, false, true, false, false] rfl rfl rfl rfl (two_of HT_.out (by kernel_rfl)) (by decide) (by decide) (fun K hK => ?_) (fun K hK => ?_)
                  · skip
                    refine goes_ Try.func64 (by kernel_rfl) rfl #[.agg #[.int .u32 a0_0, .slice A0_1 l0_1.length c0_1, .string a0_2, .slice A0_3 l0_3.length c0_3, .slice A0_4 l0_4.length c0_4], .slice A189_0 (rd_L13 t186 x18_1).length c189_0] (by rfl) rfl rfl (by (try simp only [List.map_toArray, List.map_cons, List.map_nil]); first | done | rfl | (simp only [List.length_drop, List.length_take]; rfl)) ?_
                    with_reducible refine (arboretref06_Get.calls k1 a0_0 _ _ l0_1 a0_2 (fun k_ => (((P0_3_ k_ ∨ P0_4_ k_) ∨ w.heap.size ≤ k_) ∧ (some k_ ≠ (u4 : Value).ownBlock ∧ (some k_ ≠ (.slice (some ad189) t186.length co6 : Value).ownBlock ∧ k_ ≠ gb185)))) _ _ l0_3 (fun k_ => (((P0_3_ k_ ∨ P0_4_ k_) ∨ w.heap.size ≤ k_) ∧ (some k_ ≠ (u4 : Value).ownBlock ∧ (some k_ ≠ (.slice (some ad189) t186.length co6 : Value).ownBlock ∧ k_ ≠ gb185)))) _ _ l0_4 _ _ (rd_L13 t186 x18_1) t190 t191 t194 t197 _ ?side1 ?side2 ?side3 ?side4 ?side5 ?side6 A10.out).mono ?_
                    (case side1 => repeat (first | exact (Kd.C_below HR0_1.out HB.out) | (with_reducible refine Kd.C_alloc ?_ _) | (with_reducible refine Kd.C_drewN ?_ _) | (with_reducible refine Kd.C_drew ?_)))
                    (case side2 => exact HC0_1.out)
                    (case side3 => exact HO_186003.out)
                    (case side4 => exact HO_186004.out)
                    (case side5 => repeat (first | exact (by repeat (first | (with_reducible exact HR189_0.out) | (with_reducible refine Kd.C_alloc ?_ _) | (with_reducible refine Kd.C_drewN ?_ _) | (with_reducible refine Kd.C_drew ?_) | exact HR189_0.out)) | (with_reducible refine Kd.C_alloc ?_ _) | (with_reducible refine Kd.C_drewN ?_ _) | (with_reducible refine Kd.C_drew ?_)))
                    (case side6 => exact HC189_0.out)
                    rintro e w16 ⟨v192, v195, rfl, ho0, ho1, hb⟩
                    have HS5_ := (hb.cell (World.block_lt_of_cell? _ _ (hHeld.2.2.2.2.2))).trans (hHeld.2.2.2.2.2)
                    refine ⟨_, rfl, ?_⟩
                    have n0_ := Aside0.mk (Kd.N_below (by (with_reducible repeat (first | apply Kd.N_alloc | apply Kd.N_drewN | apply Kd.N_drew)); exact HO_4.out) hb)
                    have n1_ := Aside0.mk (Kd.N_below (by (with_reducible repeat (first | apply Kd.N_alloc | apply Kd.N_drewN | apply Kd.N_drew)); exact HO_5.out) hb)
                    have n2_ := Aside0.mk (Kd.V_below (by (with_reducible repeat (first | apply Kd.V_alloc | apply Kd.V_drewN | apply Kd.V_drew)); exact HO_186003.out) hb)
                    have n3_ := Aside0.mk (Kd.V_below (by (with_reducible repeat (first | apply Kd.V_alloc | apply Kd.V_drewN | apply Kd.V_drew)); exact HO_186004.out) hb)
                    have n4_ := Aside0.mk (Kd.V_below (by (with_reducible repeat (first | apply Kd.V_alloc | apply Kd.V_drewN | apply Kd.V_drew)); exact HL189_0.out) hb)
                    have n5_ := Aside0.mk (Kd.V_lower (Kd.V_mono (ok' := fun k_ => ((P0_3_ k_ ∨ P0_4_ k_) ∨ w.heap.size ≤ k_) ∧ some k_ ≠ (u4 : Value).ownBlock ∧ some k_ ≠ (.slice (some ad189) t186.length co6 : Value).ownBlock ∧ k_ ≠ gb185) ho0 (fun k_ hk_ => ⟨Or.elim hk_ (fun hs_ => Or.elim hs_ (fun hs_ => hs_.1) (fun hs_ => hs_.1)) (fun hn_ => (.inr (Nat.le_trans (below_size (by repeat (first | (with_reducible first | exact HB.out | apply below_alloc | apply pw_below_drewN | apply below_drew1 | refine below_set ?_ GE185.out) | exact HB.out))) hn_))), Or.elim hk_ (fun hs_ => Or.elim hs_ (fun hs_ => hs_.2.1) (fun hs_ => hs_.2.1)) (fun hn_ => (Kd.fresh' (Kd.N_lt (by (with_reducible repeat (first | apply Kd.N_alloc | apply Kd.N_drewN | apply Kd.N_drew)); exact HO_4.out)) k_ hn_)), Or.elim hk_ (fun hs_ => Or.elim hs_ (fun hs_ => hs_.2.2.1) (fun hs_ => hs_.2.2.1)) (fun hn_ => (Kd.fresh' (Kd.N_lt (by (with_reducible repeat (first | apply Kd.N_alloc | apply Kd.N_drewN | apply Kd.N_drew)); exact HO_5.out)) k_ hn_)), Or.elim hk_ (fun hs_ => Or.elim hs_ (fun hs_ => hs_.2.2.2) (fun hs_ => hs_.2.2.2)) (fun hn_ => (Kd.freshB (g := gb185) (o := .cells #[.int .u32 a0_0, .slice A0_1 l0_1.length c0_1, .string a0_2, .slice A0_3 l0_3.length c0_3, .slice A0_4 l0_4.length c0_4] 43 (0, 0)) (by (with_reducible repeat (first | refine blk_drewN ?_ _ | refine blk_drew ?_ | refine blk_alloc ?_ _)); exact BK185.out) k_ hn_))⟩)) (below_size (by repeat (first | (with_reducible first | exact HB.out | apply below_alloc | apply pw_below_drewN | apply below_drew1 | refine below_set ?_ GE185.out) | exact HB.out))))
                    have n6_ := Aside0.mk (Kd.V_lower (Kd.V_mono (ok' := fun k_ => ((P0_3_ k_ ∨ P0_4_ k_) ∨ w.heap.size ≤ k_) ∧ some k_ ≠ (u4 : Value).ownBlock ∧ some k_ ≠ (.slice (some ad189) t186.length co6 : Value).ownBlock ∧ k_ ≠ gb185) ho1 (fun k_ hk_ => ⟨Or.elim hk_ (fun hs_ => Or.elim hs_ (fun hs_ => hs_.1) (fun hs_ => hs_.1)) (fun hn_ => (.inr (Nat.le_trans (below_size (by repeat (first | (with_reducible first | exact HB.out | apply below_alloc | apply pw_below_drewN | apply below_drew1 | refine below_set ?_ GE185.out) | exact HB.out))) hn_))), Or.elim hk_ (fun hs_ => Or.elim hs_ (fun hs_ => hs_.2.1) (fun hs_ => hs_.2.1)) (fun hn_ => (Kd.fresh' (Kd.N_lt (by (with_reducible repeat (first | apply Kd.N_alloc | apply Kd.N_drewN | apply Kd.N_drew)); exact HO_4.out)) k_ hn_)), Or.elim hk_ (fun hs_ => Or.elim hs_ (fun hs_ => hs_.2.2.1) (fun hs_ => hs_.2.2.1)) (fun hn_ => (Kd.fresh' (Kd.N_lt (by (with_reducible repeat (first | apply Kd.N_alloc | apply Kd.N_drewN | apply Kd.N_drew)); exact HO_5.out)) k_ hn_)), Or.elim hk_ (fun hs_ => Or.elim hs_ (fun hs_ => hs_.2.2.2) (fun hs_ => hs_.2.2.2)) (fun hn_ => (Kd.freshB (g := gb185) (o := .cells #[.int .u32 a0_0, .slice A0_1 l0_1.length c0_1, .string a0_2, .slice A0_3 l0_3.length c0_3, .slice A0_4 l0_4.length c0_4] 43 (0, 0)) (by (with_reducible repeat (first | refine blk_drewN ?_ _ | refine blk_drew ?_ | refine blk_alloc ?_ _)); exact BK185.out) k_ hn_))⟩)) (below_size (by repeat (first | (with_reducible first | exact HB.out | apply below_alloc | apply pw_below_drewN | apply below_drew1 | refine below_set ?_ GE185.out) | exact HB.out))))
                    have n7_ := Aside0.mk (blk_below (g := gb185) (o := .cells #[.int .u32 a0_0, .slice A0_1 l0_1.length c0_1, .string a0_2, .slice A0_3 l0_3.length c0_3, .slice A0_4 l0_4.length c0_4] 43 (0, 0)) (by (with_reducible repeat (first | refine blk_drewN ?_ _ | refine blk_drew ?_ | refine blk_alloc ?_ _)); exact BK185.out) hb)
                    have n8_ := Aside0.mk (Kd.C_below (by repeat (first | (with_reducible exact HR189_0.out) | (with_reducible refine Kd.C_alloc ?_ _) | (with_reducible refine Kd.C_drewN ?_ _) | (with_reducible refine Kd.C_drew ?_) | exact HR189_0.out)) hb)
                    have n9_ := Aside0.mk (below_step (by repeat (first | (with_reducible first | exact HB.out | apply below_alloc | apply pw_below_drewN | apply below_drew1 | refine below_set ?_ GE185.out) | exact HB.out)) hb)
                    clear HO_4
                    clear HO_5
                    clear HO_186003
                    clear HO_186004
                    clear HL189_0
                    clear BK185
                    clear HR189_0
                    clear HB
                    have HO_4 := n0_
                    have HO_5 := n1_
                    have HO_186003 := n2_
                    have HO_186004 := n3_
                    have HL189_0 := n4_
                    have HO193 := n5_
                    have HO196 := n6_
                    have BK185 := n7_
                    have HR189_0 := n8_
                    have HB := n9_
                    clear n0_ n1_ n2_ n3_ n4_ n5_ n6_ n7_ n8_ n9_
                    (try clear hb)
                    (try clear hb2)
                    (try clear hk)
                    (try clear hi)
                    (try clear ho0)
                    (try clear ho1)
                    refine hK.out _ _ ⟨(blk_cell BK185.out 0).trans rfl, (blk_cell BK185.out 1).trans rfl, (blk_cell BK185.out 2).trans rfl, (blk_cell BK185.out 3).trans rfl, (blk_cell BK185.out 4).trans rfl, HS5_⟩ (fun hHeld => ?_)
                    clear hK K
                    refine norm_ (a' := ?_) ?_ ?_
                    rotate_left
                    · show Act.put _ (some 27) _ = _
                      simp only [Act.put, List.setIfInBounds_toArray, List.set_cons_zero, List.set_cons_succ, i64_w, i32_w]
                      rfl
                    refine pure_ (i := 6) (N := some 21) (v := ?_) (a' := ?_) #[true, true, true, true, true, true, true, false, false, false, false, false] rfl rfl (any_of HT_.out (by kernel_rfl)) (fun _ _ _ h => h) (Or.inl ⟨by rfl, ?_⟩) ?_ ?_
                    rotate_left
                    · intro w'
                      go_simp
                      with_reducible rfl
                    rotate_left
                    · simp only [Act.put, List.setIfInBounds_toArray, List.set_cons_zero, List.set_cons_succ, i64_w, i32_w]
                      rfl
                    refine pure_ (i := 7) (N := some 28) (v := ?_) (a' := ?_) #[true, true, true, true, true, true, true, true, false, false, false, false] rfl rfl (any_of HT_.out (by kernel_rfl)) (fun _ _ _ h => h) (Or.inl ⟨by rfl, ?_⟩) ?_ ?_
                    rotate_left
                    · intro w'
                      go_simp
                      with_reducible rfl
                    rotate_left
                    · simp only [Act.put, List.setIfInBounds_toArray, List.set_cons_zero, List.set_cons_succ, i64_w, i32_w]
                      rfl
                    refine pure_ (i := 8) (N := some 29) (v := ?_) (a' := ?_) #[true, true, true, true, true, true, true, true, true, false, false, false] rfl rfl (any_of HT_.out (by kernel_rfl)) (fun _ _ _ h => h) (Or.inl ⟨by rfl, ?_⟩) ?_ ?_
                    rotate_left
                    · intro w'
                      go_simp
                      with_reducible rfl
                    rotate_left
                    · simp only [Act.put, List.setIfInBounds_toArray, List.set_cons_zero, List.set_cons_succ, i64_w, i32_w]
                      rfl
                    refine one_ (i := 9) (N := some 7) #[true, true, true, true, true, true, true, true, true, true, false, false] rfl rfl (one_of HT_.out (by kernel_rfl)) (by decide) (fun K hK => ?_)
                    refine box_step ?hg (N := 7) ?hd (cs := #[.string (⟨#[]⟩ : ByteArray), .slice none 0 0, .slice none 0 0]) (t := 39) ?hr ?_; (case hd => rfl); (case hg => rfl); (case hr => first | (go_simp; done) | (go_simp; rfl))
                    intro gb198 hg w17 hbox hb
                    have HS5_ := (hb.cell (World.block_lt_of_cell? _ _ (hHeld.2.2.2.2.2))).trans (hHeld.2.2.2.2.2)
                    have n0_ := Aside0.mk (Kd.N_below (Kd.N_elderB (by (with_reducible repeat (first | apply Kd.N_alloc | apply Kd.N_drewN | apply Kd.N_drew)); exact HO_4.out) gb198 (Nat.le_of_eq hg.symm)) hb)
                    have n1_ := Aside0.mk (Kd.N_below (Kd.N_elderB (by (with_reducible repeat (first | apply Kd.N_alloc | apply Kd.N_drewN | apply Kd.N_drew)); exact HO_5.out) gb198 (Nat.le_of_eq hg.symm)) hb)
                    have n2_ := Aside0.mk (Kd.V_below (Kd.V_elderB (by (with_reducible repeat (first | apply Kd.V_alloc | apply Kd.V_drewN | apply Kd.V_drew)); exact HO_186003.out) gb198 (Nat.le_of_eq hg.symm)) hb)
                    have n3_ := Aside0.mk (Kd.V_below (Kd.V_elderB (by (with_reducible repeat (first | apply Kd.V_alloc | apply Kd.V_drewN | apply Kd.V_drew)); exact HO_186004.out) gb198 (Nat.le_of_eq hg.symm)) hb)
                    have n4_ := Aside0.mk (Kd.V_below (Kd.V_elderB (by (with_reducible repeat (first | apply Kd.V_alloc | apply Kd.V_drewN | apply Kd.V_drew)); exact HL189_0.out) gb198 (Nat.le_of_eq hg.symm)) hb)
                    have n5_ := Aside0.mk (Kd.V_below (Kd.V_elderB (by (with_reducible repeat (first | apply Kd.V_alloc | apply Kd.V_drewN | apply Kd.V_drew)); exact HO193.out) gb198 (Nat.le_of_eq hg.symm)) hb)
                    have n6_ := Aside0.mk (Kd.V_below (Kd.V_elderB (by (with_reducible repeat (first | apply Kd.V_alloc | apply Kd.V_drewN | apply Kd.V_drew)); exact HO196.out) gb198 (Nat.le_of_eq hg.symm)) hb)
                    have n7_ := Aside0.mk (blk_below (g := gb185) (o := .cells #[.int .u32 a0_0, .slice A0_1 l0_1.length c0_1, .string a0_2, .slice A0_3 l0_3.length c0_3, .slice A0_4 l0_4.length c0_4] 43 (0, 0)) (by (with_reducible repeat (first | refine blk_drewN ?_ _ | refine blk_drew ?_ | refine blk_alloc ?_ _)); exact BK185.out) hb)
                    have n8_ := Aside0.mk (Kd.C_below (by repeat (first | (with_reducible exact HR189_0.out) | (with_reducible refine Kd.C_alloc ?_ _) | (with_reducible refine Kd.C_drewN ?_ _) | (with_reducible refine Kd.C_drew ?_) | exact HR189_0.out)) hb)
                    have n9_ := Aside0.mk (below_step (by repeat (first | (with_reducible first | exact HB.out | apply below_alloc | apply pw_below_drewN | apply below_drew1 | refine below_set ?_ GE185.out) | exact HB.out)) hb)
                    have n10_ := Aside0.mk (hbox)
                    have n11_ := Aside0.mk ((by rw [hg]; exact (below_size (by repeat (first | (with_reducible first | exact HB.out | apply below_alloc | apply pw_below_drewN | apply below_drew1 | refine below_set ?_ GE185.out) | exact HB.out))) : w.heap.size ≤ gb198))
                    have n12_ := Aside0.mk ((by rw [hg]; exact (below_size (by repeat (first | (with_reducible first | exact HB.out | apply below_alloc | apply pw_below_drewN | apply below_drew1 | refine below_set ?_ GE185.out) | exact HB.out))) : w.heap.size ≤ gb198))
                    have n13_ := Aside0.mk ((by rw [hg]; exact Nat.ne_of_lt (blk_lt (g := gb185) (o := .cells #[.int .u32 a0_0, .slice A0_1 l0_1.length c0_1, .string a0_2, .slice A0_3 l0_3.length c0_3, .slice A0_4 l0_4.length c0_4] 43 (0, 0)) (by (with_reducible repeat (first | refine blk_drewN ?_ _ | refine blk_drew ?_ | refine blk_alloc ?_ _)); exact BK185.out)) : gb185 ≠ gb198))
                    have n14_ := Aside0.mk ((by rw [hg]; exact Nat.ne_of_gt (blk_lt (g := gb185) (o := .cells #[.int .u32 a0_0, .slice A0_1 l0_1.length c0_1, .string a0_2, .slice A0_3 l0_3.length c0_3, .slice A0_4 l0_4.length c0_4] 43 (0, 0)) (by (with_reducible repeat (first | refine blk_drewN ?_ _ | refine blk_drew ?_ | refine blk_alloc ?_ _)); exact BK185.out)) : gb198 ≠ gb185))
                    clear HO_4
                    clear HO_5
                    clear HO_186003
                    clear HO_186004
                    clear HL189_0
                    clear HO193
                    clear HO196
                    clear BK185
                    clear HR189_0
                    clear HB
                    have HO_4 := n0_
                    have HO_5 := n1_
                    have HO_186003 := n2_
                    have HO_186004 := n3_
                    have HL189_0 := n4_
                    have HO193 := n5_
                    have HO196 := n6_
                    have BK185 := n7_
                    have HR189_0 := n8_
                    have HB := n9_
                    have BK198 := n10_
                    have GW198 := n11_
                    have GE198 := n12_
                    have NB185_198 := n13_
                    have NB198_185 := n14_
                    clear n0_ n1_ n2_ n3_ n4_ n5_ n6_ n7_ n8_ n9_ n10_ n11_ n12_ n13_ n14_
                    clear hb hbox hg
                    refine hK.out _ _ ⟨(blk_cell BK185.out 0).trans rfl, (blk_cell BK185.out 1).trans rfl, (blk_cell BK185.out 2).trans rfl, (blk_cell BK185.out 3).trans rfl, (blk_cell BK185.out 4).trans rfl, HS5_⟩ (fun hHeld => ?_)
                    clear hK K
                    refine norm_ (a' := ?_) ?_ ?_
                    rotate_left
                    · show Act.put _ (some 7) _ = _
                      simp only [Act.put, List.setIfInBounds_toArray, List.set_cons_zero, List.set_cons_succ, i64_w, i32_w]
                      rfl
                    exact norm_ (by simp only [putAll, Act.put, List.setIfInBounds_toArray, List.set_cons_zero, List.set_cons_succ]) (hCont (v192, v195, gb198) _ ⟨hHeld, (by (with_reducible repeat (first | apply Kd.V_alloc | apply Kd.V_drewN | apply Kd.V_drew)); exact Kd.V_mono HL189_0.out (fun _ hk => ⟨hk.1.1.1, ⟨hk.1.1.2.1, ⟨hk.1.2, ⟨hk.1.1.2.2, hk.2⟩⟩⟩⟩)), (by (with_reducible repeat (first | apply Kd.V_alloc | apply Kd.V_drewN | apply Kd.V_drew)); exact Kd.V_mono HO193.out (fun _ hk => ⟨hk.1.1, ⟨hk.1.2.1, ⟨hk.1.2.2.1, ⟨hk.1.2.2.2, hk.2⟩⟩⟩⟩)), (by (with_reducible repeat (first | apply Kd.V_alloc | apply Kd.V_drewN | apply Kd.V_drew)); exact Kd.V_mono HO196.out (fun _ hk => ⟨hk.1.1, ⟨hk.1.2.1, ⟨hk.1.2.2.1, ⟨hk.1.2.2.2, hk.2⟩⟩⟩⟩)), (by (with_reducible repeat (first | apply Kd.V_alloc | apply Kd.V_drewN | apply Kd.V_drew)); exact Kd.V_mono HO_186003.out (fun _ hk => ⟨hk.1.1, ⟨hk.1.2.1, ⟨hk.1.2.2.1, ⟨hk.1.2.2.2, hk.2⟩⟩⟩⟩)), (by (with_reducible repeat (first | apply Kd.V_alloc | apply Kd.V_drewN | apply Kd.V_drew)); exact Kd.V_mono HO_186004.out (fun _ hk => ⟨hk.1.1, ⟨hk.1.2.1, ⟨hk.1.2.2.1, ⟨hk.1.2.2.2, hk.2⟩⟩⟩⟩)), (by (with_reducible repeat (first | apply Kd.N_alloc | apply Kd.N_drewN | apply Kd.N_drew)); exact Kd.N_mono HO_4.out (fun _ hk => ⟨hk.1.1, ⟨hk.1.2.1, ⟨hk.1.2.2, hk.2⟩⟩⟩)), (by (with_reducible repeat (first | apply Kd.N_alloc | apply Kd.N_drewN | apply Kd.N_drew)); exact Kd.N_mono HO_5.out (fun _ hk => ⟨hk.1.1, ⟨hk.1.2.1, ⟨hk.1.2.2, hk.2⟩⟩⟩)), (by (with_reducible repeat (first | refine blk_drewN ?_ _ | refine blk_drew ?_ | refine blk_alloc ?_ _)); exact BK185.out), (by (with_reducible repeat (first | refine blk_drewN ?_ _ | refine blk_drew ?_ | refine blk_alloc ?_ _)); exact BK198.out), GW198.out, GE198.out, NB185_198.out, NB198_185.out, (by repeat (first | (with_reducible first | exact HB.out | apply below_alloc | apply pw_below_drewN | apply below_drew1 | refine below_set ?_ GE185.out | refine below_set ?_ GE198.out) | exact HB.out))⟩)
                  · skip
                    refine box_step ?hg (N := 7) ?hd (cs := #[.string (⟨#[]⟩ : ByteArray), .slice none 0 0, .slice none 0 0]) (t := 39) ?hr ?_; (case hd => rfl); (case hg => rfl); (case hr => first | (go_simp; done) | (go_simp; rfl))
                    intro gb198 hg w16 hbox hb
                    have HS5_ := (hb.cell (World.block_lt_of_cell? _ _ (hHeld.2.2.2.2.2))).trans (hHeld.2.2.2.2.2)
                    have n0_ := Aside0.mk (Kd.N_below (Kd.N_elderB (by (with_reducible repeat (first | apply Kd.N_alloc | apply Kd.N_drewN | apply Kd.N_drew)); exact HO_4.out) gb198 (Nat.le_of_eq hg.symm)) hb)
                    have n1_ := Aside0.mk (Kd.N_below (Kd.N_elderB (by (with_reducible repeat (first | apply Kd.N_alloc | apply Kd.N_drewN | apply Kd.N_drew)); exact HO_5.out) gb198 (Nat.le_of_eq hg.symm)) hb)
                    have n2_ := Aside0.mk (Kd.V_below (Kd.V_elderB (by (with_reducible repeat (first | apply Kd.V_alloc | apply Kd.V_drewN | apply Kd.V_drew)); exact HO_186003.out) gb198 (Nat.le_of_eq hg.symm)) hb)
                    have n3_ := Aside0.mk (Kd.V_below (Kd.V_elderB (by (with_reducible repeat (first | apply Kd.V_alloc | apply Kd.V_drewN | apply Kd.V_drew)); exact HO_186004.out) gb198 (Nat.le_of_eq hg.symm)) hb)
                    have n4_ := Aside0.mk (Kd.V_below (Kd.V_elderB (by (with_reducible repeat (first | apply Kd.V_alloc | apply Kd.V_drewN | apply Kd.V_drew)); exact HL189_0.out) gb198 (Nat.le_of_eq hg.symm)) hb)
                    have n5_ := Aside0.mk (blk_below (g := gb185) (o := .cells #[.int .u32 a0_0, .slice A0_1 l0_1.length c0_1, .string a0_2, .slice A0_3 l0_3.length c0_3, .slice A0_4 l0_4.length c0_4] 43 (0, 0)) (by (with_reducible repeat (first | refine blk_drewN ?_ _ | refine blk_drew ?_ | refine blk_alloc ?_ _)); exact BK185.out) hb)
                    have n6_ := Aside0.mk (Kd.C_below (by repeat (first | (with_reducible exact HR189_0.out) | (with_reducible refine Kd.C_alloc ?_ _) | (with_reducible refine Kd.C_drewN ?_ _) | (with_reducible refine Kd.C_drew ?_) | exact HR189_0.out)) hb)
                    have n7_ := Aside0.mk (below_step (by repeat (first | (with_reducible first | exact HB.out | apply below_alloc | apply pw_below_drewN | apply below_drew1 | refine below_set ?_ GE185.out) | exact HB.out)) hb)
                    have n8_ := Aside0.mk (hbox)
                    have n9_ := Aside0.mk ((by rw [hg]; exact (below_size (by repeat (first | (with_reducible first | exact HB.out | apply below_alloc | apply pw_below_drewN | apply below_drew1 | refine below_set ?_ GE185.out) | exact HB.out))) : w.heap.size ≤ gb198))
                    have n10_ := Aside0.mk ((by rw [hg]; exact (below_size (by repeat (first | (with_reducible first | exact HB.out | apply below_alloc | apply pw_below_drewN | apply below_drew1 | refine below_set ?_ GE185.out) | exact HB.out))) : w.heap.size ≤ gb198))
                    have n11_ := Aside0.mk ((by rw [hg]; exact Nat.ne_of_lt (blk_lt (g := gb185) (o := .cells #[.int .u32 a0_0, .slice A0_1 l0_1.length c0_1, .string a0_2, .slice A0_3 l0_3.length c0_3, .slice A0_4 l0_4.length c0_4] 43 (0, 0)) (by (with_reducible repeat (first | refine blk_drewN ?_ _ | refine blk_drew ?_ | refine blk_alloc ?_ _)); exact BK185.out)) : gb185 ≠ gb198))
                    have n12_ := Aside0.mk ((by rw [hg]; exact Nat.ne_of_gt (blk_lt (g := gb185) (o := .cells #[.int .u32 a0_0, .slice A0_1 l0_1.length c0_1, .string a0_2, .slice A0_3 l0_3.length c0_3, .slice A0_4 l0_4.length c0_4] 43 (0, 0)) (by (with_reducible repeat (first | refine blk_drewN ?_ _ | refine blk_drew ?_ | refine blk_alloc ?_ _)); exact BK185.out)) : gb198 ≠ gb185))
                    clear HO_4
                    clear HO_5
                    clear HO_186003
                    clear HO_186004
                    clear HL189_0
                    clear BK185
                    clear HR189_0
                    clear HB
                    have HO_4 := n0_
                    have HO_5 := n1_
                    have HO_186003 := n2_
                    have HO_186004 := n3_
                    have HL189_0 := n4_
                    have BK185 := n5_
                    have HR189_0 := n6_
                    have HB := n7_
                    have BK198 := n8_
                    have GW198 := n9_
                    have GE198 := n10_
                    have NB185_198 := n11_
                    have NB198_185 := n12_
                    clear n0_ n1_ n2_ n3_ n4_ n5_ n6_ n7_ n8_ n9_ n10_ n11_ n12_
                    clear hb hbox hg
                    refine hK.out _ _ ⟨(blk_cell BK185.out 0).trans rfl, (blk_cell BK185.out 1).trans rfl, (blk_cell BK185.out 2).trans rfl, (blk_cell BK185.out 3).trans rfl, (blk_cell BK185.out 4).trans rfl, HS5_⟩ (fun hHeld => ?_)
                    clear hK K
                    refine norm_ (a' := ?_) ?_ ?_
                    rotate_left
                    · show Act.put _ (some 7) _ = _
                      simp only [Act.put, List.setIfInBounds_toArray, List.set_cons_zero, List.set_cons_succ, i64_w, i32_w]
                      rfl
                    refine one_ (i := 5) (N := some 27) #[true, true, true, true, true, true, false, false, false, true, false, false] rfl rfl (one_of HT_.out (by kernel_rfl)) (by decide) (fun K hK => ?_)
                    refine goes_ Try.func64 (by kernel_rfl) rfl #[.agg #[.int .u32 a0_0, .slice A0_1 l0_1.length c0_1, .string a0_2, .slice A0_3 l0_3.length c0_3, .slice A0_4 l0_4.length c0_4], .slice A189_0 (rd_L13 t186 x18_1).length c189_0] (by rfl) rfl rfl (by (try simp only [List.map_toArray, List.map_cons, List.map_nil]); first | done | rfl | (simp only [List.length_drop, List.length_take]; rfl)) ?_
                    with_reducible refine (arboretref06_Get.calls k1 a0_0 _ _ l0_1 a0_2 (fun k_ => ((((P0_3_ k_ ∨ P0_4_ k_) ∨ w.heap.size ≤ k_) ∧ (some k_ ≠ (u4 : Value).ownBlock ∧ (some k_ ≠ (.slice (some ad189) t186.length co6 : Value).ownBlock ∧ k_ ≠ gb185))) ∧ k_ ≠ gb198)) _ _ l0_3 (fun k_ => ((((P0_3_ k_ ∨ P0_4_ k_) ∨ w.heap.size ≤ k_) ∧ (some k_ ≠ (u4 : Value).ownBlock ∧ (some k_ ≠ (.slice (some ad189) t186.length co6 : Value).ownBlock ∧ k_ ≠ gb185))) ∧ k_ ≠ gb198)) _ _ l0_4 _ _ (rd_L13 t186 x18_1) t190 t191 t194 t197 _ ?side1 ?side2 ?side3 ?side4 ?side5 ?side6 A10.out).mono ?_
                    (case side1 => repeat (first | exact (Kd.C_below HR0_1.out HB.out) | (with_reducible refine Kd.C_alloc ?_ _) | (with_reducible refine Kd.C_drewN ?_ _) | (with_reducible refine Kd.C_drew ?_)))
                    (case side2 => exact HC0_1.out)
                    (case side3 => exact HO_186003.out)
                    (case side4 => exact HO_186004.out)
                    (case side5 => repeat (first | exact (by repeat (first | (with_reducible exact HR189_0.out) | (with_reducible refine Kd.C_alloc ?_ _) | (with_reducible refine Kd.C_drewN ?_ _) | (with_reducible refine Kd.C_drew ?_) | exact HR189_0.out)) | (with_reducible refine Kd.C_alloc ?_ _) | (with_reducible refine Kd.C_drewN ?_ _) | (with_reducible refine Kd.C_drew ?_)))
                    (case side6 => exact HC189_0.out)
                    rintro e w17 ⟨v192, v195, rfl, ho0, ho1, hb⟩
                    have HS5_ := (hb.cell (World.block_lt_of_cell? _ _ (hHeld.2.2.2.2.2))).trans (hHeld.2.2.2.2.2)
                    refine ⟨_, rfl, ?_⟩
                    have n0_ := Aside0.mk (Kd.N_below (by (with_reducible repeat (first | apply Kd.N_alloc | apply Kd.N_drewN | apply Kd.N_drew)); exact HO_4.out) hb)
                    have n1_ := Aside0.mk (Kd.N_below (by (with_reducible repeat (first | apply Kd.N_alloc | apply Kd.N_drewN | apply Kd.N_drew)); exact HO_5.out) hb)
                    have n2_ := Aside0.mk (Kd.V_below (by (with_reducible repeat (first | apply Kd.V_alloc | apply Kd.V_drewN | apply Kd.V_drew)); exact HO_186003.out) hb)
                    have n3_ := Aside0.mk (Kd.V_below (by (with_reducible repeat (first | apply Kd.V_alloc | apply Kd.V_drewN | apply Kd.V_drew)); exact HO_186004.out) hb)
                    have n4_ := Aside0.mk (Kd.V_below (by (with_reducible repeat (first | apply Kd.V_alloc | apply Kd.V_drewN | apply Kd.V_drew)); exact HL189_0.out) hb)
                    have n5_ := Aside0.mk (Kd.V_lower (Kd.V_mono (ok' := fun k_ => ((P0_3_ k_ ∨ P0_4_ k_) ∨ w.heap.size ≤ k_) ∧ some k_ ≠ (u4 : Value).ownBlock ∧ some k_ ≠ (.slice (some ad189) t186.length co6 : Value).ownBlock ∧ k_ ≠ gb185 ∧ k_ ≠ gb198) ho0 (fun k_ hk_ => ⟨Or.elim hk_ (fun hs_ => Or.elim hs_ (fun hs_ => hs_.1.1) (fun hs_ => hs_.1.1)) (fun hn_ => (.inr (Nat.le_trans (below_size (by repeat (first | (with_reducible first | exact HB.out | apply below_alloc | apply pw_below_drewN | apply below_drew1 | refine below_set ?_ GE185.out | refine below_set ?_ GE198.out) | exact HB.out))) hn_))), Or.elim hk_ (fun hs_ => Or.elim hs_ (fun hs_ => hs_.1.2.1) (fun hs_ => hs_.1.2.1)) (fun hn_ => (Kd.fresh' (Kd.N_lt (by (with_reducible repeat (first | apply Kd.N_alloc | apply Kd.N_drewN | apply Kd.N_drew)); exact HO_4.out)) k_ hn_)), Or.elim hk_ (fun hs_ => Or.elim hs_ (fun hs_ => hs_.1.2.2.1) (fun hs_ => hs_.1.2.2.1)) (fun hn_ => (Kd.fresh' (Kd.N_lt (by (with_reducible repeat (first | apply Kd.N_alloc | apply Kd.N_drewN | apply Kd.N_drew)); exact HO_5.out)) k_ hn_)), Or.elim hk_ (fun hs_ => Or.elim hs_ (fun hs_ => hs_.1.2.2.2) (fun hs_ => hs_.1.2.2.2)) (fun hn_ => (Kd.freshB (g := gb185) (o := .cells #[.int .u32 a0_0, .slice A0_1 l0_1.length c0_1, .string a0_2, .slice A0_3 l0_3.length c0_3, .slice A0_4 l0_4.length c0_4] 43 (0, 0)) (by (with_reducible repeat (first | refine blk_drewN ?_ _ | refine blk_drew ?_ | refine blk_alloc ?_ _)); exact BK185.out) k_ hn_)), Or.elim hk_ (fun hs_ => Or.elim hs_ (fun hs_ => hs_.2) (fun hs_ => hs_.2)) (fun hn_ => (Kd.freshB (g := gb198) (o := .cells #[.string (⟨#[]⟩ : ByteArray), .slice none 0 0, .slice none 0 0] 39 (0, 0)) (by (with_reducible repeat (first | refine blk_drewN ?_ _ | refine blk_drew ?_ | refine blk_alloc ?_ _)); exact BK198.out) k_ hn_))⟩)) (below_size (by repeat (first | (with_reducible first | exact HB.out | apply below_alloc | apply pw_below_drewN | apply below_drew1 | refine below_set ?_ GE185.out | refine below_set ?_ GE198.out) | exact HB.out))))
                    have n6_ := Aside0.mk (Kd.V_lower (Kd.V_mono (ok' := fun k_ => ((P0_3_ k_ ∨ P0_4_ k_) ∨ w.heap.size ≤ k_) ∧ some k_ ≠ (u4 : Value).ownBlock ∧ some k_ ≠ (.slice (some ad189) t186.length co6 : Value).ownBlock ∧ k_ ≠ gb185 ∧ k_ ≠ gb198) ho1 (fun k_ hk_ => ⟨Or.elim hk_ (fun hs_ => Or.elim hs_ (fun hs_ => hs_.1.1) (fun hs_ => hs_.1.1)) (fun hn_ => (.inr (Nat.le_trans (below_size (by repeat (first | (with_reducible first | exact HB.out | apply below_alloc | apply pw_below_drewN | apply below_drew1 | refine below_set ?_ GE185.out | refine below_set ?_ GE198.out) | exact HB.out))) hn_))), Or.elim hk_ (fun hs_ => Or.elim hs_ (fun hs_ => hs_.1.2.1) (fun hs_ => hs_.1.2.1)) (fun hn_ => (Kd.fresh' (Kd.N_lt (by (with_reducible repeat (first | apply Kd.N_alloc | apply Kd.N_drewN | apply Kd.N_drew)); exact HO_4.out)) k_ hn_)), Or.elim hk_ (fun hs_ => Or.elim hs_ (fun hs_ => hs_.1.2.2.1) (fun hs_ => hs_.1.2.2.1)) (fun hn_ => (Kd.fresh' (Kd.N_lt (by (with_reducible repeat (first | apply Kd.N_alloc | apply Kd.N_drewN | apply Kd.N_drew)); exact HO_5.out)) k_ hn_)), Or.elim hk_ (fun hs_ => Or.elim hs_ (fun hs_ => hs_.1.2.2.2) (fun hs_ => hs_.1.2.2.2)) (fun hn_ => (Kd.freshB (g := gb185) (o := .cells #[.int .u32 a0_0, .slice A0_1 l0_1.length c0_1, .string a0_2, .slice A0_3 l0_3.length c0_3, .slice A0_4 l0_4.length c0_4] 43 (0, 0)) (by (with_reducible repeat (first | refine blk_drewN ?_ _ | refine blk_drew ?_ | refine blk_alloc ?_ _)); exact BK185.out) k_ hn_)), Or.elim hk_ (fun hs_ => Or.elim hs_ (fun hs_ => hs_.2) (fun hs_ => hs_.2)) (fun hn_ => (Kd.freshB (g := gb198) (o := .cells #[.string (⟨#[]⟩ : ByteArray), .slice none 0 0, .slice none 0 0] 39 (0, 0)) (by (with_reducible repeat (first | refine blk_drewN ?_ _ | refine blk_drew ?_ | refine blk_alloc ?_ _)); exact BK198.out) k_ hn_))⟩)) (below_size (by repeat (first | (with_reducible first | exact HB.out | apply below_alloc | apply pw_below_drewN | apply below_drew1 | refine below_set ?_ GE185.out | refine below_set ?_ GE198.out) | exact HB.out))))
                    have n7_ := Aside0.mk (blk_below (g := gb185) (o := .cells #[.int .u32 a0_0, .slice A0_1 l0_1.length c0_1, .string a0_2, .slice A0_3 l0_3.length c0_3, .slice A0_4 l0_4.length c0_4] 43 (0, 0)) (by (with_reducible repeat (first | refine blk_drewN ?_ _ | refine blk_drew ?_ | refine blk_alloc ?_ _)); exact BK185.out) hb)
                    have n8_ := Aside0.mk (Kd.C_below (by repeat (first | (with_reducible exact HR189_0.out) | (with_reducible refine Kd.C_alloc ?_ _) | (with_reducible refine Kd.C_drewN ?_ _) | (with_reducible refine Kd.C_drew ?_) | exact HR189_0.out)) hb)
                    have n9_ := Aside0.mk (blk_below (g := gb198) (o := .cells #[.string (⟨#[]⟩ : ByteArray), .slice none 0 0, .slice none 0 0] 39 (0, 0)) (by (with_reducible repeat (first | refine blk_drewN ?_ _ | refine blk_drew ?_ | refine blk_alloc ?_ _)); exact BK198.out) hb)
                    have n10_ := Aside0.mk (below_step (by repeat (first | (with_reducible first | exact HB.out | apply below_alloc | apply pw_below_drewN | apply below_drew1 | refine below_set ?_ GE185.out | refine below_set ?_ GE198.out) | exact HB.out)) hb)
                    clear HO_4
                    clear HO_5
                    clear HO_186003
                    clear HO_186004
                    clear HL189_0
                    clear BK185
                    clear HR189_0
                    clear BK198
                    clear HB
                    have HO_4 := n0_
                    have HO_5 := n1_
                    have HO_186003 := n2_
                    have HO_186004 := n3_
                    have HL189_0 := n4_
                    have HO193 := n5_
                    have HO196 := n6_
                    have BK185 := n7_
                    have HR189_0 := n8_
                    have BK198 := n9_
                    have HB := n10_
                    clear n0_ n1_ n2_ n3_ n4_ n5_ n6_ n7_ n8_ n9_ n10_
                    (try clear hb)
                    (try clear hb2)
                    (try clear hk)
                    (try clear hi)
                    (try clear ho0)
                    (try clear ho1)
                    refine hK.out _ _ ⟨(blk_cell BK185.out 0).trans rfl, (blk_cell BK185.out 1).trans rfl, (blk_cell BK185.out 2).trans rfl, (blk_cell BK185.out 3).trans rfl, (blk_cell BK185.out 4).trans rfl, HS5_⟩ (fun hHeld => ?_)
                    clear hK K
                    refine norm_ (a' := ?_) ?_ ?_
                    rotate_left
                    · show Act.put _ (some 27) _ = _
                      simp only [Act.put, List.setIfInBounds_toArray, List.set_cons_zero, List.set_cons_succ, i64_w, i32_w]
                      rfl
                    refine pure_ (i := 6) (N := some 21) (v := ?_) (a' := ?_) #[true, true, true, true, true, true, true, false, false, true, false, false] rfl rfl (any_of HT_.out (by kernel_rfl)) (fun _ _ _ h => h) (Or.inl ⟨by rfl, ?_⟩) ?_ ?_
                    rotate_left
                    · intro w'
                      go_simp
                      with_reducible rfl
                    rotate_left
                    · simp only [Act.put, List.setIfInBounds_toArray, List.set_cons_zero, List.set_cons_succ, i64_w, i32_w]
                      rfl
                    refine pure_ (i := 7) (N := some 28) (v := ?_) (a' := ?_) #[true, true, true, true, true, true, true, true, false, true, false, false] rfl rfl (any_of HT_.out (by kernel_rfl)) (fun _ _ _ h => h) (Or.inl ⟨by rfl, ?_⟩) ?_ ?_
                    rotate_left
                    · intro w'
                      go_simp
                      with_reducible rfl
                    rotate_left
                    · simp only [Act.put, List.setIfInBounds_toArray, List.set_cons_zero, List.set_cons_succ, i64_w, i32_w]
                      rfl
                    refine pure_ (i := 8) (N := some 29) (v := ?_) (a' := ?_) #[true, true, true, true, true, true, true, true, true, true, false, false] rfl rfl (any_of HT_.out (by kernel_rfl)) (fun _ _ _ h => h) (Or.inl ⟨by rfl, ?_⟩) ?_ ?_
                    rotate_left
                    · intro w'
                      go_simp
                      with_reducible rfl
                    rotate_left
                    · simp only [Act.put, List.setIfInBounds_toArray, List.set_cons_zero, List.set_cons_succ, i64_w, i32_w]
                      rfl
                    exact norm_ (by simp only [putAll, Act.put, List.setIfInBounds_toArray, List.set_cons_zero, List.set_cons_succ]) (hCont (v192, v195, gb198) _ ⟨hHeld, (by (with_reducible repeat (first | apply Kd.V_alloc | apply Kd.V_drewN | apply Kd.V_drew)); exact Kd.V_mono HL189_0.out (fun _ hk => ⟨hk.1.1.1, ⟨hk.1.1.2.1, ⟨hk.1.2, ⟨hk.1.1.2.2, hk.2⟩⟩⟩⟩)), (by (with_reducible repeat (first | apply Kd.V_alloc | apply Kd.V_drewN | apply Kd.V_drew)); exact HO193.out), (by (with_reducible repeat (first | apply Kd.V_alloc | apply Kd.V_drewN | apply Kd.V_drew)); exact HO196.out), (by (with_reducible repeat (first | apply Kd.V_alloc | apply Kd.V_drewN | apply Kd.V_drew)); exact Kd.V_mono HO_186003.out (fun _ hk => ⟨hk.1.1, ⟨hk.1.2.1, ⟨hk.1.2.2.1, ⟨hk.1.2.2.2, hk.2⟩⟩⟩⟩)), (by (with_reducible repeat (first | apply Kd.V_alloc | apply Kd.V_drewN | apply Kd.V_drew)); exact Kd.V_mono HO_186004.out (fun _ hk => ⟨hk.1.1, ⟨hk.1.2.1, ⟨hk.1.2.2.1, ⟨hk.1.2.2.2, hk.2⟩⟩⟩⟩)), (by (with_reducible repeat (first | apply Kd.N_alloc | apply Kd.N_drewN | apply Kd.N_drew)); exact Kd.N_mono HO_4.out (fun _ hk => ⟨hk.1.1, ⟨hk.1.2.1, ⟨hk.1.2.2, hk.2⟩⟩⟩)), (by (with_reducible repeat (first | apply Kd.N_alloc | apply Kd.N_drewN | apply Kd.N_drew)); exact Kd.N_mono HO_5.out (fun _ hk => ⟨hk.1.1, ⟨hk.1.2.1, ⟨hk.1.2.2, hk.2⟩⟩⟩)), (by (with_reducible repeat (first | refine blk_drewN ?_ _ | refine blk_drew ?_ | refine blk_alloc ?_ _)); exact BK185.out), (by (with_reducible repeat (first | refine blk_drewN ?_ _ | refine blk_drew ?_ | refine blk_alloc ?_ _)); exact BK198.out), GW198.out, GE198.out, NB185_198.out, NB198_185.out, (by repeat (first | (with_reducible first | exact HB.out | apply below_alloc | apply pw_below_drewN | apply below_drew1 | refine below_set ?_ GE185.out | refine below_set ?_ GE198.out) | exact HB.out))⟩)
                rintro ⟨v192, v195, gb198⟩ w18 ⟨hS_, h0_, h1_, h2_, h3_, h4_, h5_, h6_, h7_, h8_, h9_, h10_, h11_, h12_, h13_⟩
                have n0_ : Aside0 (Kd.V (Kd.int .i64) 3 w18 w.heap.size (fun k_ => ((P0_3_ k_ ∨ P0_4_ k_) ∨ w.heap.size ≤ k_) ∧ some k_ ≠ (u4 : Value).ownBlock ∧ some k_ ≠ (.slice (some ad189) t186.length co6 : Value).ownBlock ∧ k_ ≠ gb185 ∧ k_ ≠ gb198) (.slice A189_0 (rd_L13 t186 x18_1).length c189_0) (rd_L13 t186 x18_1)) := ⟨h0_⟩
                have n1_ : Aside0 (Kd.V k104 104 w18 w.heap.size (fun k_ => ((P0_3_ k_ ∨ P0_4_ k_) ∨ w.heap.size ≤ k_) ∧ some k_ ≠ (u4 : Value).ownBlock ∧ some k_ ≠ (.slice (some ad189) t186.length co6 : Value).ownBlock ∧ k_ ≠ gb185 ∧ k_ ≠ gb198) v192 t191) := ⟨h1_⟩
                have n2_ : Aside0 (Kd.V k39 39 w18 w.heap.size (fun k_ => ((P0_3_ k_ ∨ P0_4_ k_) ∨ w.heap.size ≤ k_) ∧ some k_ ≠ (u4 : Value).ownBlock ∧ some k_ ≠ (.slice (some ad189) t186.length co6 : Value).ownBlock ∧ k_ ≠ gb185 ∧ k_ ≠ gb198) v195 t194) := ⟨h2_⟩
                have n3_ : Aside0 (Kd.V k104 104 w18 w.heap.size (fun k_ => ((P0_3_ k_ ∨ P0_4_ k_) ∨ w.heap.size ≤ k_) ∧ some k_ ≠ (u4 : Value).ownBlock ∧ some k_ ≠ (.slice (some ad189) t186.length co6 : Value).ownBlock ∧ k_ ≠ gb185 ∧ k_ ≠ gb198) (.slice A0_3 l0_3.length c0_3) l0_3) := ⟨h3_⟩
                have n4_ : Aside0 (Kd.V k39 39 w18 w.heap.size (fun k_ => ((P0_3_ k_ ∨ P0_4_ k_) ∨ w.heap.size ≤ k_) ∧ some k_ ≠ (u4 : Value).ownBlock ∧ some k_ ≠ (.slice (some ad189) t186.length co6 : Value).ownBlock ∧ k_ ≠ gb185 ∧ k_ ≠ gb198) (.slice A0_4 l0_4.length c0_4) l0_4) := ⟨h4_⟩
                have n5_ : Aside0 (Kd.N k83 83 w18 w.heap.size (fun k_ => ((P0_3_ k_ ∨ P0_4_ k_) ∨ w.heap.size ≤ k_) ∧ some k_ ≠ (.slice (some ad189) t186.length co6 : Value).ownBlock ∧ k_ ≠ gb185 ∧ k_ ≠ gb198) u4 x4_1) := ⟨h5_⟩
                have n6_ : Aside0 (Kd.N (Kd.slice 3 (Kd.int .i64)) 65 w18 w.heap.size (fun k_ => ((P0_3_ k_ ∨ P0_4_ k_) ∨ w.heap.size ≤ k_) ∧ some k_ ≠ (u4 : Value).ownBlock ∧ k_ ≠ gb185 ∧ k_ ≠ gb198) (.slice (some ad189) t186.length co6) t186) := ⟨h6_⟩
                have n7_ : Aside0 (w18.heap[gb185]? = some (.cells #[.int .u32 a0_0, .slice A0_1 l0_1.length c0_1, .string a0_2, .slice A0_3 l0_3.length c0_3, .slice A0_4 l0_4.length c0_4] 43 (0, 0))) := ⟨h7_⟩
                have n8_ : Aside0 (w18.heap[gb198]? = some (.cells #[.string (⟨#[]⟩ : ByteArray), .slice none 0 0, .slice none 0 0] 39 (0, 0))) := ⟨h8_⟩
                have n9_ : Aside0 (w.heap.size ≤ gb198) := ⟨h9_⟩
                have n10_ : Aside0 (w.heap.size ≤ gb198) := ⟨h10_⟩
                have n11_ : Aside0 (gb185 ≠ gb198) := ⟨h11_⟩
                have n12_ : Aside0 (gb198 ≠ gb185) := ⟨h12_⟩
                have n13_ : Aside0 (Below w.heap.size w w18) := ⟨h13_⟩
                clear HO_4
                clear HO_5
                clear HO_186003
                clear HO_186004
                clear BK185
                clear HB
                clear h0_ h1_ h2_ h3_ h4_ h5_ h6_ h7_ h8_ h9_ h10_ h11_ h12_ h13_
                have HL189_0 := n0_
                have HO193 := n1_
                have HO196 := n2_
                have HO_186003 := n3_
                have HO_186004 := n4_
                have HO_4 := n5_
                have HO_5 := n6_
                have BK185 := n7_
                have BK198 := n8_
                have GW198 := n9_
                have GE198 := n10_
                have NB185_198 := n11_
                have NB198_185 := n12_
                have HB := n13_
                clear n0_ n1_ n2_ n3_ n4_ n5_ n6_ n7_ n8_ n9_ n10_ n11_ n12_ n13_
                have hHeld : w18.cell? ⟨gb185, 0, none⟩ = some (.int .u32 a0_0) ∧ w18.cell? ⟨gb185, 1, none⟩ = some (.slice A0_1 l0_1.length c0_1) ∧ w18.cell? ⟨gb185, 2, none⟩ = some (.string a0_2) ∧ w18.cell? ⟨gb185, 3, none⟩ = some (.slice A0_3 l0_3.length c0_3) ∧ w18.cell? ⟨gb185, 4, none⟩ = some (.slice A0_4 l0_4.length c0_4) ∧ w18.cell? (ad189.add (x18_1).toNat) = some (.slice A189_0 (rd_L13 t186 x18_1).length c189_0) := hS_
                obtain ⟨Ao20, co20, eo20⟩ := Kd.V_slice HO193.out
                (first | subst eo20 | (injection eo20 with f1_ f2_ f3_; have f4_ := f1_.symm; have f5_ := f3_.symm; clear f1_ f2_ f3_; subst f4_; subst f5_))
                obtain ⟨Ao22, co22, eo22⟩ := Kd.V_slice HO196.out
                (first | subst eo22 | (injection eo22 with f1_ f2_ f3_; have f4_ := f1_.symm; have f5_ := f3_.symm; clear f1_ f2_ f3_; subst f4_; subst f5_))
                refine norm_ (a' := ?_) ?_ ?_
                rotate_left
                · simp only [putAll, Act.put, List.setIfInBounds_toArray, List.set_cons_zero, List.set_cons_succ]
                  rfl
                refine one_ (i := 10) (N := none) #[true, true, true, true, true, true, true, true, true, true, true, false] rfl rfl (one_of HT_.out (by kernel_rfl)) (by decide) (fun K hK => ?_)
                have hs19 : w18.cell? ⟨gb198, 0, none⟩ = some (.string (⟨#[]⟩ : ByteArray)) := (blk_cell BK198.out 0).trans rfl
                have hfs19 := blk_frozen BK198.out 0
                have hns19_0 := NB185_198.out
                have hms19_0 := NB198_185.out
                have hs21 : w18.cell? ⟨gb198, 1, none⟩ = some (.slice none 0 0) := (blk_cell BK198.out 1).trans rfl
                have hfs21 := blk_frozen BK198.out 1
                have hns21_0 := NB185_198.out
                have hms21_0 := NB198_185.out
                have hs23 : w18.cell? ⟨gb198, 2, none⟩ = some (.slice none 0 0) := (blk_cell BK198.out 2).trans rfl
                have hfs23 := blk_frozen BK198.out 2
                have hns23_0 := NB185_198.out
                have hms23_0 := NB198_185.out
                refine skip_ (w1 := ?_) (by rfl) rfl ?_ ?_
                rotate_left
                · go_simp
                  rfl
                refine hK.out _ _ ⟨((cell_far (p := ⟨gb198, _, none⟩) NB185_198.out _).trans (((cell_far (p := ⟨gb198, _, none⟩) NB185_198.out _).trans (((cell_far (p := ⟨gb198, _, none⟩) NB185_198.out _).trans (hHeld.1)))))), ((cell_far (p := ⟨gb198, _, none⟩) NB185_198.out _).trans (((cell_far (p := ⟨gb198, _, none⟩) NB185_198.out _).trans (((cell_far (p := ⟨gb198, _, none⟩) NB185_198.out _).trans (hHeld.2.1)))))), ((cell_far (p := ⟨gb198, _, none⟩) NB185_198.out _).trans (((cell_far (p := ⟨gb198, _, none⟩) NB185_198.out _).trans (((cell_far (p := ⟨gb198, _, none⟩) NB185_198.out _).trans (hHeld.2.2.1)))))), ((cell_far (p := ⟨gb198, _, none⟩) NB185_198.out _).trans (((cell_far (p := ⟨gb198, _, none⟩) NB185_198.out _).trans (((cell_far (p := ⟨gb198, _, none⟩) NB185_198.out _).trans (hHeld.2.2.2.1)))))), ((cell_far (p := ⟨gb198, _, none⟩) NB185_198.out _).trans (((cell_far (p := ⟨gb198, _, none⟩) NB185_198.out _).trans (((cell_far (p := ⟨gb198, _, none⟩) NB185_198.out _).trans (hHeld.2.2.2.2.1)))))), ((cell_far (p := ⟨gb198, _, none⟩) (by first | exact Kd.own_blk (Kd.N_away HO_5.out (fun _ hk => hk.2.2.2)) | (rw [add_block]; exact Kd.own_blk (Kd.N_away HO_5.out (fun _ hk => hk.2.2.2))) | (show (Addr.add _ _).block ≠ _; rw [add_block]; exact Kd.own_blk (Kd.N_away HO_5.out (fun _ hk => hk.2.2.2))) | (dsimp only; exact Kd.own_blk (Kd.N_away HO_5.out (fun _ hk => hk.2.2.2)))) _).trans (((cell_far (p := ⟨gb198, _, none⟩) (by first | exact Kd.own_blk (Kd.N_away HO_5.out (fun _ hk => hk.2.2.2)) | (rw [add_block]; exact Kd.own_blk (Kd.N_away HO_5.out (fun _ hk => hk.2.2.2))) | (show (Addr.add _ _).block ≠ _; rw [add_block]; exact Kd.own_blk (Kd.N_away HO_5.out (fun _ hk => hk.2.2.2))) | (dsimp only; exact Kd.own_blk (Kd.N_away HO_5.out (fun _ hk => hk.2.2.2)))) _).trans (((cell_far (p := ⟨gb198, _, none⟩) (by first | exact Kd.own_blk (Kd.N_away HO_5.out (fun _ hk => hk.2.2.2)) | (rw [add_block]; exact Kd.own_blk (Kd.N_away HO_5.out (fun _ hk => hk.2.2.2))) | (show (Addr.add _ _).block ≠ _; rw [add_block]; exact Kd.own_blk (Kd.N_away HO_5.out (fun _ hk => hk.2.2.2))) | (dsimp only; exact Kd.own_blk (Kd.N_away HO_5.out (fun _ hk => hk.2.2.2)))) _).trans (hHeld.2.2.2.2.2))))))⟩ (fun hHeld => ?_)
                clear hK K
                refine pure_ (i := 11) (N := some 8) (v := ?_) (a' := ?_) #[true, true, true, true, true, true, true, true, true, true, true, true] rfl rfl (any_of HT_.out (by kernel_rfl)) (fun _ _ _ h => h) (Or.inl ⟨by rfl, ?_⟩) ?_ ?_
                rotate_left
                · intro w'
                  go_simp
                  with_reducible rfl
                rotate_left
                · simp only [Act.put, List.setIfInBounds_toArray, List.set_cons_zero, List.set_cons_succ, i64_w, i32_w]
                  rfl
                refine done_ (done_of HT_.out (by kernel_rfl)) ?_
                have hnb24 := NB198_185.out
                have hnc24 := NB185_198.out
                have hcz25_0 : w18.cell? ⟨gb198, 0, none⟩ = some (.string (⟨#[]⟩ : ByteArray)) := (blk_cell BK198.out 0).trans rfl
                have hcz25_1 : w18.cell? ⟨gb198, 1, none⟩ = some (.slice none 0 0) := (blk_cell BK198.out 1).trans rfl
                have hcz25_2 : w18.cell? ⟨gb198, 2, none⟩ = some (.slice none 0 0) := (blk_cell BK198.out 2).trans rfl
                have hfz25_0 := blk_frozen BK198.out 0
                have hfz25_1 := blk_frozen BK198.out 1
                have hfz25_2 := blk_frozen BK198.out 2
                go_upto_region 11 with (first | ((with_reducible refine gate_callee (f := 23) rfl ?_); refine goesL_ (some 32) rfl rfl Try.func23 (by kernel_rfl) rfl #[.agg #[.string t190, .slice Ao20 t191.length co20, .slice Ao22 t194.length co22], .string (⟨#[112, 104, 97, 110, 100, 108, 101]⟩ : ByteArray)] rfl (by (try simp only [List.map_toArray, List.map_cons, List.map_nil]); first | done | rfl | (simp only [List.length_drop, List.length_take]; rfl)) ?_; (with_reducible refine (arboretref06_One.calls k1 t190 _ _ t191 _ _ t194 (⟨#[112, 104, 97, 110, 100, 108, 101]⟩ : ByteArray) t199 true t201 _ ?side1 ?side2 ?side3 ?side4 A11.out).mono ?_); (case side1 => refine (Kd.V_reads' (e := 104) (base := w.heap.size) (ok := fun k_ => (((P0_3_ k_ ∨ P0_4_ k_) ∨ w.heap.size ≤ k_) ∧ (some k_ ≠ (u4 : Value).ownBlock ∧ (some k_ ≠ (.slice (some ad189) t186.length co6 : Value).ownBlock ∧ (k_ ≠ gb185 ∧ k_ ≠ gb198))))) (n := t191.length) (c := co20) ?_).2.2; exact (by (with_reducible repeat (first | apply Kd.V_alloc | apply Kd.V_drewN | apply Kd.V_drew)); exact (Kd.V_mono (Kd.V_far (p := ⟨gb198, 2, none⟩) (Kd.V_far (p := ⟨gb198, 1, none⟩) (Kd.V_far (p := ⟨gb198, 0, none⟩) (Kd.V_mono HO193.out (fun k_ hk => (⟨hk, hk.2.2.2.2⟩ : _ ∧ k_ ≠ gb198))) (fun _ hk => hk.2) (.string t190)) (fun _ hk => hk.2) (.slice Ao20 t191.length co20)) (fun _ hk => hk.2) (.slice Ao22 t194.length co22)) (fun _ h_ => h_.1)))); (case side2 => exact (Kd.V_reads' HO193.out).2.1); (case side3 => refine (Kd.V_reads' (e := 39) (base := w.heap.size) (ok := fun k_ => (((P0_3_ k_ ∨ P0_4_ k_) ∨ w.heap.size ≤ k_) ∧ (some k_ ≠ (u4 : Value).ownBlock ∧ (some k_ ≠ (.slice (some ad189) t186.length co6 : Value).ownBlock ∧ (k_ ≠ gb185 ∧ k_ ≠ gb198))))) (n := t194.length) (c := co22) ?_).2.2; exact (by (with_reducible repeat (first | apply Kd.V_alloc | apply Kd.V_drewN | apply Kd.V_drew)); exact (Kd.V_mono (Kd.V_far (p := ⟨gb198, 2, none⟩) (Kd.V_far (p := ⟨gb198, 1, none⟩) (Kd.V_far (p := ⟨gb198, 0, none⟩) (Kd.V_mono HO196.out (fun k_ hk => (⟨hk, hk.2.2.2.2⟩ : _ ∧ k_ ≠ gb198))) (fun _ hk => hk.2) (.string t190)) (fun _ hk => hk.2) (.slice Ao20 t191.length co20)) (fun _ hk => hk.2) (.slice Ao22 t194.length co22)) (fun _ h_ => h_.1)))); (case side4 => exact (Kd.V_reads' HO196.out).2.1); rintro e w26 ⟨rfl, hb⟩; refine ⟨_, rfl, ?_⟩; have n0_ := Aside0.mk (Kd.N_below (by (with_reducible repeat (first | apply Kd.N_alloc | apply Kd.N_drewN | apply Kd.N_drew)); exact (Kd.N_mono (Kd.N_far (p := ⟨gb198, 2, none⟩) (Kd.N_far (p := ⟨gb198, 1, none⟩) (Kd.N_far (p := ⟨gb198, 0, none⟩) (Kd.N_mono HO_4.out (fun k_ hk => (⟨hk, hk.2.2.2⟩ : _ ∧ k_ ≠ gb198))) (fun _ hk => hk.2) (.string t190)) (fun _ hk => hk.2) (.slice Ao20 t191.length co20)) (fun _ hk => hk.2) (.slice Ao22 t194.length co22)) (fun _ h_ => h_.1))) hb); have n1_ := Aside0.mk (Kd.N_below (by (with_reducible repeat (first | apply Kd.N_alloc | apply Kd.N_drewN | apply Kd.N_drew)); exact (Kd.N_mono (Kd.N_far (p := ⟨gb198, 2, none⟩) (Kd.N_far (p := ⟨gb198, 1, none⟩) (Kd.N_far (p := ⟨gb198, 0, none⟩) (Kd.N_mono HO_5.out (fun k_ hk => (⟨hk, hk.2.2.2⟩ : _ ∧ k_ ≠ gb198))) (fun _ hk => hk.2) (.string t190)) (fun _ hk => hk.2) (.slice Ao20 t191.length co20)) (fun _ hk => hk.2) (.slice Ao22 t194.length co22)) (fun _ h_ => h_.1))) hb); have n2_ := Aside0.mk (Kd.V_below (by (with_reducible repeat (first | apply Kd.V_alloc | apply Kd.V_drewN | apply Kd.V_drew)); exact (Kd.V_mono (Kd.V_far (p := ⟨gb198, 2, none⟩) (Kd.V_far (p := ⟨gb198, 1, none⟩) (Kd.V_far (p := ⟨gb198, 0, none⟩) (Kd.V_mono HO_186003.out (fun k_ hk => (⟨hk, hk.2.2.2.2⟩ : _ ∧ k_ ≠ gb198))) (fun _ hk => hk.2) (.string t190)) (fun _ hk => hk.2) (.slice Ao20 t191.length co20)) (fun _ hk => hk.2) (.slice Ao22 t194.length co22)) (fun _ h_ => h_.1))) hb); have n3_ := Aside0.mk (Kd.V_below (by (with_reducible repeat (first | apply Kd.V_alloc | apply Kd.V_drewN | apply Kd.V_drew)); exact (Kd.V_mono (Kd.V_far (p := ⟨gb198, 2, none⟩) (Kd.V_far (p := ⟨gb198, 1, none⟩) (Kd.V_far (p := ⟨gb198, 0, none⟩) (Kd.V_mono HO_186004.out (fun k_ hk => (⟨hk, hk.2.2.2.2⟩ : _ ∧ k_ ≠ gb198))) (fun _ hk => hk.2) (.string t190)) (fun _ hk => hk.2) (.slice Ao20 t191.length co20)) (fun _ hk => hk.2) (.slice Ao22 t194.length co22)) (fun _ h_ => h_.1))) hb); have n4_ := Aside0.mk (Kd.V_below (by (with_reducible repeat (first | apply Kd.V_alloc | apply Kd.V_drewN | apply Kd.V_drew)); exact (Kd.V_mono (Kd.V_far (p := ⟨gb198, 2, none⟩) (Kd.V_far (p := ⟨gb198, 1, none⟩) (Kd.V_far (p := ⟨gb198, 0, none⟩) (Kd.V_mono HL189_0.out (fun k_ hk => (⟨hk, hk.2.2.2.2⟩ : _ ∧ k_ ≠ gb198))) (fun _ hk => hk.2) (.string t190)) (fun _ hk => hk.2) (.slice Ao20 t191.length co20)) (fun _ hk => hk.2) (.slice Ao22 t194.length co22)) (fun _ h_ => h_.1))) hb); have n5_ := Aside0.mk (Kd.V_below (by (with_reducible repeat (first | apply Kd.V_alloc | apply Kd.V_drewN | apply Kd.V_drew)); exact (Kd.V_mono (Kd.V_far (p := ⟨gb198, 2, none⟩) (Kd.V_far (p := ⟨gb198, 1, none⟩) (Kd.V_far (p := ⟨gb198, 0, none⟩) (Kd.V_mono HO193.out (fun k_ hk => (⟨hk, hk.2.2.2.2⟩ : _ ∧ k_ ≠ gb198))) (fun _ hk => hk.2) (.string t190)) (fun _ hk => hk.2) (.slice Ao20 t191.length co20)) (fun _ hk => hk.2) (.slice Ao22 t194.length co22)) (fun _ h_ => h_.1))) hb); have n6_ := Aside0.mk (Kd.V_below (by (with_reducible repeat (first | apply Kd.V_alloc | apply Kd.V_drewN | apply Kd.V_drew)); exact (Kd.V_mono (Kd.V_far (p := ⟨gb198, 2, none⟩) (Kd.V_far (p := ⟨gb198, 1, none⟩) (Kd.V_far (p := ⟨gb198, 0, none⟩) (Kd.V_mono HO196.out (fun k_ hk => (⟨hk, hk.2.2.2.2⟩ : _ ∧ k_ ≠ gb198))) (fun _ hk => hk.2) (.string t190)) (fun _ hk => hk.2) (.slice Ao20 t191.length co20)) (fun _ hk => hk.2) (.slice Ao22 t194.length co22)) (fun _ h_ => h_.1))) hb); have n7_ := Aside0.mk (blk_below (g := gb185) (o := .cells #[.int .u32 a0_0, .slice A0_1 l0_1.length c0_1, .string a0_2, .slice A0_3 l0_3.length c0_3, .slice A0_4 l0_4.length c0_4] 43 (0, 0)) (by (with_reducible repeat (first | refine blk_drewN ?_ _ | refine blk_drew ?_ | refine blk_alloc ?_ _)); refine blk_far ?_ NB185_198.out _; (with_reducible repeat (first | refine blk_drewN ?_ _ | refine blk_drew ?_ | refine blk_alloc ?_ _)); refine blk_far ?_ NB185_198.out _; (with_reducible repeat (first | refine blk_drewN ?_ _ | refine blk_drew ?_ | refine blk_alloc ?_ _)); refine blk_far ?_ NB185_198.out _; (with_reducible repeat (first | refine blk_drewN ?_ _ | refine blk_drew ?_ | refine blk_alloc ?_ _)); exact BK185.out) hb); have n8_ := Aside0.mk (blk_below (g := gb198) (o := .cells #[.string t190, .slice Ao20 t191.length co20, .slice Ao22 t194.length co22] 39 (0, 0)) (by (with_reducible repeat (first | refine blk_drewN ?_ _ | refine blk_drew ?_ | refine blk_alloc ?_ _)); refine blk_put (cs := #[.string t190, .slice Ao20 t191.length co20, .slice none 0 0]) ?_ 2 _ rfl; (with_reducible repeat (first | refine blk_drewN ?_ _ | refine blk_drew ?_ | refine blk_alloc ?_ _)); refine blk_put (cs := #[.string t190, .slice none 0 0, .slice none 0 0]) ?_ 1 _ rfl; (with_reducible repeat (first | refine blk_drewN ?_ _ | refine blk_drew ?_ | refine blk_alloc ?_ _)); refine blk_put (cs := #[.string (⟨#[]⟩ : ByteArray), .slice none 0 0, .slice none 0 0]) ?_ 0 _ rfl; (with_reducible repeat (first | refine blk_drewN ?_ _ | refine blk_drew ?_ | refine blk_alloc ?_ _)); exact BK198.out) hb); have n9_ := Aside0.mk (below_step (by repeat (first | (with_reducible first | exact HB.out | apply below_alloc | apply pw_below_drewN | apply below_drew1 | refine below_set ?_ GE185.out | refine below_set ?_ GE198.out) | exact HB.out)) hb); clear HO_4; clear HO_5; clear HO_186003; clear HO_186004; clear HL189_0; clear HO193; clear HO196; clear BK185; clear BK198; clear HB; have HO_4 := n0_; have HO_5 := n1_; have HO_186003 := n2_; have HO_186004 := n3_; have HL189_0 := n4_; have HO193 := n5_; have HO196 := n6_; have BK185 := n7_; have BK198 := n8_; have HB := n9_; clear n0_ n1_ n2_ n3_ n4_ n5_ n6_ n7_ n8_ n9_; (try clear hb); (try clear hb2); (try clear hk); (try clear hi)))
                (try simp only [Act.put, List.setIfInBounds_toArray, List.set_cons_zero, List.set_cons_succ])
                go_cut [46] (fun v46 wc => ∃ (kq : Nat) (x46_13 : Bool), v46 = .bool x46_13 ∧ Aside0 (arboretref06_Index.j1 kq x4_1 t186 x18_1 t199 (t186.length : Int) x18_1 x46_13 a0_0 l0_1 a0_2 l0_3 l0_4 = some (r1, r2)) ∧ Aside0 (kq ≤ k1) ∧ Aside0 (Kd.N k83 83 wc w.heap.size (fun k_ => ((P0_3_ k_ ∨ P0_4_ k_) ∨ w.heap.size ≤ k_) ∧ some k_ ≠ ((.slice (some ad189) t186.length co6) : Value).ownBlock ∧ k_ ≠ gb185 ∧ k_ ≠ gb198) u4 x4_1) ∧ Aside0 (Kd.N (Kd.slice 3 (Kd.int .i64)) 65 wc w.heap.size (fun k_ => ((P0_3_ k_ ∨ P0_4_ k_) ∨ w.heap.size ≤ k_) ∧ some k_ ≠ (u4 : Value).ownBlock ∧ k_ ≠ gb185 ∧ k_ ≠ gb198) (.slice (some ad189) t186.length co6) t186) ∧ Aside0 (Kd.V k104 104 wc w.heap.size (fun k_ => ((P0_3_ k_ ∨ P0_4_ k_) ∨ w.heap.size ≤ k_) ∧ some k_ ≠ (u4 : Value).ownBlock ∧ some k_ ≠ ((.slice (some ad189) t186.length co6) : Value).ownBlock ∧ k_ ≠ gb185 ∧ k_ ≠ gb198) (.slice A0_3 l0_3.length c0_3) l0_3) ∧ Aside0 (Kd.V k39 39 wc w.heap.size (fun k_ => ((P0_3_ k_ ∨ P0_4_ k_) ∨ w.heap.size ≤ k_) ∧ some k_ ≠ (u4 : Value).ownBlock ∧ some k_ ≠ ((.slice (some ad189) t186.length co6) : Value).ownBlock ∧ k_ ≠ gb185 ∧ k_ ≠ gb198) (.slice A0_4 l0_4.length c0_4) l0_4) ∧ Aside0 (Kd.V k104 104 wc w.heap.size (fun k_ => ((P0_3_ k_ ∨ P0_4_ k_) ∨ w.heap.size ≤ k_) ∧ some k_ ≠ (u4 : Value).ownBlock ∧ some k_ ≠ ((.slice (some ad189) t186.length co6) : Value).ownBlock ∧ k_ ≠ gb185 ∧ k_ ≠ gb198) (.slice Ao20 t191.length co20) t191) ∧ Aside0 (Kd.V k39 39 wc w.heap.size (fun k_ => ((P0_3_ k_ ∨ P0_4_ k_) ∨ w.heap.size ≤ k_) ∧ some k_ ≠ (u4 : Value).ownBlock ∧ some k_ ≠ ((.slice (some ad189) t186.length co6) : Value).ownBlock ∧ k_ ≠ gb185 ∧ k_ ≠ gb198) (.slice Ao22 t194.length co22) t194) ∧ Aside0 (wc.heap[gb185]? = some (.cells #[.int .u32 a0_0, (.slice A0_1 l0_1.length c0_1), .string a0_2, (.slice A0_3 l0_3.length c0_3), (.slice A0_4 l0_4.length c0_4)] 43 (0, 0))) ∧ Aside0 (wc.heap[gb198]? = some (.cells #[.string t190, (.slice Ao20 t191.length co20), (.slice Ao22 t194.length co22)] 39 (0, 0))) ∧ Aside0 (Below w.heap.size w wc))
                case first =>
                  have H := HC14.out
                  clear HC14
                  by_cases c27 : t199 = 0
                  · rw [if_pos c27] at H
                    have c27b0 : (t199 == 0) = true := beq_iff_eq.mpr c27
                    have c27b1 : (t199 != 0) = false := bne_eq_false_iff_eq.mpr c27
                    clear c27
                    (first | rw [c27b0] | (simp only [i64_w, i32_w]; rw [c27b0]) | skip)
                    have H' := Aside0.mk H
                    clear H
                    go_wp2
                    go_meet
                    case rel => exact ⟨_, (true), (by first | rfl | (simp; done) | (simp [*]; done)), H', ⟨by have := HK1.out; first | omega | exact Nat.le_refl _⟩, ⟨by (with_reducible repeat (first | apply Kd.N_alloc | apply Kd.N_drewN | apply Kd.N_drew)); exact HO_4.out⟩, ⟨by (with_reducible repeat (first | apply Kd.N_alloc | apply Kd.N_drewN | apply Kd.N_drew)); exact HO_5.out⟩, ⟨by (with_reducible repeat (first | apply Kd.V_alloc | apply Kd.V_drewN | apply Kd.V_drew)); exact HO_186003.out⟩, ⟨by (with_reducible repeat (first | apply Kd.V_alloc | apply Kd.V_drewN | apply Kd.V_drew)); exact HO_186004.out⟩, ⟨by (with_reducible repeat (first | apply Kd.V_alloc | apply Kd.V_drewN | apply Kd.V_drew)); exact HO193.out⟩, ⟨by (with_reducible repeat (first | apply Kd.V_alloc | apply Kd.V_drewN | apply Kd.V_drew)); exact HO196.out⟩, ⟨by (with_reducible repeat (first | refine blk_drewN ?_ _ | refine blk_drew ?_ | refine blk_alloc ?_ _)); exact BK185.out⟩, ⟨by (with_reducible repeat (first | refine blk_drewN ?_ _ | refine blk_drew ?_ | refine blk_alloc ?_ _)); exact BK198.out⟩, ⟨by repeat (first | (with_reducible first | exact HB.out | apply below_alloc | apply pw_below_drewN | apply below_drew1 | refine below_set ?_ GE185.out | refine below_set ?_ GE198.out) | exact HB.out)⟩⟩
                  · rw [if_neg c27] at H
                    have c27b0 : (t199 == 0) = false := beq_eq_false_iff_ne.mpr c27
                    have c27b1 : (t199 != 0) = true := bne_iff_ne.mpr c27
                    (first | rw [c27b0] | (simp only [i64_w, i32_w]; rw [c27b0]) | skip)
                    have H' := Aside0.mk H
                    clear H
                    go_wp2
                    go_meet
                    case rel => exact ⟨_, ((t199 == 4294967295)), (by first | rfl | (simp; done) | (simp [*]; done)), H', ⟨by have := HK1.out; first | omega | exact Nat.le_refl _⟩, ⟨by (with_reducible repeat (first | apply Kd.N_alloc | apply Kd.N_drewN | apply Kd.N_drew)); exact HO_4.out⟩, ⟨by (with_reducible repeat (first | apply Kd.N_alloc | apply Kd.N_drewN | apply Kd.N_drew)); exact HO_5.out⟩, ⟨by (with_reducible repeat (first | apply Kd.V_alloc | apply Kd.V_drewN | apply Kd.V_drew)); exact HO_186003.out⟩, ⟨by (with_reducible repeat (first | apply Kd.V_alloc | apply Kd.V_drewN | apply Kd.V_drew)); exact HO_186004.out⟩, ⟨by (with_reducible repeat (first | apply Kd.V_alloc | apply Kd.V_drewN | apply Kd.V_drew)); exact HO193.out⟩, ⟨by (with_reducible repeat (first | apply Kd.V_alloc | apply Kd.V_drewN | apply Kd.V_drew)); exact HO196.out⟩, ⟨by (with_reducible repeat (first | refine blk_drewN ?_ _ | refine blk_drew ?_ | refine blk_alloc ?_ _)); exact BK185.out⟩, ⟨by (with_reducible repeat (first | refine blk_drewN ?_ _ | refine blk_drew ?_ | refine blk_alloc ?_ _)); exact BK198.out⟩, ⟨by repeat (first | (with_reducible first | exact HB.out | apply below_alloc | apply pw_below_drewN | apply below_drew1 | refine below_set ?_ GE185.out | refine below_set ?_ GE198.out) | exact HB.out)⟩⟩
                case rest =>
                  clear HC14
                  try clear c1
                  try clear p1
                  try clear q1
                  try clear hx1
                  try clear c2
                  try clear p2
                  try clear c3
                  try clear c6
                  try clear p6
                  try clear c7
                  try clear c7b0
                  try clear c8
                  try clear c8b0
                  try clear c9
                  try clear c9b0
                  try clear c12
                  try clear c12b0
                  try clear c12b1
                  try clear c13
                  try clear c18
                  try clear p18
                  try clear q18
                  try clear hx18
                  try clear c23
                  try clear c24
                  try clear c27
                  try clear c27b0
                  try clear c27b1
                  try clear hcz25_0
                  try clear hcz25_1
                  try clear hcz25_2
                  try clear hcz4_0
                  try clear hcz4_1
                  try clear hcz4_2
                  try clear hcz4_3
                  try clear hcz4_4
                  try clear hfz25_0
                  try clear hfz25_1
                  try clear hfz25_2
                  try clear hfz4_0
                  try clear hfz4_1
                  try clear hfz4_2
                  try clear hfz4_3
                  try clear hfz4_4
                  try clear hx189_0
                  try clear p189
                  try clear p2
                  try clear q189
                  obtain ⟨kq, x46_13, rfl, HA, HJ13, HO_4, HO_5, HO_186003, HO_186004, HO_199001, HO_199002, BK185, BK198, HB⟩ := hcut
                  cases kq with
                  | zero => exact absurd HA.out (by simp [arboretref06_Index.j1])
                  | succ kj13 =>
                    have H := HA.out
                    clear HA
                    simp only [arboretref06_Index.j1] at H
                    by_cases c28 : x46_13 = true
                    · subst c28
                      have H1 : (some (([] : List (S83)), 11)) = some (r1, r2) := by rw [if_pos rfl] at H; exact H
                      clear H
                      have H := H1
                      clear H1
                      simp only [Option.some.injEq, Prod.mk.injEq] at H
                      obtain ⟨rfl, rfl⟩ := H
                      go_wp2
                      go_ret2
                      exact ⟨_, by first | rfl | (simp [errW_none, errW_some] <;> rfl) | (simp [*, errW_none, errW_some] <;> rfl), by first | exact Kd.S_nil _ _ _ _ _ | exact Kd.N_nil _ _ _ _ _ | exact Kd.V_nil _ _ _ _ _ | exact Kd.Q_nil _ _ _ _ _ | exact Kd.R_nil _ _ _ _ _, by repeat (first | (with_reducible first | exact HB.out | apply below_alloc | apply pw_below_drewN | apply below_drew1 | refine below_set ?_ GE185.out | refine below_set ?_ GE198.out) | exact HB.out)⟩
                    · replace c28 := Bool.eq_false_iff.mpr c28
                      subst c28
                      have H1 : (arboretref06_Index.l1 kj13 x4_1 t186 x18_1 t199 (t186.length : Int) x18_1 (x4_1.length : Int) 0 a0_0 l0_1 a0_2 l0_3 l0_4) = some (r1, r2) := by rw [if_neg (show ¬ (false = true) by decide)] at H; exact H
                      clear H
                      have H := H1
                      clear H1
                      have H' := Aside0.mk H
                      clear H
                      obtain ⟨Ao29, co29, eo29⟩ := Kd.N_slice HO_4.out
                      subst eo29
                      go_wp2
                      go_loopg [49] kj13 (fun kq v49 w' => ∃ (x49_3 : Int), v49 = .int .i64 x49_3 ∧ Aside0 (arboretref06_Index.l1 kq x4_1 t186 x18_1 t199 (t186.length : Int) x18_1 (x4_1.length : Int) x49_3 a0_0 l0_1 a0_2 l0_3 l0_4 = some (r1, r2)) ∧ Aside0 (kq ≤ kj13) ∧ Aside0 (Kd.N k83 83 w' w.heap.size (fun k_ => ((P0_3_ k_ ∨ P0_4_ k_) ∨ w.heap.size ≤ k_) ∧ some k_ ≠ ((.slice (some ad189) t186.length co6) : Value).ownBlock ∧ k_ ≠ gb185 ∧ k_ ≠ gb198) (.slice Ao29 x4_1.length co29) x4_1) ∧ Aside0 (Kd.N (Kd.slice 3 (Kd.int .i64)) 65 w' w.heap.size (fun k_ => ((P0_3_ k_ ∨ P0_4_ k_) ∨ w.heap.size ≤ k_) ∧ some k_ ≠ ((.slice Ao29 x4_1.length co29) : Value).ownBlock ∧ k_ ≠ gb185 ∧ k_ ≠ gb198) (.slice (some ad189) t186.length co6) t186) ∧ Aside0 (Kd.V k104 104 w' w.heap.size (fun k_ => ((P0_3_ k_ ∨ P0_4_ k_) ∨ w.heap.size ≤ k_) ∧ some k_ ≠ ((.slice Ao29 x4_1.length co29) : Value).ownBlock ∧ some k_ ≠ ((.slice (some ad189) t186.length co6) : Value).ownBlock ∧ k_ ≠ gb185 ∧ k_ ≠ gb198) (.slice A0_3 l0_3.length c0_3) l0_3) ∧ Aside0 (Kd.V k39 39 w' w.heap.size (fun k_ => ((P0_3_ k_ ∨ P0_4_ k_) ∨ w.heap.size ≤ k_) ∧ some k_ ≠ ((.slice Ao29 x4_1.length co29) : Value).ownBlock ∧ some k_ ≠ ((.slice (some ad189) t186.length co6) : Value).ownBlock ∧ k_ ≠ gb185 ∧ k_ ≠ gb198) (.slice A0_4 l0_4.length c0_4) l0_4) ∧ Aside0 (Kd.V k104 104 w' w.heap.size (fun k_ => ((P0_3_ k_ ∨ P0_4_ k_) ∨ w.heap.size ≤ k_) ∧ some k_ ≠ ((.slice Ao29 x4_1.length co29) : Value).ownBlock ∧ some k_ ≠ ((.slice (some ad189) t186.length co6) : Value).ownBlock ∧ k_ ≠ gb185 ∧ k_ ≠ gb198) (.slice Ao20 t191.length co20) t191) ∧ Aside0 (Kd.V k39 39 w' w.heap.size (fun k_ => ((P0_3_ k_ ∨ P0_4_ k_) ∨ w.heap.size ≤ k_) ∧ some k_ ≠ ((.slice Ao29 x4_1.length co29) : Value).ownBlock ∧ some k_ ≠ ((.slice (some ad189) t186.length co6) : Value).ownBlock ∧ k_ ≠ gb185 ∧ k_ ≠ gb198) (.slice Ao22 t194.length co22) t194) ∧ Aside0 (w'.heap[gb185]? = some (.cells #[.int .u32 a0_0, (.slice A0_1 l0_1.length c0_1), .string a0_2, (.slice A0_3 l0_3.length c0_3), (.slice A0_4 l0_4.length c0_4)] 43 (0, 0))) ∧ Aside0 (w'.heap[gb198]? = some (.cells #[.string t190, (.slice Ao20 t191.length co20), (.slice Ao22 t194.length co22)] 39 (0, 0))) ∧ Aside0 (Below w.heap.size w w'))
                      case atStart => exact ⟨(0), (by first | rfl | (simp; done) | (simp [*]; done)), H', ⟨Nat.le_refl _⟩, ⟨by (with_reducible repeat (first | apply Kd.N_alloc | apply Kd.N_drewN | apply Kd.N_drew)); exact HO_4.out⟩, ⟨by (with_reducible repeat (first | apply Kd.N_alloc | apply Kd.N_drewN | apply Kd.N_drew)); exact HO_5.out⟩, ⟨by (with_reducible repeat (first | apply Kd.V_alloc | apply Kd.V_drewN | apply Kd.V_drew)); exact HO_186003.out⟩, ⟨by (with_reducible repeat (first | apply Kd.V_alloc | apply Kd.V_drewN | apply Kd.V_drew)); exact HO_186004.out⟩, ⟨by (with_reducible repeat (first | apply Kd.V_alloc | apply Kd.V_drewN | apply Kd.V_drew)); exact HO_199001.out⟩, ⟨by (with_reducible repeat (first | apply Kd.V_alloc | apply Kd.V_drewN | apply Kd.V_drew)); exact HO_199002.out⟩, ⟨by (with_reducible repeat (first | refine blk_drewN ?_ _ | refine blk_drew ?_ | refine blk_alloc ?_ _)); exact BK185.out⟩, ⟨by (with_reducible repeat (first | refine blk_drewN ?_ _ | refine blk_drew ?_ | refine blk_alloc ?_ _)); exact BK198.out⟩, ⟨by repeat (first | (with_reducible first | exact HB.out | apply below_alloc | apply pw_below_drewN | apply below_drew1 | refine below_set ?_ GE185.out | refine below_set ?_ GE198.out) | exact HB.out)⟩⟩
                      case round =>
                        clear H'
                        try clear c1
                        try clear p1
                        try clear q1
                        try clear hx1
                        try clear c2
                        try clear p2
                        try clear c3
                        try clear c6
                        try clear p6
                        try clear c7
                        try clear c7b0
                        try clear c8
                        try clear c8b0
                        try clear c9
                        try clear c9b0
                        try clear c12
                        try clear c12b0
                        try clear c12b1
                        try clear c13
                        try clear c18
                        try clear p18
                        try clear q18
                        try clear hx18
                        try clear c23
                        try clear c24
                        try clear c27
                        try clear c27b0
                        try clear c27b1
                        try clear c28
                        try clear hcz25_0
                        try clear hcz25_1
                        try clear hcz25_2
                        try clear hcz4_0
                        try clear hcz4_1
                        try clear hcz4_2
                        try clear hcz4_3
                        try clear hcz4_4
                        try clear hfz25_0
                        try clear hfz25_1
                        try clear hfz25_2
                        try clear hfz4_0
                        try clear hfz4_1
                        try clear hfz4_2
                        try clear hfz4_3
                        try clear hfz4_4
                        try clear hx189_0
                        try clear p1
                        try clear p18
                        try clear p189
                        try clear p2
                        try clear p6
                        try clear q1
                        try clear q18
                        try clear q189
                        obtain ⟨x49_3, rfl, HA, HK3, HO_4, HO_5, HO_186003, HO_186004, HO_199001, HO_199002, BK185, BK198, HB⟩ := hrel
                        cases gk with
                        | zero => exact absurd HA.out (by simp [arboretref06_Index.l1])
                        | succ k3 =>
                          have H := HA.out
                          clear HA
                          simp only [arboretref06_Index.l1] at H
                          by_cases c30 : x49_3 < (x4_1.length : Int)
                          · rw [if_pos c30] at H
                            have c30b0 : decide (x49_3 < (x4_1.length : Int)) = true := decide_eq_true c30
                            clear c30
                            by_cases c31 : 0 ≤ x49_3
                            · rw [if_pos c31] at H
                              have c31b0 : decide (0 ≤ x49_3) = true := decide_eq_true c31
                              clear c31
                              by_cases c32 : x49_3 < (x4_1.length : Int)
                              · rw [if_pos c32] at H
                                have c32b0 : decide (x49_3 < (x4_1.length : Int)) = true := decide_eq_true c32
                                clear c32
                                by_cases c33 : ((rd_T83 x4_1 x49_3).f0) = t199
                                · rw [if_pos c33] at H
                                  have c33b0 : (((rd_T83 x4_1 x49_3).f0) == t199) = true := beq_iff_eq.mpr c33
                                  have c33b1 : (((rd_T83 x4_1 x49_3).f0) != t199) = false := bne_eq_false_iff_eq.mpr c33
                                  clear c33
                                  simp only [Option.some.injEq, Prod.mk.injEq] at H
                                  obtain ⟨rfl, rfl⟩ := H
                                  have p202 : 0 ≤ (x49_3 : Int) := of_decide_eq_true (by first | (with_reducible assumption) | assumption)
                                  have q202 : x49_3 < (x4_1.length : Int) := of_decide_eq_true (by first | (with_reducible assumption) | assumption)
                                  obtain ⟨ad202, A202_1, c202_1, e202, hx202_0, hx202_1, hl202_1, hi202_1⟩ := at_T83 (Kd.N_reads' HO_4.out).2.2 x49_3 p202 q202
                                  cases e202
                                  obtain ⟨ce202, hce202, hMe202, hcc202⟩ := Kd.N_get HO_4.out z83 x49_3 p202 (by first | exact q202 | exact of_decide_eq_true (by first | (with_reducible assumption) | assumption) | (have e_ := (Kd.N_reads' HO_4.out).1; omega))
                                  obtain ⟨ua202_1, uc202_1, rfl, ul202_1, ge202_1⟩ := k83_openF hMe202
                                  have hv202_1 := hcc202 1 _ rfl
                                  rw [add_field _ _ 1 (by omega)] at hv202_1
                                  replace hv202_1 := Option.some.inj (hv202_1.symm.trans hx202_1)
                                  injection hv202_1 with hva_ hvn_ hvc_
                                  rw [hva_] at ge202_1
                                  rw [hvc_] at ul202_1
                                  have HL202_1 := Aside0.mk (show Kd.V (Kd.int .i64) 3 _ w.heap.size _ _ ((rd_T83 x4_1 x49_3).f1) from Kd.V_mk ul202_1 ge202_1)
                                  clear hva_ hvn_ hvc_ ge202_1 ul202_1
                                  clear hcc202 hce202
                                  have HR202_1 := Aside0.mk hi202_1
                                  have HC202_1 := Aside0.mk hl202_1
                                  clear hi202_1 hl202_1
                                  replace p202 := eq_true p202
                                  replace q202 := eq_true q202
                                  go_wp2
                                  go_ret2
                                  exact ⟨_, by first | rfl | (simp [errW_none, errW_some] <;> rfl) | (simp [*, errW_none, errW_some] <;> rfl), by first | exact Kd.S_nil _ _ _ _ _ | exact Kd.N_nil _ _ _ _ _ | exact Kd.V_nil _ _ _ _ _ | exact Kd.Q_nil _ _ _ _ _ | exact Kd.R_nil _ _ _ _ _, by repeat (first | (with_reducible first | exact HB.out | apply below_alloc | apply pw_below_drewN | apply below_drew1 | refine below_set ?_ GE185.out | refine below_set ?_ GE198.out) | exact HB.out)⟩
                                · rw [if_neg c33] at H
                                  have c33b0 : (((rd_T83 x4_1 x49_3).f0) == t199) = false := beq_eq_false_iff_ne.mpr c33
                                  have c33b1 : (((rd_T83 x4_1 x49_3).f0) != t199) = true := bne_iff_ne.mpr c33
                                  have H' := Aside0.mk H
                                  clear H
                                  have p202 : 0 ≤ (x49_3 : Int) := of_decide_eq_true (by first | (with_reducible assumption) | assumption)
                                  have q202 : x49_3 < (x4_1.length : Int) := of_decide_eq_true (by first | (with_reducible assumption) | assumption)
                                  obtain ⟨ad202, A202_1, c202_1, e202, hx202_0, hx202_1, hl202_1, hi202_1⟩ := at_T83 (Kd.N_reads' HO_4.out).2.2 x49_3 p202 q202
                                  cases e202
                                  obtain ⟨ce202, hce202, hMe202, hcc202⟩ := Kd.N_get HO_4.out z83 x49_3 p202 (by first | exact q202 | exact of_decide_eq_true (by first | (with_reducible assumption) | assumption) | (have e_ := (Kd.N_reads' HO_4.out).1; omega))
                                  obtain ⟨ua202_1, uc202_1, rfl, ul202_1, ge202_1⟩ := k83_openF hMe202
                                  have hv202_1 := hcc202 1 _ rfl
                                  rw [add_field _ _ 1 (by omega)] at hv202_1
                                  replace hv202_1 := Option.some.inj (hv202_1.symm.trans hx202_1)
                                  injection hv202_1 with hva_ hvn_ hvc_
                                  rw [hva_] at ge202_1
                                  rw [hvc_] at ul202_1
                                  have HL202_1 := Aside0.mk (show Kd.V (Kd.int .i64) 3 _ w.heap.size _ _ ((rd_T83 x4_1 x49_3).f1) from Kd.V_mk ul202_1 ge202_1)
                                  clear hva_ hvn_ hvc_ ge202_1 ul202_1
                                  clear hcc202 hce202
                                  have HR202_1 := Aside0.mk hi202_1
                                  have HC202_1 := Aside0.mk hl202_1
                                  clear hi202_1 hl202_1
                                  replace p202 := eq_true p202
                                  replace q202 := eq_true q202
                                  go_wp2
                                  go_roundg k3
                                  case measure => have := HK1.out; have := HJ13.out; have := HK3.out; omega
                                  case rel => exact ⟨(wrap64 (x49_3 + 1)), (by first | rfl | (simp; done) | (simp [*]; done)), H', ⟨by have := HK1.out; have := HJ13.out; have := HK3.out; omega⟩, ⟨by (with_reducible repeat (first | apply Kd.N_alloc | apply Kd.N_drewN | apply Kd.N_drew)); exact HO_4.out⟩, ⟨by (with_reducible repeat (first | apply Kd.N_alloc | apply Kd.N_drewN | apply Kd.N_drew)); exact HO_5.out⟩, ⟨by (with_reducible repeat (first | apply Kd.V_alloc | apply Kd.V_drewN | apply Kd.V_drew)); exact HO_186003.out⟩, ⟨by (with_reducible repeat (first | apply Kd.V_alloc | apply Kd.V_drewN | apply Kd.V_drew)); exact HO_186004.out⟩, ⟨by (with_reducible repeat (first | apply Kd.V_alloc | apply Kd.V_drewN | apply Kd.V_drew)); exact HO_199001.out⟩, ⟨by (with_reducible repeat (first | apply Kd.V_alloc | apply Kd.V_drewN | apply Kd.V_drew)); exact HO_199002.out⟩, ⟨by (with_reducible repeat (first | refine blk_drewN ?_ _ | refine blk_drew ?_ | refine blk_alloc ?_ _)); exact BK185.out⟩, ⟨by (with_reducible repeat (first | refine blk_drewN ?_ _ | refine blk_drew ?_ | refine blk_alloc ?_ _)); exact BK198.out⟩, ⟨by repeat (first | (with_reducible first | exact HB.out | apply below_alloc | apply pw_below_drewN | apply below_drew1 | refine below_set ?_ GE185.out | refine below_set ?_ GE198.out) | exact HB.out)⟩⟩
                              · rw [if_neg c32] at H
                                exact absurd H (by simp)
                            · rw [if_neg c31] at H
                              exact absurd H (by simp)
                          · rw [if_neg c30] at H
                            have c30b0 : decide (x49_3 < (x4_1.length : Int)) = false := decide_eq_false c30
                            clear c30
                            by_cases c34 : 0 ≤ x18_1
                            · rw [if_pos c34] at H
                              have c34b0 : decide (0 ≤ x18_1) = true := decide_eq_true c34
                              clear c34
                              by_cases c35 : x18_1 < (t186.length : Int)
                              · rw [if_pos c35] at H
                                have c35b0 : decide (x18_1 < (t186.length : Int)) = true := decide_eq_true c35
                                clear c35
                                by_cases c36 : x4_1.length < 4398046511104
                                · rw [if_pos c36] at H
                                  have LMc36 := Aside0.mk c36
                                  clear c36
                                  obtain ⟨y204, hy204⟩ : ∃ y_ : List (S83), y_ = (x4_1 ++ [(⟨t199, rd_L13 t186 x18_1⟩ : S83)]) := ⟨_, rfl⟩
                                  replace H : (arboretref06_Index.l0 k3 y204 t186 (t186.length : Int) (wrap64 (x18_1 + 1)) a0_0 l0_1 a0_2 l0_3 l0_4) = some (r1, r2) := by first | (rw [hy204]; with_reducible exact H) | (have H2_ := (Option.bind_some _ _).symm.trans H; rw [hy204]; with_reducible exact H2_) | (have H2_ := (Option.bind_some _ _).symm.trans H; with_reducible exact H2_) | with_reducible exact H | (rw [hy204]; exact H) | exact H
                                  have Ny204 := Aside0.mk hy204
                                  clear hy204
                                  have H' := Aside0.mk H
                                  clear H
                                  have p203 : 0 ≤ (x18_1 : Int) := of_decide_eq_true (by first | (with_reducible assumption) | assumption)
                                  have q203 : x18_1 < (t186.length : Int) := of_decide_eq_true (by first | (with_reducible assumption) | assumption)
                                  obtain ⟨ad203, A203_0, c203_0, e203, hx203_0, hl203_0, hi203_0⟩ := at_L13 (Kd.N_reads' HO_5.out).2.2 x18_1 p203 q203
                                  obtain rfl : ad189 = ad203 := (by injection e203)
                                  obtain ⟨ce203, hce203, hMe203, hcc203⟩ := Kd.N_get HO_5.out [] x18_1 p203 (by first | exact q203 | exact of_decide_eq_true (by first | (with_reducible assumption) | assumption) | (have e_ := (Kd.N_reads' HO_5.out).1; omega))
                                  obtain ⟨ua203_0, uc203_0, rfl, ul203_0, ge203_0⟩ := Kd.FK_slice_open hMe203
                                  have hv203_0 := hcc203 0 _ rfl
                                  rw [Nat.add_zero, show ((Kd.slice 3 (Kd.int .i64))).sz = 1 from rfl, Nat.mul_one] at hv203_0
                                  replace hv203_0 := Option.some.inj (hv203_0.symm.trans hx203_0)
                                  injection hv203_0 with hva_ hvn_ hvc_
                                  rw [hva_] at ge203_0
                                  rw [hvc_] at ul203_0
                                  have HL203_0 := Aside0.mk (show Kd.V (Kd.int .i64) 3 _ w.heap.size _ _ (rd_L13 t186 x18_1) from Kd.V_mk ul203_0 ge203_0)
                                  clear hva_ hvn_ hvc_ ge203_0 ul203_0
                                  clear hcc203 hce203
                                  have HR203_0 := Aside0.mk hi203_0
                                  have HC203_0 := Aside0.mk hl203_0
                                  clear hi203_0 hl203_0
                                  replace p203 := eq_true p203
                                  replace q203 := eq_true q203
                                  go_wp2_with (first | ((with_reducible refine gate_builtin (b := .append) (xs := #[.tmp 60, .tmp 67]) rfl ?_); at_builtin; refine Kd.N_append k83 (w0 := w) w.heap.size rfl (.tmp 60) (.tmp 67) 68 83 (.agg #[(.int .u32 0), (.slice none 0 0)]) 32 rfl Try.underlying68 info83 rfl (by decide) (by omega) (.slice Ao29 x4_1.length co29) x4_1 (⟨t199, rd_L13 t186 x18_1⟩ : S83) [.int .u32 t199, .slice A203_0 (rd_L13 t186 x18_1).length c203_0] (fun k_ => ((P0_3_ k_ ∨ P0_4_ k_) ∨ w.heap.size ≤ k_) ∧ some k_ ≠ (.slice (some ad189) t186.length co6 : Value).ownBlock ∧ k_ ≠ gb185 ∧ k_ ≠ gb198) (fun k_ => ((fun k_ => ((P0_3_ k_ ∨ P0_4_ k_) ∨ w.heap.size ≤ k_) ∧ some k_ ≠ (.slice (some ad189) t186.length co6 : Value).ownBlock ∧ k_ ≠ gb185 ∧ k_ ≠ gb198)) k_ ∧ some k_ ≠ (.slice Ao29 x4_1.length co29 : Value).ownBlock) rfl rfl ?aP (fun _ hk => hk) ?aF ?aO ?aB ?aS ?aL ?_; (case aP => exact (k83_mkF _ _ (⟨t199, rd_L13 t186 x18_1⟩ : S83) (Kd.V_reads' (Kd.V_mono (ok' := (fun k_ => ((fun k_ => ((P0_3_ k_ ∨ P0_4_ k_) ∨ w.heap.size ≤ k_) ∧ some k_ ≠ (.slice (some ad189) t186.length co6 : Value).ownBlock ∧ k_ ≠ gb185 ∧ k_ ≠ gb198)) k_ ∧ some k_ ≠ (.slice Ao29 x4_1.length co29 : Value).ownBlock)) (HL203_0.out) (fun k_ hk => ⟨⟨hk.1.1, ⟨hk.2, ⟨hk.1.2.2.1, hk.1.2.2.2⟩⟩⟩, hk.1.2.1⟩))).2.1 (Kd.V_F (Kd.V_mono (ok' := (fun k_ => ((fun k_ => ((P0_3_ k_ ∨ P0_4_ k_) ∨ w.heap.size ≤ k_) ∧ some k_ ≠ (.slice (some ad189) t186.length co6 : Value).ownBlock ∧ k_ ≠ gb185 ∧ k_ ≠ gb198)) k_ ∧ some k_ ≠ (.slice Ao29 x4_1.length co29 : Value).ownBlock)) (HL203_0.out) (fun k_ hk => ⟨⟨hk.1.1, ⟨hk.2, ⟨hk.1.2.2.1, hk.1.2.2.2⟩⟩⟩, hk.1.2.1⟩))))); (case aB => exact (by repeat (first | (with_reducible first | exact HB.out | apply below_alloc | apply pw_below_drewN | apply below_drew1 | refine below_set ?_ GE185.out | refine below_set ?_ GE198.out) | exact HB.out))); (case aF => exact (fun k_ hk => ⟨(.inr (Nat.le_trans (below_size (by repeat (first | (with_reducible first | exact HB.out | apply below_alloc | apply pw_below_drewN | apply below_drew1 | refine below_set ?_ GE185.out | refine below_set ?_ GE198.out) | exact HB.out))) hk)), Kd.fresh' (Kd.N_lt (by (with_reducible repeat (first | apply Kd.N_alloc | apply Kd.N_drewN | apply Kd.N_drew)); exact HO_5.out)) k_ hk, Kd.freshB (g := gb185) (o := .cells #[.int .u32 a0_0, .slice A0_1 l0_1.length c0_1, .string a0_2, .slice A0_3 l0_3.length c0_3, .slice A0_4 l0_4.length c0_4] 43 (0, 0)) (by (with_reducible repeat (first | refine blk_drewN ?_ _ | refine blk_drew ?_ | refine blk_alloc ?_ _)); exact BK185.out) k_ hk, Kd.freshB (g := gb198) (o := .cells #[.string t190, .slice Ao20 t191.length co20, .slice Ao22 t194.length co22] 39 (0, 0)) (by (with_reducible repeat (first | refine blk_drewN ?_ _ | refine blk_drew ?_ | refine blk_alloc ?_ _)); exact BK198.out) k_ hk⟩)); (case aO => exact (by (with_reducible repeat (first | apply Kd.N_alloc | apply Kd.N_drewN | apply Kd.N_drew)); exact HO_4.out)); (case aS => exact (below_size (by repeat (first | (with_reducible first | exact HB.out | apply below_alloc | apply pw_below_drewN | apply below_drew1 | refine below_set ?_ GE185.out | refine below_set ?_ GE198.out) | exact HB.out)))); (case aL => have := LMc36.out; omega); intro v205 w37 ho hb hg hat; rw [← Ny204.out] at ho; have n0_ := Aside0.mk (Kd.N_afterv (ok := (fun k_ => ((P0_3_ k_ ∨ P0_4_ k_) ∨ w.heap.size ≤ k_) ∧ k_ ≠ gb185 ∧ k_ ≠ gb198)) (by (with_reducible repeat (first | apply Kd.N_alloc | apply Kd.N_drewN | apply Kd.N_drew)); exact Kd.N_mono HO_5.out (fun _ hk => ⟨⟨hk.1, ⟨hk.2.2.1, hk.2.2.2⟩⟩, hk.2.1⟩)) hg hat); have n1_ := Aside0.mk (Kd.V_afterv (ok := (fun k_ => ((P0_3_ k_ ∨ P0_4_ k_) ∨ w.heap.size ≤ k_) ∧ some k_ ≠ (.slice (some ad189) t186.length co6 : Value).ownBlock ∧ k_ ≠ gb185 ∧ k_ ≠ gb198)) (by (with_reducible repeat (first | apply Kd.V_alloc | apply Kd.V_drewN | apply Kd.V_drew)); exact Kd.V_mono HO_186003.out (fun _ hk => ⟨⟨hk.1, ⟨hk.2.2.1, ⟨hk.2.2.2.1, hk.2.2.2.2⟩⟩⟩, hk.2.1⟩)) hg hat); have n2_ := Aside0.mk (Kd.V_afterv (ok := (fun k_ => ((P0_3_ k_ ∨ P0_4_ k_) ∨ w.heap.size ≤ k_) ∧ some k_ ≠ (.slice (some ad189) t186.length co6 : Value).ownBlock ∧ k_ ≠ gb185 ∧ k_ ≠ gb198)) (by (with_reducible repeat (first | apply Kd.V_alloc | apply Kd.V_drewN | apply Kd.V_drew)); exact Kd.V_mono HO_186004.out (fun _ hk => ⟨⟨hk.1, ⟨hk.2.2.1, ⟨hk.2.2.2.1, hk.2.2.2.2⟩⟩⟩, hk.2.1⟩)) hg hat); have n3_ := Aside0.mk (Kd.V_afterv (ok := (fun k_ => ((P0_3_ k_ ∨ P0_4_ k_) ∨ w.heap.size ≤ k_) ∧ some k_ ≠ (.slice (some ad189) t186.length co6 : Value).ownBlock ∧ k_ ≠ gb185 ∧ k_ ≠ gb198)) (by (with_reducible repeat (first | apply Kd.V_alloc | apply Kd.V_drewN | apply Kd.V_drew)); exact Kd.V_mono HO_199001.out (fun _ hk => ⟨⟨hk.1, ⟨hk.2.2.1, ⟨hk.2.2.2.1, hk.2.2.2.2⟩⟩⟩, hk.2.1⟩)) hg hat); have n4_ := Aside0.mk (Kd.V_afterv (ok := (fun k_ => ((P0_3_ k_ ∨ P0_4_ k_) ∨ w.heap.size ≤ k_) ∧ some k_ ≠ (.slice (some ad189) t186.length co6 : Value).ownBlock ∧ k_ ≠ gb185 ∧ k_ ≠ gb198)) (by (with_reducible repeat (first | apply Kd.V_alloc | apply Kd.V_drewN | apply Kd.V_drew)); exact Kd.V_mono HO_199002.out (fun _ hk => ⟨⟨hk.1, ⟨hk.2.2.1, ⟨hk.2.2.2.1, hk.2.2.2.2⟩⟩⟩, hk.2.1⟩)) hg hat); have n5_ := Aside0.mk (blk_grown (g := gb185) (o := .cells #[.int .u32 a0_0, .slice A0_1 l0_1.length c0_1, .string a0_2, .slice A0_3 l0_3.length c0_3, .slice A0_4 l0_4.length c0_4] 43 (0, 0)) (by (with_reducible repeat (first | refine blk_drewN ?_ _ | refine blk_drew ?_ | refine blk_alloc ?_ _)); exact BK185.out) hg (Kd.N_ne HO_4.out BK185.out (by decide))); have n6_ := Aside0.mk (blk_grown (g := gb198) (o := .cells #[.string t190, .slice Ao20 t191.length co20, .slice Ao22 t194.length co22] 39 (0, 0)) (by (with_reducible repeat (first | refine blk_drewN ?_ _ | refine blk_drew ?_ | refine blk_alloc ?_ _)); exact BK198.out) hg (Kd.N_ne HO_4.out BK198.out (by decide))); have n7_ := Aside0.mk (Kd.V_afterv (ok := (fun k_ => ((P0_3_ k_ ∨ P0_4_ k_) ∨ w.heap.size ≤ k_) ∧ some k_ ≠ (.slice (some ad189) t186.length co6 : Value).ownBlock ∧ k_ ≠ gb185 ∧ k_ ≠ gb198)) (by (with_reducible repeat (first | apply Kd.V_alloc | apply Kd.V_drewN | apply Kd.V_drew)); exact Kd.V_mono HL203_0.out (fun _ hk => ⟨⟨hk.1.1, ⟨hk.2, ⟨hk.1.2.2.1, hk.1.2.2.2⟩⟩⟩, hk.1.2.1⟩)) hg hat); have n8_ := Aside0.mk (hb); have n9_ := Aside0.mk (ho); clear HO_5; clear HO_186003; clear HO_186004; clear HO_199001; clear HO_199002; clear BK185; clear BK198; clear HL203_0; clear HB; clear HO_4; have HO_5 := n0_; have HO_186003 := n1_; have HO_186004 := n2_; have HO_199001 := n3_; have HO_199002 := n4_; have BK185 := n5_; have BK198 := n6_; have HL203_0 := n7_; have HB := n8_; have HO206 := n9_; clear n0_ n1_ n2_ n3_ n4_ n5_ n6_ n7_ n8_ n9_; clear ho hb hg hat))
                                  go_roundg k3
                                  case measure => have := HK1.out; have := HJ13.out; have := HK3.out; omega
                                  case rel => exact ⟨(y204), (wrap64 (x18_1 + 1)), (by first | rfl | (simp; done) | (simp [*]; done)), H', ⟨by have := HK1.out; have := HJ13.out; have := HK3.out; omega⟩, ⟨by (with_reducible repeat (first | apply Kd.N_alloc | apply Kd.N_drewN | apply Kd.N_drew)); exact Kd.N_mono HO206.out (fun _ hk => ⟨hk.1, ⟨hk.2.1, hk.2.2.1⟩⟩)⟩, ⟨by (with_reducible repeat (first | apply Kd.N_alloc | apply Kd.N_drewN | apply Kd.N_drew)); exact Kd.N_mono HO_5.out (fun _ hk => ⟨hk.1.1, ⟨hk.2, hk.1.2.1⟩⟩)⟩, ⟨by (with_reducible repeat (first | apply Kd.V_alloc | apply Kd.V_drewN | apply Kd.V_drew)); exact Kd.V_mono HO_186003.out (fun _ hk => ⟨hk.1.1, ⟨hk.2, ⟨hk.1.2.1, hk.1.2.2.1⟩⟩⟩)⟩, ⟨by (with_reducible repeat (first | apply Kd.V_alloc | apply Kd.V_drewN | apply Kd.V_drew)); exact Kd.V_mono HO_186004.out (fun _ hk => ⟨hk.1.1, ⟨hk.2, ⟨hk.1.2.1, hk.1.2.2.1⟩⟩⟩)⟩, ⟨by (with_reducible repeat (first | refine blk_drewN ?_ _ | refine blk_drew ?_ | refine blk_alloc ?_ _)); exact BK185.out⟩, ⟨by repeat (first | (with_reducible first | exact HB.out | apply below_alloc | apply pw_below_drewN | apply below_drew1 | refine below_set ?_ GE185.out | refine below_set ?_ GE198.out) | exact HB.out)⟩⟩
                                · rw [if_neg c36] at H
                                  exact absurd H (by simp)
                              · rw [if_neg c35] at H
                                exact absurd H (by simp)
                            · rw [if_neg c34] at H
                              exact absurd H (by simp)
              · replace c13 := Bool.eq_false_iff.mpr c13
                subst c13
                have H1 : (arboretref06_Index.l0 k1 x4_1 t186 (t186.length : Int) (wrap64 (x18_1 + 1)) a0_0 l0_1 a0_2 l0_3 l0_4) = some (r1, r2) := by rw [if_neg (show ¬ (false = true) by decide)] at H; exact H
                clear H
                have H := H1
                clear H1
                have H' := Aside0.mk H
                clear H
                try go_wp2
                have n0_ := Aside0.mk (Kd.N_drew HO_4.out)
                have n1_ := Aside0.mk (Kd.N_drew HO_5.out)
                have n2_ := Aside0.mk (Kd.V_drew HO_186003.out)
                have n3_ := Aside0.mk (Kd.V_drew HO_186004.out)
                have n4_ := Aside0.mk (blk_drew BK185.out)
                have n5_ := Aside0.mk (below_drew1 HB.out)
                clear HO_4
                clear HO_5
                clear HO_186003
                clear HO_186004
                clear BK185
                clear HB
                have HO_4 := n0_
                have HO_5 := n1_
                have HO_186003 := n2_
                have HO_186004 := n3_
                have BK185 := n4_
                have HB := n5_
                clear n0_ n1_ n2_ n3_ n4_ n5_
                have p189 : 0 ≤ (x18_1 : Int) := of_decide_eq_true (by first | (with_reducible assumption) | assumption)
                have q189 : x18_1 < (t186.length : Int) := of_decide_eq_true (by first | (with_reducible assumption) | assumption)
                obtain ⟨ad189, A189_0, c189_0, e189, hx189_0, hl189_0, hi189_0⟩ := at_L13 (Kd.N_reads' HO_5.out).2.2 x18_1 p189 q189
                cases e189
                obtain ⟨ce189, hce189, hMe189, hcc189⟩ := Kd.N_get HO_5.out [] x18_1 p189 (by first | exact q189 | exact of_decide_eq_true (by first | (with_reducible assumption) | assumption) | (have e_ := (Kd.N_reads' HO_5.out).1; omega))
                obtain ⟨ua189_0, uc189_0, rfl, ul189_0, ge189_0⟩ := Kd.FK_slice_open hMe189
                have hv189_0 := hcc189 0 _ rfl
                rw [Nat.add_zero, show ((Kd.slice 3 (Kd.int .i64))).sz = 1 from rfl, Nat.mul_one] at hv189_0
                replace hv189_0 := Option.some.inj (hv189_0.symm.trans hx189_0)
                injection hv189_0 with hva_ hvn_ hvc_
                rw [hva_] at ge189_0
                rw [hvc_] at ul189_0
                have HL189_0 := Aside0.mk (show Kd.V (Kd.int .i64) 3 _ w.heap.size _ _ (rd_L13 t186 x18_1) from Kd.V_mk ul189_0 ge189_0)
                clear hva_ hvn_ hvc_ ge189_0 ul189_0
                clear hcc189 hce189
                have HR189_0 := Aside0.mk hi189_0
                have HC189_0 := Aside0.mk hl189_0
                clear hi189_0 hl189_0
                replace p189 := eq_true p189
                replace q189 := eq_true q189
                refine start_ (n := 12) (S := fun w' => w'.cell? ⟨gb185, 0, none⟩ = some (.int .u32 a0_0) ∧ w'.cell? ⟨gb185, 1, none⟩ = some (.slice A0_1 l0_1.length c0_1) ∧ w'.cell? ⟨gb185, 2, none⟩ = some (.string a0_2) ∧ w'.cell? ⟨gb185, 3, none⟩ = some (.slice A0_3 l0_3.length c0_3) ∧ w'.cell? ⟨gb185, 4, none⟩ = some (.slice A0_4 l0_4.length c0_4) ∧ w'.cell? (ad189.add (x18_1).toNat) = some (.slice A189_0 (rd_L13 t186 x18_1).length c189_0)) (ds := []) #[false, false, false, false, false, false, false, false, false, false, false, false] (by kernel_rfl) rfl rfl ⟨(blk_cell BK185.out 0).trans rfl, (blk_cell BK185.out 1).trans rfl, (blk_cell BK185.out 2).trans rfl, (blk_cell BK185.out 3).trans rfl, (blk_cell BK185.out 4).trans rfl, hx189_0⟩ (fun hHeld => ?_); refine with_tabW arboretref06_Index.tab6 arboretref06_Index.bits6 (fun HT_ HW_ => ?_)
                generalize wr.drew = w38 at HO_4 HO_5 HO_186003 HO_186004 BK185 HB HL189_0 HR189_0 hx189_0 hHeld ⊢
                refine pure_ (i := 1) (N := some 23) (v := ?_) (a' := ?_) #[false, true, false, false, false, false, false, false, false, false, false, false] rfl rfl (any_of HT_.out (by kernel_rfl)) (fun _ _ _ h => h) (Or.inl ⟨by rfl, ?_⟩) ?_ ?_
                rotate_left
                · intro w'
                  go_simp
                  with_reducible rfl
                rotate_left
                · simp only [Act.put, List.setIfInBounds_toArray, List.set_cons_zero, List.set_cons_succ, i64_w, i32_w]
                  rfl
                refine pure_ (i := 2) (N := some 24) (v := ?_) (a' := ?_) #[false, true, true, false, false, false, false, false, false, false, false, false] rfl rfl (any_of HT_.out (by kernel_rfl)) (fun _ _ _ h => h) (Or.inl ⟨by rfl, ?_⟩) ?_ ?_
                rotate_left
                · intro w'
                  go_simp
                  with_reducible rfl
                rotate_left
                · simp only [Act.put, List.setIfInBounds_toArray, List.set_cons_zero, List.set_cons_succ, i64_w, i32_w]
                  rfl
                refine pure_ (i := 3) (N := some 25) (v := ?_) (a' := ?_) #[false, true, true, true, false, false, false, false, false, false, false, false] rfl rfl (any_of HT_.out (by kernel_rfl)) (fun _ _ _ h => h) (Or.inl ⟨by rfl, ?_⟩) ?_ ?_
                rotate_left
                · intro w'
                  go_simp
                  with_reducible rfl
                rotate_left
                · simp only [Act.put, List.setIfInBounds_toArray, List.set_cons_zero, List.set_cons_succ, i64_w, i32_w]
                  rfl
                refine take_ (i := 0) (N := some 22) (v := ?_) (a' := ?_) #[true, true, true, true, false, false, false, false, false, false, false, false] rfl rfl (take_ofW HT_.out HW_.out (by kernel_rfl)) (fun _ _ _ h => h) (Or.inl ⟨by rfl, ?_⟩) hHeld ?_ ?_
                rotate_left
                · rintro w' ⟨s0, s1, s2, s3, s4, s5⟩
                  go_simp
                  with_reducible rfl
                rotate_left
                · simp only [Act.put, List.setIfInBounds_toArray, List.set_cons_zero, List.set_cons_succ, i64_w, i32_w]
                  rfl
                refine take_ (i := 4) (N := some 26) (v := ?_) (a' := ?_) #[true, true, true, true, true, false, false, false, false, false, false, false] rfl rfl (take_ofW HT_.out HW_.out (by kernel_rfl)) (fun _ _ _ h => h) (Or.inl ⟨by rfl, ?_⟩) hHeld ?_ ?_
                rotate_left
                · rintro w' ⟨s0, s1, s2, s3, s4, s5⟩
                  go_simp
                  with_reducible rfl
                rotate_left
                · simp only [Act.put, List.setIfInBounds_toArray, List.set_cons_zero, List.set_cons_succ, i64_w, i32_w]
                  rfl
                refine join_ (σ := Value × Value × Nat) 2 #[true, true, true, true, true, true, true, true, true, true, false, false] (fun s_ => [(27, .tuple #[.agg #[.string t190, s_.1, s_.2.1], .bool t197]), (7, .pointer (some ⟨s_.2.2, 0, none⟩)), (21, .tuple #[.agg #[.string t190, s_.1, s_.2.1], .bool t197]), (28, .agg #[.string t190, s_.1, s_.2.1]), (29, .bool t197)]) (fun s_ w' => (w'.cell? ⟨gb185, 0, none⟩ = some (.int .u32 a0_0) ∧ w'.cell? ⟨gb185, 1, none⟩ = some (.slice A0_1 l0_1.length c0_1) ∧ w'.cell? ⟨gb185, 2, none⟩ = some (.string a0_2) ∧ w'.cell? ⟨gb185, 3, none⟩ = some (.slice A0_3 l0_3.length c0_3) ∧ w'.cell? ⟨gb185, 4, none⟩ = some (.slice A0_4 l0_4.length c0_4) ∧ w'.cell? (ad189.add (x18_1).toNat) = some (.slice A189_0 (rd_L13 t186 x18_1).length c189_0)) ∧ (Kd.V (Kd.int .i64) 3 w' w.heap.size (fun k_ => ((P0_3_ k_ ∨ P0_4_ k_) ∨ w.heap.size ≤ k_) ∧ some k_ ≠ (u4 : Value).ownBlock ∧ some k_ ≠ (.slice (some ad189) t186.length co6 : Value).ownBlock ∧ k_ ≠ gb185 ∧ k_ ≠ s_.2.2) (.slice A189_0 (rd_L13 t186 x18_1).length c189_0) (rd_L13 t186 x18_1)) ∧ (Kd.V k104 104 w' w.heap.size (fun k_ => ((P0_3_ k_ ∨ P0_4_ k_) ∨ w.heap.size ≤ k_) ∧ some k_ ≠ (u4 : Value).ownBlock ∧ some k_ ≠ (.slice (some ad189) t186.length co6 : Value).ownBlock ∧ k_ ≠ gb185 ∧ k_ ≠ s_.2.2) s_.1 t191) ∧ (Kd.V k39 39 w' w.heap.size (fun k_ => ((P0_3_ k_ ∨ P0_4_ k_) ∨ w.heap.size ≤ k_) ∧ some k_ ≠ (u4 : Value).ownBlock ∧ some k_ ≠ (.slice (some ad189) t186.length co6 : Value).ownBlock ∧ k_ ≠ gb185 ∧ k_ ≠ s_.2.2) s_.2.1 t194) ∧ (Kd.V k104 104 w' w.heap.size (fun k_ => ((P0_3_ k_ ∨ P0_4_ k_) ∨ w.heap.size ≤ k_) ∧ some k_ ≠ (u4 : Value).ownBlock ∧ some k_ ≠ (.slice (some ad189) t186.length co6 : Value).ownBlock ∧ k_ ≠ gb185 ∧ k_ ≠ s_.2.2) (.slice A0_3 l0_3.length c0_3) l0_3) ∧ (Kd.V k39 39 w' w.heap.size (fun k_ => ((P0_3_ k_ ∨ P0_4_ k_) ∨ w.heap.size ≤ k_) ∧ some k_ ≠ (u4 : Value).ownBlock ∧ some k_ ≠ (.slice (some ad189) t186.length co6 : Value).ownBlock ∧ k_ ≠ gb185 ∧ k_ ≠ s_.2.2) (.slice A0_4 l0_4.length c0_4) l0_4) ∧ (Kd.N k83 83 w' w.heap.size (fun k_ => ((P0_3_ k_ ∨ P0_4_ k_) ∨ w.heap.size ≤ k_) ∧ some k_ ≠ (.slice (some ad189) t186.length co6 : Value).ownBlock ∧ k_ ≠ gb185 ∧ k_ ≠ s_.2.2) u4 x4_1) ∧ (Kd.N (Kd.slice 3 (Kd.int .i64)) 65 w' w.heap.size (fun k_ => ((P0_3_ k_ ∨ P0_4_ k_) ∨ w.heap.size ≤ k_) ∧ some k_ ≠ (u4 : Value).ownBlock ∧ k_ ≠ gb185 ∧ k_ ≠ s_.2.2) (.slice (some ad189) t186.length co6) t186) ∧ (w'.heap[gb185]? = some (.cells #[.int .u32 a0_0, .slice A0_1 l0_1.length c0_1, .string a0_2, .slice A0_3 l0_3.length c0_3, .slice A0_4 l0_4.length c0_4] 43 (0, 0))) ∧ (w'.heap[s_.2.2]? = some (.cells #[.string (⟨#[]⟩ : ByteArray), .slice none 0 0, .slice none 0 0] 39 (0, 0))) ∧ (w.heap.size ≤ s_.2.2) ∧ (w.heap.size ≤ s_.2.2) ∧ (gb185 ≠ s_.2.2) ∧ (s_.2.2 ≠ gb185) ∧ (Below w.heap.size w w')) ?_ ?_
                rotate_left
                · intro hCont
                  refine two_ (i := 5) (j := 9) (Ni := some 27) (Nj := some 7) #[true, true, true, true, true, true, false, false, false, false, false, false] #[true, true, true, true, true, false, false, false, false, true, false, false] rfl rfl rfl rfl (two_of HT_.out (by kernel_rfl)) (by decide) (by decide) (fun K hK => ?_) (fun K hK => ?_)
                  · skip
                    refine goes_ Try.func64 (by kernel_rfl) rfl #[.agg #[.int .u32 a0_0, .slice A0_1 l0_1.length c0_1, .string a0_2, .slice A0_3 l0_3.length c0_3, .slice A0_4 l0_4.length c0_4], .slice A189_0 (rd_L13 t186 x18_1).length c189_0] (by rfl) rfl rfl (by (try simp only [List.map_toArray, List.map_cons, List.map_nil]); first | done | rfl | (simp only [List.length_drop, List.length_take]; rfl)) ?_
                    with_reducible refine (arboretref06_Get.calls k1 a0_0 _ _ l0_1 a0_2 (fun k_ => (((P0_3_ k_ ∨ P0_4_ k_) ∨ w.heap.size ≤ k_) ∧ (some k_ ≠ (u4 : Value).ownBlock ∧ (some k_ ≠ (.slice (some ad189) t186.length co6 : Value).ownBlock ∧ k_ ≠ gb185)))) _ _ l0_3 (fun k_ => (((P0_3_ k_ ∨ P0_4_ k_) ∨ w.heap.size ≤ k_) ∧ (some k_ ≠ (u4 : Value).ownBlock ∧ (some k_ ≠ (.slice (some ad189) t186.length co6 : Value).ownBlock ∧ k_ ≠ gb185)))) _ _ l0_4 _ _ (rd_L13 t186 x18_1) t190 t191 t194 t197 _ ?side1 ?side2 ?side3 ?side4 ?side5 ?side6 A10.out).mono ?_
                    (case side1 => repeat (first | exact (Kd.C_below HR0_1.out HB.out) | (with_reducible refine Kd.C_alloc ?_ _) | (with_reducible refine Kd.C_drewN ?_ _) | (with_reducible refine Kd.C_drew ?_)))
                    (case side2 => exact HC0_1.out)
                    (case side3 => exact HO_186003.out)
                    (case side4 => exact HO_186004.out)
                    (case side5 => repeat (first | exact (by repeat (first | (with_reducible exact HR189_0.out) | (with_reducible refine Kd.C_alloc ?_ _) | (with_reducible refine Kd.C_drewN ?_ _) | (with_reducible refine Kd.C_drew ?_) | exact HR189_0.out)) | (with_reducible refine Kd.C_alloc ?_ _) | (with_reducible refine Kd.C_drewN ?_ _) | (with_reducible refine Kd.C_drew ?_)))
                    (case side6 => exact HC189_0.out)
                    rintro e w39 ⟨v192, v195, rfl, ho0, ho1, hb⟩
                    have HS5_ := (hb.cell (World.block_lt_of_cell? _ _ (hHeld.2.2.2.2.2))).trans (hHeld.2.2.2.2.2)
                    refine ⟨_, rfl, ?_⟩
                    have n0_ := Aside0.mk (Kd.N_below (by (with_reducible repeat (first | apply Kd.N_alloc | apply Kd.N_drewN | apply Kd.N_drew)); exact HO_4.out) hb)
                    have n1_ := Aside0.mk (Kd.N_below (by (with_reducible repeat (first | apply Kd.N_alloc | apply Kd.N_drewN | apply Kd.N_drew)); exact HO_5.out) hb)
                    have n2_ := Aside0.mk (Kd.V_below (by (with_reducible repeat (first | apply Kd.V_alloc | apply Kd.V_drewN | apply Kd.V_drew)); exact HO_186003.out) hb)
                    have n3_ := Aside0.mk (Kd.V_below (by (with_reducible repeat (first | apply Kd.V_alloc | apply Kd.V_drewN | apply Kd.V_drew)); exact HO_186004.out) hb)
                    have n4_ := Aside0.mk (Kd.V_below (by (with_reducible repeat (first | apply Kd.V_alloc | apply Kd.V_drewN | apply Kd.V_drew)); exact HL189_0.out) hb)
                    have n5_ := Aside0.mk (Kd.V_lower (Kd.V_mono (ok' := fun k_ => ((P0_3_ k_ ∨ P0_4_ k_) ∨ w.heap.size ≤ k_) ∧ some k_ ≠ (u4 : Value).ownBlock ∧ some k_ ≠ (.slice (some ad189) t186.length co6 : Value).ownBlock ∧ k_ ≠ gb185) ho0 (fun k_ hk_ => ⟨Or.elim hk_ (fun hs_ => Or.elim hs_ (fun hs_ => hs_.1) (fun hs_ => hs_.1)) (fun hn_ => (.inr (Nat.le_trans (below_size (by repeat (first | (with_reducible first | exact HB.out | apply below_alloc | apply pw_below_drewN | apply below_drew1 | refine below_set ?_ GE185.out) | exact HB.out))) hn_))), Or.elim hk_ (fun hs_ => Or.elim hs_ (fun hs_ => hs_.2.1) (fun hs_ => hs_.2.1)) (fun hn_ => (Kd.fresh' (Kd.N_lt (by (with_reducible repeat (first | apply Kd.N_alloc | apply Kd.N_drewN | apply Kd.N_drew)); exact HO_4.out)) k_ hn_)), Or.elim hk_ (fun hs_ => Or.elim hs_ (fun hs_ => hs_.2.2.1) (fun hs_ => hs_.2.2.1)) (fun hn_ => (Kd.fresh' (Kd.N_lt (by (with_reducible repeat (first | apply Kd.N_alloc | apply Kd.N_drewN | apply Kd.N_drew)); exact HO_5.out)) k_ hn_)), Or.elim hk_ (fun hs_ => Or.elim hs_ (fun hs_ => hs_.2.2.2) (fun hs_ => hs_.2.2.2)) (fun hn_ => (Kd.freshB (g := gb185) (o := .cells #[.int .u32 a0_0, .slice A0_1 l0_1.length c0_1, .string a0_2, .slice A0_3 l0_3.length c0_3, .slice A0_4 l0_4.length c0_4] 43 (0, 0)) (by (with_reducible repeat (first | refine blk_drewN ?_ _ | refine blk_drew ?_ | refine blk_alloc ?_ _)); exact BK185.out) k_ hn_))⟩)) (below_size (by repeat (first | (with_reducible first | exact HB.out | apply below_alloc | apply pw_below_drewN | apply below_drew1 | refine below_set ?_ GE185.out) | exact HB.out))))
                    have n6_ := Aside0.mk (Kd.V_lower (Kd.V_mono (ok' := fun k_ => ((P0_3_ k_ ∨ P0_4_ k_) ∨ w.heap.size ≤ k_) ∧ some k_ ≠ (u4 : Value).ownBlock ∧ some k_ ≠ (.slice (some ad189) t186.length co6 : Value).ownBlock ∧ k_ ≠ gb185) ho1 (fun k_ hk_ => ⟨Or.elim hk_ (fun hs_ => Or.elim hs_ (fun hs_ => hs_.1) (fun hs_ => hs_.1)) (fun hn_ => (.inr (Nat.le_trans (below_size (by repeat (first | (with_reducible first | exact HB.out | apply below_alloc | apply pw_below_drewN | apply below_drew1 | refine below_set ?_ GE185.out) | exact HB.out))) hn_))), Or.elim hk_ (fun hs_ => Or.elim hs_ (fun hs_ => hs_.2.1) (fun hs_ => hs_.2.1)) (fun hn_ => (Kd.fresh' (Kd.N_lt (by (with_reducible repeat (first | apply Kd.N_alloc | apply Kd.N_drewN | apply Kd.N_drew)); exact HO_4.out)) k_ hn_)), Or.elim hk_ (fun hs_ => Or.elim hs_ (fun hs_ => hs_.2.2.1) (fun hs_ => hs_.2.2.1)) (fun hn_ => (Kd.fresh' (Kd.N_lt (by (with_reducible repeat (first | apply Kd.N_alloc | apply Kd.N_drewN | apply Kd.N_drew)); exact HO_5.out)) k_ hn_)), Or.elim hk_ (fun hs_ => Or.elim hs_ (fun hs_ => hs_.2.2.2) (fun hs_ => hs_.2.2.2)) (fun hn_ => (Kd.freshB (g := gb185) (o := .cells #[.int .u32 a0_0, .slice A0_1 l0_1.length c0_1, .string a0_2, .slice A0_3 l0_3.length c0_3, .slice A0_4 l0_4.length c0_4] 43 (0, 0)) (by (with_reducible repeat (first | refine blk_drewN ?_ _ | refine blk_drew ?_ | refine blk_alloc ?_ _)); exact BK185.out) k_ hn_))⟩)) (below_size (by repeat (first | (with_reducible first | exact HB.out | apply below_alloc | apply pw_below_drewN | apply below_drew1 | refine below_set ?_ GE185.out) | exact HB.out))))
                    have n7_ := Aside0.mk (blk_below (g := gb185) (o := .cells #[.int .u32 a0_0, .slice A0_1 l0_1.length c0_1, .string a0_2, .slice A0_3 l0_3.length c0_3, .slice A0_4 l0_4.length c0_4] 43 (0, 0)) (by (with_reducible repeat (first | refine blk_drewN ?_ _ | refine blk_drew ?_ | refine blk_alloc ?_ _)); exact BK185.out) hb)
                    have n8_ := Aside0.mk (Kd.C_below (by repeat (first | (with_reducible exact HR189_0.out) | (with_reducible refine Kd.C_alloc ?_ _) | (with_reducible refine Kd.C_drewN ?_ _) | (with_reducible refine Kd.C_drew ?_) | exact HR189_0.out)) hb)
                    have n9_ := Aside0.mk (below_step (by repeat (first | (with_reducible first | exact HB.out | apply below_alloc | apply pw_below_drewN | apply below_drew1 | refine below_set ?_ GE185.out) | exact HB.out)) hb)
                    clear HO_4
                    clear HO_5
                    clear HO_186003
                    clear HO_186004
                    clear HL189_0
                    clear BK185
                    clear HR189_0
                    clear HB
                    have HO_4 := n0_
                    have HO_5 := n1_
                    have HO_186003 := n2_
                    have HO_186004 := n3_
                    have HL189_0 := n4_
                    have HO193 := n5_
                    have HO196 := n6_
                    have BK185 := n7_
                    have HR189_0 := n8_
                    have HB := n9_
                    clear n0_ n1_ n2_ n3_ n4_ n5_ n6_ n7_ n8_ n9_
                    (try clear hb)
                    (try clear hb2)
                    (try clear hk)
                    (try clear hi)
                    (try clear ho0)
                    (try clear ho1)
                    refine hK.out _ _ ⟨(blk_cell BK185.out 0).trans rfl, (blk_cell BK185.out 1).trans rfl, (blk_cell BK185.out 2).trans rfl, (blk_cell BK185.out 3).trans rfl, (blk_cell BK185.out 4).trans rfl, HS5_⟩ (fun hHeld => ?_)
                    clear hK K
                    refine norm_ (a' := ?_) ?_ ?_
                    rotate_left
                    · show Act.put _ (some 27) _ = _
                      simp only [Act.put, List.setIfInBounds_toArray, List.set_cons_zero, List.set_cons_succ, i64_w, i32_w]
                      rfl
                    refine pure_ (i := 6) (N := some 21) (v := ?_) (a' := ?_) #[true, true, true, true, true, true, true, false, false, false, false, false] rfl rfl (any_of HT_.out (by kernel_rfl)) (fun _ _ _ h => h) (Or.inl ⟨by rfl, ?_⟩) ?_ ?_
                    rotate_left
                    · intro w'
                      go_simp
                      with_reducible rfl
                    rotate_left
                    · simp only [Act.put, List.setIfInBounds_toArray, List.set_cons_zero, List.set_cons_succ, i64_w, i32_w]
                      rfl
                    refine pure_ (i := 7) (N := some 28) (v := ?_) (a' := ?_) #[true, true, true, true, true, true, true, true, false, false, false, false] rfl rfl (any_of HT_.out (by kernel_rfl)) (fun _ _ _ h => h) (Or.inl ⟨by rfl, ?_⟩) ?_ ?_
                    rotate_left
                    · intro w'
                      go_simp
                      with_reducible rfl
                    rotate_left
                    · simp only [Act.put, List.setIfInBounds_toArray, List.set_cons_zero, List.set_cons_succ, i64_w, i32_w]
                      rfl
                    refine pure_ (i := 8) (N := some 29) (v := ?_) (a' := ?_) #[true, true, true, true, true, true, true, true, true, false, false, false] rfl rfl (any_of HT_.out (by kernel_rfl)) (fun _ _ _ h => h) (Or.inl ⟨by rfl, ?_⟩) ?_ ?_
                    rotate_left
                    · intro w'
                      go_simp
                      with_reducible rfl
                    rotate_left
                    · simp only [Act.put, List.setIfInBounds_toArray, List.set_cons_zero, List.set_cons_succ, i64_w, i32_w]
                      rfl
                    refine one_ (i := 9) (N := some 7) #[true, true, true, true, true, true, true, true, true, true, false, false] rfl rfl (one_of HT_.out (by kernel_rfl)) (by decide) (fun K hK => ?_)
                    refine box_step ?hg (N := 7) ?hd (cs := #[.string (⟨#[]⟩ : ByteArray), .slice none 0 0, .slice none 0 0]) (t := 39) ?hr ?_; (case hd => rfl); (case hg => rfl); (case hr => first | (go_simp; done) | (go_simp; rfl))
                    intro gb198 hg w40 hbox hb
                    have HS5_ := (hb.cell (World.block_lt_of_cell? _ _ (hHeld.2.2.2.2.2))).trans (hHeld.2.2.2.2.2)
                    have n0_ := Aside0.mk (Kd.N_below (Kd.N_elderB (by (with_reducible repeat (first | apply Kd.N_alloc | apply Kd.N_drewN | apply Kd.N_drew)); exact HO_4.out) gb198 (Nat.le_of_eq hg.symm)) hb)
                    have n1_ := Aside0.mk (Kd.N_below (Kd.N_elderB (by (with_reducible repeat (first | apply Kd.N_alloc | apply Kd.N_drewN | apply Kd.N_drew)); exact HO_5.out) gb198 (Nat.le_of_eq hg.symm)) hb)
                    have n2_ := Aside0.mk (Kd.V_below (Kd.V_elderB (by (with_reducible repeat (first | apply Kd.V_alloc | apply Kd.V_drewN | apply Kd.V_drew)); exact HO_186003.out) gb198 (Nat.le_of_eq hg.symm)) hb)
                    have n3_ := Aside0.mk (Kd.V_below (Kd.V_elderB (by (with_reducible repeat (first | apply Kd.V_alloc | apply Kd.V_drewN | apply Kd.V_drew)); exact HO_186004.out) gb198 (Nat.le_of_eq hg.symm)) hb)
                    have n4_ := Aside0.mk (Kd.V_below (Kd.V_elderB (by (with_reducible repeat (first | apply Kd.V_alloc | apply Kd.V_drewN | apply Kd.V_drew)); exact HL189_0.out) gb198 (Nat.le_of_eq hg.symm)) hb)
                    have n5_ := Aside0.mk (Kd.V_below (Kd.V_elderB (by (with_reducible repeat (first | apply Kd.V_alloc | apply Kd.V_drewN | apply Kd.V_drew)); exact HO193.out) gb198 (Nat.le_of_eq hg.symm)) hb)
                    have n6_ := Aside0.mk (Kd.V_below (Kd.V_elderB (by (with_reducible repeat (first | apply Kd.V_alloc | apply Kd.V_drewN | apply Kd.V_drew)); exact HO196.out) gb198 (Nat.le_of_eq hg.symm)) hb)
                    have n7_ := Aside0.mk (blk_below (g := gb185) (o := .cells #[.int .u32 a0_0, .slice A0_1 l0_1.length c0_1, .string a0_2, .slice A0_3 l0_3.length c0_3, .slice A0_4 l0_4.length c0_4] 43 (0, 0)) (by (with_reducible repeat (first | refine blk_drewN ?_ _ | refine blk_drew ?_ | refine blk_alloc ?_ _)); exact BK185.out) hb)
                    have n8_ := Aside0.mk (Kd.C_below (by repeat (first | (with_reducible exact HR189_0.out) | (with_reducible refine Kd.C_alloc ?_ _) | (with_reducible refine Kd.C_drewN ?_ _) | (with_reducible refine Kd.C_drew ?_) | exact HR189_0.out)) hb)
                    have n9_ := Aside0.mk (below_step (by repeat (first | (with_reducible first | exact HB.out | apply below_alloc | apply pw_below_drewN | apply below_drew1 | refine below_set ?_ GE185.out) | exact HB.out)) hb)
                    have n10_ := Aside0.mk (hbox)
                    have n11_ := Aside0.mk ((by rw [hg]; exact (below_size (by repeat (first | (with_reducible first | exact HB.out | apply below_alloc | apply pw_below_drewN | apply below_drew1 | refine below_set ?_ GE185.out) | exact HB.out))) : w.heap.size ≤ gb198))
                    have n12_ := Aside0.mk ((by rw [hg]; exact (below_size (by repeat (first | (with_reducible first | exact HB.out | apply below_alloc | apply pw_below_drewN | apply below_drew1 | refine below_set ?_ GE185.out) | exact HB.out))) : w.heap.size ≤ gb198))
                    have n13_ := Aside0.mk ((by rw [hg]; exact Nat.ne_of_lt (blk_lt (g := gb185) (o := .cells #[.int .u32 a0_0, .slice A0_1 l0_1.length c0_1, .string a0_2, .slice A0_3 l0_3.length c0_3, .slice A0_4 l0_4.length c0_4] 43 (0, 0)) (by (with_reducible repeat (first | refine blk_drewN ?_ _ | refine blk_drew ?_ | refine blk_alloc ?_ _)); exact BK185.out)) : gb185 ≠ gb198))
                    have n14_ := Aside0.mk ((by rw [hg]; exact Nat.ne_of_gt (blk_lt (g := gb185) (o := .cells #[.int .u32 a0_0, .slice A0_1 l0_1.length c0_1, .string a0_2, .slice A0_3 l0_3.length c0_3, .slice A0_4 l0_4.length c0_4] 43 (0, 0)) (by (with_reducible repeat (first | refine blk_drewN ?_ _ | refine blk_drew ?_ | refine blk_alloc ?_ _)); exact BK185.out)) : gb198 ≠ gb185))
                    clear HO_4
                    clear HO_5
                    clear HO_186003
                    clear HO_186004
                    clear HL189_0
                    clear HO193
                    clear HO196
                    clear BK185
                    clear HR189_0
                    clear HB
                    have HO_4 := n0_
                    have HO_5 := n1_
                    have HO_186003 := n2_
                    have HO_186004 := n3_
                    have HL189_0 := n4_
                    have HO193 := n5_
                    have HO196 := n6_
                    have BK185 := n7_
                    have HR189_0 := n8_
                    have HB := n9_
                    have BK198 := n10_
                    have GW198 := n11_
                    have GE198 := n12_
                    have NB185_198 := n13_
                    have NB198_185 := n14_
                    clear n0_ n1_ n2_ n3_ n4_ n5_ n6_ n7_ n8_ n9_ n10_ n11_ n12_ n13_ n14_
                    clear hb hbox hg
                    refine hK.out _ _ ⟨(blk_cell BK185.out 0).trans rfl, (blk_cell BK185.out 1).trans rfl, (blk_cell BK185.out 2).trans rfl, (blk_cell BK185.out 3).trans rfl, (blk_cell BK185.out 4).trans rfl, HS5_⟩ (fun hHeld => ?_)
                    clear hK K
                    refine norm_ (a' := ?_) ?_ ?_
                    rotate_left
                    · show Act.put _ (some 7) _ = _
                      simp only [Act.put, List.setIfInBounds_toArray, List.set_cons_zero, List.set_cons_succ, i64_w, i32_w]
                      rfl
                    exact norm_ (by simp only [putAll, Act.put, List.setIfInBounds_toArray, List.set_cons_zero, List.set_cons_succ]) (hCont (v192, v195, gb198) _ ⟨hHeld, (by (with_reducible repeat (first | apply Kd.V_alloc | apply Kd.V_drewN | apply Kd.V_drew)); exact Kd.V_mono HL189_0.out (fun _ hk => ⟨hk.1.1.1, ⟨hk.1.1.2.1, ⟨hk.1.2, ⟨hk.1.1.2.2, hk.2⟩⟩⟩⟩)), (by (with_reducible repeat (first | apply Kd.V_alloc | apply Kd.V_drewN | apply Kd.V_drew)); exact Kd.V_mono HO193.out (fun _ hk => ⟨hk.1.1, ⟨hk.1.2.1, ⟨hk.1.2.2.1, ⟨hk.1.2.2.2, hk.2⟩⟩⟩⟩)), (by (with_reducible repeat (first | apply Kd.V_alloc | apply Kd.V_drewN | apply Kd.V_drew)); exact Kd.V_mono HO196.out (fun _ hk => ⟨hk.1.1, ⟨hk.1.2.1, ⟨hk.1.2.2.1, ⟨hk.1.2.2.2, hk.2⟩⟩⟩⟩)), (by (with_reducible repeat (first | apply Kd.V_alloc | apply Kd.V_drewN | apply Kd.V_drew)); exact Kd.V_mono HO_186003.out (fun _ hk => ⟨hk.1.1, ⟨hk.1.2.1, ⟨hk.1.2.2.1, ⟨hk.1.2.2.2, hk.2⟩⟩⟩⟩)), (by (with_reducible repeat (first | apply Kd.V_alloc | apply Kd.V_drewN | apply Kd.V_drew)); exact Kd.V_mono HO_186004.out (fun _ hk => ⟨hk.1.1, ⟨hk.1.2.1, ⟨hk.1.2.2.1, ⟨hk.1.2.2.2, hk.2⟩⟩⟩⟩)), (by (with_reducible repeat (first | apply Kd.N_alloc | apply Kd.N_drewN | apply Kd.N_drew)); exact Kd.N_mono HO_4.out (fun _ hk => ⟨hk.1.1, ⟨hk.1.2.1, ⟨hk.1.2.2, hk.2⟩⟩⟩)), (by (with_reducible repeat (first | apply Kd.N_alloc | apply Kd.N_drewN | apply Kd.N_drew)); exact Kd.N_mono HO_5.out (fun _ hk => ⟨hk.1.1, ⟨hk.1.2.1, ⟨hk.1.2.2, hk.2⟩⟩⟩)), (by (with_reducible repeat (first | refine blk_drewN ?_ _ | refine blk_drew ?_ | refine blk_alloc ?_ _)); exact BK185.out), (by (with_reducible repeat (first | refine blk_drewN ?_ _ | refine blk_drew ?_ | refine blk_alloc ?_ _)); exact BK198.out), GW198.out, GE198.out, NB185_198.out, NB198_185.out, (by repeat (first | (with_reducible first | exact HB.out | apply below_alloc | apply pw_below_drewN | apply below_drew1 | refine below_set ?_ GE185.out | refine below_set ?_ GE198.out) | exact HB.out))⟩)
                  · skip
                    refine box_step ?hg (N := 7) ?hd (cs := #[.string (⟨#[]⟩ : ByteArray), .slice none 0 0, .slice none 0 0]) (t := 39) ?hr ?_; (case hd => rfl); (case hg => rfl); (case hr => first | (go_simp; done) | (go_simp; rfl))
                    intro gb198 hg w39 hbox hb
                    have HS5_ := (hb.cell (World.block_lt_of_cell? _ _ (hHeld.2.2.2.2.2))).trans (hHeld.2.2.2.2.2)
                    have n0_ := Aside0.mk (Kd.N_below (Kd.N_elderB (by (with_reducible repeat (first | apply Kd.N_alloc | apply Kd.N_drewN | apply Kd.N_drew)); exact HO_4.out) gb198 (Nat.le_of_eq hg.symm)) hb)
                    have n1_ := Aside0.mk (Kd.N_below (Kd.N_elderB (by (with_reducible repeat (first | apply Kd.N_alloc | apply Kd.N_drewN | apply Kd.N_drew)); exact HO_5.out) gb198 (Nat.le_of_eq hg.symm)) hb)
                    have n2_ := Aside0.mk (Kd.V_below (Kd.V_elderB (by (with_reducible repeat (first | apply Kd.V_alloc | apply Kd.V_drewN | apply Kd.V_drew)); exact HO_186003.out) gb198 (Nat.le_of_eq hg.symm)) hb)
                    have n3_ := Aside0.mk (Kd.V_below (Kd.V_elderB (by (with_reducible repeat (first | apply Kd.V_alloc | apply Kd.V_drewN | apply Kd.V_drew)); exact HO_186004.out) gb198 (Nat.le_of_eq hg.symm)) hb)
                    have n4_ := Aside0.mk (Kd.V_below (Kd.V_elderB (by (with_reducible repeat (first | apply Kd.V_alloc | apply Kd.V_drewN | apply Kd.V_drew)); exact HL189_0.out) gb198 (Nat.le_of_eq hg.symm)) hb)
                    have n5_ := Aside0.mk (blk_below (g := gb185) (o := .cells #[.int .u32 a0_0, .slice A0_1 l0_1.length c0_1, .string a0_2, .slice A0_3 l0_3.length c0_3, .slice A0_4 l0_4.length c0_4] 43 (0, 0)) (by (with_reducible repeat (first | refine blk_drewN ?_ _ | refine blk_drew ?_ | refine blk_alloc ?_ _)); exact BK185.out) hb)
                    have n6_ := Aside0.mk (Kd.C_below (by repeat (first | (with_reducible exact HR189_0.out) | (with_reducible refine Kd.C_alloc ?_ _) | (with_reducible refine Kd.C_drewN ?_ _) | (with_reducible refine Kd.C_drew ?_) | exact HR189_0.out)) hb)
                    have n7_ := Aside0.mk (below_step (by repeat (first | (with_reducible first | exact HB.out | apply below_alloc | apply pw_below_drewN | apply below_drew1 | refine below_set ?_ GE185.out) | exact HB.out)) hb)
                    have n8_ := Aside0.mk (hbox)
                    have n9_ := Aside0.mk ((by rw [hg]; exact (below_size (by repeat (first | (with_reducible first | exact HB.out | apply below_alloc | apply pw_below_drewN | apply below_drew1 | refine below_set ?_ GE185.out) | exact HB.out))) : w.heap.size ≤ gb198))
                    have n10_ := Aside0.mk ((by rw [hg]; exact (below_size (by repeat (first | (with_reducible first | exact HB.out | apply below_alloc | apply pw_below_drewN | apply below_drew1 | refine below_set ?_ GE185.out) | exact HB.out))) : w.heap.size ≤ gb198))
                    have n11_ := Aside0.mk ((by rw [hg]; exact Nat.ne_of_lt (blk_lt (g := gb185) (o := .cells #[.int .u32 a0_0, .slice A0_1 l0_1.length c0_1, .string a0_2, .slice A0_3 l0_3.length c0_3, .slice A0_4 l0_4.length c0_4] 43 (0, 0)) (by (with_reducible repeat (first | refine blk_drewN ?_ _ | refine blk_drew ?_ | refine blk_alloc ?_ _)); exact BK185.out)) : gb185 ≠ gb198))
                    have n12_ := Aside0.mk ((by rw [hg]; exact Nat.ne_of_gt (blk_lt (g := gb185) (o := .cells #[.int .u32 a0_0, .slice A0_1 l0_1.length c0_1, .string a0_2, .slice A0_3 l0_3.length c0_3, .slice A0_4 l0_4.length c0_4] 43 (0, 0)) (by (with_reducible repeat (first | refine blk_drewN ?_ _ | refine blk_drew ?_ | refine blk_alloc ?_ _)); exact BK185.out)) : gb198 ≠ gb185))
                    clear HO_4
                    clear HO_5
                    clear HO_186003
                    clear HO_186004
                    clear HL189_0
                    clear BK185
                    clear HR189_0
                    clear HB
                    have HO_4 := n0_
                    have HO_5 := n1_
                    have HO_186003 := n2_
                    have HO_186004 := n3_
                    have HL189_0 := n4_
                    have BK185 := n5_
                    have HR189_0 := n6_
                    have HB := n7_
                    have BK198 := n8_
                    have GW198 := n9_
                    have GE198 := n10_
                    have NB185_198 := n11_
                    have NB198_185 := n12_
                    clear n0_ n1_ n2_ n3_ n4_ n5_ n6_ n7_ n8_ n9_ n10_ n11_ n12_
                    clear hb hbox hg
                    refine hK.out _ _ ⟨(blk_cell BK185.out 0).trans rfl, (blk_cell BK185.out 1).trans rfl, (blk_cell BK185.out 2).trans rfl, (blk_cell BK185.out 3).trans rfl, (blk_cell BK185.out 4).trans rfl, HS5_⟩ (fun hHeld => ?_)
                    clear hK K
                    refine norm_ (a' := ?_) ?_ ?_
                    rotate_left
                    · show Act.put _ (some 7) _ = _
                      simp only [Act.put, List.setIfInBounds_toArray, List.set_cons_zero, List.set_cons_succ, i64_w, i32_w]
                      rfl
                    refine one_ (i := 5) (N := some 27) #[true, true, true, true, true, true, false, false, false, true, false, false] rfl rfl (one_of HT_.out (by kernel_rfl)) (by decide) (fun K hK => ?_)
                    refine goes_ Try.func64 (by kernel_rfl) rfl #[.agg #[.int .u32 a0_0, .slice A0_1 l0_1.length c0_1, .string a0_2, .slice A0_3 l0_3.length c0_3, .slice A0_4 l0_4.length c0_4], .slice A189_0 (rd_L13 t186 x18_1).length c189_0] (by rfl) rfl rfl (by (try simp only [List.map_toArray, List.map_cons, List.map_nil]); first | done | rfl | (simp only [List.length_drop, List.length_take]; rfl)) ?_
                    with_reducible refine (arboretref06_Get.calls k1 a0_0 _ _ l0_1 a0_2 (fun k_ => ((((P0_3_ k_ ∨ P0_4_ k_) ∨ w.heap.size ≤ k_) ∧ (some k_ ≠ (u4 : Value).ownBlock ∧ (some k_ ≠ (.slice (some ad189) t186.length co6 : Value).ownBlock ∧ k_ ≠ gb185))) ∧ k_ ≠ gb198)) _ _ l0_3 (fun k_ => ((((P0_3_ k_ ∨ P0_4_ k_) ∨ w.heap.size ≤ k_) ∧ (some k_ ≠ (u4 : Value).ownBlock ∧ (some k_ ≠ (.slice (some ad189) t186.length co6 : Value).ownBlock ∧ k_ ≠ gb185))) ∧ k_ ≠ gb198)) _ _ l0_4 _ _ (rd_L13 t186 x18_1) t190 t191 t194 t197 _ ?side1 ?side2 ?side3 ?side4 ?side5 ?side6 A10.out).mono ?_
                    (case side1 => repeat (first | exact (Kd.C_below HR0_1.out HB.out) | (with_reducible refine Kd.C_alloc ?_ _) | (with_reducible refine Kd.C_drewN ?_ _) | (with_reducible refine Kd.C_drew ?_)))
                    (case side2 => exact HC0_1.out)
                    (case side3 => exact HO_186003.out)
                    (case side4 => exact HO_186004.out)
                    (case side5 => repeat (first | exact (by repeat (first | (with_reducible exact HR189_0.out) | (with_reducible refine Kd.C_alloc ?_ _) | (with_reducible refine Kd.C_drewN ?_ _) | (with_reducible refine Kd.C_drew ?_) | exact HR189_0.out)) | (with_reducible refine Kd.C_alloc ?_ _) | (with_reducible refine Kd.C_drewN ?_ _) | (with_reducible refine Kd.C_drew ?_)))
                    (case side6 => exact HC189_0.out)
                    rintro e w40 ⟨v192, v195, rfl, ho0, ho1, hb⟩
                    have HS5_ := (hb.cell (World.block_lt_of_cell? _ _ (hHeld.2.2.2.2.2))).trans (hHeld.2.2.2.2.2)
                    refine ⟨_, rfl, ?_⟩
                    have n0_ := Aside0.mk (Kd.N_below (by (with_reducible repeat (first | apply Kd.N_alloc | apply Kd.N_drewN | apply Kd.N_drew)); exact HO_4.out) hb)
                    have n1_ := Aside0.mk (Kd.N_below (by (with_reducible repeat (first | apply Kd.N_alloc | apply Kd.N_drewN | apply Kd.N_drew)); exact HO_5.out) hb)
                    have n2_ := Aside0.mk (Kd.V_below (by (with_reducible repeat (first | apply Kd.V_alloc | apply Kd.V_drewN | apply Kd.V_drew)); exact HO_186003.out) hb)
                    have n3_ := Aside0.mk (Kd.V_below (by (with_reducible repeat (first | apply Kd.V_alloc | apply Kd.V_drewN | apply Kd.V_drew)); exact HO_186004.out) hb)
                    have n4_ := Aside0.mk (Kd.V_below (by (with_reducible repeat (first | apply Kd.V_alloc | apply Kd.V_drewN | apply Kd.V_drew)); exact HL189_0.out) hb)
                    have n5_ := Aside0.mk (Kd.V_lower (Kd.V_mono (ok' := fun k_ => ((P0_3_ k_ ∨ P0_4_ k_) ∨ w.heap.size ≤ k_) ∧ some k_ ≠ (u4 : Value).ownBlock ∧ some k_ ≠ (.slice (some ad189) t186.length co6 : Value).ownBlock ∧ k_ ≠ gb185 ∧ k_ ≠ gb198) ho0 (fun k_ hk_ => ⟨Or.elim hk_ (fun hs_ => Or.elim hs_ (fun hs_ => hs_.1.1) (fun hs_ => hs_.1.1)) (fun hn_ => (.inr (Nat.le_trans (below_size (by repeat (first | (with_reducible first | exact HB.out | apply below_alloc | apply pw_below_drewN | apply below_drew1 | refine below_set ?_ GE185.out | refine below_set ?_ GE198.out) | exact HB.out))) hn_))), Or.elim hk_ (fun hs_ => Or.elim hs_ (fun hs_ => hs_.1.2.1) (fun hs_ => hs_.1.2.1)) (fun hn_ => (Kd.fresh' (Kd.N_lt (by (with_reducible repeat (first | apply Kd.N_alloc | apply Kd.N_drewN | apply Kd.N_drew)); exact HO_4.out)) k_ hn_)), Or.elim hk_ (fun hs_ => Or.elim hs_ (fun hs_ => hs_.1.2.2.1) (fun hs_ => hs_.1.2.2.1)) (fun hn_ => (Kd.fresh' (Kd.N_lt (by (with_reducible repeat (first | apply Kd.N_alloc | apply Kd.N_drewN | apply Kd.N_drew)); exact HO_5.out)) k_ hn_)), Or.elim hk_ (fun hs_ => Or.elim hs_ (fun hs_ => hs_.1.2.2.2) (fun hs_ => hs_.1.2.2.2)) (fun hn_ => (Kd.freshB (g := gb185) (o := .cells #[.int .u32 a0_0, .slice A0_1 l0_1.length c0_1, .string a0_2, .slice A0_3 l0_3.length c0_3, .slice A0_4 l0_4.length c0_4] 43 (0, 0)) (by (with_reducible repeat (first | refine blk_drewN ?_ _ | refine blk_drew ?_ | refine blk_alloc ?_ _)); exact BK185.out) k_ hn_)), Or.elim hk_ (fun hs_ => Or.elim hs_ (fun hs_ => hs_.2) (fun hs_ => hs_.2)) (fun hn_ => (Kd.freshB (g := gb198) (o := .cells #[.string (⟨#[]⟩ : ByteArray), .slice none 0 0, .slice none 0 0] 39 (0, 0)) (by (with_reducible repeat (first | refine blk_drewN ?_ _ | refine blk_drew ?_ | refine blk_alloc ?_ _)); exact BK198.out) k_ hn_))⟩)) (below_size (by repeat (first | (with_reducible first | exact HB.out | apply below_alloc | apply pw_below_drewN | apply below_drew1 | refine below_set ?_ GE185.out | refine below_set ?_ GE198.out) | exact HB.out))))
                    have n6_ := Aside0.mk (Kd.V_lower (Kd.V_mono (ok' := fun k_ => ((P0_3_ k_ ∨ P0_4_ k_) ∨ w.heap.size ≤ k_) ∧ some k_ ≠ (u4 : Value).ownBlock ∧ some k_ ≠ (.slice (some ad189) t186.length co6 : Value).ownBlock ∧ k_ ≠ gb185 ∧ k_ ≠ gb198) ho1 (fun k_ hk_ => ⟨Or.elim hk_ (fun hs_ => Or.elim hs_ (fun hs_ => hs_.1.1) (fun hs_ => hs_.1.1)) (fun hn_ => (.inr (Nat.le_trans (below_size (by repeat (first | (with_reducible first | exact HB.out | apply below_alloc | apply pw_below_drewN | apply below_drew1 | refine below_set ?_ GE185.out | refine below_set ?_ GE198.out) | exact HB.out))) hn_))), Or.elim hk_ (fun hs_ => Or.elim hs_ (fun hs_ => hs_.1.2.1) (fun hs_ => hs_.1.2.1)) (fun hn_ => (Kd.fresh' (Kd.N_lt (by (with_reducible repeat (first | apply Kd.N_alloc | apply Kd.N_drewN | apply Kd.N_drew)); exact HO_4.out)) k_ hn_)), Or.elim hk_ (fun hs_ => Or.elim hs_ (fun hs_ => hs_.1.2.2.1) (fun hs_ => hs_.1.2.2.1)) (fun hn_ => (Kd.fresh' (Kd.N_lt (by (with_reducible repeat (first | apply Kd.N_alloc | apply Kd.N_drewN | apply Kd.N_drew)); exact HO_5.out)) k_ hn_)), Or.elim hk_ (fun hs_ => Or.elim hs_ (fun hs_ => hs_.1.2.2.2) (fun hs_ => hs_.1.2.2.2)) (fun hn_ => (Kd.freshB (g := gb185) (o := .cells #[.int .u32 a0_0, .slice A0_1 l0_1.length c0_1, .string a0_2, .slice A0_3 l0_3.length c0_3, .slice A0_4 l0_4.length c0_4] 43 (0, 0)) (by (with_reducible repeat (first | refine blk_drewN ?_ _ | refine blk_drew ?_ | refine blk_alloc ?_ _)); exact BK185.out) k_ hn_)), Or.elim hk_ (fun hs_ => Or.elim hs_ (fun hs_ => hs_.2) (fun hs_ => hs_.2)) (fun hn_ => (Kd.freshB (g := gb198) (o := .cells #[.string (⟨#[]⟩ : ByteArray), .slice none 0 0, .slice none 0 0] 39 (0, 0)) (by (with_reducible repeat (first | refine blk_drewN ?_ _ | refine blk_drew ?_ | refine blk_alloc ?_ _)); exact BK198.out) k_ hn_))⟩)) (below_size (by repeat (first | (with_reducible first | exact HB.out | apply below_alloc | apply pw_below_drewN | apply below_drew1 | refine below_set ?_ GE185.out | refine below_set ?_ GE198.out) | exact HB.out))))
                    have n7_ := Aside0.mk (blk_below (g := gb185) (o := .cells #[.int .u32 a0_0, .slice A0_1 l0_1.length c0_1, .string a0_2, .slice A0_3 l0_3.length c0_3, .slice A0_4 l0_4.length c0_4] 43 (0, 0)) (by (with_reducible repeat (first | refine blk_drewN ?_ _ | refine blk_drew ?_ | refine blk_alloc ?_ _)); exact BK185.out) hb)
                    have n8_ := Aside0.mk (Kd.C_below (by repeat (first | (with_reducible exact HR189_0.out) | (with_reducible refine Kd.C_alloc ?_ _) | (with_reducible refine Kd.C_drewN ?_ _) | (with_reducible refine Kd.C_drew ?_) | exact HR189_0.out)) hb)
                    have n9_ := Aside0.mk (blk_below (g := gb198) (o := .cells #[.string (⟨#[]⟩ : ByteArray), .slice none 0 0, .slice none 0 0] 39 (0, 0)) (by (with_reducible repeat (first | refine blk_drewN ?_ _ | refine blk_drew ?_ | refine blk_alloc ?_ _)); exact BK198.out) hb)
                    have n10_ := Aside0.mk (below_step (by repeat (first | (with_reducible first | exact HB.out | apply below_alloc | apply pw_below_drewN | apply below_drew1 | refine below_set ?_ GE185.out | refine below_set ?_ GE198.out) | exact HB.out)) hb)
                    clear HO_4
                    clear HO_5
                    clear HO_186003
                    clear HO_186004
                    clear HL189_0
                    clear BK185
                    clear HR189_0
                    clear BK198
                    clear HB
                    have HO_4 := n0_
                    have HO_5 := n1_
                    have HO_186003 := n2_
                    have HO_186004 := n3_
                    have HL189_0 := n4_
                    have HO193 := n5_
                    have HO196 := n6_
                    have BK185 := n7_
                    have HR189_0 := n8_
                    have BK198 := n9_
                    have HB := n10_
                    clear n0_ n1_ n2_ n3_ n4_ n5_ n6_ n7_ n8_ n9_ n10_
                    (try clear hb)
                    (try clear hb2)
                    (try clear hk)
                    (try clear hi)
                    (try clear ho0)
                    (try clear ho1)
                    refine hK.out _ _ ⟨(blk_cell BK185.out 0).trans rfl, (blk_cell BK185.out 1).trans rfl, (blk_cell BK185.out 2).trans rfl, (blk_cell BK185.out 3).trans rfl, (blk_cell BK185.out 4).trans rfl, HS5_⟩ (fun hHeld => ?_)
                    clear hK K
                    refine norm_ (a' := ?_) ?_ ?_
                    rotate_left
                    · show Act.put _ (some 27) _ = _
                      simp only [Act.put, List.setIfInBounds_toArray, List.set_cons_zero, List.set_cons_succ, i64_w, i32_w]
                      rfl
                    refine pure_ (i := 6) (N := some 21) (v := ?_) (a' := ?_) #[true, true, true, true, true, true, true, false, false, true, false, false] rfl rfl (any_of HT_.out (by kernel_rfl)) (fun _ _ _ h => h) (Or.inl ⟨by rfl, ?_⟩) ?_ ?_
                    rotate_left
                    · intro w'
                      go_simp
                      with_reducible rfl
                    rotate_left
                    · simp only [Act.put, List.setIfInBounds_toArray, List.set_cons_zero, List.set_cons_succ, i64_w, i32_w]
                      rfl
                    refine pure_ (i := 7) (N := some 28) (v := ?_) (a' := ?_) #[true, true, true, true, true, true, true, true, false, true, false, false] rfl rfl (any_of HT_.out (by kernel_rfl)) (fun _ _ _ h => h) (Or.inl ⟨by rfl, ?_⟩) ?_ ?_
                    rotate_left
                    · intro w'
                      go_simp
                      with_reducible rfl
                    rotate_left
                    · simp only [Act.put, List.setIfInBounds_toArray, List.set_cons_zero, List.set_cons_succ, i64_w, i32_w]
                      rfl
                    refine pure_ (i := 8) (N := some 29) (v := ?_) (a' := ?_) #[true, true, true, true, true, true, true, true, true, true, false, false] rfl rfl (any_of HT_.out (by kernel_rfl)) (fun _ _ _ h => h) (Or.inl ⟨by rfl, ?_⟩) ?_ ?_
                    rotate_left
                    · intro w'
                      go_simp
                      with_reducible rfl
                    rotate_left
                    · simp only [Act.put, List.setIfInBounds_toArray, List.set_cons_zero, List.set_cons_succ, i64_w, i32_w]
                      rfl
                    exact norm_ (by simp only [putAll, Act.put, List.setIfInBounds_toArray, List.set_cons_zero, List.set_cons_succ]) (hCont (v192, v195, gb198) _ ⟨hHeld, (by (with_reducible repeat (first | apply Kd.V_alloc | apply Kd.V_drewN | apply Kd.V_drew)); exact Kd.V_mono HL189_0.out (fun _ hk => ⟨hk.1.1.1, ⟨hk.1.1.2.1, ⟨hk.1.2, ⟨hk.1.1.2.2, hk.2⟩⟩⟩⟩)), (by (with_reducible repeat (first | apply Kd.V_alloc | apply Kd.V_drewN | apply Kd.V_drew)); exact HO193.out), (by (with_reducible repeat (first | apply Kd.V_alloc | apply Kd.V_drewN | apply Kd.V_drew)); exact HO196.out), (by (with_reducible repeat (first | apply Kd.V_alloc | apply Kd.V_drewN | apply Kd.V_drew)); exact Kd.V_mono HO_186003.out (fun _ hk => ⟨hk.1.1, ⟨hk.1.2.1, ⟨hk.1.2.2.1, ⟨hk.1.2.2.2, hk.2⟩⟩⟩⟩)), (by (with_reducible repeat (first | apply Kd.V_alloc | apply Kd.V_drewN | apply Kd.V_drew)); exact Kd.V_mono HO_186004.out (fun _ hk => ⟨hk.1.1, ⟨hk.1.2.1, ⟨hk.1.2.2.1, ⟨hk.1.2.2.2, hk.2⟩⟩⟩⟩)), (by (with_reducible repeat (first | apply Kd.N_alloc | apply Kd.N_drewN | apply Kd.N_drew)); exact Kd.N_mono HO_4.out (fun _ hk => ⟨hk.1.1, ⟨hk.1.2.1, ⟨hk.1.2.2, hk.2⟩⟩⟩)), (by (with_reducible repeat (first | apply Kd.N_alloc | apply Kd.N_drewN | apply Kd.N_drew)); exact Kd.N_mono HO_5.out (fun _ hk => ⟨hk.1.1, ⟨hk.1.2.1, ⟨hk.1.2.2, hk.2⟩⟩⟩)), (by (with_reducible repeat (first | refine blk_drewN ?_ _ | refine blk_drew ?_ | refine blk_alloc ?_ _)); exact BK185.out), (by (with_reducible repeat (first | refine blk_drewN ?_ _ | refine blk_drew ?_ | refine blk_alloc ?_ _)); exact BK198.out), GW198.out, GE198.out, NB185_198.out, NB198_185.out, (by repeat (first | (with_reducible first | exact HB.out | apply below_alloc | apply pw_below_drewN | apply below_drew1 | refine below_set ?_ GE185.out | refine below_set ?_ GE198.out) | exact HB.out))⟩)
                rintro ⟨v192, v195, gb198⟩ w41 ⟨hS_, h0_, h1_, h2_, h3_, h4_, h5_, h6_, h7_, h8_, h9_, h10_, h11_, h12_, h13_⟩
                have n0_ : Aside0 (Kd.V (Kd.int .i64) 3 w41 w.heap.size (fun k_ => ((P0_3_ k_ ∨ P0_4_ k_) ∨ w.heap.size ≤ k_) ∧ some k_ ≠ (u4 : Value).ownBlock ∧ some k_ ≠ (.slice (some ad189) t186.length co6 : Value).ownBlock ∧ k_ ≠ gb185 ∧ k_ ≠ gb198) (.slice A189_0 (rd_L13 t186 x18_1).length c189_0) (rd_L13 t186 x18_1)) := ⟨h0_⟩
                have n1_ : Aside0 (Kd.V k104 104 w41 w.heap.size (fun k_ => ((P0_3_ k_ ∨ P0_4_ k_) ∨ w.heap.size ≤ k_) ∧ some k_ ≠ (u4 : Value).ownBlock ∧ some k_ ≠ (.slice (some ad189) t186.length co6 : Value).ownBlock ∧ k_ ≠ gb185 ∧ k_ ≠ gb198) v192 t191) := ⟨h1_⟩
                have n2_ : Aside0 (Kd.V k39 39 w41 w.heap.size (fun k_ => ((P0_3_ k_ ∨ P0_4_ k_) ∨ w.heap.size ≤ k_) ∧ some k_ ≠ (u4 : Value).ownBlock ∧ some k_ ≠ (.slice (some ad189) t186.length co6 : Value).ownBlock ∧ k_ ≠ gb185 ∧ k_ ≠ gb198) v195 t194) := ⟨h2_⟩
                have n3_ : Aside0 (Kd.V k104 104 w41 w.heap.size (fun k_ => ((P0_3_ k_ ∨ P0_4_ k_) ∨ w.heap.size ≤ k_) ∧ some k_ ≠ (u4 : Value).ownBlock ∧ some k_ ≠ (.slice (some ad189) t186.length co6 : Value).ownBlock ∧ k_ ≠ gb185 ∧ k_ ≠ gb198) (.slice A0_3 l0_3.length c0_3) l0_3) := ⟨h3_⟩
                have n4_ : Aside0 (Kd.V k39 39 w41 w.heap.size (fun k_ => ((P0_3_ k_ ∨ P0_4_ k_) ∨ w.heap.size ≤ k_) ∧ some k_ ≠ (u4 : Value).ownBlock ∧ some k_ ≠ (.slice (some ad189) t186.length co6 : Value).ownBlock ∧ k_ ≠ gb185 ∧ k_ ≠ gb198) (.slice A0_4 l0_4.length c0_4) l0_4) := ⟨h4_⟩
                have n5_ : Aside0 (Kd.N k83 83 w41 w.heap.size (fun k_ => ((P0_3_ k_ ∨ P0_4_ k_) ∨ w.heap.size ≤ k_) ∧ some k_ ≠ (.slice (some ad189) t186.length co6 : Value).ownBlock ∧ k_ ≠ gb185 ∧ k_ ≠ gb198) u4 x4_1) := ⟨h5_⟩
                have n6_ : Aside0 (Kd.N (Kd.slice 3 (Kd.int .i64)) 65 w41 w.heap.size (fun k_ => ((P0_3_ k_ ∨ P0_4_ k_) ∨ w.heap.size ≤ k_) ∧ some k_ ≠ (u4 : Value).ownBlock ∧ k_ ≠ gb185 ∧ k_ ≠ gb198) (.slice (some ad189) t186.length co6) t186) := ⟨h6_⟩
                have n7_ : Aside0 (w41.heap[gb185]? = some (.cells #[.int .u32 a0_0, .slice A0_1 l0_1.length c0_1, .string a0_2, .slice A0_3 l0_3.length c0_3, .slice A0_4 l0_4.length c0_4] 43 (0, 0))) := ⟨h7_⟩
                have n8_ : Aside0 (w41.heap[gb198]? = some (.cells #[.string (⟨#[]⟩ : ByteArray), .slice none 0 0, .slice none 0 0] 39 (0, 0))) := ⟨h8_⟩
                have n9_ : Aside0 (w.heap.size ≤ gb198) := ⟨h9_⟩
                have n10_ : Aside0 (w.heap.size ≤ gb198) := ⟨h10_⟩
                have n11_ : Aside0 (gb185 ≠ gb198) := ⟨h11_⟩
                have n12_ : Aside0 (gb198 ≠ gb185) := ⟨h12_⟩
                have n13_ : Aside0 (Below w.heap.size w w41) := ⟨h13_⟩
                clear HO_4
                clear HO_5
                clear HO_186003
                clear HO_186004
                clear BK185
                clear HB
                clear h0_ h1_ h2_ h3_ h4_ h5_ h6_ h7_ h8_ h9_ h10_ h11_ h12_ h13_
                have HL189_0 := n0_
                have HO193 := n1_
                have HO196 := n2_
                have HO_186003 := n3_
                have HO_186004 := n4_
                have HO_4 := n5_
                have HO_5 := n6_
                have BK185 := n7_
                have BK198 := n8_
                have GW198 := n9_
                have GE198 := n10_
                have NB185_198 := n11_
                have NB198_185 := n12_
                have HB := n13_
                clear n0_ n1_ n2_ n3_ n4_ n5_ n6_ n7_ n8_ n9_ n10_ n11_ n12_ n13_
                have hHeld : w41.cell? ⟨gb185, 0, none⟩ = some (.int .u32 a0_0) ∧ w41.cell? ⟨gb185, 1, none⟩ = some (.slice A0_1 l0_1.length c0_1) ∧ w41.cell? ⟨gb185, 2, none⟩ = some (.string a0_2) ∧ w41.cell? ⟨gb185, 3, none⟩ = some (.slice A0_3 l0_3.length c0_3) ∧ w41.cell? ⟨gb185, 4, none⟩ = some (.slice A0_4 l0_4.length c0_4) ∧ w41.cell? (ad189.add (x18_1).toNat) = some (.slice A189_0 (rd_L13 t186 x18_1).length c189_0) := hS_
                obtain ⟨Ao43, co43, eo43⟩ := Kd.V_slice HO193.out
                (first | subst eo43 | (injection eo43 with f1_ f2_ f3_; have f4_ := f1_.symm; have f5_ := f3_.symm; clear f1_ f2_ f3_; subst f4_; subst f5_))
                obtain ⟨Ao45, co45, eo45⟩ := Kd.V_slice HO196.out
                (first | subst eo45 | (injection eo45 with f1_ f2_ f3_; have f4_ := f1_.symm; have f5_ := f3_.symm; clear f1_ f2_ f3_; subst f4_; subst f5_))
                refine norm_ (a' := ?_) ?_ ?_
                rotate_left
                · simp only [putAll, Act.put, List.setIfInBounds_toArray, List.set_cons_zero, List.set_cons_succ]
                  rfl
                refine one_ (i := 10) (N := none) #[true, true, true, true, true, true, true, true, true, true, true, false] rfl rfl (one_of HT_.out (by kernel_rfl)) (by decide) (fun K hK => ?_)
                have hs42 : w41.cell? ⟨gb198, 0, none⟩ = some (.string (⟨#[]⟩ : ByteArray)) := (blk_cell BK198.out 0).trans rfl
                have hfs42 := blk_frozen BK198.out 0
                have hns42_0 := NB185_198.out
                have hms42_0 := NB198_185.out
                have hs44 : w41.cell? ⟨gb198, 1, none⟩ = some (.slice none 0 0) := (blk_cell BK198.out 1).trans rfl
                have hfs44 := blk_frozen BK198.out 1
                have hns44_0 := NB185_198.out
                have hms44_0 := NB198_185.out
                have hs46 : w41.cell? ⟨gb198, 2, none⟩ = some (.slice none 0 0) := (blk_cell BK198.out 2).trans rfl
                have hfs46 := blk_frozen BK198.out 2
                have hns46_0 := NB185_198.out
                have hms46_0 := NB198_185.out
                refine skip_ (w1 := ?_) (by rfl) rfl ?_ ?_
                rotate_left
                · go_simp
                  rfl
                refine hK.out _ _ ⟨((cell_far (p := ⟨gb198, _, none⟩) NB185_198.out _).trans (((cell_far (p := ⟨gb198, _, none⟩) NB185_198.out _).trans (((cell_far (p := ⟨gb198, _, none⟩) NB185_198.out _).trans (hHeld.1)))))), ((cell_far (p := ⟨gb198, _, none⟩) NB185_198.out _).trans (((cell_far (p := ⟨gb198, _, none⟩) NB185_198.out _).trans (((cell_far (p := ⟨gb198, _, none⟩) NB185_198.out _).trans (hHeld.2.1)))))), ((cell_far (p := ⟨gb198, _, none⟩) NB185_198.out _).trans (((cell_far (p := ⟨gb198, _, none⟩) NB185_198.out _).trans (((cell_far (p := ⟨gb198, _, none⟩) NB185_198.out _).trans (hHeld.2.2.1)))))), ((cell_far (p := ⟨gb198, _, none⟩) NB185_198.out _).trans (((cell_far (p := ⟨gb198, _, none⟩) NB185_198.out _).trans (((cell_far (p := ⟨gb198, _, none⟩) NB185_198.out _).trans (hHeld.2.2.2.1)))))), ((cell_far (p := ⟨gb198, _, none⟩) NB185_198.out _).trans (((cell_far (p := ⟨gb198, _, none⟩) NB185_198.out _).trans (((cell_far (p := ⟨gb198, _, none⟩) NB185_198.out _).trans (hHeld.2.2.2.2.1)))))), ((cell_far (p := ⟨gb198, _, none⟩) (by first | exact Kd.own_blk (Kd.N_away HO_5.out (fun _ hk => hk.2.2.2)) | (rw [add_block]; exact Kd.own_blk (Kd.N_away HO_5.out (fun _ hk => hk.2.2.2))) | (show (Addr.add _ _).block ≠ _; rw [add_block]; exact Kd.own_blk (Kd.N_away HO_5.out (fun _ hk => hk.2.2.2))) | (dsimp only; exact Kd.own_blk (Kd.N_away HO_5.out (fun _ hk => hk.2.2.2)))) _).trans (((cell_far (p := ⟨gb198, _, none⟩) (by first | exact Kd.own_blk (Kd.N_away HO_5.out (fun _ hk => hk.2.2.2)) | (rw [add_block]; exact Kd.own_blk (Kd.N_away HO_5.out (fun _ hk => hk.2.2.2))) | (show (Addr.add _ _).block ≠ _; rw [add_block]; exact Kd.own_blk (Kd.N_away HO_5.out (fun _ hk => hk.2.2.2))) | (dsimp only; exact Kd.own_blk (Kd.N_away HO_5.out (fun _ hk => hk.2.2.2)))) _).trans (((cell_far (p := ⟨gb198, _, none⟩) (by first | exact Kd.own_blk (Kd.N_away HO_5.out (fun _ hk => hk.2.2.2)) | (rw [add_block]; exact Kd.own_blk (Kd.N_away HO_5.out (fun _ hk => hk.2.2.2))) | (show (Addr.add _ _).block ≠ _; rw [add_block]; exact Kd.own_blk (Kd.N_away HO_5.out (fun _ hk => hk.2.2.2))) | (dsimp only; exact Kd.own_blk (Kd.N_away HO_5.out (fun _ hk => hk.2.2.2)))) _).trans (hHeld.2.2.2.2.2))))))⟩ (fun hHeld => ?_)
                clear hK K
                refine pure_ (i := 11) (N := some 8) (v := ?_) (a' := ?_) #[true, true, true, true, true, true, true, true, true, true, true, true] rfl rfl (any_of HT_.out (by kernel_rfl)) (fun _ _ _ h => h) (Or.inl ⟨by rfl, ?_⟩) ?_ ?_
                rotate_left
                · intro w'
                  go_simp
                  with_reducible rfl
                rotate_left
                · simp only [Act.put, List.setIfInBounds_toArray, List.set_cons_zero, List.set_cons_succ, i64_w, i32_w]
                  rfl
                refine done_ (done_of HT_.out (by kernel_rfl)) ?_
                have hnb47 := NB198_185.out
                have hnc47 := NB185_198.out
                have hcz48_0 : w41.cell? ⟨gb198, 0, none⟩ = some (.string (⟨#[]⟩ : ByteArray)) := (blk_cell BK198.out 0).trans rfl
                have hcz48_1 : w41.cell? ⟨gb198, 1, none⟩ = some (.slice none 0 0) := (blk_cell BK198.out 1).trans rfl
                have hcz48_2 : w41.cell? ⟨gb198, 2, none⟩ = some (.slice none 0 0) := (blk_cell BK198.out 2).trans rfl
                have hfz48_0 := blk_frozen BK198.out 0
                have hfz48_1 := blk_frozen BK198.out 1
                have hfz48_2 := blk_frozen BK198.out 2
                try go_wp2_with (first | ((with_reducible refine gate_callee (f := 23) rfl ?_); refine goesL_ (some 32) rfl rfl Try.func23 (by kernel_rfl) rfl #[.agg #[.string t190, .slice Ao43 t191.length co43, .slice Ao45 t194.length co45], .string (⟨#[112, 104, 97, 110, 100, 108, 101]⟩ : ByteArray)] rfl (by (try simp only [List.map_toArray, List.map_cons, List.map_nil]); first | done | rfl | (simp only [List.length_drop, List.length_take]; rfl)) ?_; (with_reducible refine (arboretref06_One.calls k1 t190 _ _ t191 _ _ t194 (⟨#[112, 104, 97, 110, 100, 108, 101]⟩ : ByteArray) t199 false t201 _ ?side1 ?side2 ?side3 ?side4 A11.out).mono ?_); (case side1 => refine (Kd.V_reads' (e := 104) (base := w.heap.size) (ok := fun k_ => (((P0_3_ k_ ∨ P0_4_ k_) ∨ w.heap.size ≤ k_) ∧ (some k_ ≠ (u4 : Value).ownBlock ∧ (some k_ ≠ (.slice (some ad189) t186.length co6 : Value).ownBlock ∧ (k_ ≠ gb185 ∧ k_ ≠ gb198))))) (n := t191.length) (c := co43) ?_).2.2; exact (by (with_reducible repeat (first | apply Kd.V_alloc | apply Kd.V_drewN | apply Kd.V_drew)); exact (Kd.V_mono (Kd.V_far (p := ⟨gb198, 2, none⟩) (Kd.V_far (p := ⟨gb198, 1, none⟩) (Kd.V_far (p := ⟨gb198, 0, none⟩) (Kd.V_mono HO193.out (fun k_ hk => (⟨hk, hk.2.2.2.2⟩ : _ ∧ k_ ≠ gb198))) (fun _ hk => hk.2) (.string t190)) (fun _ hk => hk.2) (.slice Ao43 t191.length co43)) (fun _ hk => hk.2) (.slice Ao45 t194.length co45)) (fun _ h_ => h_.1)))); (case side2 => exact (Kd.V_reads' HO193.out).2.1); (case side3 => refine (Kd.V_reads' (e := 39) (base := w.heap.size) (ok := fun k_ => (((P0_3_ k_ ∨ P0_4_ k_) ∨ w.heap.size ≤ k_) ∧ (some k_ ≠ (u4 : Value).ownBlock ∧ (some k_ ≠ (.slice (some ad189) t186.length co6 : Value).ownBlock ∧ (k_ ≠ gb185 ∧ k_ ≠ gb198))))) (n := t194.length) (c := co45) ?_).2.2; exact (by (with_reducible repeat (first | apply Kd.V_alloc | apply Kd.V_drewN | apply Kd.V_drew)); exact (Kd.V_mono (Kd.V_far (p := ⟨gb198, 2, none⟩) (Kd.V_far (p := ⟨gb198, 1, none⟩) (Kd.V_far (p := ⟨gb198, 0, none⟩) (Kd.V_mono HO196.out (fun k_ hk => (⟨hk, hk.2.2.2.2⟩ : _ ∧ k_ ≠ gb198))) (fun _ hk => hk.2) (.string t190)) (fun _ hk => hk.2) (.slice Ao43 t191.length co43)) (fun _ hk => hk.2) (.slice Ao45 t194.length co45)) (fun _ h_ => h_.1)))); (case side4 => exact (Kd.V_reads' HO196.out).2.1); rintro e w49 ⟨rfl, hb⟩; refine ⟨_, rfl, ?_⟩; have n0_ := Aside0.mk (Kd.N_below (by (with_reducible repeat (first | apply Kd.N_alloc | apply Kd.N_drewN | apply Kd.N_drew)); exact (Kd.N_mono (Kd.N_far (p := ⟨gb198, 2, none⟩) (Kd.N_far (p := ⟨gb198, 1, none⟩) (Kd.N_far (p := ⟨gb198, 0, none⟩) (Kd.N_mono HO_4.out (fun k_ hk => (⟨hk, hk.2.2.2⟩ : _ ∧ k_ ≠ gb198))) (fun _ hk => hk.2) (.string t190)) (fun _ hk => hk.2) (.slice Ao43 t191.length co43)) (fun _ hk => hk.2) (.slice Ao45 t194.length co45)) (fun _ h_ => h_.1))) hb); have n1_ := Aside0.mk (Kd.N_below (by (with_reducible repeat (first | apply Kd.N_alloc | apply Kd.N_drewN | apply Kd.N_drew)); exact (Kd.N_mono (Kd.N_far (p := ⟨gb198, 2, none⟩) (Kd.N_far (p := ⟨gb198, 1, none⟩) (Kd.N_far (p := ⟨gb198, 0, none⟩) (Kd.N_mono HO_5.out (fun k_ hk => (⟨hk, hk.2.2.2⟩ : _ ∧ k_ ≠ gb198))) (fun _ hk => hk.2) (.string t190)) (fun _ hk => hk.2) (.slice Ao43 t191.length co43)) (fun _ hk => hk.2) (.slice Ao45 t194.length co45)) (fun _ h_ => h_.1))) hb); have n2_ := Aside0.mk (Kd.V_below (by (with_reducible repeat (first | apply Kd.V_alloc | apply Kd.V_drewN | apply Kd.V_drew)); exact (Kd.V_mono (Kd.V_far (p := ⟨gb198, 2, none⟩) (Kd.V_far (p := ⟨gb198, 1, none⟩) (Kd.V_far (p := ⟨gb198, 0, none⟩) (Kd.V_mono HO_186003.out (fun k_ hk => (⟨hk, hk.2.2.2.2⟩ : _ ∧ k_ ≠ gb198))) (fun _ hk => hk.2) (.string t190)) (fun _ hk => hk.2) (.slice Ao43 t191.length co43)) (fun _ hk => hk.2) (.slice Ao45 t194.length co45)) (fun _ h_ => h_.1))) hb); have n3_ := Aside0.mk (Kd.V_below (by (with_reducible repeat (first | apply Kd.V_alloc | apply Kd.V_drewN | apply Kd.V_drew)); exact (Kd.V_mono (Kd.V_far (p := ⟨gb198, 2, none⟩) (Kd.V_far (p := ⟨gb198, 1, none⟩) (Kd.V_far (p := ⟨gb198, 0, none⟩) (Kd.V_mono HO_186004.out (fun k_ hk => (⟨hk, hk.2.2.2.2⟩ : _ ∧ k_ ≠ gb198))) (fun _ hk => hk.2) (.string t190)) (fun _ hk => hk.2) (.slice Ao43 t191.length co43)) (fun _ hk => hk.2) (.slice Ao45 t194.length co45)) (fun _ h_ => h_.1))) hb); have n4_ := Aside0.mk (Kd.V_below (by (with_reducible repeat (first | apply Kd.V_alloc | apply Kd.V_drewN | apply Kd.V_drew)); exact (Kd.V_mono (Kd.V_far (p := ⟨gb198, 2, none⟩) (Kd.V_far (p := ⟨gb198, 1, none⟩) (Kd.V_far (p := ⟨gb198, 0, none⟩) (Kd.V_mono HL189_0.out (fun k_ hk => (⟨hk, hk.2.2.2.2⟩ : _ ∧ k_ ≠ gb198))) (fun _ hk => hk.2) (.string t190)) (fun _ hk => hk.2) (.slice Ao43 t191.length co43)) (fun _ hk => hk.2) (.slice Ao45 t194.length co45)) (fun _ h_ => h_.1))) hb); have n5_ := Aside0.mk (Kd.V_below (by (with_reducible repeat (first | apply Kd.V_alloc | apply Kd.V_drewN | apply Kd.V_drew)); exact (Kd.V_mono (Kd.V_far (p := ⟨gb198, 2, none⟩) (Kd.V_far (p := ⟨gb198, 1, none⟩) (Kd.V_far (p := ⟨gb198, 0, none⟩) (Kd.V_mono HO193.out (fun k_ hk => (⟨hk, hk.2.2.2.2⟩ : _ ∧ k_ ≠ gb198))) (fun _ hk => hk.2) (.string t190)) (fun _ hk => hk.2) (.slice Ao43 t191.length co43)) (fun _ hk => hk.2) (.slice Ao45 t194.length co45)) (fun _ h_ => h_.1))) hb); have n6_ := Aside0.mk (Kd.V_below (by (with_reducible repeat (first | apply Kd.V_alloc | apply Kd.V_drewN | apply Kd.V_drew)); exact (Kd.V_mono (Kd.V_far (p := ⟨gb198, 2, none⟩) (Kd.V_far (p := ⟨gb198, 1, none⟩) (Kd.V_far (p := ⟨gb198, 0, none⟩) (Kd.V_mono HO196.out (fun k_ hk => (⟨hk, hk.2.2.2.2⟩ : _ ∧ k_ ≠ gb198))) (fun _ hk => hk.2) (.string t190)) (fun _ hk => hk.2) (.slice Ao43 t191.length co43)) (fun _ hk => hk.2) (.slice Ao45 t194.length co45)) (fun _ h_ => h_.1))) hb); have n7_ := Aside0.mk (blk_below (g := gb185) (o := .cells #[.int .u32 a0_0, .slice A0_1 l0_1.length c0_1, .string a0_2, .slice A0_3 l0_3.length c0_3, .slice A0_4 l0_4.length c0_4] 43 (0, 0)) (by (with_reducible repeat (first | refine blk_drewN ?_ _ | refine blk_drew ?_ | refine blk_alloc ?_ _)); refine blk_far ?_ NB185_198.out _; (with_reducible repeat (first | refine blk_drewN ?_ _ | refine blk_drew ?_ | refine blk_alloc ?_ _)); refine blk_far ?_ NB185_198.out _; (with_reducible repeat (first | refine blk_drewN ?_ _ | refine blk_drew ?_ | refine blk_alloc ?_ _)); refine blk_far ?_ NB185_198.out _; (with_reducible repeat (first | refine blk_drewN ?_ _ | refine blk_drew ?_ | refine blk_alloc ?_ _)); exact BK185.out) hb); have n8_ := Aside0.mk (blk_below (g := gb198) (o := .cells #[.string t190, .slice Ao43 t191.length co43, .slice Ao45 t194.length co45] 39 (0, 0)) (by (with_reducible repeat (first | refine blk_drewN ?_ _ | refine blk_drew ?_ | refine blk_alloc ?_ _)); refine blk_put (cs := #[.string t190, .slice Ao43 t191.length co43, .slice none 0 0]) ?_ 2 _ rfl; (with_reducible repeat (first | refine blk_drewN ?_ _ | refine blk_drew ?_ | refine blk_alloc ?_ _)); refine blk_put (cs := #[.string t190, .slice none 0 0, .slice none 0 0]) ?_ 1 _ rfl; (with_reducible repeat (first | refine blk_drewN ?_ _ | refine blk_drew ?_ | refine blk_alloc ?_ _)); refine blk_put (cs := #[.string (⟨#[]⟩ : ByteArray), .slice none 0 0, .slice none 0 0]) ?_ 0 _ rfl; (with_reducible repeat (first | refine blk_drewN ?_ _ | refine blk_drew ?_ | refine blk_alloc ?_ _)); exact BK198.out) hb); have n9_ := Aside0.mk (below_step (by repeat (first | (with_reducible first | exact HB.out | apply below_alloc | apply pw_below_drewN | apply below_drew1 | refine below_set ?_ GE185.out | refine below_set ?_ GE198.out) | exact HB.out)) hb); clear HO_4; clear HO_5; clear HO_186003; clear HO_186004; clear HL189_0; clear HO193; clear HO196; clear BK185; clear BK198; clear HB; have HO_4 := n0_; have HO_5 := n1_; have HO_186003 := n2_; have HO_186004 := n3_; have HL189_0 := n4_; have HO193 := n5_; have HO196 := n6_; have BK185 := n7_; have BK198 := n8_; have HB := n9_; clear n0_ n1_ n2_ n3_ n4_ n5_ n6_ n7_ n8_ n9_; (try clear hb); (try clear hb2); (try clear hk); (try clear hi)))
                go_roundg k1
                case measure => have := HK1.out; omega
                case rel => exact ⟨(x4_1), (wrap64 (x18_1 + 1)), (by first | rfl | (simp; done) | (simp [*]; done)), H', ⟨by have := HK1.out; omega⟩, ⟨by (with_reducible repeat (first | apply Kd.N_alloc | apply Kd.N_drewN | apply Kd.N_drew)); exact Kd.N_mono HO_4.out (fun _ hk => ⟨hk.1, ⟨hk.2.1, hk.2.2.1⟩⟩)⟩, ⟨by (with_reducible repeat (first | apply Kd.N_alloc | apply Kd.N_drewN | apply Kd.N_drew)); exact Kd.N_mono HO_5.out (fun _ hk => ⟨hk.1, ⟨hk.2.1, hk.2.2.1⟩⟩)⟩, ⟨by (with_reducible repeat (first | apply Kd.V_alloc | apply Kd.V_drewN | apply Kd.V_drew)); exact Kd.V_mono HO_186003.out (fun _ hk => ⟨hk.1, ⟨hk.2.1, ⟨hk.2.2.1, hk.2.2.2.1⟩⟩⟩)⟩, ⟨by (with_reducible repeat (first | apply Kd.V_alloc | apply Kd.V_drewN | apply Kd.V_drew)); exact Kd.V_mono HO_186004.out (fun _ hk => ⟨hk.1, ⟨hk.2.1, ⟨hk.2.2.1, hk.2.2.2.1⟩⟩⟩)⟩, ⟨by (with_reducible repeat (first | refine blk_drewN ?_ _ | refine blk_drew ?_ | refine blk_alloc ?_ _)); exact BK185.out⟩, ⟨by repeat (first | (with_reducible first | exact HB.out | apply below_alloc | apply pw_below_drewN | apply below_drew1 | refine below_set ?_ GE185.out | refine below_set ?_ GE198.out) | exact HB.out)⟩⟩
            · rw [if_neg c12] at H
              have c12b0 : (t201 == 0) = false := beq_eq_false_iff_ne.mpr c12
              have c12b1 : (t201 != 0) = true := bne_iff_ne.mpr c12
              simp only [Option.some.injEq, Prod.mk.injEq] at H
              obtain ⟨rfl, rfl⟩ := H
              try go_wp2
              have n0_ := Aside0.mk (Kd.N_drew HO_4.out)
              have n1_ := Aside0.mk (Kd.N_drew HO_5.out)
              have n2_ := Aside0.mk (Kd.V_drew HO_186003.out)
              have n3_ := Aside0.mk (Kd.V_drew HO_186004.out)
              have n4_ := Aside0.mk (blk_drew BK185.out)
              have n5_ := Aside0.mk (below_drew1 HB.out)
              clear HO_4
              clear HO_5
              clear HO_186003
              clear HO_186004
              clear BK185
              clear HB
              have HO_4 := n0_
              have HO_5 := n1_
              have HO_186003 := n2_
              have HO_186004 := n3_
              have BK185 := n4_
              have HB := n5_
              clear n0_ n1_ n2_ n3_ n4_ n5_
              have p189 : 0 ≤ (x18_1 : Int) := of_decide_eq_true (by first | (with_reducible assumption) | assumption)
              have q189 : x18_1 < (t186.length : Int) := of_decide_eq_true (by first | (with_reducible assumption) | assumption)
              obtain ⟨ad189, A189_0, c189_0, e189, hx189_0, hl189_0, hi189_0⟩ := at_L13 (Kd.N_reads' HO_5.out).2.2 x18_1 p189 q189
              cases e189
              obtain ⟨ce189, hce189, hMe189, hcc189⟩ := Kd.N_get HO_5.out [] x18_1 p189 (by first | exact q189 | exact of_decide_eq_true (by first | (with_reducible assumption) | assumption) | (have e_ := (Kd.N_reads' HO_5.out).1; omega))
              obtain ⟨ua189_0, uc189_0, rfl, ul189_0, ge189_0⟩ := Kd.FK_slice_open hMe189
              have hv189_0 := hcc189 0 _ rfl
              rw [Nat.add_zero, show ((Kd.slice 3 (Kd.int .i64))).sz = 1 from rfl, Nat.mul_one] at hv189_0
              replace hv189_0 := Option.some.inj (hv189_0.symm.trans hx189_0)
              injection hv189_0 with hva_ hvn_ hvc_
              rw [hva_] at ge189_0
              rw [hvc_] at ul189_0
              have HL189_0 := Aside0.mk (show Kd.V (Kd.int .i64) 3 _ w.heap.size _ _ (rd_L13 t186 x18_1) from Kd.V_mk ul189_0 ge189_0)
              clear hva_ hvn_ hvc_ ge189_0 ul189_0
              clear hcc189 hce189
              have HR189_0 := Aside0.mk hi189_0
              have HC189_0 := Aside0.mk hl189_0
              clear hi189_0 hl189_0
              replace p189 := eq_true p189
              replace q189 := eq_true q189
              refine start_ (n := 12) (S := fun w' => w'.cell? ⟨gb185, 0, none⟩ = some (.int .u32 a0_0) ∧ w'.cell? ⟨gb185, 1, none⟩ = some (.slice A0_1 l0_1.length c0_1) ∧ w'.cell? ⟨gb185, 2, none⟩ = some (.string a0_2) ∧ w'.cell? ⟨gb185, 3, none⟩ = some (.slice A0_3 l0_3.length c0_3) ∧ w'.cell? ⟨gb185, 4, none⟩ = some (.slice A0_4 l0_4.length c0_4) ∧ w'.cell? (ad189.add (x18_1).toNat) = some (.slice A189_0 (rd_L13 t186 x18_1).length c189_0)) (ds := []) #[false, false, false, false, false, false, false, false, false, false, false, false] (by kernel_rfl) rfl rfl ⟨(blk_cell BK185.out 0).trans rfl, (blk_cell BK185.out 1).trans rfl, (blk_cell BK185.out 2).trans rfl, (blk_cell BK185.out 3).trans rfl, (blk_cell BK185.out 4).trans rfl, hx189_0⟩ (fun hHeld => ?_); refine with_tabW arboretref06_Index.tab6 arboretref06_Index.bits6 (fun HT_ HW_ => ?_)
              generalize wr.drew = w50 at HO_4 HO_5 HO_186003 HO_186004 BK185 HB HL189_0 HR189_0 hx189_0 hHeld ⊢
              refine pure_ (i := 1) (N := some 23) (v := ?_) (a' := ?_) #[false, true, false, false, false, false, false, false, false, false, false, false] rfl rfl (any_of HT_.out (by kernel_rfl)) (fun _ _ _ h => h) (Or.inl ⟨by rfl, ?_⟩) ?_ ?_
              rotate_left
              · intro w'
                go_simp
                with_reducible rfl
              rotate_left
              · simp only [Act.put, List.setIfInBounds_toArray, List.set_cons_zero, List.set_cons_succ, i64_w, i32_w]
                rfl
              refine pure_ (i := 2) (N := some 24) (v := ?_) (a' := ?_) #[false, true, true, false, false, false, false, false, false, false, false, false] rfl rfl (any_of HT_.out (by kernel_rfl)) (fun _ _ _ h => h) (Or.inl ⟨by rfl, ?_⟩) ?_ ?_
              rotate_left
              · intro w'
                go_simp
                with_reducible rfl
              rotate_left
              · simp only [Act.put, List.setIfInBounds_toArray, List.set_cons_zero, List.set_cons_succ, i64_w, i32_w]
                rfl
              refine pure_ (i := 3) (N := some 25) (v := ?_) (a' := ?_) #[false, true, true, true, false, false, false, false, false, false, false, false] rfl rfl (any_of HT_.out (by kernel_rfl)) (fun _ _ _ h => h) (Or.inl ⟨by rfl, ?_⟩) ?_ ?_
              rotate_left
              · intro w'
                go_simp
                with_reducible rfl
              rotate_left
              · simp only [Act.put, List.setIfInBounds_toArray, List.set_cons_zero, List.set_cons_succ, i64_w, i32_w]
                rfl
              refine take_ (i := 0) (N := some 22) (v := ?_) (a' := ?_) #[true, true, true, true, false, false, false, false, false, false, false, false] rfl rfl (take_ofW HT_.out HW_.out (by kernel_rfl)) (fun _ _ _ h => h) (Or.inl ⟨by rfl, ?_⟩) hHeld ?_ ?_
              rotate_left
              · rintro w' ⟨s0, s1, s2, s3, s4, s5⟩
                go_simp
                with_reducible rfl
              rotate_left
              · simp only [Act.put, List.setIfInBounds_toArray, List.set_cons_zero, List.set_cons_succ, i64_w, i32_w]
                rfl
              refine take_ (i := 4) (N := some 26) (v := ?_) (a' := ?_) #[true, true, true, true, true, false, false, false, false, false, false, false] rfl rfl (take_ofW HT_.out HW_.out (by kernel_rfl)) (fun _ _ _ h => h) (Or.inl ⟨by rfl, ?_⟩) hHeld ?_ ?_
              rotate_left
              · rintro w' ⟨s0, s1, s2, s3, s4, s5⟩
                go_simp
                with_reducible rfl
              rotate_left
              · simp only [Act.put, List.setIfInBounds_toArray, List.set_cons_zero, List.set_cons_succ, i64_w, i32_w]
                rfl
              refine join_ (σ := Value × Value × Nat) 2 #[true, true, true, true, true, true, true, true, true, true, false, false] (fun s_ => [(27, .tuple #[.agg #[.string t190, s_.1, s_.2.1], .bool t197]), (7, .pointer (some ⟨s_.2.2, 0, none⟩)), (21, .tuple #[.agg #[.string t190, s_.1, s_.2.1], .bool t197]), (28, .agg #[.string t190, s_.1, s_.2.1]), (29, .bool t197)]) (fun s_ w' => (w'.cell? ⟨gb185, 0, none⟩ = some (.int .u32 a0_0) ∧ w'.cell? ⟨gb185, 1, none⟩ = some (.slice A0_1 l0_1.length c0_1) ∧ w'.cell? ⟨gb185, 2, none⟩ = some (.string a0_2) ∧ w'.cell? ⟨gb185, 3, none⟩ = some (.slice A0_3 l0_3.length c0_3) ∧ w'.cell? ⟨gb185, 4, none⟩ = some (.slice A0_4 l0_4.length c0_4) ∧ w'.cell? (ad189.add (x18_1).toNat) = some (.slice A189_0 (rd_L13 t186 x18_1).length c189_0)) ∧ (Kd.V (Kd.int .i64) 3 w' w.heap.size (fun k_ => ((P0_3_ k_ ∨ P0_4_ k_) ∨ w.heap.size ≤ k_) ∧ some k_ ≠ (u4 : Value).ownBlock ∧ some k_ ≠ (.slice (some ad189) t186.length co6 : Value).ownBlock ∧ k_ ≠ gb185 ∧ k_ ≠ s_.2.2) (.slice A189_0 (rd_L13 t186 x18_1).length c189_0) (rd_L13 t186 x18_1)) ∧ (Kd.V k104 104 w' w.heap.size (fun k_ => ((P0_3_ k_ ∨ P0_4_ k_) ∨ w.heap.size ≤ k_) ∧ some k_ ≠ (u4 : Value).ownBlock ∧ some k_ ≠ (.slice (some ad189) t186.length co6 : Value).ownBlock ∧ k_ ≠ gb185 ∧ k_ ≠ s_.2.2) s_.1 t191) ∧ (Kd.V k39 39 w' w.heap.size (fun k_ => ((P0_3_ k_ ∨ P0_4_ k_) ∨ w.heap.size ≤ k_) ∧ some k_ ≠ (u4 : Value).ownBlock ∧ some k_ ≠ (.slice (some ad189) t186.length co6 : Value).ownBlock ∧ k_ ≠ gb185 ∧ k_ ≠ s_.2.2) s_.2.1 t194) ∧ (Kd.V k104 104 w' w.heap.size (fun k_ => ((P0_3_ k_ ∨ P0_4_ k_) ∨ w.heap.size ≤ k_) ∧ some k_ ≠ (u4 : Value).ownBlock ∧ some k_ ≠ (.slice (some ad189) t186.length co6 : Value).ownBlock ∧ k_ ≠ gb185 ∧ k_ ≠ s_.2.2) (.slice A0_3 l0_3.length c0_3) l0_3) ∧ (Kd.V k39 39 w' w.heap.size (fun k_ => ((P0_3_ k_ ∨ P0_4_ k_) ∨ w.heap.size ≤ k_) ∧ some k_ ≠ (u4 : Value).ownBlock ∧ some k_ ≠ (.slice (some ad189) t186.length co6 : Value).ownBlock ∧ k_ ≠ gb185 ∧ k_ ≠ s_.2.2) (.slice A0_4 l0_4.length c0_4) l0_4) ∧ (Kd.N k83 83 w' w.heap.size (fun k_ => ((P0_3_ k_ ∨ P0_4_ k_) ∨ w.heap.size ≤ k_) ∧ some k_ ≠ (.slice (some ad189) t186.length co6 : Value).ownBlock ∧ k_ ≠ gb185 ∧ k_ ≠ s_.2.2) u4 x4_1) ∧ (Kd.N (Kd.slice 3 (Kd.int .i64)) 65 w' w.heap.size (fun k_ => ((P0_3_ k_ ∨ P0_4_ k_) ∨ w.heap.size ≤ k_) ∧ some k_ ≠ (u4 : Value).ownBlock ∧ k_ ≠ gb185 ∧ k_ ≠ s_.2.2) (.slice (some ad189) t186.length co6) t186) ∧ (w'.heap[gb185]? = some (.cells #[.int .u32 a0_0, .slice A0_1 l0_1.length c0_1, .string a0_2, .slice A0_3 l0_3.length c0_3, .slice A0_4 l0_4.length c0_4] 43 (0, 0))) ∧ (w'.heap[s_.2.2]? = some (.cells #[.string (⟨#[]⟩ : ByteArray), .slice none 0 0, .slice none 0 0] 39 (0, 0))) ∧ (w.heap.size ≤ s_.2.2) ∧ (w.heap.size ≤ s_.2.2) ∧ (gb185 ≠ s_.2.2) ∧ (s_.2.2 ≠ gb185) ∧ (Below w.heap.size w w')) ?_ ?_
              rotate_left
              · intro hCont
                refine two_ (i := 5) (j := 9) (Ni := some 27) (Nj := some 7) #[true, true, true, true, true, true, false, false, false, false, false, false] #[true, true, true, true, true, false, false, false, false, true, false, false] rfl rfl rfl rfl (two_of HT_.out (by kernel_rfl)) (by decide) (by decide) (fun K hK => ?_) (fun K hK => ?_)
                · skip
                  refine goes_ Try.func64 (by kernel_rfl) rfl #[.agg #[.int .u32 a0_0, .slice A0_1 l0_1.length c0_1, .string a0_2, .slice A0_3 l0_3.length c0_3, .slice A0_4 l0_4.length c0_4], .slice A189_0 (rd_L13 t186 x18_1).length c189_0] (by rfl) rfl rfl (by (try simp only [List.map_toArray, List.map_cons, List.map_nil]); first | done | rfl | (simp only [List.length_drop, List.length_take]; rfl)) ?_
                  with_reducible refine (arboretref06_Get.calls k1 a0_0 _ _ l0_1 a0_2 (fun k_ => (((P0_3_ k_ ∨ P0_4_ k_) ∨ w.heap.size ≤ k_) ∧ (some k_ ≠ (u4 : Value).ownBlock ∧ (some k_ ≠ (.slice (some ad189) t186.length co6 : Value).ownBlock ∧ k_ ≠ gb185)))) _ _ l0_3 (fun k_ => (((P0_3_ k_ ∨ P0_4_ k_) ∨ w.heap.size ≤ k_) ∧ (some k_ ≠ (u4 : Value).ownBlock ∧ (some k_ ≠ (.slice (some ad189) t186.length co6 : Value).ownBlock ∧ k_ ≠ gb185)))) _ _ l0_4 _ _ (rd_L13 t186 x18_1) t190 t191 t194 t197 _ ?side1 ?side2 ?side3 ?side4 ?side5 ?side6 A10.out).mono ?_
                  (case side1 => repeat (first | exact (Kd.C_below HR0_1.out HB.out) | (with_reducible refine Kd.C_alloc ?_ _) | (with_reducible refine Kd.C_drewN ?_ _) | (with_reducible refine Kd.C_drew ?_)))
                  (case side2 => exact HC0_1.out)
                  (case side3 => exact HO_186003.out)
                  (case side4 => exact HO_186004.out)
                  (case side5 => repeat (first | exact (by repeat (first | (with_reducible exact HR189_0.out) | (with_reducible refine Kd.C_alloc ?_ _) | (with_reducible refine Kd.C_drewN ?_ _) | (with_reducible refine Kd.C_drew ?_) | exact HR189_0.out)) | (with_reducible refine Kd.C_alloc ?_ _) | (with_reducible refine Kd.C_drewN ?_ _) | (with_reducible refine Kd.C_drew ?_)))
                  (case side6 => exact HC189_0.out)
                  rintro e w51 ⟨v192, v195, rfl, ho0, ho1, hb⟩
                  have HS5_ := (hb.cell (World.block_lt_of_cell? _ _ (hHeld.2.2.2.2.2))).trans (hHeld.2.2.2.2.2)
                  refine ⟨_, rfl, ?_⟩
                  have n0_ := Aside0.mk (Kd.N_below (by (with_reducible repeat (first | apply Kd.N_alloc | apply Kd.N_drewN | apply Kd.N_drew)); exact HO_4.out) hb)
                  have n1_ := Aside0.mk (Kd.N_below (by (with_reducible repeat (first | apply Kd.N_alloc | apply Kd.N_drewN | apply Kd.N_drew)); exact HO_5.out) hb)
                  have n2_ := Aside0.mk (Kd.V_below (by (with_reducible repeat (first | apply Kd.V_alloc | apply Kd.V_drewN | apply Kd.V_drew)); exact HO_186003.out) hb)
                  have n3_ := Aside0.mk (Kd.V_below (by (with_reducible repeat (first | apply Kd.V_alloc | apply Kd.V_drewN | apply Kd.V_drew)); exact HO_186004.out) hb)
                  have n4_ := Aside0.mk (Kd.V_below (by (with_reducible repeat (first | apply Kd.V_alloc | apply Kd.V_drewN | apply Kd.V_drew)); exact HL189_0.out) hb)
                  have n5_ := Aside0.mk (Kd.V_lower (Kd.V_mono (ok' := fun k_ => ((P0_3_ k_ ∨ P0_4_ k_) ∨ w.heap.size ≤ k_) ∧ some k_ ≠ (u4 : Value).ownBlock ∧ some k_ ≠ (.slice (some ad189) t186.length co6 : Value).ownBlock ∧ k_ ≠ gb185) ho0 (fun k_ hk_ => ⟨Or.elim hk_ (fun hs_ => Or.elim hs_ (fun hs_ => hs_.1) (fun hs_ => hs_.1)) (fun hn_ => (.inr (Nat.le_trans (below_size (by repeat (first | (with_reducible first | exact HB.out | apply below_alloc | apply pw_below_drewN | apply below_drew1 | refine below_set ?_ GE185.out) | exact HB.out))) hn_))), Or.elim hk_ (fun hs_ => Or.elim hs_ (fun hs_ => hs_.2.1) (fun hs_ => hs_.2.1)) (fun hn_ => (Kd.fresh' (Kd.N_lt (by (with_reducible repeat (first | apply Kd.N_alloc | apply Kd.N_drewN | apply Kd.N_drew)); exact HO_4.out)) k_ hn_)), Or.elim hk_ (fun hs_ => Or.elim hs_ (fun hs_ => hs_.2.2.1) (fun hs_ => hs_.2.2.1)) (fun hn_ => (Kd.fresh' (Kd.N_lt (by (with_reducible repeat (first | apply Kd.N_alloc | apply Kd.N_drewN | apply Kd.N_drew)); exact HO_5.out)) k_ hn_)), Or.elim hk_ (fun hs_ => Or.elim hs_ (fun hs_ => hs_.2.2.2) (fun hs_ => hs_.2.2.2)) (fun hn_ => (Kd.freshB (g := gb185) (o := .cells #[.int .u32 a0_0, .slice A0_1 l0_1.length c0_1, .string a0_2, .slice A0_3 l0_3.length c0_3, .slice A0_4 l0_4.length c0_4] 43 (0, 0)) (by (with_reducible repeat (first | refine blk_drewN ?_ _ | refine blk_drew ?_ | refine blk_alloc ?_ _)); exact BK185.out) k_ hn_))⟩)) (below_size (by repeat (first | (with_reducible first | exact HB.out | apply below_alloc | apply pw_below_drewN | apply below_drew1 | refine below_set ?_ GE185.out) | exact HB.out))))
                  have n6_ := Aside0.mk (Kd.V_lower (Kd.V_mono (ok' := fun k_ => ((P0_3_ k_ ∨ P0_4_ k_) ∨ w.heap.size ≤ k_) ∧ some k_ ≠ (u4 : Value).ownBlock ∧ some k_ ≠ (.slice (some ad189) t186.length co6 : Value).ownBlock ∧ k_ ≠ gb185) ho1 (fun k_ hk_ => ⟨Or.elim hk_ (fun hs_ => Or.elim hs_ (fun hs_ => hs_.1) (fun hs_ => hs_.1)) (fun hn_ => (.inr (Nat.le_trans (below_size (by repeat (first | (with_reducible first | exact HB.out | apply below_alloc | apply pw_below_drewN | apply below_drew1 | refine below_set ?_ GE185.out) | exact HB.out))) hn_))), Or.elim hk_ (fun hs_ => Or.elim hs_ (fun hs_ => hs_.2.1) (fun hs_ => hs_.2.1)) (fun hn_ => (Kd.fresh' (Kd.N_lt (by (with_reducible repeat (first | apply Kd.N_alloc | apply Kd.N_drewN | apply Kd.N_drew)); exact HO_4.out)) k_ hn_)), Or.elim hk_ (fun hs_ => Or.elim hs_ (fun hs_ => hs_.2.2.1) (fun hs_ => hs_.2.2.1)) (fun hn_ => (Kd.fresh' (Kd.N_lt (by (with_reducible repeat (first | apply Kd.N_alloc | apply Kd.N_drewN | apply Kd.N_drew)); exact HO_5.out)) k_ hn_)), Or.elim hk_ (fun hs_ => Or.elim hs_ (fun hs_ => hs_.2.2.2) (fun hs_ => hs_.2.2.2)) (fun hn_ => (Kd.freshB (g := gb185) (o := .cells #[.int .u32 a0_0, .slice A0_1 l0_1.length c0_1, .string a0_2, .slice A0_3 l0_3.length c0_3, .slice A0_4 l0_4.length c0_4] 43 (0, 0)) (by (with_reducible repeat (first | refine blk_drewN ?_ _ | refine blk_drew ?_ | refine blk_alloc ?_ _)); exact BK185.out) k_ hn_))⟩)) (below_size (by repeat (first | (with_reducible first | exact HB.out | apply below_alloc | apply pw_below_drewN | apply below_drew1 | refine below_set ?_ GE185.out) | exact HB.out))))
                  have n7_ := Aside0.mk (blk_below (g := gb185) (o := .cells #[.int .u32 a0_0, .slice A0_1 l0_1.length c0_1, .string a0_2, .slice A0_3 l0_3.length c0_3, .slice A0_4 l0_4.length c0_4] 43 (0, 0)) (by (with_reducible repeat (first | refine blk_drewN ?_ _ | refine blk_drew ?_ | refine blk_alloc ?_ _)); exact BK185.out) hb)
                  have n8_ := Aside0.mk (Kd.C_below (by repeat (first | (with_reducible exact HR189_0.out) | (with_reducible refine Kd.C_alloc ?_ _) | (with_reducible refine Kd.C_drewN ?_ _) | (with_reducible refine Kd.C_drew ?_) | exact HR189_0.out)) hb)
                  have n9_ := Aside0.mk (below_step (by repeat (first | (with_reducible first | exact HB.out | apply below_alloc | apply pw_below_drewN | apply below_drew1 | refine below_set ?_ GE185.out) | exact HB.out)) hb)
                  clear HO_4
                  clear HO_5
                  clear HO_186003
                  clear HO_186004
                  clear HL189_0
                  clear BK185
                  clear HR189_0
                  clear HB
                  have HO_4 := n0_
                  have HO_5 := n1_
                  have HO_186003 := n2_
                  have HO_186004 := n3_
                  have HL189_0 := n4_
                  have HO193 := n5_
                  have HO196 := n6_
                  have BK185 := n7_
                  have HR189_0 := n8_
                  have HB := n9_
                  clear n0_ n1_ n2_ n3_ n4_ n5_ n6_ n7_ n8_ n9_
                  (try clear hb)
                  (try clear hb2)
                  (try clear hk)
                  (try clear hi)
                  (try clear ho0)
                  (try clear ho1)
                  refine hK.out _ _ ⟨(blk_cell BK185.out 0).trans rfl, (blk_cell BK185.out 1).trans rfl, (blk_cell BK185.out 2).trans rfl, (blk_cell BK185.out 3).trans rfl, (blk_cell BK185.out 4).trans rfl, HS5_⟩ (fun hHeld => ?_)
                  clear hK K
                  refine norm_ (a' := ?_) ?_ ?_
                  rotate_left
                  · show Act.put _ (some 27) _ = _
                    simp only [Act.put, List.setIfInBounds_toArray, List.set_cons_zero, List.set_cons_succ, i64_w, i32_w]
                    rfl
                  refine pure_ (i := 6) (N := some 21) (v := ?_) (a' := ?_) #[true, true, true, true, true, true, true, false, false, false, false, false] rfl rfl (any_of HT_.out (by kernel_rfl)) (fun _ _ _ h => h) (Or.inl ⟨by rfl, ?_⟩) ?_ ?_
                  rotate_left
                  · intro w'
                    go_simp
                    with_reducible rfl
                  rotate_left
                  · simp only [Act.put, List.setIfInBounds_toArray, List.set_cons_zero, List.set_cons_succ, i64_w, i32_w]
                    rfl
                  refine pure_ (i := 7) (N := some 28) (v := ?_) (a' := ?_) #[true, true, true, true, true, true, true, true, false, false, false, false] rfl rfl (any_of HT_.out (by kernel_rfl)) (fun _ _ _ h => h) (Or.inl ⟨by rfl, ?_⟩) ?_ ?_
                  rotate_left
                  · intro w'
                    go_simp
                    with_reducible rfl
                  rotate_left
                  · simp only [Act.put, List.setIfInBounds_toArray, List.set_cons_zero, List.set_cons_succ, i64_w, i32_w]
                    rfl
                  refine pure_ (i := 8) (N := some 29) (v := ?_) (a' := ?_) #[true, true, true, true, true, true, true, true, true, false, false, false] rfl rfl (any_of HT_.out (by kernel_rfl)) (fun _ _ _ h => h) (Or.inl ⟨by rfl, ?_⟩) ?_ ?_
                  rotate_left
                  · intro w'
                    go_simp
                    with_reducible rfl
                  rotate_left
                  · simp only [Act.put, List.setIfInBounds_toArray, List.set_cons_zero, List.set_cons_succ, i64_w, i32_w]
                    rfl
                  refine one_ (i := 9) (N := some 7) #[true, true, true, true, true, true, true, true, true, true, false, false] rfl rfl (one_of HT_.out (by kernel_rfl)) (by decide) (fun K hK => ?_)
                  refine box_step ?hg (N := 7) ?hd (cs := #[.string (⟨#[]⟩ : ByteArray), .slice none 0 0, .slice none 0 0]) (t := 39) ?hr ?_; (case hd => rfl); (case hg => rfl); (case hr => first | (go_simp; done) | (go_simp; rfl))
                  intro gb198 hg w52 hbox hb
                  have HS5_ := (hb.cell (World.block_lt_of_cell? _ _ (hHeld.2.2.2.2.2))).trans (hHeld.2.2.2.2.2)
                  have n0_ := Aside0.mk (Kd.N_below (Kd.N_elderB (by (with_reducible repeat (first | apply Kd.N_alloc | apply Kd.N_drewN | apply Kd.N_drew)); exact HO_4.out) gb198 (Nat.le_of_eq hg.symm)) hb)
                  have n1_ := Aside0.mk (Kd.N_below (Kd.N_elderB (by (with_reducible repeat (first | apply Kd.N_alloc | apply Kd.N_drewN | apply Kd.N_drew)); exact HO_5.out) gb198 (Nat.le_of_eq hg.symm)) hb)
                  have n2_ := Aside0.mk (Kd.V_below (Kd.V_elderB (by (with_reducible repeat (first | apply Kd.V_alloc | apply Kd.V_drewN | apply Kd.V_drew)); exact HO_186003.out) gb198 (Nat.le_of_eq hg.symm)) hb)
                  have n3_ := Aside0.mk (Kd.V_below (Kd.V_elderB (by (with_reducible repeat (first | apply Kd.V_alloc | apply Kd.V_drewN | apply Kd.V_drew)); exact HO_186004.out) gb198 (Nat.le_of_eq hg.symm)) hb)
                  have n4_ := Aside0.mk (Kd.V_below (Kd.V_elderB (by (with_reducible repeat (first | apply Kd.V_alloc | apply Kd.V_drewN | apply Kd.V_drew)); exact HL189_0.out) gb198 (Nat.le_of_eq hg.symm)) hb)
                  have n5_ := Aside0.mk (Kd.V_below (Kd.V_elderB (by (with_reducible repeat (first | apply Kd.V_alloc | apply Kd.V_drewN | apply Kd.V_drew)); exact HO193.out) gb198 (Nat.le_of_eq hg.symm)) hb)
                  have n6_ := Aside0.mk (Kd.V_below (Kd.V_elderB (by (with_reducible repeat (first | apply Kd.V_alloc | apply Kd.V_drewN | apply Kd.V_drew)); exact HO196.out) gb198 (Nat.le_of_eq hg.symm)) hb)
                  have n7_ := Aside0.mk (blk_below (g := gb185) (o := .cells #[.int .u32 a0_0, .slice A0_1 l0_1.length c0_1, .string a0_2, .slice A0_3 l0_3.length c0_3, .slice A0_4 l0_4.length c0_4] 43 (0, 0)) (by (with_reducible repeat (first | refine blk_drewN ?_ _ | refine blk_drew ?_ | refine blk_alloc ?_ _)); exact BK185.out) hb)
                  have n8_ := Aside0.mk (Kd.C_below (by repeat (first | (with_reducible exact HR189_0.out) | (with_reducible refine Kd.C_alloc ?_ _) | (with_reducible refine Kd.C_drewN ?_ _) | (with_reducible refine Kd.C_drew ?_) | exact HR189_0.out)) hb)
                  have n9_ := Aside0.mk (below_step (by repeat (first | (with_reducible first | exact HB.out | apply below_alloc | apply pw_below_drewN | apply below_drew1 | refine below_set ?_ GE185.out) | exact HB.out)) hb)
                  have n10_ := Aside0.mk (hbox)
                  have n11_ := Aside0.mk ((by rw [hg]; exact (below_size (by repeat (first | (with_reducible first | exact HB.out | apply below_alloc | apply pw_below_drewN | apply below_drew1 | refine below_set ?_ GE185.out) | exact HB.out))) : w.heap.size ≤ gb198))
                  have n12_ := Aside0.mk ((by rw [hg]; exact (below_size (by repeat (first | (with_reducible first | exact HB.out | apply below_alloc | apply pw_below_drewN | apply below_drew1 | refine below_set ?_ GE185.out) | exact HB.out))) : w.heap.size ≤ gb198))
                  have n13_ := Aside0.mk ((by rw [hg]; exact Nat.ne_of_lt (blk_lt (g := gb185) (o := .cells #[.int .u32 a0_0, .slice A0_1 l0_1.length c0_1, .string a0_2, .slice A0_3 l0_3.length c0_3, .slice A0_4 l0_4.length c0_4] 43 (0, 0)) (by (with_reducible repeat (first | refine blk_drewN ?_ _ | refine blk_drew ?_ | refine blk_alloc ?_ _)); exact BK185.out)) : gb185 ≠ gb198))
                  have n14_ := Aside0.mk ((by rw [hg]; exact Nat.ne_of_gt (blk_lt (g := gb185) (o := .cells #[.int .u32 a0_0, .slice A0_1 l0_1.length c0_1, .string a0_2, .slice A0_3 l0_3.length c0_3, .slice A0_4 l0_4.length c0_4] 43 (0, 0)) (by (with_reducible repeat (first | refine blk_drewN ?_ _ | refine blk_drew ?_ | refine blk_alloc ?_ _)); exact BK185.out)) : gb198 ≠ gb185))
                  clear HO_4
                  clear HO_5
                  clear HO_186003
                  clear HO_186004
                  clear HL189_0
                  clear HO193
                  clear HO196
                  clear BK185
                  clear HR189_0
                  clear HB
                  have HO_4 := n0_
                  have HO_5 := n1_
                  have HO_186003 := n2_
                  have HO_186004 := n3_
                  have HL189_0 := n4_
                  have HO193 := n5_
                  have HO196 := n6_
                  have BK185 := n7_
                  have HR189_0 := n8_
                  have HB := n9_
                  have BK198 := n10_
                  have GW198 := n11_
                  have GE198 := n12_
                  have NB185_198 := n13_
                  have NB198_185 := n14_
                  clear n0_ n1_ n2_ n3_ n4_ n5_ n6_ n7_ n8_ n9_ n10_ n11_ n12_ n13_ n14_
                  clear hb hbox hg
                  refine hK.out _ _ ⟨(blk_cell BK185.out 0).trans rfl, (blk_cell BK185.out 1).trans rfl, (blk_cell BK185.out 2).trans rfl, (blk_cell BK185.out 3).trans rfl, (blk_cell BK185.out 4).trans rfl, HS5_⟩ (fun hHeld => ?_)
                  clear hK K
                  refine norm_ (a' := ?_) ?_ ?_
                  rotate_left
                  · show Act.put _ (some 7) _ = _
                    simp only [Act.put, List.setIfInBounds_toArray, List.set_cons_zero, List.set_cons_succ, i64_w, i32_w]
                    rfl
                  exact norm_ (by simp only [putAll, Act.put, List.setIfInBounds_toArray, List.set_cons_zero, List.set_cons_succ]) (hCont (v192, v195, gb198) _ ⟨hHeld, (by (with_reducible repeat (first | apply Kd.V_alloc | apply Kd.V_drewN | apply Kd.V_drew)); exact Kd.V_mono HL189_0.out (fun _ hk => ⟨hk.1.1.1, ⟨hk.1.1.2.1, ⟨hk.1.2, ⟨hk.1.1.2.2, hk.2⟩⟩⟩⟩)), (by (with_reducible repeat (first | apply Kd.V_alloc | apply Kd.V_drewN | apply Kd.V_drew)); exact Kd.V_mono HO193.out (fun _ hk => ⟨hk.1.1, ⟨hk.1.2.1, ⟨hk.1.2.2.1, ⟨hk.1.2.2.2, hk.2⟩⟩⟩⟩)), (by (with_reducible repeat (first | apply Kd.V_alloc | apply Kd.V_drewN | apply Kd.V_drew)); exact Kd.V_mono HO196.out (fun _ hk => ⟨hk.1.1, ⟨hk.1.2.1, ⟨hk.1.2.2.1, ⟨hk.1.2.2.2, hk.2⟩⟩⟩⟩)), (by (with_reducible repeat (first | apply Kd.V_alloc | apply Kd.V_drewN | apply Kd.V_drew)); exact Kd.V_mono HO_186003.out (fun _ hk => ⟨hk.1.1, ⟨hk.1.2.1, ⟨hk.1.2.2.1, ⟨hk.1.2.2.2, hk.2⟩⟩⟩⟩)), (by (with_reducible repeat (first | apply Kd.V_alloc | apply Kd.V_drewN | apply Kd.V_drew)); exact Kd.V_mono HO_186004.out (fun _ hk => ⟨hk.1.1, ⟨hk.1.2.1, ⟨hk.1.2.2.1, ⟨hk.1.2.2.2, hk.2⟩⟩⟩⟩)), (by (with_reducible repeat (first | apply Kd.N_alloc | apply Kd.N_drewN | apply Kd.N_drew)); exact Kd.N_mono HO_4.out (fun _ hk => ⟨hk.1.1, ⟨hk.1.2.1, ⟨hk.1.2.2, hk.2⟩⟩⟩)), (by (with_reducible repeat (first | apply Kd.N_alloc | apply Kd.N_drewN | apply Kd.N_drew)); exact Kd.N_mono HO_5.out (fun _ hk => ⟨hk.1.1, ⟨hk.1.2.1, ⟨hk.1.2.2, hk.2⟩⟩⟩)), (by (with_reducible repeat (first | refine blk_drewN ?_ _ | refine blk_drew ?_ | refine blk_alloc ?_ _)); exact BK185.out), (by (with_reducible repeat (first | refine blk_drewN ?_ _ | refine blk_drew ?_ | refine blk_alloc ?_ _)); exact BK198.out), GW198.out, GE198.out, NB185_198.out, NB198_185.out, (by repeat (first | (with_reducible first | exact HB.out | apply below_alloc | apply pw_below_drewN | apply below_drew1 | refine below_set ?_ GE185.out | refine below_set ?_ GE198.out) | exact HB.out))⟩)
                · skip
                  refine box_step ?hg (N := 7) ?hd (cs := #[.string (⟨#[]⟩ : ByteArray), .slice none 0 0, .slice none 0 0]) (t := 39) ?hr ?_; (case hd => rfl); (case hg => rfl); (case hr => first | (go_simp; done) | (go_simp; rfl))
                  intro gb198 hg w51 hbox hb
                  have HS5_ := (hb.cell (World.block_lt_of_cell? _ _ (hHeld.2.2.2.2.2))).trans (hHeld.2.2.2.2.2)
                  have n0_ := Aside0.mk (Kd.N_below (Kd.N_elderB (by (with_reducible repeat (first | apply Kd.N_alloc | apply Kd.N_drewN | apply Kd.N_drew)); exact HO_4.out) gb198 (Nat.le_of_eq hg.symm)) hb)
                  have n1_ := Aside0.mk (Kd.N_below (Kd.N_elderB (by (with_reducible repeat (first | apply Kd.N_alloc | apply Kd.N_drewN | apply Kd.N_drew)); exact HO_5.out) gb198 (Nat.le_of_eq hg.symm)) hb)
                  have n2_ := Aside0.mk (Kd.V_below (Kd.V_elderB (by (with_reducible repeat (first | apply Kd.V_alloc | apply Kd.V_drewN | apply Kd.V_drew)); exact HO_186003.out) gb198 (Nat.le_of_eq hg.symm)) hb)
                  have n3_ := Aside0.mk (Kd.V_below (Kd.V_elderB (by (with_reducible repeat (first | apply Kd.V_alloc | apply Kd.V_drewN | apply Kd.V_drew)); exact HO_186004.out) gb198 (Nat.le_of_eq hg.symm)) hb)
                  have n4_ := Aside0.mk (Kd.V_below (Kd.V_elderB (by (with_reducible repeat (first | apply Kd.V_alloc | apply Kd.V_drewN | apply Kd.V_drew)); exact HL189_0.out) gb198 (Nat.le_of_eq hg.symm)) hb)
                  have n5_ := Aside0.mk (blk_below (g := gb185) (o := .cells #[.int .u32 a0_0, .slice A0_1 l0_1.length c0_1, .string a0_2, .slice A0_3 l0_3.length c0_3, .slice A0_4 l0_4.length c0_4] 43 (0, 0)) (by (with_reducible repeat (first | refine blk_drewN ?_ _ | refine blk_drew ?_ | refine blk_alloc ?_ _)); exact BK185.out) hb)
                  have n6_ := Aside0.mk (Kd.C_below (by repeat (first | (with_reducible exact HR189_0.out) | (with_reducible refine Kd.C_alloc ?_ _) | (with_reducible refine Kd.C_drewN ?_ _) | (with_reducible refine Kd.C_drew ?_) | exact HR189_0.out)) hb)
                  have n7_ := Aside0.mk (below_step (by repeat (first | (with_reducible first | exact HB.out | apply below_alloc | apply pw_below_drewN | apply below_drew1 | refine below_set ?_ GE185.out) | exact HB.out)) hb)
                  have n8_ := Aside0.mk (hbox)
                  have n9_ := Aside0.mk ((by rw [hg]; exact (below_size (by repeat (first | (with_reducible first | exact HB.out | apply below_alloc | apply pw_below_drewN | apply below_drew1 | refine below_set ?_ GE185.out) | exact HB.out))) : w.heap.size ≤ gb198))
                  have n10_ := Aside0.mk ((by rw [hg]; exact (below_size (by repeat (first | (with_reducible first | exact HB.out | apply below_alloc | apply pw_below_drewN | apply below_drew1 | refine below_set ?_ GE185.out) | exact HB.out))) : w.heap.size ≤ gb198))
                  have n11_ := Aside0.mk ((by rw [hg]; exact Nat.ne_of_lt (blk_lt (g := gb185) (o := .cells #[.int .u32 a0_0, .slice A0_1 l0_1.length c0_1, .string a0_2, .slice A0_3 l0_3.length c0_3, .slice A0_4 l0_4.length c0_4] 43 (0, 0)) (by (with_reducible repeat (first | refine blk_drewN ?_ _ | refine blk_drew ?_ | refine blk_alloc ?_ _)); exact BK185.out)) : gb185 ≠ gb198))
                  have n12_ := Aside0.mk ((by rw [hg]; exact Nat.ne_of_gt (blk_lt (g := gb185) (o := .cells #[.int .u32 a0_0, .slice A0_1 l0_1.length c0_1, .string a0_2, .slice A0_3 l0_3.length c0_3, .slice A0_4 l0_4.length c0_4] 43 (0, 0)) (by (with_reducible repeat (first | refine blk_drewN ?_ _ | refine blk_drew ?_ | refine blk_alloc ?_ _)); exact BK185.out)) : gb198 ≠ gb185))
                  clear HO_4
                  clear HO_5
                  clear HO_186003
                  clear HO_186004
                  clear HL189_0
                  clear BK185
                  clear HR189_0
                  clear HB
                  have HO_4 := n0_
                  have HO_5 := n1_
                  have HO_186003 := n2_
                  have HO_186004 := n3_
                  have HL189_0 := n4_
                  have BK185 := n5_
                  have HR189_0 := n6_
                  have HB := n7_
                  have BK198 := n8_
                  have GW198 := n9_
                  have GE198 := n10_
                  have NB185_198 := n11_
                  have NB198_185 := n12_
                  clear n0_ n1_ n2_ n3_ n4_ n5_ n6_ n7_ n8_ n9_ n10_ n11_ n12_
                  clear hb hbox hg
                  refine hK.out _ _ ⟨(blk_cell BK185.out 0).trans rfl, (blk_cell BK185.out 1).trans rfl, (blk_cell BK185.out 2).trans rfl, (blk_cell BK185.out 3).trans rfl, (blk_cell BK185.out 4).trans rfl, HS5_⟩ (fun hHeld => ?_)
                  clear hK K
                  refine norm_ (a' := ?_) ?_ ?_
                  rotate_left
                  · show Act.put _ (some 7) _ = _
                    simp only [Act.put, List.setIfInBounds_toArray, List.set_cons_zero, List.set_cons_succ, i64_w, i32_w]
                    rfl
                  refine one_ (i := 5) (N := some 27) #[true, true, true, true, true, true, false, false, false, true, false, false] rfl rfl (one_of HT_.out (by kernel_rfl)) (by decide) (fun K hK => ?_)
                  refine goes_ Try.func64 (by kernel_rfl) rfl #[.agg #[.int .u32 a0_0, .slice A0_1 l0_1.length c0_1, .string a0_2, .slice A0_3 l0_3.length c0_3, .slice A0_4 l0_4.length c0_4], .slice A189_0 (rd_L13 t186 x18_1).length c189_0] (by rfl) rfl rfl (by (try simp only [List.map_toArray, List.map_cons, List.map_nil]); first | done | rfl | (simp only [List.length_drop, List.length_take]; rfl)) ?_
                  with_reducible refine (arboretref06_Get.calls k1 a0_0 _ _ l0_1 a0_2 (fun k_ => ((((P0_3_ k_ ∨ P0_4_ k_) ∨ w.heap.size ≤ k_) ∧ (some k_ ≠ (u4 : Value).ownBlock ∧ (some k_ ≠ (.slice (some ad189) t186.length co6 : Value).ownBlock ∧ k_ ≠ gb185))) ∧ k_ ≠ gb198)) _ _ l0_3 (fun k_ => ((((P0_3_ k_ ∨ P0_4_ k_) ∨ w.heap.size ≤ k_) ∧ (some k_ ≠ (u4 : Value).ownBlock ∧ (some k_ ≠ (.slice (some ad189) t186.length co6 : Value).ownBlock ∧ k_ ≠ gb185))) ∧ k_ ≠ gb198)) _ _ l0_4 _ _ (rd_L13 t186 x18_1) t190 t191 t194 t197 _ ?side1 ?side2 ?side3 ?side4 ?side5 ?side6 A10.out).mono ?_
                  (case side1 => repeat (first | exact (Kd.C_below HR0_1.out HB.out) | (with_reducible refine Kd.C_alloc ?_ _) | (with_reducible refine Kd.C_drewN ?_ _) | (with_reducible refine Kd.C_drew ?_)))
                  (case side2 => exact HC0_1.out)
                  (case side3 => exact HO_186003.out)
                  (case side4 => exact HO_186004.out)
                  (case side5 => repeat (first | exact (by repeat (first | (with_reducible exact HR189_0.out) | (with_reducible refine Kd.C_alloc ?_ _) | (with_reducible refine Kd.C_drewN ?_ _) | (with_reducible refine Kd.C_drew ?_) | exact HR189_0.out)) | (with_reducible refine Kd.C_alloc ?_ _) | (with_reducible refine Kd.C_drewN ?_ _) | (with_reducible refine Kd.C_drew ?_)))
                  (case side6 => exact HC189_0.out)
                  rintro e w52 ⟨v192, v195, rfl, ho0, ho1, hb⟩
                  have HS5_ := (hb.cell (World.block_lt_of_cell? _ _ (hHeld.2.2.2.2.2))).trans (hHeld.2.2.2.2.2)
                  refine ⟨_, rfl, ?_⟩
                  have n0_ := Aside0.mk (Kd.N_below (by (with_reducible repeat (first | apply Kd.N_alloc | apply Kd.N_drewN | apply Kd.N_drew)); exact HO_4.out) hb)
                  have n1_ := Aside0.mk (Kd.N_below (by (with_reducible repeat (first | apply Kd.N_alloc | apply Kd.N_drewN | apply Kd.N_drew)); exact HO_5.out) hb)
                  have n2_ := Aside0.mk (Kd.V_below (by (with_reducible repeat (first | apply Kd.V_alloc | apply Kd.V_drewN | apply Kd.V_drew)); exact HO_186003.out) hb)
                  have n3_ := Aside0.mk (Kd.V_below (by (with_reducible repeat (first | apply Kd.V_alloc | apply Kd.V_drewN | apply Kd.V_drew)); exact HO_186004.out) hb)
                  have n4_ := Aside0.mk (Kd.V_below (by (with_reducible repeat (first | apply Kd.V_alloc | apply Kd.V_drewN | apply Kd.V_drew)); exact HL189_0.out) hb)
                  have n5_ := Aside0.mk (Kd.V_lower (Kd.V_mono (ok' := fun k_ => ((P0_3_ k_ ∨ P0_4_ k_) ∨ w.heap.size ≤ k_) ∧ some k_ ≠ (u4 : Value).ownBlock ∧ some k_ ≠ (.slice (some ad189) t186.length co6 : Value).ownBlock ∧ k_ ≠ gb185 ∧ k_ ≠ gb198) ho0 (fun k_ hk_ => ⟨Or.elim hk_ (fun hs_ => Or.elim hs_ (fun hs_ => hs_.1.1) (fun hs_ => hs_.1.1)) (fun hn_ => (.inr (Nat.le_trans (below_size (by repeat (first | (with_reducible first | exact HB.out | apply below_alloc | apply pw_below_drewN | apply below_drew1 | refine below_set ?_ GE185.out | refine below_set ?_ GE198.out) | exact HB.out))) hn_))), Or.elim hk_ (fun hs_ => Or.elim hs_ (fun hs_ => hs_.1.2.1) (fun hs_ => hs_.1.2.1)) (fun hn_ => (Kd.fresh' (Kd.N_lt (by (with_reducible repeat (first | apply Kd.N_alloc | apply Kd.N_drewN | apply Kd.N_drew)); exact HO_4.out)) k_ hn_)), Or.elim hk_ (fun hs_ => Or.elim hs_ (fun hs_ => hs_.1.2.2.1) (fun hs_ => hs_.1.2.2.1)) (fun hn_ => (Kd.fresh' (Kd.N_lt (by (with_reducible repeat (first | apply Kd.N_alloc | apply Kd.N_drewN | apply Kd.N_drew)); exact HO_5.out)) k_ hn_)), Or.elim hk_ (fun hs_ => Or.elim hs_ (fun hs_ => hs_.1.2.2.2) (fun hs_ => hs_.1.2.2.2)) (fun hn_ => (Kd.freshB (g := gb185) (o := .cells #[.int .u32 a0_0, .slice A0_1 l0_1.length c0_1, .string a0_2, .slice A0_3 l0_3.length c0_3, .slice A0_4 l0_4.length c0_4] 43 (0, 0)) (by (with_reducible repeat (first | refine blk_drewN ?_ _ | refine blk_drew ?_ | refine blk_alloc ?_ _)); exact BK185.out) k_ hn_)), Or.elim hk_ (fun hs_ => Or.elim hs_ (fun hs_ => hs_.2) (fun hs_ => hs_.2)) (fun hn_ => (Kd.freshB (g := gb198) (o := .cells #[.string (⟨#[]⟩ : ByteArray), .slice none 0 0, .slice none 0 0] 39 (0, 0)) (by (with_reducible repeat (first | refine blk_drewN ?_ _ | refine blk_drew ?_ | refine blk_alloc ?_ _)); exact BK198.out) k_ hn_))⟩)) (below_size (by repeat (first | (with_reducible first | exact HB.out | apply below_alloc | apply pw_below_drewN | apply below_drew1 | refine below_set ?_ GE185.out | refine below_set ?_ GE198.out) | exact HB.out))))
                  have n6_ := Aside0.mk (Kd.V_lower (Kd.V_mono (ok' := fun k_ => ((P0_3_ k_ ∨ P0_4_ k_) ∨ w.heap.size ≤ k_) ∧ some k_ ≠ (u4 : Value).ownBlock ∧ some k_ ≠ (.slice (some ad189) t186.length co6 : Value).ownBlock ∧ k_ ≠ gb185 ∧ k_ ≠ gb198) ho1 (fun k_ hk_ => ⟨Or.elim hk_ (fun hs_ => Or.elim hs_ (fun hs_ => hs_.1.1) (fun hs_ => hs_.1.1)) (fun hn_ => (.inr (Nat.le_trans (below_size (by repeat (first | (with_reducible first | exact HB.out | apply below_alloc | apply pw_below_drewN | apply below_drew1 | refine below_set ?_ GE185.out | refine below_set ?_ GE198.out) | exact HB.out))) hn_))), Or.elim hk_ (fun hs_ => Or.elim hs_ (fun hs_ => hs_.1.2.1) (fun hs_ => hs_.1.2.1)) (fun hn_ => (Kd.fresh' (Kd.N_lt (by (with_reducible repeat (first | apply Kd.N_alloc | apply Kd.N_drewN | apply Kd.N_drew)); exact HO_4.out)) k_ hn_)), Or.elim hk_ (fun hs_ => Or.elim hs_ (fun hs_ => hs_.1.2.2.1) (fun hs_ => hs_.1.2.2.1)) (fun hn_ => (Kd.fresh' (Kd.N_lt (by (with_reducible repeat (first | apply Kd.N_alloc | apply Kd.N_drewN | apply Kd.N_drew)); exact HO_5.out)) k_ hn_)), Or.elim hk_ (fun hs_ => Or.elim hs_ (fun hs_ => hs_.1.2.2.2) (fun hs_ => hs_.1.2.2.2)) (fun hn_ => (Kd.freshB (g := gb185) (o := .cells #[.int .u32 a0_0, .slice A0_1 l0_1.length c0_1, .string a0_2, .slice A0_3 l0_3.length c0_3, .slice A0_4 l0_4.length c0_4] 43 (0, 0)) (by (with_reducible repeat (first | refine blk_drewN ?_ _ | refine blk_drew ?_ | refine blk_alloc ?_ _)); exact BK185.out) k_ hn_)), Or.elim hk_ (fun hs_ => Or.elim hs_ (fun hs_ => hs_.2) (fun hs_ => hs_.2)) (fun hn_ => (Kd.freshB (g := gb198) (o := .cells #[.string (⟨#[]⟩ : ByteArray), .slice none 0 0, .slice none 0 0] 39 (0, 0)) (by (with_reducible repeat (first | refine blk_drewN ?_ _ | refine blk_drew ?_ | refine blk_alloc ?_ _)); exact BK198.out) k_ hn_))⟩)) (below_size (by repeat (first | (with_reducible first | exact HB.out | apply below_alloc | apply pw_below_drewN | apply below_drew1 | refine below_set ?_ GE185.out | refine below_set ?_ GE198.out) | exact HB.out))))
                  have n7_ := Aside0.mk (blk_below (g := gb185) (o := .cells #[.int .u32 a0_0, .slice A0_1 l0_1.length c0_1, .string a0_2, .slice A0_3 l0_3.length c0_3, .slice A0_4 l0_4.length c0_4] 43 (0, 0)) (by (with_reducible repeat (first | refine blk_drewN ?_ _ | refine blk_drew ?_ | refine blk_alloc ?_ _)); exact BK185.out) hb)
                  have n8_ := Aside0.mk (Kd.C_below (by repeat (first | (with_reducible exact HR189_0.out) | (with_reducible refine Kd.C_alloc ?_ _) | (with_reducible refine Kd.C_drewN ?_ _) | (with_reducible refine Kd.C_drew ?_) | exact HR189_0.out)) hb)
                  have n9_ := Aside0.mk (blk_below (g := gb198) (o := .cells #[.string (⟨#[]⟩ : ByteArray), .slice none 0 0, .slice none 0 0] 39 (0, 0)) (by (with_reducible repeat (first | refine blk_drewN ?_ _ | refine blk_drew ?_ | refine blk_alloc ?_ _)); exact BK198.out) hb)
                  have n10_ := Aside0.mk (below_step (by repeat (first | (with_reducible first | exact HB.out | apply below_alloc | apply pw_below_drewN | apply below_drew1 | refine below_set ?_ GE185.out | refine below_set ?_ GE198.out) | exact HB.out)) hb)
                  clear HO_4
                  clear HO_5
                  clear HO_186003
                  clear HO_186004
                  clear HL189_0
                  clear BK185
                  clear HR189_0
                  clear BK198
                  clear HB
                  have HO_4 := n0_
                  have HO_5 := n1_
                  have HO_186003 := n2_
                  have HO_186004 := n3_
                  have HL189_0 := n4_
                  have HO193 := n5_
                  have HO196 := n6_
                  have BK185 := n7_
                  have HR189_0 := n8_
                  have BK198 := n9_
                  have HB := n10_
                  clear n0_ n1_ n2_ n3_ n4_ n5_ n6_ n7_ n8_ n9_ n10_
                  (try clear hb)
                  (try clear hb2)
                  (try clear hk)
                  (try clear hi)
                  (try clear ho0)
                  (try clear ho1)
                  refine hK.out _ _ ⟨(blk_cell BK185.out 0).trans rfl, (blk_cell BK185.out 1).trans rfl, (blk_cell BK185.out 2).trans rfl, (blk_cell BK185.out 3).trans rfl, (blk_cell BK185.out 4).trans rfl, HS5_⟩ (fun hHeld => ?_)
                  clear hK K
                  refine norm_ (a' := ?_) ?_ ?_
                  rotate_left
                  · show Act.put _ (some 27) _ = _
                    simp only [Act.put, List.setIfInBounds_toArray, List.set_cons_zero, List.set_cons_succ, i64_w, i32_w]
                    rfl
                  refine pure_ (i := 6) (N := some 21) (v := ?_) (a' := ?_) #[true, true, true, true, true, true, true, false, false, true, false, false] rfl rfl (any_of HT_.out (by kernel_rfl)) (fun _ _ _ h => h) (Or.inl ⟨by rfl, ?_⟩) ?_ ?_
                  rotate_left
                  · intro w'
                    go_simp
                    with_reducible rfl
                  rotate_left
                  · simp only [Act.put, List.setIfInBounds_toArray, List.set_cons_zero, List.set_cons_succ, i64_w, i32_w]
                    rfl
                  refine pure_ (i := 7) (N := some 28) (v := ?_) (a' := ?_) #[true, true, true, true, true, true, true, true, false, true, false, false] rfl rfl (any_of HT_.out (by kernel_rfl)) (fun _ _ _ h => h) (Or.inl ⟨by rfl, ?_⟩) ?_ ?_
                  rotate_left
                  · intro w'
                    go_simp
                    with_reducible rfl
                  rotate_left
                  · simp only [Act.put, List.setIfInBounds_toArray, List.set_cons_zero, List.set_cons_succ, i64_w, i32_w]
                    rfl
                  refine pure_ (i := 8) (N := some 29) (v := ?_) (a' := ?_) #[true, true, true, true, true, true, true, true, true, true, false, false] rfl rfl (any_of HT_.out (by kernel_rfl)) (fun _ _ _ h => h) (Or.inl ⟨by rfl, ?_⟩) ?_ ?_
                  rotate_left
                  · intro w'
                    go_simp
                    with_reducible rfl
                  rotate_left
                  · simp only [Act.put, List.setIfInBounds_toArray, List.set_cons_zero, List.set_cons_succ, i64_w, i32_w]
                    rfl
                  exact norm_ (by simp only [putAll, Act.put, List.setIfInBounds_toArray, List.set_cons_zero, List.set_cons_succ]) (hCont (v192, v195, gb198) _ ⟨hHeld, (by (with_reducible repeat (first | apply Kd.V_alloc | apply Kd.V_drewN | apply Kd.V_drew)); exact Kd.V_mono HL189_0.out (fun _ hk => ⟨hk.1.1.1, ⟨hk.1.1.2.1, ⟨hk.1.2, ⟨hk.1.1.2.2, hk.2⟩⟩⟩⟩)), (by (with_reducible repeat (first | apply Kd.V_alloc | apply Kd.V_drewN | apply Kd.V_drew)); exact HO193.out), (by (with_reducible repeat (first | apply Kd.V_alloc | apply Kd.V_drewN | apply Kd.V_drew)); exact HO196.out), (by (with_reducible repeat (first | apply Kd.V_alloc | apply Kd.V_drewN | apply Kd.V_drew)); exact Kd.V_mono HO_186003.out (fun _ hk => ⟨hk.1.1, ⟨hk.1.2.1, ⟨hk.1.2.2.1, ⟨hk.1.2.2.2, hk.2⟩⟩⟩⟩)), (by (with_reducible repeat (first | apply Kd.V_alloc | apply Kd.V_drewN | apply Kd.V_drew)); exact Kd.V_mono HO_186004.out (fun _ hk => ⟨hk.1.1, ⟨hk.1.2.1, ⟨hk.1.2.2.1, ⟨hk.1.2.2.2, hk.2⟩⟩⟩⟩)), (by (with_reducible repeat (first | apply Kd.N_alloc | apply Kd.N_drewN | apply Kd.N_drew)); exact Kd.N_mono HO_4.out (fun _ hk => ⟨hk.1.1, ⟨hk.1.2.1, ⟨hk.1.2.2, hk.2⟩⟩⟩)), (by (with_reducible repeat (first | apply Kd.N_alloc | apply Kd.N_drewN | apply Kd.N_drew)); exact Kd.N_mono HO_5.out (fun _ hk => ⟨hk.1.1, ⟨hk.1.2.1, ⟨hk.1.2.2, hk.2⟩⟩⟩)), (by (with_reducible repeat (first | refine blk_drewN ?_ _ | refine blk_drew ?_ | refine blk_alloc ?_ _)); exact BK185.out), (by (with_reducible repeat (first | refine blk_drewN ?_ _ | refine blk_drew ?_ | refine blk_alloc ?_ _)); exact BK198.out), GW198.out, GE198.out, NB185_198.out, NB198_185.out, (by repeat (first | (with_reducible first | exact HB.out | apply below_alloc | apply pw_below_drewN | apply below_drew1 | refine below_set ?_ GE185.out | refine below_set ?_ GE198.out) | exact HB.out))⟩)
              rintro ⟨v192, v195, gb198⟩ w53 ⟨hS_, h0_, h1_, h2_, h3_, h4_, h5_, h6_, h7_, h8_, h9_, h10_, h11_, h12_, h13_⟩
              have n0_ : Aside0 (Kd.V (Kd.int .i64) 3 w53 w.heap.size (fun k_ => ((P0_3_ k_ ∨ P0_4_ k_) ∨ w.heap.size ≤ k_) ∧ some k_ ≠ (u4 : Value).ownBlock ∧ some k_ ≠ (.slice (some ad189) t186.length co6 : Value).ownBlock ∧ k_ ≠ gb185 ∧ k_ ≠ gb198) (.slice A189_0 (rd_L13 t186 x18_1).length c189_0) (rd_L13 t186 x18_1)) := ⟨h0_⟩
              have n1_ : Aside0 (Kd.V k104 104 w53 w.heap.size (fun k_ => ((P0_3_ k_ ∨ P0_4_ k_) ∨ w.heap.size ≤ k_) ∧ some k_ ≠ (u4 : Value).ownBlock ∧ some k_ ≠ (.slice (some ad189) t186.length co6 : Value).ownBlock ∧ k_ ≠ gb185 ∧ k_ ≠ gb198) v192 t191) := ⟨h1_⟩
              have n2_ : Aside0 (Kd.V k39 39 w53 w.heap.size (fun k_ => ((P0_3_ k_ ∨ P0_4_ k_) ∨ w.heap.size ≤ k_) ∧ some k_ ≠ (u4 : Value).ownBlock ∧ some k_ ≠ (.slice (some ad189) t186.length co6 : Value).ownBlock ∧ k_ ≠ gb185 ∧ k_ ≠ gb198) v195 t194) := ⟨h2_⟩
              have n3_ : Aside0 (Kd.V k104 104 w53 w.heap.size (fun k_ => ((P0_3_ k_ ∨ P0_4_ k_) ∨ w.heap.size ≤ k_) ∧ some k_ ≠ (u4 : Value).ownBlock ∧ some k_ ≠ (.slice (some ad189) t186.length co6 : Value).ownBlock ∧ k_ ≠ gb185 ∧ k_ ≠ gb198) (.slice A0_3 l0_3.length c0_3) l0_3) := ⟨h3_⟩
              have n4_ : Aside0 (Kd.V k39 39 w53 w.heap.size (fun k_ => ((P0_3_ k_ ∨ P0_4_ k_) ∨ w.heap.size ≤ k_) ∧ some k_ ≠ (u4 : Value).ownBlock ∧ some k_ ≠ (.slice (some ad189) t186.length co6 : Value).ownBlock ∧ k_ ≠ gb185 ∧ k_ ≠ gb198) (.slice A0_4 l0_4.length c0_4) l0_4) := ⟨h4_⟩
              have n5_ : Aside0 (Kd.N k83 83 w53 w.heap.size (fun k_ => ((P0_3_ k_ ∨ P0_4_ k_) ∨ w.heap.size ≤ k_) ∧ some k_ ≠ (.slice (some ad189) t186.length co6 : Value).ownBlock ∧ k_ ≠ gb185 ∧ k_ ≠ gb198) u4 x4_1) := ⟨h5_⟩
              have n6_ : Aside0 (Kd.N (Kd.slice 3 (Kd.int .i64)) 65 w53 w.heap.size (fun k_ => ((P0_3_ k_ ∨ P0_4_ k_) ∨ w.heap.size ≤ k_) ∧ some k_ ≠ (u4 : Value).ownBlock ∧ k_ ≠ gb185 ∧ k_ ≠ gb198) (.slice (some ad189) t186.length co6) t186) := ⟨h6_⟩
              have n7_ : Aside0 (w53.heap[gb185]? = some (.cells #[.int .u32 a0_0, .slice A0_1 l0_1.length c0_1, .string a0_2, .slice A0_3 l0_3.length c0_3, .slice A0_4 l0_4.length c0_4] 43 (0, 0))) := ⟨h7_⟩
              have n8_ : Aside0 (w53.heap[gb198]? = some (.cells #[.string (⟨#[]⟩ : ByteArray), .slice none 0 0, .slice none 0 0] 39 (0, 0))) := ⟨h8_⟩
              have n9_ : Aside0 (w.heap.size ≤ gb198) := ⟨h9_⟩
              have n10_ : Aside0 (w.heap.size ≤ gb198) := ⟨h10_⟩
              have n11_ : Aside0 (gb185 ≠ gb198) := ⟨h11_⟩
              have n12_ : Aside0 (gb198 ≠ gb185) := ⟨h12_⟩
              have n13_ : Aside0 (Below w.heap.size w w53) := ⟨h13_⟩
              clear HO_4
              clear HO_5
              clear HO_186003
              clear HO_186004
              clear BK185
              clear HB
              clear h0_ h1_ h2_ h3_ h4_ h5_ h6_ h7_ h8_ h9_ h10_ h11_ h12_ h13_
              have HL189_0 := n0_
              have HO193 := n1_
              have HO196 := n2_
              have HO_186003 := n3_
              have HO_186004 := n4_
              have HO_4 := n5_
              have HO_5 := n6_
              have BK185 := n7_
              have BK198 := n8_
              have GW198 := n9_
              have GE198 := n10_
              have NB185_198 := n11_
              have NB198_185 := n12_
              have HB := n13_
              clear n0_ n1_ n2_ n3_ n4_ n5_ n6_ n7_ n8_ n9_ n10_ n11_ n12_ n13_
              have hHeld : w53.cell? ⟨gb185, 0, none⟩ = some (.int .u32 a0_0) ∧ w53.cell? ⟨gb185, 1, none⟩ = some (.slice A0_1 l0_1.length c0_1) ∧ w53.cell? ⟨gb185, 2, none⟩ = some (.string a0_2) ∧ w53.cell? ⟨gb185, 3, none⟩ = some (.slice A0_3 l0_3.length c0_3) ∧ w53.cell? ⟨gb185, 4, none⟩ = some (.slice A0_4 l0_4.length c0_4) ∧ w53.cell? (ad189.add (x18_1).toNat) = some (.slice A189_0 (rd_L13 t186 x18_1).length c189_0) := hS_
              obtain ⟨Ao55, co55, eo55⟩ := Kd.V_slice HO193.out
              (first | subst eo55 | (injection eo55 with f1_ f2_ f3_; have f4_ := f1_.symm; have f5_ := f3_.symm; clear f1_ f2_ f3_; subst f4_; subst f5_))
              obtain ⟨Ao57, co57, eo57⟩ := Kd.V_slice HO196.out
              (first | subst eo57 | (injection eo57 with f1_ f2_ f3_; have f4_ := f1_.symm; have f5_ := f3_.symm; clear f1_ f2_ f3_; subst f4_; subst f5_))
              refine norm_ (a' := ?_) ?_ ?_
              rotate_left
              · simp only [putAll, Act.put, List.setIfInBounds_toArray, List.set_cons_zero, List.set_cons_succ]
                rfl
              refine one_ (i := 10) (N := none) #[true, true, true, true, true, true, true, true, true, true, true, false] rfl rfl (one_of HT_.out (by kernel_rfl)) (by decide) (fun K hK => ?_)
              have hs54 : w53.cell? ⟨gb198, 0, none⟩ = some (.string (⟨#[]⟩ : ByteArray)) := (blk_cell BK198.out 0).trans rfl
              have hfs54 := blk_frozen BK198.out 0
              have hns54_0 := NB185_198.out
              have hms54_0 := NB198_185.out
              have hs56 : w53.cell? ⟨gb198, 1, none⟩ = some (.slice none 0 0) := (blk_cell BK198.out 1).trans rfl
              have hfs56 := blk_frozen BK198.out 1
              have hns56_0 := NB185_198.out
              have hms56_0 := NB198_185.out
              have hs58 : w53.cell? ⟨gb198, 2, none⟩ = some (.slice none 0 0) := (blk_cell BK198.out 2).trans rfl
              have hfs58 := blk_frozen BK198.out 2
              have hns58_0 := NB185_198.out
              have hms58_0 := NB198_185.out
              refine skip_ (w1 := ?_) (by rfl) rfl ?_ ?_
              rotate_left
              · go_simp
                rfl
              refine hK.out _ _ ⟨((cell_far (p := ⟨gb198, _, none⟩) NB185_198.out _).trans (((cell_far (p := ⟨gb198, _, none⟩) NB185_198.out _).trans (((cell_far (p := ⟨gb198, _, none⟩) NB185_198.out _).trans (hHeld.1)))))), ((cell_far (p := ⟨gb198, _, none⟩) NB185_198.out _).trans (((cell_far (p := ⟨gb198, _, none⟩) NB185_198.out _).trans (((cell_far (p := ⟨gb198, _, none⟩) NB185_198.out _).trans (hHeld.2.1)))))), ((cell_far (p := ⟨gb198, _, none⟩) NB185_198.out _).trans (((cell_far (p := ⟨gb198, _, none⟩) NB185_198.out _).trans (((cell_far (p := ⟨gb198, _, none⟩) NB185_198.out _).trans (hHeld.2.2.1)))))), ((cell_far (p := ⟨gb198, _, none⟩) NB185_198.out _).trans (((cell_far (p := ⟨gb198, _, none⟩) NB185_198.out _).trans (((cell_far (p := ⟨gb198, _, none⟩) NB185_198.out _).trans (hHeld.2.2.2.1)))))), ((cell_far (p := ⟨gb198, _, none⟩) NB185_198.out _).trans (((cell_far (p := ⟨gb198, _, none⟩) NB185_198.out _).trans (((cell_far (p := ⟨gb198, _, none⟩) NB185_198.out _).trans (hHeld.2.2.2.2.1)))))), ((cell_far (p := ⟨gb198, _, none⟩) (by first | exact Kd.own_blk (Kd.N_away HO_5.out (fun _ hk => hk.2.2.2)) | (rw [add_block]; exact Kd.own_blk (Kd.N_away HO_5.out (fun _ hk => hk.2.2.2))) | (show (Addr.add _ _).block ≠ _; rw [add_block]; exact Kd.own_blk (Kd.N_away HO_5.out (fun _ hk => hk.2.2.2))) | (dsimp only; exact Kd.own_blk (Kd.N_away HO_5.out (fun _ hk => hk.2.2.2)))) _).trans (((cell_far (p := ⟨gb198, _, none⟩) (by first | exact Kd.own_blk (Kd.N_away HO_5.out (fun _ hk => hk.2.2.2)) | (rw [add_block]; exact Kd.own_blk (Kd.N_away HO_5.out (fun _ hk => hk.2.2.2))) | (show (Addr.add _ _).block ≠ _; rw [add_block]; exact Kd.own_blk (Kd.N_away HO_5.out (fun _ hk => hk.2.2.2))) | (dsimp only; exact Kd.own_blk (Kd.N_away HO_5.out (fun _ hk => hk.2.2.2)))) _).trans (((cell_far (p := ⟨gb198, _, none⟩) (by first | exact Kd.own_blk (Kd.N_away HO_5.out (fun _ hk => hk.2.2.2)) | (rw [add_block]; exact Kd.own_blk (Kd.N_away HO_5.out (fun _ hk => hk.2.2.2))) | (show (Addr.add _ _).block ≠ _; rw [add_block]; exact Kd.own_blk (Kd.N_away HO_5.out (fun _ hk => hk.2.2.2))) | (dsimp only; exact Kd.own_blk (Kd.N_away HO_5.out (fun _ hk => hk.2.2.2)))) _).trans (hHeld.2.2.2.2.2))))))⟩ (fun hHeld => ?_)
              clear hK K
              refine pure_ (i := 11) (N := some 8) (v := ?_) (a' := ?_) #[true, true, true, true, true, true, true, true, true, true, true, true] rfl rfl (any_of HT_.out (by kernel_rfl)) (fun _ _ _ h => h) (Or.inl ⟨by rfl, ?_⟩) ?_ ?_
              rotate_left
              · intro w'
                go_simp
                with_reducible rfl
              rotate_left
              · simp only [Act.put, List.setIfInBounds_toArray, List.set_cons_zero, List.set_cons_succ, i64_w, i32_w]
                rfl
              refine done_ (done_of HT_.out (by kernel_rfl)) ?_
              have hnb59 := NB198_185.out
              have hnc59 := NB185_198.out
              have hcz60_0 : w53.cell? ⟨gb198, 0, none⟩ = some (.string (⟨#[]⟩ : ByteArray)) := (blk_cell BK198.out 0).trans rfl
              have hcz60_1 : w53.cell? ⟨gb198, 1, none⟩ = some (.slice none 0 0) := (blk_cell BK198.out 1).trans rfl
              have hcz60_2 : w53.cell? ⟨gb198, 2, none⟩ = some (.slice none 0 0) := (blk_cell BK198.out 2).trans rfl
              have hfz60_0 := blk_frozen BK198.out 0
              have hfz60_1 := blk_frozen BK198.out 1
              have hfz60_2 := blk_frozen BK198.out 2
              try go_wp2_with (first | ((with_reducible refine gate_callee (f := 23) rfl ?_); refine goesL_ (some 32) rfl rfl Try.func23 (by kernel_rfl) rfl #[.agg #[.string t190, .slice Ao55 t191.length co55, .slice Ao57 t194.length co57], .string (⟨#[112, 104, 97, 110, 100, 108, 101]⟩ : ByteArray)] rfl (by (try simp only [List.map_toArray, List.map_cons, List.map_nil]); first | done | rfl | (simp only [List.length_drop, List.length_take]; rfl)) ?_; (with_reducible refine (arboretref06_One.calls k1 t190 _ _ t191 _ _ t194 (⟨#[112, 104, 97, 110, 100, 108, 101]⟩ : ByteArray) t199 t200 t201 _ ?side1 ?side2 ?side3 ?side4 A11.out).mono ?_); (case side1 => refine (Kd.V_reads' (e := 104) (base := w.heap.size) (ok := fun k_ => (((P0_3_ k_ ∨ P0_4_ k_) ∨ w.heap.size ≤ k_) ∧ (some k_ ≠ (u4 : Value).ownBlock ∧ (some k_ ≠ (.slice (some ad189) t186.length co6 : Value).ownBlock ∧ (k_ ≠ gb185 ∧ k_ ≠ gb198))))) (n := t191.length) (c := co55) ?_).2.2; exact (by (with_reducible repeat (first | apply Kd.V_alloc | apply Kd.V_drewN | apply Kd.V_drew)); exact (Kd.V_mono (Kd.V_far (p := ⟨gb198, 2, none⟩) (Kd.V_far (p := ⟨gb198, 1, none⟩) (Kd.V_far (p := ⟨gb198, 0, none⟩) (Kd.V_mono HO193.out (fun k_ hk => (⟨hk, hk.2.2.2.2⟩ : _ ∧ k_ ≠ gb198))) (fun _ hk => hk.2) (.string t190)) (fun _ hk => hk.2) (.slice Ao55 t191.length co55)) (fun _ hk => hk.2) (.slice Ao57 t194.length co57)) (fun _ h_ => h_.1)))); (case side2 => exact (Kd.V_reads' HO193.out).2.1); (case side3 => refine (Kd.V_reads' (e := 39) (base := w.heap.size) (ok := fun k_ => (((P0_3_ k_ ∨ P0_4_ k_) ∨ w.heap.size ≤ k_) ∧ (some k_ ≠ (u4 : Value).ownBlock ∧ (some k_ ≠ (.slice (some ad189) t186.length co6 : Value).ownBlock ∧ (k_ ≠ gb185 ∧ k_ ≠ gb198))))) (n := t194.length) (c := co57) ?_).2.2; exact (by (with_reducible repeat (first | apply Kd.V_alloc | apply Kd.V_drewN | apply Kd.V_drew)); exact (Kd.V_mono (Kd.V_far (p := ⟨gb198, 2, none⟩) (Kd.V_far (p := ⟨gb198, 1, none⟩) (Kd.V_far (p := ⟨gb198, 0, none⟩) (Kd.V_mono HO196.out (fun k_ hk => (⟨hk, hk.2.2.2.2⟩ : _ ∧ k_ ≠ gb198))) (fun _ hk => hk.2) (.string t190)) (fun _ hk => hk.2) (.slice Ao55 t191.length co55)) (fun _ hk => hk.2) (.slice Ao57 t194.length co57)) (fun _ h_ => h_.1)))); (case side4 => exact (Kd.V_reads' HO196.out).2.1); rintro e w61 ⟨rfl, hb⟩; refine ⟨_, rfl, ?_⟩; have n0_ := Aside0.mk (Kd.N_below (by (with_reducible repeat (first | apply Kd.N_alloc | apply Kd.N_drewN | apply Kd.N_drew)); exact (Kd.N_mono (Kd.N_far (p := ⟨gb198, 2, none⟩) (Kd.N_far (p := ⟨gb198, 1, none⟩) (Kd.N_far (p := ⟨gb198, 0, none⟩) (Kd.N_mono HO_4.out (fun k_ hk => (⟨hk, hk.2.2.2⟩ : _ ∧ k_ ≠ gb198))) (fun _ hk => hk.2) (.string t190)) (fun _ hk => hk.2) (.slice Ao55 t191.length co55)) (fun _ hk => hk.2) (.slice Ao57 t194.length co57)) (fun _ h_ => h_.1))) hb); have n1_ := Aside0.mk (Kd.N_below (by (with_reducible repeat (first | apply Kd.N_alloc | apply Kd.N_drewN | apply Kd.N_drew)); exact (Kd.N_mono (Kd.N_far (p := ⟨gb198, 2, none⟩) (Kd.N_far (p := ⟨gb198, 1, none⟩) (Kd.N_far (p := ⟨gb198, 0, none⟩) (Kd.N_mono HO_5.out (fun k_ hk => (⟨hk, hk.2.2.2⟩ : _ ∧ k_ ≠ gb198))) (fun _ hk => hk.2) (.string t190)) (fun _ hk => hk.2) (.slice Ao55 t191.length co55)) (fun _ hk => hk.2) (.slice Ao57 t194.length co57)) (fun _ h_ => h_.1))) hb); have n2_ := Aside0.mk (Kd.V_below (by (with_reducible repeat (first | apply Kd.V_alloc | apply Kd.V_drewN | apply Kd.V_drew)); exact (Kd.V_mono (Kd.V_far (p := ⟨gb198, 2, none⟩) (Kd.V_far (p := ⟨gb198, 1, none⟩) (Kd.V_far (p := ⟨gb198, 0, none⟩) (Kd.V_mono HO_186003.out (fun k_ hk => (⟨hk, hk.2.2.2.2⟩ : _ ∧ k_ ≠ gb198))) (fun _ hk => hk.2) (.string t190)) (fun _ hk => hk.2) (.slice Ao55 t191.length co55)) (fun _ hk => hk.2) (.slice Ao57 t194.length co57)) (fun _ h_ => h_.1))) hb); have n3_ := Aside0.mk (Kd.V_below (by (with_reducible repeat (first | apply Kd.V_alloc | apply Kd.V_drewN | apply Kd.V_drew)); exact (Kd.V_mono (Kd.V_far (p := ⟨gb198, 2, none⟩) (Kd.V_far (p := ⟨gb198, 1, none⟩) (Kd.V_far (p := ⟨gb198, 0, none⟩) (Kd.V_mono HO_186004.out (fun k_ hk => (⟨hk, hk.2.2.2.2⟩ : _ ∧ k_ ≠ gb198))) (fun _ hk => hk.2) (.string t190)) (fun _ hk => hk.2) (.slice Ao55 t191.length co55)) (fun _ hk => hk.2) (.slice Ao57 t194.length co57)) (fun _ h_ => h_.1))) hb); have n4_ := Aside0.mk (Kd.V_below (by (with_reducible repeat (first | apply Kd.V_alloc | apply Kd.V_drewN | apply Kd.V_drew)); exact (Kd.V_mono (Kd.V_far (p := ⟨gb198, 2, none⟩) (Kd.V_far (p := ⟨gb198, 1, none⟩) (Kd.V_far (p := ⟨gb198, 0, none⟩) (Kd.V_mono HL189_0.out (fun k_ hk => (⟨hk, hk.2.2.2.2⟩ : _ ∧ k_ ≠ gb198))) (fun _ hk => hk.2) (.string t190)) (fun _ hk => hk.2) (.slice Ao55 t191.length co55)) (fun _ hk => hk.2) (.slice Ao57 t194.length co57)) (fun _ h_ => h_.1))) hb); have n5_ := Aside0.mk (Kd.V_below (by (with_reducible repeat (first | apply Kd.V_alloc | apply Kd.V_drewN | apply Kd.V_drew)); exact (Kd.V_mono (Kd.V_far (p := ⟨gb198, 2, none⟩) (Kd.V_far (p := ⟨gb198, 1, none⟩) (Kd.V_far (p := ⟨gb198, 0, none⟩) (Kd.V_mono HO193.out (fun k_ hk => (⟨hk, hk.2.2.2.2⟩ : _ ∧ k_ ≠ gb198))) (fun _ hk => hk.2) (.string t190)) (fun _ hk => hk.2) (.slice Ao55 t191.length co55)) (fun _ hk => hk.2) (.slice Ao57 t194.length co57)) (fun _ h_ => h_.1))) hb); have n6_ := Aside0.mk (Kd.V_below (by (with_reducible repeat (first | apply Kd.V_alloc | apply Kd.V_drewN | apply Kd.V_drew)); exact (Kd.V_mono (Kd.V_far (p := ⟨gb198, 2, none⟩) (Kd.V_far (p := ⟨gb198, 1, none⟩) (Kd.V_far (p := ⟨gb198, 0, none⟩) (Kd.V_mono HO196.out (fun k_ hk => (⟨hk, hk.2.2.2.2⟩ : _ ∧ k_ ≠ gb198))) (fun _ hk => hk.2) (.string t190)) (fun _ hk => hk.2) (.slice Ao55 t191.length co55)) (fun _ hk => hk.2) (.slice Ao57 t194.length co57)) (fun _ h_ => h_.1))) hb); have n7_ := Aside0.mk (blk_below (g := gb185) (o := .cells #[.int .u32 a0_0, .slice A0_1 l0_1.length c0_1, .string a0_2, .slice A0_3 l0_3.length c0_3, .slice A0_4 l0_4.length c0_4] 43 (0, 0)) (by (with_reducible repeat (first | refine blk_drewN ?_ _ | refine blk_drew ?_ | refine blk_alloc ?_ _)); refine blk_far ?_ NB185_198.out _; (with_reducible repeat (first | refine blk_drewN ?_ _ | refine blk_drew ?_ | refine blk_alloc ?_ _)); refine blk_far ?_ NB185_198.out _; (with_reducible repeat (first | refine blk_drewN ?_ _ | refine blk_drew ?_ | refine blk_alloc ?_ _)); refine blk_far ?_ NB185_198.out _; (with_reducible repeat (first | refine blk_drewN ?_ _ | refine blk_drew ?_ | refine blk_alloc ?_ _)); exact BK185.out) hb); have n8_ := Aside0.mk (blk_below (g := gb198) (o := .cells #[.string t190, .slice Ao55 t191.length co55, .slice Ao57 t194.length co57] 39 (0, 0)) (by (with_reducible repeat (first | refine blk_drewN ?_ _ | refine blk_drew ?_ | refine blk_alloc ?_ _)); refine blk_put (cs := #[.string t190, .slice Ao55 t191.length co55, .slice none 0 0]) ?_ 2 _ rfl; (with_reducible repeat (first | refine blk_drewN ?_ _ | refine blk_drew ?_ | refine blk_alloc ?_ _)); refine blk_put (cs := #[.string t190, .slice none 0 0, .slice none 0 0]) ?_ 1 _ rfl; (with_reducible repeat (first | refine blk_drewN ?_ _ | refine blk_drew ?_ | refine blk_alloc ?_ _)); refine blk_put (cs := #[.string (⟨#[]⟩ : ByteArray), .slice none 0 0, .slice none 0 0]) ?_ 0 _ rfl; (with_reducible repeat (first | refine blk_drewN ?_ _ | refine blk_drew ?_ | refine blk_alloc ?_ _)); exact BK198.out) hb); have n9_ := Aside0.mk (below_step (by repeat (first | (with_reducible first | exact HB.out | apply below_alloc | apply pw_below_drewN | apply below_drew1 | refine below_set ?_ GE185.out | refine below_set ?_ GE198.out) | exact HB.out)) hb); clear HO_4; clear HO_5; clear HO_186003; clear HO_186004; clear HL189_0; clear HO193; clear HO196; clear BK185; clear BK198; clear HB; have HO_4 := n0_; have HO_5 := n1_; have HO_186003 := n2_; have HO_186004 := n3_; have HL189_0 := n4_; have HO193 := n5_; have HO196 := n6_; have BK185 := n7_; have BK198 := n8_; have HB := n9_; clear n0_ n1_ n2_ n3_ n4_ n5_ n6_ n7_ n8_ n9_; (try clear hb); (try clear hb2); (try clear hk); (try clear hi)))
              go_ret2
              exact ⟨_, by first | rfl | (simp [errW_none, errW_some] <;> rfl) | (simp [*, errW_none, errW_some] <;> rfl), by first | exact Kd.S_nil _ _ _ _ _ | exact Kd.N_nil _ _ _ _ _ | exact Kd.V_nil _ _ _ _ _ | exact Kd.Q_nil _ _ _ _ _ | exact Kd.R_nil _ _ _ _ _, by repeat (first | (with_reducible first | exact HB.out | apply below_alloc | apply pw_below_drewN | apply below_drew1 | refine below_set ?_ GE185.out | refine below_set ?_ GE198.out) | exact HB.out)⟩
          · rw [if_neg c9] at H
            exact absurd H (by simp)
        · rw [if_neg c8] at H
          exact absurd H (by simp)
      · rw [if_neg c7] at H
        have c7b0 : decide (x18_1 < (t186.length : Int)) = false := decide_eq_false c7
        clear c7
        simp only [Option.some.injEq, Prod.mk.injEq] at H
        obtain ⟨rfl, rfl⟩ := H
        go_wp2
        go_ret2
        exact ⟨_, by first | rfl | (simp [errW_none, errW_some] <;> rfl) | (simp [*, errW_none, errW_some] <;> rfl), by (with_reducible repeat (first | apply Kd.N_alloc | apply Kd.N_drewN | apply Kd.N_drew)); exact Kd.N_mono HO_4.out (fun _ hk => hk.1), by repeat (first | (with_reducible first | exact HB.out | apply below_alloc | apply pw_below_drewN | apply below_drew1 | refine below_set ?_ GE185.out) | exact HB.out)⟩
end Go.Proofs.Yteejaaeglfpcmaa.PH

namespace Go.Proofs.Yteejaaeglfpcmaa.PH
open Go.RowKit Go.Proofs.YteejaaeglfpcmaaW.PrintWords Go.Proofs.YteejaaeglfpcmaaW.PrintLast Go.Proofs.YteejaaeglfpcmaaW.PrintMore
attribute [local go_sem] max2_int min2_int max_two min_two max_three min_three max_four min_four   -- for this text's walks alone
set_option linter.unusedVariables false
set_option linter.unusedSimpArgs false
def arboretref06_Handle.l0 : Nat → Int → List (S83) → Int → Int → Int → Option (List Int × Bool)
  | 0, _, _, _, _, _ => none
  | k + 1, x1, x6, x7, x15, x16 => if x16 < x15 then (if x7 = 0 then (if 0 ≤ x16 then (if x16 < (x6.length : Int) then (if ((rd_T83 x6 x16).f0) = x1 then (some ((rd_T83 x6 x16).f1, true)) else (arboretref06_Handle.l0 k x1 x6 x7 x15 (wrap64 (x16 + 1)))) else (none)) else (none)) else (arboretref06_Handle.l0 k x1 x6 x7 x15 (wrap64 (x16 + 1)))) else (some (([] : List Int), false))
def arboretref06_Handle.f (k : Nat) (a0_0 : Int) (l0_1 : List (S151)) (a0_2 : ByteArray) (l0_3 : List (S104)) (l0_4 : List (S39)) (a1 : Int) : Option (List Int × Bool) := (arboretref06_Index.f k a0_0 l0_1 a0_2 l0_3 l0_4).bind fun bt208 => (arboretref06_Handle.l0 k a1 bt208.1 bt208.2 (bt208.1.length : Int) 0)
set_option maxHeartbeats 8000000 in
set_option maxRecDepth 100000 in
theorem arboretref06_Handle.calls (k : Nat) (a0_0 : Int) (A0_1 : Option Addr) (c0_1 : Nat) (l0_1 : List (S151)) (a0_2 : ByteArray) (P0_3_ : Nat → Prop) (A0_3 : Option Addr) (c0_3 : Nat) (l0_3 : List (S104)) (P0_4_ : Nat → Prop) (A0_4 : Option Addr) (c0_4 : Nat) (l0_4 : List (S39)) (a1 : Int) (r1 : List Int) (r2 : Bool) (w : World) (hr0_1 : Kd.C k151 w A0_1 l0_1.length l0_1) (hc0_1 : l0_1.length ≤ c0_1) (hs0_3 : Kd.V k104 104 w w.heap.size (fun k_ => P0_3_ k_) (.slice A0_3 l0_3.length c0_3) l0_3) (hs0_4 : Kd.V k39 39 w w.heap.size (fun k_ => P0_4_ k_) (.slice A0_4 l0_4.length c0_4) l0_4) (h : arboretref06_Handle.f k a0_0 l0_1 a0_2 l0_3 l0_4 a1 = some (r1, r2)) :
    Calls Try.prog 39 #[.agg #[.int .u32 a0_0, .slice A0_1 l0_1.length c0_1, .string a0_2, .slice A0_3 l0_3.length c0_3, .slice A0_4 l0_4.length c0_4], .int .u32 a1] w fun e w' => ∃ v0_ : Value, e = .returned (.tuple #[v0_, .bool r2]) ∧ Kd.V (Kd.int .i64) 3 w' w.heap.size (fun k_ => ((P0_3_ k_ ∨ P0_4_ k_) ∨ w.heap.size ≤ k_)) v0_ r1 ∧ Below w.heap.size w w' := by
  have hu43 := Try.underlying43
  have HR0_1 := Aside0.mk hr0_1
  have HC0_1 := Aside0.mk hc0_1
  clear hr0_1 hc0_1
  have HO0_3 := Aside0.mk (show Kd.V k104 104 w w.heap.size (fun k_ => ((P0_3_ k_ ∨ P0_4_ k_) ∨ w.heap.size ≤ k_)) (.slice A0_3 l0_3.length c0_3) l0_3 from Kd.V_mono hs0_3 (fun k_ hk => .inl (.inl hk)))
  have HO0_4 := Aside0.mk (show Kd.V k39 39 w w.heap.size (fun k_ => ((P0_3_ k_ ∨ P0_4_ k_) ∨ w.heap.size ≤ k_)) (.slice A0_4 l0_4.length c0_4) l0_4 from Kd.V_mono hs0_4 (fun k_ hk => .inl (.inr hk)))
  have HB := Aside0.mk (Below.refl w.heap.size w)
  have H : ((arboretref06_Index.f k a0_0 l0_1 a0_2 l0_3 l0_4).bind fun bt208 => (arboretref06_Handle.l0 k a1 bt208.1 bt208.2 (bt208.1.length : Int) 0)) = some (r1, r2) := h
  clear h
  replace H := Option.bind_eq_some_iff.mp H
  obtain ⟨⟨t208, t211⟩, A30, H⟩ := H
  replace H : (arboretref06_Handle.l0 k a1 t208 t211 (t208.length : Int) 0) = some (r1, r2) := H
  have A3 := Aside0.mk A30
  clear A30
  have H' := Aside0.mk H
  clear H
  go_enter Try.func39, Try.ntmps39
  go_wp2_with (first | ((with_reducible refine gate_dst (N := 2) rfl ?_); refine box_event ?hg (N := 2) ?hd (cs := #[.int .u32 a0_0, .slice A0_1 l0_1.length c0_1, .string a0_2, .slice A0_3 l0_3.length c0_3, .slice A0_4 l0_4.length c0_4]) (t := 43) ?hr ?_; (case hd => rfl); (case hg => rfl); (case hr => first | (go_simp; done) | (go_simp; rfl)); intro gb207 hg w4 hbox hb; have n0_ := Aside0.mk (Kd.V_below (Kd.V_elderB (by (with_reducible repeat (first | apply Kd.V_alloc | apply Kd.V_drewN | apply Kd.V_drew)); exact HO0_3.out) gb207 (Nat.le_of_eq hg.symm)) hb); have n1_ := Aside0.mk (Kd.V_below (Kd.V_elderB (by (with_reducible repeat (first | apply Kd.V_alloc | apply Kd.V_drewN | apply Kd.V_drew)); exact HO0_4.out) gb207 (Nat.le_of_eq hg.symm)) hb); have n2_ := Aside0.mk (below_step (by repeat (first | (with_reducible first | exact HB.out | apply below_alloc | apply pw_below_drewN | apply below_drew1) | exact HB.out)) hb); have n3_ := Aside0.mk (hbox); have n4_ := Aside0.mk ((by rw [hg]; exact (below_size (by repeat (first | (with_reducible first | exact HB.out | apply below_alloc | apply pw_below_drewN | apply below_drew1) | exact HB.out))) : w.heap.size ≤ gb207)); have n5_ := Aside0.mk ((by rw [hg]; exact (below_size (by repeat (first | (with_reducible first | exact HB.out | apply below_alloc | apply pw_below_drewN | apply below_drew1) | exact HB.out))) : w.heap.size ≤ gb207)); clear HO0_3; clear HO0_4; clear HB; have HO0_3 := n0_; have HO0_4 := n1_; have HB := n2_; have BK207 := n3_; have GW207 := n4_; have GE207 := n5_; clear n0_ n1_ n2_ n3_ n4_ n5_; clear hb hbox hg; have hcz5_0 : w4.cell? ⟨gb207, 0, none⟩ = some (.int .u32 a0_0) := (blk_cell BK207.out 0).trans rfl; have hcz5_1 : w4.cell? ⟨gb207, 1, none⟩ = some (.slice A0_1 l0_1.length c0_1) := (blk_cell BK207.out 1).trans rfl; have hcz5_2 : w4.cell? ⟨gb207, 2, none⟩ = some (.string a0_2) := (blk_cell BK207.out 2).trans rfl; have hcz5_3 : w4.cell? ⟨gb207, 3, none⟩ = some (.slice A0_3 l0_3.length c0_3) := (blk_cell BK207.out 3).trans rfl; have hcz5_4 : w4.cell? ⟨gb207, 4, none⟩ = some (.slice A0_4 l0_4.length c0_4) := (blk_cell BK207.out 4).trans rfl; have hfz5_0 := blk_frozen BK207.out 0; have hfz5_1 := blk_frozen BK207.out 1; have hfz5_2 := blk_frozen BK207.out 2; have hfz5_3 := blk_frozen BK207.out 3; have hfz5_4 := blk_frozen BK207.out 4) | ((with_reducible refine gate_callee (f := 38) rfl ?_); refine goesL_ (some 11) rfl rfl Try.func38 (by kernel_rfl) rfl #[.agg #[.int .u32 a0_0, .slice A0_1 l0_1.length c0_1, .string a0_2, .slice A0_3 l0_3.length c0_3, .slice A0_4 l0_4.length c0_4]] rfl (by (try simp only [List.map_toArray, List.map_cons, List.map_nil]); first | done | rfl | (simp only [List.length_drop, List.length_take]; rfl)) ?_; (with_reducible refine (arboretref06_Index.calls k a0_0 _ _ l0_1 a0_2 (fun k_ => (((P0_3_ k_ ∨ P0_4_ k_) ∨ w.heap.size ≤ k_) ∧ k_ ≠ gb207)) _ _ l0_3 (fun k_ => (((P0_3_ k_ ∨ P0_4_ k_) ∨ w.heap.size ≤ k_) ∧ k_ ≠ gb207)) _ _ l0_4 t208 t211 _ ?side1 ?side2 ?side3 ?side4 A3.out).mono ?_); (case side1 => repeat (first | exact (Kd.C_below HR0_1.out HB.out) | (with_reducible refine Kd.C_alloc ?_ _) | (with_reducible refine Kd.C_drewN ?_ _) | (with_reducible refine Kd.C_drew ?_))); (case side2 => exact HC0_1.out); (case side3 => exact HO0_3.out); (case side4 => exact HO0_4.out); rintro e w6 ⟨v209, rfl, ho0, hb⟩; refine ⟨_, rfl, ?_⟩; have n0_ := Aside0.mk (Kd.V_elder' (by (with_reducible repeat (first | apply Kd.V_alloc | apply Kd.V_drewN | apply Kd.V_drew)); exact HO0_3.out) (Kd.N_base ho0) hb); have n1_ := Aside0.mk (Kd.V_elder' (by (with_reducible repeat (first | apply Kd.V_alloc | apply Kd.V_drewN | apply Kd.V_drew)); exact HO0_4.out) (Kd.N_base ho0) hb); have n2_ := Aside0.mk (Kd.N_lower (Kd.N_mono (ok' := fun k_ => ((P0_3_ k_ ∨ P0_4_ k_) ∨ w.heap.size ≤ k_) ∧ k_ ≠ gb207) ho0 (fun k_ hk_ => ⟨Or.elim hk_ (fun hs_ => Or.elim hs_ (fun hs_ => hs_.1) (fun hs_ => hs_.1)) (fun hn_ => (.inr (Nat.le_trans (below_size (by repeat (first | (with_reducible first | exact HB.out | apply below_alloc | apply pw_below_drewN | apply below_drew1 | refine below_set ?_ GE207.out) | exact HB.out))) hn_))), Or.elim hk_ (fun hs_ => Or.elim hs_ (fun hs_ => hs_.2) (fun hs_ => hs_.2)) (fun hn_ => (Kd.freshB (g := gb207) (o := .cells #[.int .u32 a0_0, .slice A0_1 l0_1.length c0_1, .string a0_2, .slice A0_3 l0_3.length c0_3, .slice A0_4 l0_4.length c0_4] 43 (0, 0)) (by (with_reducible repeat (first | refine blk_drewN ?_ _ | refine blk_drew ?_ | refine blk_alloc ?_ _)); exact BK207.out) k_ hn_))⟩)) (below_size (by repeat (first | (with_reducible first | exact HB.out | apply below_alloc | apply pw_below_drewN | apply below_drew1 | refine below_set ?_ GE207.out) | exact HB.out)))); have n3_ := Aside0.mk (blk_below (g := gb207) (o := .cells #[.int .u32 a0_0, .slice A0_1 l0_1.length c0_1, .string a0_2, .slice A0_3 l0_3.length c0_3, .slice A0_4 l0_4.length c0_4] 43 (0, 0)) (by (with_reducible repeat (first | refine blk_drewN ?_ _ | refine blk_drew ?_ | refine blk_alloc ?_ _)); exact BK207.out) hb); have n4_ := Aside0.mk (below_step (by repeat (first | (with_reducible first | exact HB.out | apply below_alloc | apply pw_below_drewN | apply below_drew1 | refine below_set ?_ GE207.out) | exact HB.out)) hb); clear HO0_3; clear HO0_4; clear BK207; clear HB; have HO0_3 := n0_; have HO0_4 := n1_; have HO210 := n2_; have BK207 := n3_; have HB := n4_; clear n0_ n1_ n2_ n3_ n4_; (try clear hb); (try clear hb2); (try clear hk); (try clear hi); (try clear ho0); obtain ⟨Ao7, co7, eo7⟩ := Kd.N_slice HO210.out; subst eo7))
  go_loopg [16] k (fun kq v16 w' => ∃ (x16_1 : Int), v16 = .int .i64 x16_1 ∧ Aside0 (arboretref06_Handle.l0 kq a1 t208 t211 (t208.length : Int) x16_1 = some (r1, r2)) ∧ Aside0 (kq ≤ k) ∧ Aside0 (Kd.N k83 83 w' w.heap.size (fun k_ => ((P0_3_ k_ ∨ P0_4_ k_) ∨ w.heap.size ≤ k_) ∧ k_ ≠ gb207) (.slice Ao7 t208.length co7) t208) ∧ Aside0 (Kd.V k104 104 w' w.heap.size (fun k_ => ((P0_3_ k_ ∨ P0_4_ k_) ∨ w.heap.size ≤ k_) ∧ some k_ ≠ ((.slice Ao7 t208.length co7) : Value).ownBlock ∧ k_ ≠ gb207) (.slice A0_3 l0_3.length c0_3) l0_3) ∧ Aside0 (Kd.V k39 39 w' w.heap.size (fun k_ => ((P0_3_ k_ ∨ P0_4_ k_) ∨ w.heap.size ≤ k_) ∧ some k_ ≠ ((.slice Ao7 t208.length co7) : Value).ownBlock ∧ k_ ≠ gb207) (.slice A0_4 l0_4.length c0_4) l0_4) ∧ Aside0 (w'.heap[gb207]? = some (.cells #[.int .u32 a0_0, (.slice A0_1 l0_1.length c0_1), .string a0_2, (.slice A0_3 l0_3.length c0_3), (.slice A0_4 l0_4.length c0_4)] 43 (0, 0))) ∧ Aside0 (Below w.heap.size w w'))
  case atStart => exact ⟨(0), (by first | rfl | (simp; done) | (simp [*]; done)), H', ⟨Nat.le_refl _⟩, ⟨by (with_reducible repeat (first | apply Kd.N_alloc | apply Kd.N_drewN | apply Kd.N_drew)); exact HO210.out⟩, ⟨by (with_reducible repeat (first | apply Kd.V_alloc | apply Kd.V_drewN | apply Kd.V_drew)); exact Kd.V_mono HO0_3.out (fun _ hk => ⟨hk.1.1, ⟨hk.2, hk.1.2⟩⟩)⟩, ⟨by (with_reducible repeat (first | apply Kd.V_alloc | apply Kd.V_drewN | apply Kd.V_drew)); exact Kd.V_mono HO0_4.out (fun _ hk => ⟨hk.1.1, ⟨hk.2, hk.1.2⟩⟩)⟩, ⟨by (with_reducible repeat (first | refine blk_drewN ?_ _ | refine blk_drew ?_ | refine blk_alloc ?_ _)); exact BK207.out⟩, ⟨by repeat (first | (with_reducible first | exact HB.out | apply below_alloc | apply pw_below_drewN | apply below_drew1 | refine below_set ?_ GE207.out) | exact HB.out)⟩⟩
  case round =>
    clear H'
    try clear p2
    try clear c3
    try clear hcz5_0
    try clear hcz5_1
    try clear hcz5_2
    try clear hcz5_3
    try clear hcz5_4
    try clear hfz5_0
    try clear hfz5_1
    try clear hfz5_2
    try clear hfz5_3
    try clear hfz5_4
    obtain ⟨x16_1, rfl, HA, HK1, HO_6, HO_208003, HO_208004, BK207, HB⟩ := hrel
    cases gk with
    | zero => exact absurd HA.out (by simp [arboretref06_Handle.l0])
    | succ k1 =>
      have H := HA.out
      clear HA
      simp only [arboretref06_Handle.l0] at H
      by_cases c8 : x16_1 < (t208.length : Int)
      · rw [if_pos c8] at H
        have c8b0 : decide (x16_1 < (t208.length : Int)) = true := decide_eq_true c8
        clear c8
        by_cases c9 : t211 = 0
        · rw [if_pos c9] at H
          have c9b0 : (t211 == 0) = true := beq_iff_eq.mpr c9
          have c9b1 : (t211 != 0) = false := bne_eq_false_iff_eq.mpr c9
          clear c9
          by_cases c10 : 0 ≤ x16_1
          · rw [if_pos c10] at H
            have c10b0 : decide (0 ≤ x16_1) = true := decide_eq_true c10
            clear c10
            by_cases c11 : x16_1 < (t208.length : Int)
            · rw [if_pos c11] at H
              have c11b0 : decide (x16_1 < (t208.length : Int)) = true := decide_eq_true c11
              clear c11
              by_cases c12 : ((rd_T83 t208 x16_1).f0) = a1
              · rw [if_pos c12] at H
                have c12b0 : (((rd_T83 t208 x16_1).f0) == a1) = true := beq_iff_eq.mpr c12
                have c12b1 : (((rd_T83 t208 x16_1).f0) != a1) = false := bne_eq_false_iff_eq.mpr c12
                clear c12
                simp only [Option.some.injEq, Prod.mk.injEq] at H
                obtain ⟨rfl, rfl⟩ := H
                have p212 : 0 ≤ (x16_1 : Int) := of_decide_eq_true (by first | (with_reducible assumption) | assumption)
                have q212 : x16_1 < (t208.length : Int) := of_decide_eq_true (by first | (with_reducible assumption) | assumption)
                obtain ⟨ad212, A212_1, c212_1, e212, hx212_0, hx212_1, hl212_1, hi212_1⟩ := at_T83 (Kd.N_reads' HO_6.out).2.2 x16_1 p212 q212
                cases e212
                obtain ⟨ce212, hce212, hMe212, hcc212⟩ := Kd.N_get HO_6.out z83 x16_1 p212 (by first | exact q212 | exact of_decide_eq_true (by first | (with_reducible assumption) | assumption) | (have e_ := (Kd.N_reads' HO_6.out).1; omega))
                obtain ⟨ua212_1, uc212_1, rfl, ul212_1, ge212_1⟩ := k83_openF hMe212
                have hv212_1 := hcc212 1 _ rfl
                rw [add_field _ _ 1 (by omega)] at hv212_1
                replace hv212_1 := Option.some.inj (hv212_1.symm.trans hx212_1)
                injection hv212_1 with hva_ hvn_ hvc_
                rw [hva_] at ge212_1
                rw [hvc_] at ul212_1
                have HL212_1 := Aside0.mk (show Kd.V (Kd.int .i64) 3 _ w.heap.size _ _ ((rd_T83 t208 x16_1).f1) from Kd.V_mk ul212_1 ge212_1)
                clear hva_ hvn_ hvc_ ge212_1 ul212_1
                clear hcc212 hce212
                have HR212_1 := Aside0.mk hi212_1
                have HC212_1 := Aside0.mk hl212_1
                clear hi212_1 hl212_1
                replace p212 := eq_true p212
                replace q212 := eq_true q212
                have p213 : 0 ≤ (x16_1 : Int) := of_decide_eq_true (by first | (with_reducible assumption) | assumption)
                have q213 : x16_1 < (t208.length : Int) := of_decide_eq_true (by first | (with_reducible assumption) | assumption)
                obtain ⟨ad213, A213_1, c213_1, e213, hx213_0, hx213_1, hl213_1, hi213_1⟩ := at_T83 (Kd.N_reads' HO_6.out).2.2 x16_1 p213 q213
                obtain rfl : ad212 = ad213 := (by injection e213)
                obtain ⟨ce213, hce213, hMe213, hcc213⟩ := Kd.N_get HO_6.out z83 x16_1 p213 (by first | exact q213 | exact of_decide_eq_true (by first | (with_reducible assumption) | assumption) | (have e_ := (Kd.N_reads' HO_6.out).1; omega))
                obtain ⟨ua213_1, uc213_1, rfl, ul213_1, ge213_1⟩ := k83_openF hMe213
                have hv213_1 := hcc213 1 _ rfl
                rw [add_field _ _ 1 (by omega)] at hv213_1
                replace hv213_1 := Option.some.inj (hv213_1.symm.trans hx213_1)
                injection hv213_1 with hva_ hvn_ hvc_
                rw [hva_] at ge213_1
                rw [hvc_] at ul213_1
                have HL213_1 := Aside0.mk (show Kd.V (Kd.int .i64) 3 _ w.heap.size _ _ ((rd_T83 t208 x16_1).f1) from Kd.V_mk ul213_1 ge213_1)
                clear hva_ hvn_ hvc_ ge213_1 ul213_1
                clear hcc213 hce213
                have HR213_1 := Aside0.mk hi213_1
                have HC213_1 := Aside0.mk hl213_1
                clear hi213_1 hl213_1
                replace p213 := eq_true p213
                replace q213 := eq_true q213
                have ea_ := Option.some.inj (hx212_1.symm.trans hx213_1)
                injection ea_ with ea_ en_ ec_
                subst ea_
                subst ec_
                clear en_
                go_wp2
                go_ret2
                exact ⟨_, by first | rfl | (simp [errW_none, errW_some] <;> rfl) | (simp [*, errW_none, errW_some] <;> rfl), by (with_reducible repeat (first | apply Kd.V_alloc | apply Kd.V_drewN | apply Kd.V_drew)); exact Kd.V_mono HL213_1.out (fun _ hk => hk.1.1), by repeat (first | (with_reducible first | exact HB.out | apply below_alloc | apply pw_below_drewN | apply below_drew1 | refine below_set ?_ GE207.out) | exact HB.out)⟩
              · rw [if_neg c12] at H
                have c12b0 : (((rd_T83 t208 x16_1).f0) == a1) = false := beq_eq_false_iff_ne.mpr c12
                have c12b1 : (((rd_T83 t208 x16_1).f0) != a1) = true := bne_iff_ne.mpr c12
                have H' := Aside0.mk H
                clear H
                have p212 : 0 ≤ (x16_1 : Int) := of_decide_eq_true (by first | (with_reducible assumption) | assumption)
                have q212 : x16_1 < (t208.length : Int) := of_decide_eq_true (by first | (with_reducible assumption) | assumption)
                obtain ⟨ad212, A212_1, c212_1, e212, hx212_0, hx212_1, hl212_1, hi212_1⟩ := at_T83 (Kd.N_reads' HO_6.out).2.2 x16_1 p212 q212
                cases e212
                obtain ⟨ce212, hce212, hMe212, hcc212⟩ := Kd.N_get HO_6.out z83 x16_1 p212 (by first | exact q212 | exact of_decide_eq_true (by first | (with_reducible assumption) | assumption) | (have e_ := (Kd.N_reads' HO_6.out).1; omega))
                obtain ⟨ua212_1, uc212_1, rfl, ul212_1, ge212_1⟩ := k83_openF hMe212
                have hv212_1 := hcc212 1 _ rfl
                rw [add_field _ _ 1 (by omega)] at hv212_1
                replace hv212_1 := Option.some.inj (hv212_1.symm.trans hx212_1)
                injection hv212_1 with hva_ hvn_ hvc_
                rw [hva_] at ge212_1
                rw [hvc_] at ul212_1
                have HL212_1 := Aside0.mk (show Kd.V (Kd.int .i64) 3 _ w.heap.size _ _ ((rd_T83 t208 x16_1).f1) from Kd.V_mk ul212_1 ge212_1)
                clear hva_ hvn_ hvc_ ge212_1 ul212_1
                clear hcc212 hce212
                have HR212_1 := Aside0.mk hi212_1
                have HC212_1 := Aside0.mk hl212_1
                clear hi212_1 hl212_1
                replace p212 := eq_true p212
                replace q212 := eq_true q212
                go_wp2
                go_roundg k1
                case measure => have := HK1.out; omega
                case rel => exact ⟨(wrap64 (x16_1 + 1)), (by first | rfl | (simp; done) | (simp [*]; done)), H', ⟨by have := HK1.out; omega⟩, ⟨by (with_reducible repeat (first | apply Kd.N_alloc | apply Kd.N_drewN | apply Kd.N_drew)); exact HO_6.out⟩, ⟨by (with_reducible repeat (first | apply Kd.V_alloc | apply Kd.V_drewN | apply Kd.V_drew)); exact HO_208003.out⟩, ⟨by (with_reducible repeat (first | apply Kd.V_alloc | apply Kd.V_drewN | apply Kd.V_drew)); exact HO_208004.out⟩, ⟨by (with_reducible repeat (first | refine blk_drewN ?_ _ | refine blk_drew ?_ | refine blk_alloc ?_ _)); exact BK207.out⟩, ⟨by repeat (first | (with_reducible first | exact HB.out | apply below_alloc | apply pw_below_drewN | apply below_drew1 | refine below_set ?_ GE207.out) | exact HB.out)⟩⟩
            · rw [if_neg c11] at H
              exact absurd H (by simp)
          · rw [if_neg c10] at H
            exact absurd H (by simp)
        · rw [if_neg c9] at H
          have c9b0 : (t211 == 0) = false := beq_eq_false_iff_ne.mpr c9
          have c9b1 : (t211 != 0) = true := bne_iff_ne.mpr c9
          have H' := Aside0.mk H
          clear H
          go_wp2
          go_roundg k1
          case measure => have := HK1.out; omega
          case rel => exact ⟨(wrap64 (x16_1 + 1)), (by first | rfl | (simp; done) | (simp [*]; done)), H', ⟨by have := HK1.out; omega⟩, ⟨by (with_reducible repeat (first | apply Kd.N_alloc | apply Kd.N_drewN | apply Kd.N_drew)); exact HO_6.out⟩, ⟨by (with_reducible repeat (first | apply Kd.V_alloc | apply Kd.V_drewN | apply Kd.V_drew)); exact HO_208003.out⟩, ⟨by (with_reducible repeat (first | apply Kd.V_alloc | apply Kd.V_drewN | apply Kd.V_drew)); exact HO_208004.out⟩, ⟨by (with_reducible repeat (first | refine blk_drewN ?_ _ | refine blk_drew ?_ | refine blk_alloc ?_ _)); exact BK207.out⟩, ⟨by repeat (first | (with_reducible first | exact HB.out | apply below_alloc | apply pw_below_drewN | apply below_drew1 | refine below_set ?_ GE207.out) | exact HB.out)⟩⟩
      · rw [if_neg c8] at H
        have c8b0 : decide (x16_1 < (t208.length : Int)) = false := decide_eq_false c8
        clear c8
        simp only [Option.some.injEq, Prod.mk.injEq] at H
        obtain ⟨rfl, rfl⟩ := H
        go_wp2
        go_ret2
        exact ⟨_, by first | rfl | (simp [errW_none, errW_some] <;> rfl) | (simp [*, errW_none, errW_some] <;> rfl), Kd.V_nil _ _ _ _ _, by repeat (first | (with_reducible first | exact HB.out | apply below_alloc | apply pw_below_drewN | apply below_drew1 | refine below_set ?_ GE207.out) | exact HB.out)⟩
end Go.Proofs.Yteejaaeglfpcmaa.PH

namespace Go.Proofs.Yteejaaeglfpcmaa.PH
open Go.RowKit Go.Proofs.YteejaaeglfpcmaaW.PrintWords Go.Proofs.YteejaaeglfpcmaaW.PrintLast Go.Proofs.YteejaaeglfpcmaaW.PrintMore
attribute [local go_sem] max2_int min2_int max_two min_two max_three min_three max_four min_four   -- for this text's walks alone
set_option linter.unusedVariables false
set_option linter.unusedSimpArgs false
def arboretref12_Equal.l0 : Nat → List Int → List Int → Int → Int → Option (Bool)
  | 0, _, _, _, _ => none
  | k + 1, x0, x1, x12, x13 => if x13 < x12 then (if 0 ≤ x13 then (if x13 < (x0.length : Int) then (if x13 < (x1.length : Int) then (if (rd x0 x13) = (rd x1 x13) then (arboretref12_Equal.l0 k x0 x1 x12 (wrap64 (x13 + 1))) else (some false)) else (none)) else (none)) else (none)) else (some true)
def arboretref12_Equal.f (k : Nat) (l0 : List Int) (l1 : List Int) : Option (Bool) := if (l0.length : Int) = (l1.length : Int) then (arboretref12_Equal.l0 k l0 l1 (l0.length : Int) 0) else (some false)
set_option maxHeartbeats 8000000 in
set_option maxRecDepth 100000 in
theorem arboretref12_Equal.calls (k : Nat) (A0 : Option Addr) (c0 : Nat) (l0 : List Int) (A1 : Option Addr) (c1 : Nat) (l1 : List Int) (r : Bool) (w : World) (hr0 : Kd.C (Kd.int .i64) w A0 l0.length l0) (hc0 : l0.length ≤ c0) (hr1 : Kd.C (Kd.int .i64) w A1 l1.length l1) (hc1 : l1.length ≤ c1) (h : arboretref12_Equal.f k l0 l1 = some r) :
    Calls Try.prog 40 #[.slice A0 l0.length c0, .slice A1 l1.length c1] w fun e w' => e = .returned (.bool r) ∧ Drawn0 w w' := by
  have HR0 := Aside0.mk hr0
  have HC0 := Aside0.mk hc0
  clear hr0 hc0
  have HR1 := Aside0.mk hr1
  have HC1 := Aside0.mk hc1
  clear hr1 hc1
  have H : (if (l0.length : Int) = (l1.length : Int) then (arboretref12_Equal.l0 k l0 l1 (l0.length : Int) 0) else (some false)) = some r := h
  clear h
  by_cases c3 : (l0.length : Int) = (l1.length : Int)
  · rw [if_pos c3] at H
    have c3b0 : ((l0.length : Int) == (l1.length : Int)) = true := beq_iff_eq.mpr c3
    have c3b1 : ((l0.length : Int) != (l1.length : Int)) = false := bne_eq_false_iff_eq.mpr c3
    have c3b2 : (l0.length == l1.length) = true := by first | simpa using c3 | (simp at c3 ⊢; omega)
    clear c3
    have H' := Aside0.mk H
    clear H
    go_enter Try.func40, Try.ntmps40
    go_wp2
    repeat (go_quiet (fail); try go_wp2)
    go_loopg [13] k (fun kq v13 w' => ∃ (x13_1 : Int), v13 = .int .i64 x13_1 ∧ Aside0 (arboretref12_Equal.l0 kq l0 l1 (l0.length : Int) x13_1 = some r) ∧ Aside0 (kq ≤ k) ∧ Drawn0 w w')
    case atStart => exact ⟨(0), (by first | rfl | (simp; done) | (simp [*]; done)), H', ⟨Nat.le_refl _⟩, by repeat (first | exact Drawn0.refl _ | apply Drawn0.step)⟩
    case round =>
      clear H'
      try clear c1
      try clear p2
      try clear c3
      try clear c3b0
      try clear c3b1
      try clear c3b2
      obtain ⟨x13_1, rfl, HA, HK1, ⟨m1, rfl⟩⟩ := hrel
      cases gk with
      | zero => exact absurd HA.out (by simp [arboretref12_Equal.l0])
      | succ k1 =>
        have H := HA.out
        clear HA
        simp only [arboretref12_Equal.l0] at H
        by_cases c4 : x13_1 < (l0.length : Int)
        · rw [if_pos c4] at H
          have c4b0 : decide (x13_1 < (l0.length : Int)) = true := decide_eq_true c4
          clear c4
          by_cases c5 : 0 ≤ x13_1
          · rw [if_pos c5] at H
            have c5b0 : decide (0 ≤ x13_1) = true := decide_eq_true c5
            clear c5
            by_cases c6 : x13_1 < (l0.length : Int)
            · rw [if_pos c6] at H
              have c6b0 : decide (x13_1 < (l0.length : Int)) = true := decide_eq_true c6
              clear c6
              by_cases c7 : x13_1 < (l1.length : Int)
              · rw [if_pos c7] at H
                have c7b0 : decide (x13_1 < (l1.length : Int)) = true := decide_eq_true c7
                clear c7
                by_cases c8 : (rd l0 x13_1) = (rd l1 x13_1)
                · rw [if_pos c8] at H
                  have c8b0 : ((rd l0 x13_1) == (rd l1 x13_1)) = true := beq_iff_eq.mpr c8
                  have c8b1 : ((rd l0 x13_1) != (rd l1 x13_1)) = false := bne_eq_false_iff_eq.mpr c8
                  clear c8
                  have H' := Aside0.mk H
                  clear H
                  have p214 : 0 ≤ (x13_1 : Int) := of_decide_eq_true (by first | (with_reducible assumption) | assumption)
                  have q214 : x13_1 < (l0.length : Int) := of_decide_eq_true (by first | (with_reducible assumption) | assumption)
                  obtain ⟨ad214, e214, hx214_0⟩ := Kd.at_int HR0.out x13_1 p214 q214
                  cases e214
                  replace p214 := eq_true p214
                  replace q214 := eq_true q214
                  have p215 : 0 ≤ (x13_1 : Int) := of_decide_eq_true (by first | (with_reducible assumption) | assumption)
                  have q215 : x13_1 < (l1.length : Int) := of_decide_eq_true (by first | (with_reducible assumption) | assumption)
                  obtain ⟨ad215, e215, hx215_0⟩ := Kd.at_int HR1.out x13_1 p215 q215
                  cases e215
                  replace p215 := eq_true p215
                  replace q215 := eq_true q215
                  go_wp2
                  repeat (go_quiet (fail); try go_wp2)
                  go_roundg k1
                  case measure => have := HK1.out; omega
                  case rel => exact ⟨(wrap64 (x13_1 + 1)), (by first | rfl | (simp; done) | (simp [*]; done)), H', ⟨by have := HK1.out; omega⟩, by repeat (first | exact Drawn0.refl _ | apply Drawn0.step)⟩
                · rw [if_neg c8] at H
                  have c8b0 : ((rd l0 x13_1) == (rd l1 x13_1)) = false := beq_eq_false_iff_ne.mpr c8
                  have c8b1 : ((rd l0 x13_1) != (rd l1 x13_1)) = true := bne_iff_ne.mpr c8
                  obtain rfl := Option.some.inj H
                  have p214 : 0 ≤ (x13_1 : Int) := of_decide_eq_true (by first | (with_reducible assumption) | assumption)
                  have q214 : x13_1 < (l0.length : Int) := of_decide_eq_true (by first | (with_reducible assumption) | assumption)
                  obtain ⟨ad214, e214, hx214_0⟩ := Kd.at_int HR0.out x13_1 p214 q214
                  cases e214
                  replace p214 := eq_true p214
                  replace q214 := eq_true q214
                  have p215 : 0 ≤ (x13_1 : Int) := of_decide_eq_true (by first | (with_reducible assumption) | assumption)
                  have q215 : x13_1 < (l1.length : Int) := of_decide_eq_true (by first | (with_reducible assumption) | assumption)
                  obtain ⟨ad215, e215, hx215_0⟩ := Kd.at_int HR1.out x13_1 p215 q215
                  cases e215
                  replace p215 := eq_true p215
                  replace q215 := eq_true q215
                  go_wp2
                  repeat (go_quiet (fail); try go_wp2)
                  go_ret
                  exact ⟨by first | rfl | (simp; done) | (simp [*]; done), by repeat (first | exact Drawn0.refl _ | apply Drawn0.step)⟩
              · rw [if_neg c7] at H
                exact absurd H (by simp)
            · rw [if_neg c6] at H
              exact absurd H (by simp)
          · rw [if_neg c5] at H
            exact absurd H (by simp)
        · rw [if_neg c4] at H
          have c4b0 : decide (x13_1 < (l0.length : Int)) = false := decide_eq_false c4
          clear c4
          obtain rfl := Option.some.inj H
          go_wp2
          repeat (go_quiet (fail); try go_wp2)
          go_ret
          exact ⟨by first | rfl | (simp; done) | (simp [*]; done), by repeat (first | exact Drawn0.refl _ | apply Drawn0.step)⟩
  · rw [if_neg c3] at H
    have c3b0 : ((l0.length : Int) == (l1.length : Int)) = false := beq_eq_false_iff_ne.mpr c3
    have c3b1 : ((l0.length : Int) != (l1.length : Int)) = true := bne_iff_ne.mpr c3
    have c3b2 : (l0.length == l1.length) = false := by first | simpa using c3 | (simp at c3 ⊢; omega)
    obtain rfl := Option.some.inj H
    go_enter Try.func40, Try.ntmps40
    go_wp2
    repeat (go_quiet (fail); try go_wp2)
    go_ret
    exact ⟨by first | rfl | (simp; done) | (simp [*]; done), by repeat (first | exact Drawn0.refl _ | apply Drawn0.step)⟩
end Go.Proofs.Yteejaaeglfpcmaa.PH
