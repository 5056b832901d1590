/- SocNil: texts of this session's, and what the kit's print laid for this seat, as far as the law's row uses them (PVx_path_All, PVx_tree_Count, PVx_strings_IndexByte, PVx_name_letter, PVx_name_plain, PVx_name_all, PVx_name_Prop, PVx_tree_names, PVx_stringslite_Index, PVx_stringslite_Cut, PVx_strings_Cut, PVx_name_Node, PVx_tree_check, PVx_eq76, PVx_api_Reserve_146, PVx_api_Reserve_76, PVx_tree_Check, PVx_tree_Find, PVx_words_part, PVx_words_number, PVx_words_Get, PVx_prop_One). -/
import Derived.Test.YtkfcgjopabcbeaaGreatDoorZSocNil1
set_option linter.unusedVariables false
set_option linter.unusedSimpArgs false
namespace Go.Proofs.YtkfcgjopabcbeaaGreatDoor.PV
open Go.RowKit Go.Proofs.YtkfcgjopabcbeaaGreatDoorW.PrintWords Go.Proofs.YtkfcgjopabcbeaaGreatDoorW.PrintLast Go.Proofs.YtkfcgjopabcbeaaGreatDoorW.PrintMore
attribute [local go_sem] max2_int min2_int max_two min_two max_three min_three max_four min_four   -- for this text's walks alone
set_option linter.unusedVariables false
set_option linter.unusedSimpArgs false
def path_All.f (k : Nat) (a0_0 : Int) (l0_1 : List (S76)) (a0_2 : ByteArray) (l0_3 : List (S158)) (l0_4 : List (S27)) : Option ((List (List Int))) := (path_all.f k a0_2 l0_3 l0_4 ([] : List Int)).bind fun t324 => (some t324)
set_option maxHeartbeats 8000000 in
set_option maxRecDepth 100000 in
theorem path_All.calls (k : Nat) (a0_0 : Int) (A0_1 : Option Addr) (c0_1 : Nat) (l0_1 : List (S76)) (a0_2 : ByteArray) (A0_3 : Option Addr) (c0_3 : Nat) (l0_3 : List (S158)) (A0_4 : Option Addr) (c0_4 : Nat) (l0_4 : List (S27)) (r : List (List Int)) (w : World) (hr0_1 : Kd.C k76 w A0_1 l0_1.length l0_1) (hc0_1 : l0_1.length ≤ c0_1) (hr0_3 : Kd.C k158 w A0_3 l0_3.length l0_3) (hc0_3 : l0_3.length ≤ c0_3) (hr0_4 : Kd.C k27 w A0_4 l0_4.length l0_4) (hc0_4 : l0_4.length ≤ c0_4) (h : path_All.f k a0_0 l0_1 a0_2 l0_3 l0_4 = some r) :
    Calls Tryz.prog 40 #[.agg #[.int .u32 a0_0, .slice A0_1 l0_1.length c0_1, .string a0_2, .slice A0_3 l0_3.length c0_3, .slice A0_4 l0_4.length c0_4]] w fun e w' => ∃ v0_ : Value, e = .returned (v0_) ∧ Kd.N (Kd.slice 3 (Kd.int .i64)) 81 w' w.heap.size (fun k_ => (w.heap.size ≤ k_)) v0_ r ∧ Below w.heap.size w w' := by
  have hu29 := Tryz.underlying29
  have hu27 := Tryz.underlying27
  have HR0_1 := Aside0.mk hr0_1
  have HC0_1 := Aside0.mk hc0_1
  clear hr0_1 hc0_1
  have HR0_3 := Aside0.mk hr0_3
  have HC0_3 := Aside0.mk hc0_3
  clear hr0_3 hc0_3
  have HR0_4 := Aside0.mk hr0_4
  have HC0_4 := Aside0.mk hc0_4
  clear hr0_4 hc0_4
  have HB := Aside0.mk (Below.refl w.heap.size w)
  have H : ((path_all.f k a0_2 l0_3 l0_4 ([] : List Int)).bind fun t324 => (some t324)) = some r := h
  clear h
  replace H := Option.bind_eq_some_iff.mp H
  obtain ⟨t324, A20, H⟩ := H
  replace H : (some t324) = some r := H
  have A2 := Aside0.mk A20
  clear A20
  obtain rfl := Option.some.inj H
  go_enter Tryz.func40, Tryz.ntmps40
  go_wp2_with (first | ((with_reducible refine gate_dst (N := 1) rfl ?_); refine box_event ?hg (N := 1) ?hd (cs := #[.int .u32 a0_0, .slice A0_1 l0_1.length c0_1, .string a0_2, .slice A0_3 l0_3.length c0_3, .slice A0_4 l0_4.length c0_4]) (t := 29) ?hr ?_; (case hd => rfl); (case hg => rfl); (case hr => first | (go_simp; done) | (go_simp; rfl)); intro gb323 hg w3 hbox hb; have n0_ := Aside0.mk (below_step (by repeat (first | (with_reducible first | exact HB.out | apply below_alloc | apply pw_below_drewN | apply below_drew1) | exact HB.out)) hb); have n1_ := Aside0.mk (hbox); have n2_ := Aside0.mk ((by rw [hg]; exact (below_size (by repeat (first | (with_reducible first | exact HB.out | apply below_alloc | apply pw_below_drewN | apply below_drew1) | exact HB.out))) : w.heap.size ≤ gb323)); have n3_ := Aside0.mk ((by rw [hg]; exact (below_size (by repeat (first | (with_reducible first | exact HB.out | apply below_alloc | apply pw_below_drewN | apply below_drew1) | exact HB.out))) : w.heap.size ≤ gb323)); clear HB; have HB := n0_; have BK323 := n1_; have GW323 := n2_; have GE323 := n3_; clear n0_ n1_ n2_ n3_; clear hb hbox hg; have hcz4_0 : w3.cell? ⟨gb323, 0, none⟩ = some (.int .u32 a0_0) := (blk_cell BK323.out 0).trans rfl; have hcz4_1 : w3.cell? ⟨gb323, 1, none⟩ = some (.slice A0_1 l0_1.length c0_1) := (blk_cell BK323.out 1).trans rfl; have hcz4_2 : w3.cell? ⟨gb323, 2, none⟩ = some (.string a0_2) := (blk_cell BK323.out 2).trans rfl; have hcz4_3 : w3.cell? ⟨gb323, 3, none⟩ = some (.slice A0_3 l0_3.length c0_3) := (blk_cell BK323.out 3).trans rfl; have hcz4_4 : w3.cell? ⟨gb323, 4, none⟩ = some (.slice A0_4 l0_4.length c0_4) := (blk_cell BK323.out 4).trans rfl; have hfz4_0 := blk_frozen BK323.out 0; have hfz4_1 := blk_frozen BK323.out 1; have hfz4_2 := blk_frozen BK323.out 2; have hfz4_3 := blk_frozen BK323.out 3; have hfz4_4 := blk_frozen BK323.out 4) | ((with_reducible refine gate_callee (f := 78) rfl ?_); refine goesL_ (some 5) rfl rfl Tryz.func78 (by kernel_rfl) rfl #[.agg #[.string a0_2, .slice A0_3 l0_3.length c0_3, .slice A0_4 l0_4.length c0_4], .slice none 0 0] rfl (by (try simp only [List.map_toArray, List.map_cons, List.map_nil]); first | done | rfl | (simp only [List.length_drop, List.length_take]; rfl)) ?_; (refine (path_all.calls k a0_2 _ _ l0_3 _ _ l0_4 (fun k_ => False) _ _ ([] : List Int) t324 _ ?side1 ?side2 ?side3 ?side4 ?side5 A2.out).mono ?_); (case side1 => repeat (first | exact (Kd.C_below HR0_3.out HB.out) | (with_reducible refine Kd.C_alloc ?_ _) | (with_reducible refine Kd.C_drewN ?_ _) | (with_reducible refine Kd.C_drew ?_))); (case side2 => exact HC0_3.out); (case side3 => repeat (first | exact (Kd.C_below HR0_4.out HB.out) | (with_reducible refine Kd.C_alloc ?_ _) | (with_reducible refine Kd.C_drewN ?_ _) | (with_reducible refine Kd.C_drew ?_))); (case side4 => exact HC0_4.out); (case side5 => exact Kd.V_nil _ _ _ _ _); rintro e w5 ⟨v325, rfl, ho0, hb⟩; refine ⟨_, rfl, ?_⟩; have n0_ := Aside0.mk (Kd.N_lower (Kd.N_mono (ok' := fun k_ => (w.heap.size ≤ k_) ∧ k_ ≠ gb323) ho0 (fun k_ hk_ => ⟨Or.elim hk_ (fun hs_ => (hs_).elim) (fun hn_ => (Nat.le_trans (below_size (by repeat (first | (with_reducible first | exact HB.out | apply below_alloc | apply pw_below_drewN | apply below_drew1 | refine below_set ?_ GE323.out) | exact HB.out))) hn_)), Or.elim hk_ (fun hs_ => (hs_).elim) (fun hn_ => (Kd.freshB (g := gb323) (o := .cells #[.int .u32 a0_0, .slice A0_1 l0_1.length c0_1, .string a0_2, .slice A0_3 l0_3.length c0_3, .slice A0_4 l0_4.length c0_4] 29 (0, 0)) (by (with_reducible repeat (first | refine blk_drewN ?_ _ | refine blk_drew ?_ | refine blk_alloc ?_ _)); exact BK323.out) k_ hn_))⟩)) (below_size (by repeat (first | (with_reducible first | exact HB.out | apply below_alloc | apply pw_below_drewN | apply below_drew1 | refine below_set ?_ GE323.out) | exact HB.out)))); have n1_ := Aside0.mk (blk_below (g := gb323) (o := .cells #[.int .u32 a0_0, .slice A0_1 l0_1.length c0_1, .string a0_2, .slice A0_3 l0_3.length c0_3, .slice A0_4 l0_4.length c0_4] 29 (0, 0)) (by (with_reducible repeat (first | refine blk_drewN ?_ _ | refine blk_drew ?_ | refine blk_alloc ?_ _)); exact BK323.out) hb); have n2_ := Aside0.mk (below_step (by repeat (first | (with_reducible first | exact HB.out | apply below_alloc | apply pw_below_drewN | apply below_drew1 | refine below_set ?_ GE323.out) | exact HB.out)) hb); clear BK323; clear HB; have HO326 := n0_; have BK323 := n1_; have HB := n2_; clear n0_ n1_ n2_; (try clear hb); (try clear hb2); (try clear hk); (try clear hi); (try clear ho0)))
  go_ret
  exact ⟨_, by first | rfl | (simp [errW_none, errW_some] <;> rfl) | (simp [*, errW_none, errW_some] <;> rfl), by (with_reducible repeat (first | apply Kd.N_alloc | apply Kd.N_drewN | apply Kd.N_drew)); exact Kd.N_mono HO326.out (fun _ hk => hk.1), by repeat (first | (with_reducible first | exact HB.out | apply below_alloc | apply pw_below_drewN | apply below_drew1 | refine below_set ?_ GE323.out) | exact HB.out)⟩
end Go.Proofs.YtkfcgjopabcbeaaGreatDoor.PV

namespace Go.Proofs.YtkfcgjopabcbeaaGreatDoor.PV
open Go.RowKit Go.Proofs.YtkfcgjopabcbeaaGreatDoorW.PrintWords Go.Proofs.YtkfcgjopabcbeaaGreatDoorW.PrintLast Go.Proofs.YtkfcgjopabcbeaaGreatDoorW.PrintMore
attribute [local go_sem] max2_int min2_int max_two min_two max_three min_three max_four min_four   -- for this text's walks alone
set_option linter.unusedVariables false
set_option linter.unusedSimpArgs false
mutual
def tree_Count.l0 : Nat → Int → Int → List (S27) → Int → Int → Option (Int × Int)
  | 0, _, _, _, _, _ => none
  | k + 1, x4, x5, x14, x15, x16 => if x16 < x15 then (if 0 ≤ x16 then (if x16 < (x14.length : Int) then ((tree_Count.f k ((rd_T27 x14 x16).f0) ((rd_T27 x14 x16).f1) ((rd_T27 x14 x16).f2)).bind fun bt119 => (tree_Count.l0 k (wrap64 (x4 + bt119.1)) (wrap64 (x5 + bt119.2)) x14 x15 (wrap64 (x16 + 1)))) else (none)) else (none)) else (some (x4, x5))
def tree_Count.f : Nat → ByteArray → List (S158) → List (S27) → Option (Int × Int)
  | 0, _, _, _ => none
  | k + 1, a0_0, l0_1, l0_2 => tree_Count.l0 k 1 (l0_1.length : Int) l0_2 (l0_2.length : Int) 0
end
set_option maxHeartbeats 8000000 in
set_option maxRecDepth 100000 in
theorem tree_Count.calls (k : Nat) : ∀ (a0_0 : ByteArray) (A0_1 : Option Addr) (c0_1 : Nat) (l0_1 : List (S158)) (A0_2 : Option Addr) (c0_2 : Nat) (l0_2 : List (S27)) (r1 : Int) (r2 : Int) (w : World) (hr0_1 : Kd.C k158 w A0_1 l0_1.length l0_1) (hc0_1 : l0_1.length ≤ c0_1) (hr0_2 : Kd.C k27 w A0_2 l0_2.length l0_2) (hc0_2 : l0_2.length ≤ c0_2) (h : tree_Count.f k a0_0 l0_1 l0_2 = some (r1, r2)),
    Calls Tryz.prog 64 #[.agg #[.string a0_0, .slice A0_1 l0_1.length c0_1, .slice A0_2 l0_2.length c0_2]] w fun e w' => e = .returned (.tuple #[.int .i64 r1, .int .i64 r2]) ∧ Below w.heap.size w w' := by
  induction k using Nat.strongRecOn with
  | _ k ih =>
  intro a0_0 A0_1 c0_1 l0_1 A0_2 c0_2 l0_2 r1 r2 w hr0_1 hc0_1 hr0_2 hc0_2 h
  cases k with
  | zero => exact absurd h (by simp [tree_Count.f])
  | succ k =>
  simp only [tree_Count.f] at h
  have hu27 := Tryz.underlying27
  have HR0_1 := Aside0.mk hr0_1
  have HC0_1 := Aside0.mk hc0_1
  clear hr0_1 hc0_1
  have HR0_2 := Aside0.mk hr0_2
  have HC0_2 := Aside0.mk hc0_2
  clear hr0_2 hc0_2
  have HB := Aside0.mk (Below.refl w.heap.size w)
  have H : (tree_Count.l0 k 1 (l0_1.length : Int) l0_2 (l0_2.length : Int) 0) = some (r1, r2) := h
  clear h
  have H' := Aside0.mk H
  clear H
  go_enter Tryz.func64, Tryz.ntmps64
  go_wp2_with (first | ((with_reducible refine gate_dst (N := 1) rfl ?_); refine box_event ?hg (N := 1) ?hd (cs := #[.string a0_0, .slice A0_1 l0_1.length c0_1, .slice A0_2 l0_2.length c0_2]) (t := 27) ?hr ?_; (case hd => rfl); (case hg => rfl); (case hr => first | (go_simp; done) | (go_simp; rfl)); intro gb116 hg w2 hbox hb; have n0_ := Aside0.mk (below_step (by repeat (first | (with_reducible first | exact HB.out | apply below_alloc | apply pw_below_drewN | apply below_drew1) | exact HB.out)) hb); have n1_ := Aside0.mk (hbox); have n2_ := Aside0.mk ((by rw [hg]; exact (below_size (by repeat (first | (with_reducible first | exact HB.out | apply below_alloc | apply pw_below_drewN | apply below_drew1) | exact HB.out))) : w.heap.size ≤ gb116)); have n3_ := Aside0.mk ((by rw [hg]; exact (below_size (by repeat (first | (with_reducible first | exact HB.out | apply below_alloc | apply pw_below_drewN | apply below_drew1) | exact HB.out))) : w.heap.size ≤ gb116)); clear HB; have HB := n0_; have BK116 := n1_; have GW116 := n2_; have GE116 := n3_; clear n0_ n1_ n2_ n3_; clear hb hbox hg; have hcz3_0 : w2.cell? ⟨gb116, 0, none⟩ = some (.string a0_0) := (blk_cell BK116.out 0).trans rfl; have hcz3_1 : w2.cell? ⟨gb116, 1, none⟩ = some (.slice A0_1 l0_1.length c0_1) := (blk_cell BK116.out 1).trans rfl; have hcz3_2 : w2.cell? ⟨gb116, 2, none⟩ = some (.slice A0_2 l0_2.length c0_2) := (blk_cell BK116.out 2).trans rfl; have hfz3_0 := blk_frozen BK116.out 0; have hfz3_1 := blk_frozen BK116.out 1; have hfz3_2 := blk_frozen BK116.out 2))
  repeat (go_quiet (first | ((with_reducible refine gate_dst (N := 1) rfl ?_); refine box_event ?hg (N := 1) ?hd (cs := #[.string a0_0, .slice A0_1 l0_1.length c0_1, .slice A0_2 l0_2.length c0_2]) (t := 27) ?hr ?_; (case hd => rfl); (case hg => rfl); (case hr => first | (go_simp; done) | (go_simp; rfl)); intro gb116 hg w2 hbox hb; have n0_ := Aside0.mk (below_step (by repeat (first | (with_reducible first | exact HB.out | apply below_alloc | apply pw_below_drewN | apply below_drew1) | exact HB.out)) hb); have n1_ := Aside0.mk (hbox); have n2_ := Aside0.mk ((by rw [hg]; exact (below_size (by repeat (first | (with_reducible first | exact HB.out | apply below_alloc | apply pw_below_drewN | apply below_drew1) | exact HB.out))) : w.heap.size ≤ gb116)); have n3_ := Aside0.mk ((by rw [hg]; exact (below_size (by repeat (first | (with_reducible first | exact HB.out | apply below_alloc | apply pw_below_drewN | apply below_drew1) | exact HB.out))) : w.heap.size ≤ gb116)); clear HB; have HB := n0_; have BK116 := n1_; have GW116 := n2_; have GE116 := n3_; clear n0_ n1_ n2_ n3_; clear hb hbox hg; have hcz3_0 : w2.cell? ⟨gb116, 0, none⟩ = some (.string a0_0) := (blk_cell BK116.out 0).trans rfl; have hcz3_1 : w2.cell? ⟨gb116, 1, none⟩ = some (.slice A0_1 l0_1.length c0_1) := (blk_cell BK116.out 1).trans rfl; have hcz3_2 : w2.cell? ⟨gb116, 2, none⟩ = some (.slice A0_2 l0_2.length c0_2) := (blk_cell BK116.out 2).trans rfl; have hfz3_0 := blk_frozen BK116.out 0; have hfz3_1 := blk_frozen BK116.out 1; have hfz3_2 := blk_frozen BK116.out 2)); try go_wp2_with (first | ((with_reducible refine gate_dst (N := 1) rfl ?_); refine box_event ?hg (N := 1) ?hd (cs := #[.string a0_0, .slice A0_1 l0_1.length c0_1, .slice A0_2 l0_2.length c0_2]) (t := 27) ?hr ?_; (case hd => rfl); (case hg => rfl); (case hr => first | (go_simp; done) | (go_simp; rfl)); intro gb116 hg w2 hbox hb; have n0_ := Aside0.mk (below_step (by repeat (first | (with_reducible first | exact HB.out | apply below_alloc | apply pw_below_drewN | apply below_drew1) | exact HB.out)) hb); have n1_ := Aside0.mk (hbox); have n2_ := Aside0.mk ((by rw [hg]; exact (below_size (by repeat (first | (with_reducible first | exact HB.out | apply below_alloc | apply pw_below_drewN | apply below_drew1) | exact HB.out))) : w.heap.size ≤ gb116)); have n3_ := Aside0.mk ((by rw [hg]; exact (below_size (by repeat (first | (with_reducible first | exact HB.out | apply below_alloc | apply pw_below_drewN | apply below_drew1) | exact HB.out))) : w.heap.size ≤ gb116)); clear HB; have HB := n0_; have BK116 := n1_; have GW116 := n2_; have GE116 := n3_; clear n0_ n1_ n2_ n3_; clear hb hbox hg; have hcz3_0 : w2.cell? ⟨gb116, 0, none⟩ = some (.string a0_0) := (blk_cell BK116.out 0).trans rfl; have hcz3_1 : w2.cell? ⟨gb116, 1, none⟩ = some (.slice A0_1 l0_1.length c0_1) := (blk_cell BK116.out 1).trans rfl; have hcz3_2 : w2.cell? ⟨gb116, 2, none⟩ = some (.slice A0_2 l0_2.length c0_2) := (blk_cell BK116.out 2).trans rfl; have hfz3_0 := blk_frozen BK116.out 0; have hfz3_1 := blk_frozen BK116.out 1; have hfz3_2 := blk_frozen BK116.out 2)))
  go_loopg [4, 5, 16] k (fun kq v4 v5 v16 w' => ∃ (x4_1 : Int) (x5_1 : Int) (x16_1 : Int), v4 = .int .i64 x4_1 ∧ v5 = .int .i64 x5_1 ∧ v16 = .int .i64 x16_1 ∧ Aside0 (tree_Count.l0 kq x4_1 x5_1 l0_2 (l0_2.length : Int) x16_1 = some (r1, r2)) ∧ Aside0 (kq ≤ k) ∧ Aside0 (w'.heap[gb116]? = some (.cells #[.string a0_0, (.slice A0_1 l0_1.length c0_1), (.slice A0_2 l0_2.length c0_2)] 27 (0, 0))) ∧ Aside0 (Below w.heap.size w w'))
  case atStart => exact ⟨(1), ((l0_1.length : Int)), (0), (by first | rfl | (simp; done) | (simp [*]; done)), (by first | rfl | (simp; done) | (simp [*]; done)), (by first | rfl | (simp; done) | (simp [*]; done)), H', ⟨Nat.le_refl _⟩, ⟨by (with_reducible repeat (first | refine blk_drewN ?_ _ | refine blk_drew ?_ | refine blk_alloc ?_ _)); exact BK116.out⟩, ⟨by repeat (first | (with_reducible first | exact HB.out | apply below_alloc | apply pw_below_drewN | apply below_drew1 | refine below_set ?_ GE116.out) | exact HB.out)⟩⟩
  case round =>
    clear H'
    try clear p2
    try clear hcz3_0
    try clear hcz3_1
    try clear hcz3_2
    try clear hfz3_0
    try clear hfz3_1
    try clear hfz3_2
    obtain ⟨x4_1, x5_1, x16_1, rfl, rfl, rfl, HA, HK1, BK116, HB⟩ := hrel
    cases gk with
    | zero => exact absurd HA.out (by simp [tree_Count.l0])
    | succ k1 =>
      have H := HA.out
      clear HA
      simp only [tree_Count.l0] at H
      by_cases c4 : x16_1 < (l0_2.length : Int)
      · rw [if_pos c4] at H
        have c4b0 : decide (x16_1 < (l0_2.length : Int)) = true := decide_eq_true c4
        clear c4
        by_cases c5 : 0 ≤ x16_1
        · rw [if_pos c5] at H
          have c5b0 : decide (0 ≤ x16_1) = true := decide_eq_true c5
          clear c5
          by_cases c6 : x16_1 < (l0_2.length : Int)
          · rw [if_pos c6] at H
            have c6b0 : decide (x16_1 < (l0_2.length : Int)) = true := decide_eq_true c6
            clear c6
            replace H := Option.bind_eq_some_iff.mp H
            obtain ⟨⟨t119, t120⟩, A70, H⟩ := H
            replace H : (tree_Count.l0 k1 (wrap64 (x4_1 + t119)) (wrap64 (x5_1 + t120)) l0_2 (l0_2.length : Int) (wrap64 (x16_1 + 1))) = some (r1, r2) := H
            have A7 := Aside0.mk A70
            clear A70
            have H' := Aside0.mk H
            clear H
            have p117 : 0 ≤ (x16_1 : Int) := of_decide_eq_true (by first | (with_reducible assumption) | assumption)
            have q117 : x16_1 < (l0_2.length : Int) := of_decide_eq_true (by first | (with_reducible assumption) | assumption)
            obtain ⟨ad117, A117_1, c117_1, A117_2, c117_2, e117, hx117_0, hx117_1, hx117_2, hl117_1, hi117_1, hl117_2, hi117_2⟩ := at_T27 HR0_2.out x16_1 p117 q117
            cases e117
            replace hx117_0 := (HB.out.cell (World.block_lt_of_cell? w _ hx117_0)).trans hx117_0
            replace hx117_1 := (HB.out.cell (World.block_lt_of_cell? w _ hx117_1)).trans hx117_1
            replace hx117_2 := (HB.out.cell (World.block_lt_of_cell? w _ hx117_2)).trans hx117_2
            have HR117_1 := Aside0.mk hi117_1
            have HC117_1 := Aside0.mk hl117_1
            clear hi117_1 hl117_1
            have HR117_2 := Aside0.mk hi117_2
            have HC117_2 := Aside0.mk hl117_2
            clear hi117_2 hl117_2
            replace p117 := eq_true p117
            replace q117 := eq_true q117
            go_wp2_with (first | ((with_reducible refine gate_dst (N := 7) rfl ?_); refine box_event ?hg (N := 7) ?hd (cs := #[.string (⟨#[]⟩ : ByteArray), .slice none 0 0, .slice none 0 0]) (t := 27) ?hr ?_; (case hd => rfl); (case hg => rfl); (case hr => first | (go_simp; done) | (go_simp; rfl)); intro gb118 hg w8 hbox hb; have n0_ := Aside0.mk (blk_below (g := gb116) (o := .cells #[.string a0_0, .slice A0_1 l0_1.length c0_1, .slice (some ad117) l0_2.length c0_2] 27 (0, 0)) (by (with_reducible repeat (first | refine blk_drewN ?_ _ | refine blk_drew ?_ | refine blk_alloc ?_ _)); exact BK116.out) hb); have n1_ := Aside0.mk (below_step (by repeat (first | (with_reducible first | exact HB.out | apply below_alloc | apply pw_below_drewN | apply below_drew1 | refine below_set ?_ GE116.out) | exact HB.out)) hb); have n2_ := Aside0.mk (hbox); have n3_ := Aside0.mk ((by rw [hg]; exact (below_size (by repeat (first | (with_reducible first | exact HB.out | apply below_alloc | apply pw_below_drewN | apply below_drew1 | refine below_set ?_ GE116.out) | exact HB.out))) : w.heap.size ≤ gb118)); have n4_ := Aside0.mk ((by rw [hg]; exact (below_size (by repeat (first | (with_reducible first | exact HB.out | apply below_alloc | apply pw_below_drewN | apply below_drew1 | refine below_set ?_ GE116.out) | exact HB.out))) : w.heap.size ≤ gb118)); have n5_ := Aside0.mk ((by rw [hg]; exact Nat.ne_of_lt (blk_lt (g := gb116) (o := .cells #[.string a0_0, .slice A0_1 l0_1.length c0_1, .slice (some ad117) l0_2.length c0_2] 27 (0, 0)) (by (with_reducible repeat (first | refine blk_drewN ?_ _ | refine blk_drew ?_ | refine blk_alloc ?_ _)); exact BK116.out)) : gb116 ≠ gb118)); have n6_ := Aside0.mk ((by rw [hg]; exact Nat.ne_of_gt (blk_lt (g := gb116) (o := .cells #[.string a0_0, .slice A0_1 l0_1.length c0_1, .slice (some ad117) l0_2.length c0_2] 27 (0, 0)) (by (with_reducible repeat (first | refine blk_drewN ?_ _ | refine blk_drew ?_ | refine blk_alloc ?_ _)); exact BK116.out)) : gb118 ≠ gb116)); clear BK116; clear HB; have BK116 := n0_; have HB := n1_; have BK118 := n2_; have GW118 := n3_; have GE118 := n4_; have NB116_118 := n5_; have NB118_116 := n6_; clear n0_ n1_ n2_ n3_ n4_ n5_ n6_; clear hb hbox hg; have hnb9 := NB118_116.out; have hnc9 := NB116_118.out; have hcz10_0 : w8.cell? ⟨gb118, 0, none⟩ = some (.string (⟨#[]⟩ : ByteArray)) := (blk_cell BK118.out 0).trans rfl; have hcz10_1 : w8.cell? ⟨gb118, 1, none⟩ = some (.slice none 0 0) := (blk_cell BK118.out 1).trans rfl; have hcz10_2 : w8.cell? ⟨gb118, 2, none⟩ = some (.slice none 0 0) := (blk_cell BK118.out 2).trans rfl; have hfz10_0 := blk_frozen BK118.out 0; have hfz10_1 := blk_frozen BK118.out 1; have hfz10_2 := blk_frozen BK118.out 2) | (go_at_call 64; (with_reducible refine (ih k1 (by have := HK1.out; omega) ((rd_T27 l0_2 x16_1).f0) _ _ ((rd_T27 l0_2 x16_1).f1) _ _ ((rd_T27 l0_2 x16_1).f2) t119 t120 _ ?side1 ?side2 ?side3 ?side4 A7.out).mono ?_); (case side1 => exact Kd.C_below HR117_1.out (by repeat (first | (with_reducible first | exact HB.out | apply below_alloc | apply pw_below_drewN | apply below_drew1 | refine below_set ?_ GE116.out | refine below_set ?_ GE118.out) | exact HB.out))); (case side2 => exact HC117_1.out); (case side3 => exact Kd.C_below HR117_2.out (by repeat (first | (with_reducible first | exact HB.out | apply below_alloc | apply pw_below_drewN | apply below_drew1 | refine below_set ?_ GE116.out | refine below_set ?_ GE118.out) | exact HB.out))); (case side4 => exact HC117_2.out); rintro e w11 ⟨rfl, hb⟩; have n0_ := Aside0.mk (blk_below (g := gb116) (o := .cells #[.string a0_0, .slice A0_1 l0_1.length c0_1, .slice (some ad117) l0_2.length c0_2] 27 (0, 0)) (by (with_reducible repeat (first | refine blk_drewN ?_ _ | refine blk_drew ?_ | refine blk_alloc ?_ _)); refine blk_far ?_ NB116_118.out _; (with_reducible repeat (first | refine blk_drewN ?_ _ | refine blk_drew ?_ | refine blk_alloc ?_ _)); refine blk_far ?_ NB116_118.out _; (with_reducible repeat (first | refine blk_drewN ?_ _ | refine blk_drew ?_ | refine blk_alloc ?_ _)); refine blk_far ?_ NB116_118.out _; (with_reducible repeat (first | refine blk_drewN ?_ _ | refine blk_drew ?_ | refine blk_alloc ?_ _)); exact BK116.out) hb); have n1_ := Aside0.mk (blk_below (g := gb118) (o := .cells #[.string ((rd_T27 l0_2 x16_1).f0), .slice A117_1 ((rd_T27 l0_2 x16_1).f1).length c117_1, .slice A117_2 ((rd_T27 l0_2 x16_1).f2).length c117_2] 27 (0, 0)) (by (with_reducible repeat (first | refine blk_drewN ?_ _ | refine blk_drew ?_ | refine blk_alloc ?_ _)); refine blk_put (cs := #[.string ((rd_T27 l0_2 x16_1).f0), .slice A117_1 ((rd_T27 l0_2 x16_1).f1).length c117_1, .slice none 0 0]) ?_ 2 _ rfl; (with_reducible repeat (first | refine blk_drewN ?_ _ | refine blk_drew ?_ | refine blk_alloc ?_ _)); refine blk_put (cs := #[.string ((rd_T27 l0_2 x16_1).f0), .slice none 0 0, .slice none 0 0]) ?_ 1 _ rfl; (with_reducible repeat (first | refine blk_drewN ?_ _ | refine blk_drew ?_ | refine blk_alloc ?_ _)); refine blk_put (cs := #[.string (⟨#[]⟩ : ByteArray), .slice none 0 0, .slice none 0 0]) ?_ 0 _ rfl; (with_reducible repeat (first | refine blk_drewN ?_ _ | refine blk_drew ?_ | refine blk_alloc ?_ _)); exact BK118.out) hb); have n2_ := Aside0.mk (below_step (by repeat (first | (with_reducible first | exact HB.out | apply below_alloc | apply pw_below_drewN | apply below_drew1 | refine below_set ?_ GE116.out | refine below_set ?_ GE118.out) | exact HB.out)) hb); clear BK116; clear BK118; clear HB; have BK116 := n0_; have BK118 := n1_; have HB := n2_; clear n0_ n1_ n2_; (try clear hb); (try clear hb2); (try clear hk); (try clear hi)))
            repeat (go_quiet (first | ((with_reducible refine gate_dst (N := 7) rfl ?_); refine box_event ?hg (N := 7) ?hd (cs := #[.string (⟨#[]⟩ : ByteArray), .slice none 0 0, .slice none 0 0]) (t := 27) ?hr ?_; (case hd => rfl); (case hg => rfl); (case hr => first | (go_simp; done) | (go_simp; rfl)); intro gb118 hg w8 hbox hb; have n0_ := Aside0.mk (blk_below (g := gb116) (o := .cells #[.string a0_0, .slice A0_1 l0_1.length c0_1, .slice (some ad117) l0_2.length c0_2] 27 (0, 0)) (by (with_reducible repeat (first | refine blk_drewN ?_ _ | refine blk_drew ?_ | refine blk_alloc ?_ _)); exact BK116.out) hb); have n1_ := Aside0.mk (below_step (by repeat (first | (with_reducible first | exact HB.out | apply below_alloc | apply pw_below_drewN | apply below_drew1 | refine below_set ?_ GE116.out) | exact HB.out)) hb); have n2_ := Aside0.mk (hbox); have n3_ := Aside0.mk ((by rw [hg]; exact (below_size (by repeat (first | (with_reducible first | exact HB.out | apply below_alloc | apply pw_below_drewN | apply below_drew1 | refine below_set ?_ GE116.out) | exact HB.out))) : w.heap.size ≤ gb118)); have n4_ := Aside0.mk ((by rw [hg]; exact (below_size (by repeat (first | (with_reducible first | exact HB.out | apply below_alloc | apply pw_below_drewN | apply below_drew1 | refine below_set ?_ GE116.out) | exact HB.out))) : w.heap.size ≤ gb118)); have n5_ := Aside0.mk ((by rw [hg]; exact Nat.ne_of_lt (blk_lt (g := gb116) (o := .cells #[.string a0_0, .slice A0_1 l0_1.length c0_1, .slice (some ad117) l0_2.length c0_2] 27 (0, 0)) (by (with_reducible repeat (first | refine blk_drewN ?_ _ | refine blk_drew ?_ | refine blk_alloc ?_ _)); exact BK116.out)) : gb116 ≠ gb118)); have n6_ := Aside0.mk ((by rw [hg]; exact Nat.ne_of_gt (blk_lt (g := gb116) (o := .cells #[.string a0_0, .slice A0_1 l0_1.length c0_1, .slice (some ad117) l0_2.length c0_2] 27 (0, 0)) (by (with_reducible repeat (first | refine blk_drewN ?_ _ | refine blk_drew ?_ | refine blk_alloc ?_ _)); exact BK116.out)) : gb118 ≠ gb116)); clear BK116; clear HB; have BK116 := n0_; have HB := n1_; have BK118 := n2_; have GW118 := n3_; have GE118 := n4_; have NB116_118 := n5_; have NB118_116 := n6_; clear n0_ n1_ n2_ n3_ n4_ n5_ n6_; clear hb hbox hg; have hnb9 := NB118_116.out; have hnc9 := NB116_118.out; have hcz10_0 : w8.cell? ⟨gb118, 0, none⟩ = some (.string (⟨#[]⟩ : ByteArray)) := (blk_cell BK118.out 0).trans rfl; have hcz10_1 : w8.cell? ⟨gb118, 1, none⟩ = some (.slice none 0 0) := (blk_cell BK118.out 1).trans rfl; have hcz10_2 : w8.cell? ⟨gb118, 2, none⟩ = some (.slice none 0 0) := (blk_cell BK118.out 2).trans rfl; have hfz10_0 := blk_frozen BK118.out 0; have hfz10_1 := blk_frozen BK118.out 1; have hfz10_2 := blk_frozen BK118.out 2) | (go_at_call 64; (with_reducible refine (ih k1 (by have := HK1.out; omega) ((rd_T27 l0_2 x16_1).f0) _ _ ((rd_T27 l0_2 x16_1).f1) _ _ ((rd_T27 l0_2 x16_1).f2) t119 t120 _ ?side1 ?side2 ?side3 ?side4 A7.out).mono ?_); (case side1 => exact Kd.C_below HR117_1.out (by repeat (first | (with_reducible first | exact HB.out | apply below_alloc | apply pw_below_drewN | apply below_drew1 | refine below_set ?_ GE116.out | refine below_set ?_ GE118.out) | exact HB.out))); (case side2 => exact HC117_1.out); (case side3 => exact Kd.C_below HR117_2.out (by repeat (first | (with_reducible first | exact HB.out | apply below_alloc | apply pw_below_drewN | apply below_drew1 | refine below_set ?_ GE116.out | refine below_set ?_ GE118.out) | exact HB.out))); (case side4 => exact HC117_2.out); rintro e w11 ⟨rfl, hb⟩; have n0_ := Aside0.mk (blk_below (g := gb116) (o := .cells #[.string a0_0, .slice A0_1 l0_1.length c0_1, .slice (some ad117) l0_2.length c0_2] 27 (0, 0)) (by (with_reducible repeat (first | refine blk_drewN ?_ _ | refine blk_drew ?_ | refine blk_alloc ?_ _)); refine blk_far ?_ NB116_118.out _; (with_reducible repeat (first | refine blk_drewN ?_ _ | refine blk_drew ?_ | refine blk_alloc ?_ _)); refine blk_far ?_ NB116_118.out _; (with_reducible repeat (first | refine blk_drewN ?_ _ | refine blk_drew ?_ | refine blk_alloc ?_ _)); refine blk_far ?_ NB116_118.out _; (with_reducible repeat (first | refine blk_drewN ?_ _ | refine blk_drew ?_ | refine blk_alloc ?_ _)); exact BK116.out) hb); have n1_ := Aside0.mk (blk_below (g := gb118) (o := .cells #[.string ((rd_T27 l0_2 x16_1).f0), .slice A117_1 ((rd_T27 l0_2 x16_1).f1).length c117_1, .slice A117_2 ((rd_T27 l0_2 x16_1).f2).length c117_2] 27 (0, 0)) (by (with_reducible repeat (first | refine blk_drewN ?_ _ | refine blk_drew ?_ | refine blk_alloc ?_ _)); refine blk_put (cs := #[.string ((rd_T27 l0_2 x16_1).f0), .slice A117_1 ((rd_T27 l0_2 x16_1).f1).length c117_1, .slice none 0 0]) ?_ 2 _ rfl; (with_reducible repeat (first | refine blk_drewN ?_ _ | refine blk_drew ?_ | refine blk_alloc ?_ _)); refine blk_put (cs := #[.string ((rd_T27 l0_2 x16_1).f0), .slice none 0 0, .slice none 0 0]) ?_ 1 _ rfl; (with_reducible repeat (first | refine blk_drewN ?_ _ | refine blk_drew ?_ | refine blk_alloc ?_ _)); refine blk_put (cs := #[.string (⟨#[]⟩ : ByteArray), .slice none 0 0, .slice none 0 0]) ?_ 0 _ rfl; (with_reducible repeat (first | refine blk_drewN ?_ _ | refine blk_drew ?_ | refine blk_alloc ?_ _)); exact BK118.out) hb); have n2_ := Aside0.mk (below_step (by repeat (first | (with_reducible first | exact HB.out | apply below_alloc | apply pw_below_drewN | apply below_drew1 | refine below_set ?_ GE116.out | refine below_set ?_ GE118.out) | exact HB.out)) hb); clear BK116; clear BK118; clear HB; have BK116 := n0_; have BK118 := n1_; have HB := n2_; clear n0_ n1_ n2_; (try clear hb); (try clear hb2); (try clear hk); (try clear hi))); try go_wp2_with (first | ((with_reducible refine gate_dst (N := 7) rfl ?_); refine box_event ?hg (N := 7) ?hd (cs := #[.string (⟨#[]⟩ : ByteArray), .slice none 0 0, .slice none 0 0]) (t := 27) ?hr ?_; (case hd => rfl); (case hg => rfl); (case hr => first | (go_simp; done) | (go_simp; rfl)); intro gb118 hg w8 hbox hb; have n0_ := Aside0.mk (blk_below (g := gb116) (o := .cells #[.string a0_0, .slice A0_1 l0_1.length c0_1, .slice (some ad117) l0_2.length c0_2] 27 (0, 0)) (by (with_reducible repeat (first | refine blk_drewN ?_ _ | refine blk_drew ?_ | refine blk_alloc ?_ _)); exact BK116.out) hb); have n1_ := Aside0.mk (below_step (by repeat (first | (with_reducible first | exact HB.out | apply below_alloc | apply pw_below_drewN | apply below_drew1 | refine below_set ?_ GE116.out) | exact HB.out)) hb); have n2_ := Aside0.mk (hbox); have n3_ := Aside0.mk ((by rw [hg]; exact (below_size (by repeat (first | (with_reducible first | exact HB.out | apply below_alloc | apply pw_below_drewN | apply below_drew1 | refine below_set ?_ GE116.out) | exact HB.out))) : w.heap.size ≤ gb118)); have n4_ := Aside0.mk ((by rw [hg]; exact (below_size (by repeat (first | (with_reducible first | exact HB.out | apply below_alloc | apply pw_below_drewN | apply below_drew1 | refine below_set ?_ GE116.out) | exact HB.out))) : w.heap.size ≤ gb118)); have n5_ := Aside0.mk ((by rw [hg]; exact Nat.ne_of_lt (blk_lt (g := gb116) (o := .cells #[.string a0_0, .slice A0_1 l0_1.length c0_1, .slice (some ad117) l0_2.length c0_2] 27 (0, 0)) (by (with_reducible repeat (first | refine blk_drewN ?_ _ | refine blk_drew ?_ | refine blk_alloc ?_ _)); exact BK116.out)) : gb116 ≠ gb118)); have n6_ := Aside0.mk ((by rw [hg]; exact Nat.ne_of_gt (blk_lt (g := gb116) (o := .cells #[.string a0_0, .slice A0_1 l0_1.length c0_1, .slice (some ad117) l0_2.length c0_2] 27 (0, 0)) (by (with_reducible repeat (first | refine blk_drewN ?_ _ | refine blk_drew ?_ | refine blk_alloc ?_ _)); exact BK116.out)) : gb118 ≠ gb116)); clear BK116; clear HB; have BK116 := n0_; have HB := n1_; have BK118 := n2_; have GW118 := n3_; have GE118 := n4_; have NB116_118 := n5_; have NB118_116 := n6_; clear n0_ n1_ n2_ n3_ n4_ n5_ n6_; clear hb hbox hg; have hnb9 := NB118_116.out; have hnc9 := NB116_118.out; have hcz10_0 : w8.cell? ⟨gb118, 0, none⟩ = some (.string (⟨#[]⟩ : ByteArray)) := (blk_cell BK118.out 0).trans rfl; have hcz10_1 : w8.cell? ⟨gb118, 1, none⟩ = some (.slice none 0 0) := (blk_cell BK118.out 1).trans rfl; have hcz10_2 : w8.cell? ⟨gb118, 2, none⟩ = some (.slice none 0 0) := (blk_cell BK118.out 2).trans rfl; have hfz10_0 := blk_frozen BK118.out 0; have hfz10_1 := blk_frozen BK118.out 1; have hfz10_2 := blk_frozen BK118.out 2) | (go_at_call 64; (with_reducible refine (ih k1 (by have := HK1.out; omega) ((rd_T27 l0_2 x16_1).f0) _ _ ((rd_T27 l0_2 x16_1).f1) _ _ ((rd_T27 l0_2 x16_1).f2) t119 t120 _ ?side1 ?side2 ?side3 ?side4 A7.out).mono ?_); (case side1 => exact Kd.C_below HR117_1.out (by repeat (first | (with_reducible first | exact HB.out | apply below_alloc | apply pw_below_drewN | apply below_drew1 | refine below_set ?_ GE116.out | refine below_set ?_ GE118.out) | exact HB.out))); (case side2 => exact HC117_1.out); (case side3 => exact Kd.C_below HR117_2.out (by repeat (first | (with_reducible first | exact HB.out | apply below_alloc | apply pw_below_drewN | apply below_drew1 | refine below_set ?_ GE116.out | refine below_set ?_ GE118.out) | exact HB.out))); (case side4 => exact HC117_2.out); rintro e w11 ⟨rfl, hb⟩; have n0_ := Aside0.mk (blk_below (g := gb116) (o := .cells #[.string a0_0, .slice A0_1 l0_1.length c0_1, .slice (some ad117) l0_2.length c0_2] 27 (0, 0)) (by (with_reducible repeat (first | refine blk_drewN ?_ _ | refine blk_drew ?_ | refine blk_alloc ?_ _)); refine blk_far ?_ NB116_118.out _; (with_reducible repeat (first | refine blk_drewN ?_ _ | refine blk_drew ?_ | refine blk_alloc ?_ _)); refine blk_far ?_ NB116_118.out _; (with_reducible repeat (first | refine blk_drewN ?_ _ | refine blk_drew ?_ | refine blk_alloc ?_ _)); refine blk_far ?_ NB116_118.out _; (with_reducible repeat (first | refine blk_drewN ?_ _ | refine blk_drew ?_ | refine blk_alloc ?_ _)); exact BK116.out) hb); have n1_ := Aside0.mk (blk_below (g := gb118) (o := .cells #[.string ((rd_T27 l0_2 x16_1).f0), .slice A117_1 ((rd_T27 l0_2 x16_1).f1).length c117_1, .slice A117_2 ((rd_T27 l0_2 x16_1).f2).length c117_2] 27 (0, 0)) (by (with_reducible repeat (first | refine blk_drewN ?_ _ | refine blk_drew ?_ | refine blk_alloc ?_ _)); refine blk_put (cs := #[.string ((rd_T27 l0_2 x16_1).f0), .slice A117_1 ((rd_T27 l0_2 x16_1).f1).length c117_1, .slice none 0 0]) ?_ 2 _ rfl; (with_reducible repeat (first | refine blk_drewN ?_ _ | refine blk_drew ?_ | refine blk_alloc ?_ _)); refine blk_put (cs := #[.string ((rd_T27 l0_2 x16_1).f0), .slice none 0 0, .slice none 0 0]) ?_ 1 _ rfl; (with_reducible repeat (first | refine blk_drewN ?_ _ | refine blk_drew ?_ | refine blk_alloc ?_ _)); refine blk_put (cs := #[.string (⟨#[]⟩ : ByteArray), .slice none 0 0, .slice none 0 0]) ?_ 0 _ rfl; (with_reducible repeat (first | refine blk_drewN ?_ _ | refine blk_drew ?_ | refine blk_alloc ?_ _)); exact BK118.out) hb); have n2_ := Aside0.mk (below_step (by repeat (first | (with_reducible first | exact HB.out | apply below_alloc | apply pw_below_drewN | apply below_drew1 | refine below_set ?_ GE116.out | refine below_set ?_ GE118.out) | exact HB.out)) hb); clear BK116; clear BK118; clear HB; have BK116 := n0_; have BK118 := n1_; have HB := n2_; clear n0_ n1_ n2_; (try clear hb); (try clear hb2); (try clear hk); (try clear hi))))
            go_roundg k1
            case measure => have := HK1.out; omega
            case rel => exact ⟨(wrap64 (x4_1 + t119)), (wrap64 (x5_1 + t120)), (wrap64 (x16_1 + 1)), (by first | rfl | (simp; done) | (simp [*]; done)), (by first | rfl | (simp; done) | (simp [*]; done)), (by first | rfl | (simp; done) | (simp [*]; done)), H', ⟨by have := HK1.out; omega⟩, ⟨by (with_reducible repeat (first | refine blk_drewN ?_ _ | refine blk_drew ?_ | refine blk_alloc ?_ _)); exact BK116.out⟩, ⟨by repeat (first | (with_reducible first | exact HB.out | apply below_alloc | apply pw_below_drewN | apply below_drew1 | refine below_set ?_ GE116.out | refine below_set ?_ GE118.out) | exact HB.out)⟩⟩
          · rw [if_neg c6] at H
            exact absurd H (by simp)
        · rw [if_neg c5] at H
          exact absurd H (by simp)
      · rw [if_neg c4] at H
        have c4b0 : decide (x16_1 < (l0_2.length : Int)) = false := decide_eq_false c4
        clear c4
        simp only [Option.some.injEq, Prod.mk.injEq] at H
        obtain ⟨rfl, rfl⟩ := H
        go_wp2
        repeat (go_quiet (fail); try go_wp2)
        go_ret2
        exact ⟨by first | rfl | (simp [errW_none, errW_some] <;> rfl) | (simp [*, errW_none, errW_some] <;> rfl), by repeat (first | (with_reducible first | exact HB.out | apply below_alloc | apply pw_below_drewN | apply below_drew1 | refine below_set ?_ GE116.out) | exact HB.out)⟩
end Go.Proofs.YtkfcgjopabcbeaaGreatDoor.PV

namespace Go.Proofs.YtkfcgjopabcbeaaGreatDoor.PV
open Go.RowKit Go.Proofs.YtkfcgjopabcbeaaGreatDoorW.PrintWords Go.Proofs.YtkfcgjopabcbeaaGreatDoorW.PrintLast Go.Proofs.YtkfcgjopabcbeaaGreatDoorW.PrintMore
attribute [local go_sem] max2_int min2_int max_two min_two max_three min_three max_four min_four   -- for this text's walks alone
set_option linter.unusedVariables false
set_option linter.unusedSimpArgs false
def strings_IndexByte.f (a0 : ByteArray) (a1 : Int) : Option (Int) := some (Lib.indexByte a0.data.toList a1.toNat.toUInt8)
theorem strings_IndexByte.calls (a0 : ByteArray) (a1 : Int) (r : Int) (w : World) (h : strings_IndexByte.f a0 a1 = some r) :
    Calls Tryz.prog 221 #[.string a0, .int .u8 a1] w fun e w' => e = .returned (.int .i64 r) ∧ Drawn0 w w' := by
  have hr : Lib.indexByte a0.data.toList a1.toNat.toUInt8 = r := by
    unfold strings_IndexByte.f at h
    injection h
  refine (Tryz.strings_IndexByte a0 a1 w).mono ?_
  rintro e w' ⟨rfl, rfl⟩
  exact ⟨by rw [hr], Drawn0.refl _⟩
end Go.Proofs.YtkfcgjopabcbeaaGreatDoor.PV

namespace Go.Proofs.YtkfcgjopabcbeaaGreatDoor.PV
open Go.RowKit Go.Proofs.YtkfcgjopabcbeaaGreatDoorW.PrintWords Go.Proofs.YtkfcgjopabcbeaaGreatDoorW.PrintLast Go.Proofs.YtkfcgjopabcbeaaGreatDoorW.PrintMore
attribute [local go_sem] max2_int min2_int max_two min_two max_three min_three max_four min_four   -- for this text's walks alone
set_option linter.unusedVariables false
set_option linter.unusedSimpArgs false
def name_letter.f (a0 : Int) : Option (Bool) := if a0 ≥ 97 then (if a0 ≤ 122 then (some true) else (if a0 ≥ 65 then (some (decide (a0 ≤ 90))) else (some false))) else (if a0 ≥ 65 then (some (decide (a0 ≤ 90))) else (some false))
set_option maxHeartbeats 8000000 in
set_option maxRecDepth 100000 in
theorem name_letter.calls (a0 : Int) (r : Bool) (w : World) (h : name_letter.f a0 = some r) :
    Calls Tryz.prog 189 #[.int .u8 a0] w fun e w' => e = .returned (.bool r) ∧ Drawn0 w w' := by
  have H : (if a0 ≥ 97 then (if a0 ≤ 122 then (some true) else (if a0 ≥ 65 then (some (decide (a0 ≤ 90))) else (some false))) else (if a0 ≥ 65 then (some (decide (a0 ≤ 90))) else (some false))) = some r := h
  clear h
  by_cases c2 : a0 ≥ 97
  · rw [if_pos c2] at H
    have c2b0 : decide (97 ≤ a0) = true := decide_eq_true c2
    clear c2
    by_cases c3 : a0 ≤ 122
    · rw [if_pos c3] at H
      have c3b0 : decide (a0 ≤ 122) = true := decide_eq_true c3
      clear c3
      obtain rfl := Option.some.inj H
      go_enter Tryz.func189, Tryz.ntmps189
      go_wp2
      go_ret
      exact ⟨by first | rfl | (simp; done) | (simp [*]; done), by repeat (first | exact Drawn0.refl _ | apply Drawn0.step)⟩
    · rw [if_neg c3] at H
      have c3b0 : decide (a0 ≤ 122) = false := decide_eq_false c3
      clear c3
      by_cases c4 : a0 ≥ 65
      · rw [if_pos c4] at H
        have c4b0 : decide (65 ≤ a0) = true := decide_eq_true c4
        clear c4
        obtain rfl := Option.some.inj H
        go_enter Tryz.func189, Tryz.ntmps189
        go_wp2
        go_ret
        exact ⟨by first | rfl | (simp; done) | (simp [*]; done), by repeat (first | exact Drawn0.refl _ | apply Drawn0.step)⟩
      · rw [if_neg c4] at H
        have c4b0 : decide (65 ≤ a0) = false := decide_eq_false c4
        clear c4
        obtain rfl := Option.some.inj H
        go_enter Tryz.func189, Tryz.ntmps189
        go_wp2
        go_ret
        exact ⟨by first | rfl | (simp; done) | (simp [*]; done), by repeat (first | exact Drawn0.refl _ | apply Drawn0.step)⟩
  · rw [if_neg c2] at H
    have c2b0 : decide (97 ≤ a0) = false := decide_eq_false c2
    clear c2
    by_cases c5 : a0 ≥ 65
    · rw [if_pos c5] at H
      have c5b0 : decide (65 ≤ a0) = true := decide_eq_true c5
      clear c5
      obtain rfl := Option.some.inj H
      go_enter Tryz.func189, Tryz.ntmps189
      go_wp2
      go_ret
      exact ⟨by first | rfl | (simp; done) | (simp [*]; done), by repeat (first | exact Drawn0.refl _ | apply Drawn0.step)⟩
    · rw [if_neg c5] at H
      have c5b0 : decide (65 ≤ a0) = false := decide_eq_false c5
      clear c5
      obtain rfl := Option.some.inj H
      go_enter Tryz.func189, Tryz.ntmps189
      go_wp2
      go_ret
      exact ⟨by first | rfl | (simp; done) | (simp [*]; done), by repeat (first | exact Drawn0.refl _ | apply Drawn0.step)⟩
end Go.Proofs.YtkfcgjopabcbeaaGreatDoor.PV

namespace Go.Proofs.YtkfcgjopabcbeaaGreatDoor.PV
open Go.RowKit Go.Proofs.YtkfcgjopabcbeaaGreatDoorW.PrintWords Go.Proofs.YtkfcgjopabcbeaaGreatDoorW.PrintLast Go.Proofs.YtkfcgjopabcbeaaGreatDoorW.PrintMore
attribute [local go_sem] max2_int min2_int max_two min_two max_three min_three max_four min_four   -- for this text's walks alone
set_option linter.unusedVariables false
set_option linter.unusedSimpArgs false
def name_plain.f (a0 : Int) : Option (Bool) := (name_letter.f a0).bind fun t101 => (if t101 = true then (some true) else (if a0 ≥ 48 then (if a0 ≤ 57 then (some true) else ((strings_IndexByte.f (⟨#[44, 46, 95, 43, 45]⟩ : ByteArray) a0).bind fun t102 => (some (decide (t102 ≥ 0))))) else ((strings_IndexByte.f (⟨#[44, 46, 95, 43, 45]⟩ : ByteArray) a0).bind fun t103 => (some (decide (t103 ≥ 0))))))
set_option maxHeartbeats 8000000 in
set_option maxRecDepth 100000 in
theorem name_plain.calls (a0 : Int) (r : Bool) (w : World) (h : name_plain.f a0 = some r) :
    Calls Tryz.prog 220 #[.int .u8 a0] w fun e w' => e = .returned (.bool r) ∧ Drawn0 w w' := by
  have H : ((name_letter.f a0).bind fun t101 => (if t101 = true then (some true) else (if a0 ≥ 48 then (if a0 ≤ 57 then (some true) else ((strings_IndexByte.f (⟨#[44, 46, 95, 43, 45]⟩ : ByteArray) a0).bind fun t102 => (some (decide (t102 ≥ 0))))) else ((strings_IndexByte.f (⟨#[44, 46, 95, 43, 45]⟩ : ByteArray) a0).bind fun t103 => (some (decide (t103 ≥ 0))))))) = some r := h
  clear h
  replace H := Option.bind_eq_some_iff.mp H
  obtain ⟨t101, A20, H⟩ := H
  replace H : (if t101 = true then (some true) else (if a0 ≥ 48 then (if a0 ≤ 57 then (some true) else ((strings_IndexByte.f (⟨#[44, 46, 95, 43, 45]⟩ : ByteArray) a0).bind fun t102 => (some (decide (t102 ≥ 0))))) else ((strings_IndexByte.f (⟨#[44, 46, 95, 43, 45]⟩ : ByteArray) a0).bind fun t103 => (some (decide (t103 ≥ 0)))))) = some r := H
  have A2 := Aside0.mk A20
  clear A20
  by_cases c3 : t101 = true
  · subst c3
    have H1 : (some true) = some r := by rw [if_pos rfl] at H; exact H
    clear H
    have H := H1
    clear H1
    obtain rfl := Option.some.inj H
    go_enter Tryz.func220, Tryz.ntmps220
    go_wp2_with (first | ((with_reducible refine gate_callee (f := 189) rfl ?_); refine goesL_ (some 4) rfl rfl Tryz.func189 (by kernel_rfl) rfl #[.int .u8 a0] rfl (by (try simp only [List.map_toArray, List.map_cons, List.map_nil]); first | done | rfl | (simp only [List.length_drop, List.length_take]; rfl)) ?_; (with_reducible refine (name_letter.calls a0 true _ A2.out).mono ?_); rintro e w' ⟨rfl, ⟨nd, rfl⟩⟩; refine ⟨_, rfl, ?_⟩))
    go_ret
    exact ⟨by first | rfl | (simp; done) | (simp [*]; done), by repeat (first | exact Drawn0.refl _ | apply Drawn0.step)⟩
  · replace c3 := Bool.eq_false_iff.mpr c3
    subst c3
    have H1 : (if a0 ≥ 48 then (if a0 ≤ 57 then (some true) else ((strings_IndexByte.f (⟨#[44, 46, 95, 43, 45]⟩ : ByteArray) a0).bind fun t102 => (some (decide (t102 ≥ 0))))) else ((strings_IndexByte.f (⟨#[44, 46, 95, 43, 45]⟩ : ByteArray) a0).bind fun t103 => (some (decide (t103 ≥ 0))))) = some r := by rw [if_neg (show ¬ (false = true) by decide)] at H; exact H
    clear H
    have H := H1
    clear H1
    by_cases c4 : a0 ≥ 48
    · rw [if_pos c4] at H
      have c4b0 : decide (48 ≤ a0) = true := decide_eq_true c4
      clear c4
      by_cases c5 : a0 ≤ 57
      · rw [if_pos c5] at H
        have c5b0 : decide (a0 ≤ 57) = true := decide_eq_true c5
        clear c5
        obtain rfl := Option.some.inj H
        go_enter Tryz.func220, Tryz.ntmps220
        go_wp2_with (first | ((with_reducible refine gate_callee (f := 189) rfl ?_); refine goesL_ (some 4) rfl rfl Tryz.func189 (by kernel_rfl) rfl #[.int .u8 a0] rfl (by (try simp only [List.map_toArray, List.map_cons, List.map_nil]); first | done | rfl | (simp only [List.length_drop, List.length_take]; rfl)) ?_; (with_reducible refine (name_letter.calls a0 false _ A2.out).mono ?_); rintro e w' ⟨rfl, ⟨nd, rfl⟩⟩; refine ⟨_, rfl, ?_⟩))
        go_ret
        exact ⟨by first | rfl | (simp; done) | (simp [*]; done), by repeat (first | exact Drawn0.refl _ | apply Drawn0.step)⟩
      · rw [if_neg c5] at H
        have c5b0 : decide (a0 ≤ 57) = false := decide_eq_false c5
        clear c5
        replace H := Option.bind_eq_some_iff.mp H
        obtain ⟨t102, A60, H⟩ := H
        replace H : (some (decide (t102 ≥ 0))) = some r := H
        have A6 := Aside0.mk A60
        clear A60
        obtain rfl := Option.some.inj H
        go_enter Tryz.func220, Tryz.ntmps220
        go_wp2_with (first | ((with_reducible refine gate_callee (f := 189) rfl ?_); refine goesL_ (some 4) rfl rfl Tryz.func189 (by kernel_rfl) rfl #[.int .u8 a0] rfl (by (try simp only [List.map_toArray, List.map_cons, List.map_nil]); first | done | rfl | (simp only [List.length_drop, List.length_take]; rfl)) ?_; (with_reducible refine (name_letter.calls a0 false _ A2.out).mono ?_); rintro e w' ⟨rfl, ⟨nd, rfl⟩⟩; refine ⟨_, rfl, ?_⟩) | (go_at_call 221; (with_reducible refine (strings_IndexByte.calls (⟨#[44, 46, 95, 43, 45]⟩ : ByteArray) a0 t102 _ A6.out).mono ?_); rintro e w' ⟨rfl, ⟨nd, rfl⟩⟩))
        go_ret
        exact ⟨by first | rfl | (simp; done) | (simp [*]; done), by repeat (first | exact Drawn0.refl _ | apply Drawn0.step)⟩
    · rw [if_neg c4] at H
      have c4b0 : decide (48 ≤ a0) = false := decide_eq_false c4
      clear c4
      replace H := Option.bind_eq_some_iff.mp H
      obtain ⟨t103, A70, H⟩ := H
      replace H : (some (decide (t103 ≥ 0))) = some r := H
      have A7 := Aside0.mk A70
      clear A70
      obtain rfl := Option.some.inj H
      go_enter Tryz.func220, Tryz.ntmps220
      go_wp2_with (first | ((with_reducible refine gate_callee (f := 189) rfl ?_); refine goesL_ (some 4) rfl rfl Tryz.func189 (by kernel_rfl) rfl #[.int .u8 a0] rfl (by (try simp only [List.map_toArray, List.map_cons, List.map_nil]); first | done | rfl | (simp only [List.length_drop, List.length_take]; rfl)) ?_; (with_reducible refine (name_letter.calls a0 false _ A2.out).mono ?_); rintro e w' ⟨rfl, ⟨nd, rfl⟩⟩; refine ⟨_, rfl, ?_⟩) | (go_at_call 221; (with_reducible refine (strings_IndexByte.calls (⟨#[44, 46, 95, 43, 45]⟩ : ByteArray) a0 t103 _ A7.out).mono ?_); rintro e w' ⟨rfl, ⟨nd, rfl⟩⟩))
      go_ret
      exact ⟨by first | rfl | (simp; done) | (simp [*]; done), by repeat (first | exact Drawn0.refl _ | apply Drawn0.step)⟩
end Go.Proofs.YtkfcgjopabcbeaaGreatDoor.PV

namespace Go.Proofs.YtkfcgjopabcbeaaGreatDoor.PV
open Go.RowKit Go.Proofs.YtkfcgjopabcbeaaGreatDoorW.PrintWords Go.Proofs.YtkfcgjopabcbeaaGreatDoorW.PrintLast Go.Proofs.YtkfcgjopabcbeaaGreatDoorW.PrintMore
attribute [local go_sem] max2_int min2_int max_two min_two max_three min_three max_four min_four   -- for this text's walks alone
set_option linter.unusedVariables false
set_option linter.unusedSimpArgs false
def name_all.l0 : Nat → ByteArray → ByteArray → Int → Int → Option (Bool)
  | 0, _, _, _, _ => none
  | k + 1, x0, x1, x7, x8 => if x8 < x7 then (if 0 ≤ x8 then (if x8 < (x0.size : Int) then ((name_plain.f (bt x0 x8)).bind fun t104 => (if t104 = true then (name_all.l0 k x0 x1 x7 (wrap64 (x8 + 1))) else ((strings_IndexByte.f x1 (bt x0 x8)).bind fun t105 => (if t105 < 0 then (some false) else (name_all.l0 k x0 x1 x7 (wrap64 (x8 + 1))))))) else (none)) else (none)) else (if (x0.size : Int) ≥ 1 then (some (decide ((x0.size : Int) ≤ 31))) else (some false))
def name_all.f (k : Nat) (a0 : ByteArray) (a1 : ByteArray) : Option (Bool) := name_all.l0 k a0 a1 (a0.size : Int) 0
set_option maxHeartbeats 8000000 in
set_option maxRecDepth 100000 in
theorem name_all.calls (k : Nat) (a0 : ByteArray) (a1 : ByteArray) (r : Bool) (w : World) (h : name_all.f k a0 a1 = some r) :
    Calls Tryz.prog 188 #[.string a0, .string a1] w fun e w' => e = .returned (.bool r) ∧ Drawn0 w w' := by
  have H : (name_all.l0 k a0 a1 (a0.size : Int) 0) = some r := h
  clear h
  have H' := Aside0.mk H
  clear H
  go_enter Tryz.func188, Tryz.ntmps188
  go_wp2
  go_loopg [8] k (fun kq v8 w' => ∃ (x8_1 : Int), v8 = .int .i64 x8_1 ∧ Aside0 (name_all.l0 kq a0 a1 (a0.size : Int) x8_1 = some r) ∧ Aside0 (kq ≤ k) ∧ Drawn0 w w')
  case atStart => exact ⟨(0), (by first | rfl | (simp; done) | (simp [*]; done)), H', ⟨Nat.le_refl _⟩, by repeat (first | exact Drawn0.refl _ | apply Drawn0.step)⟩
  case round =>
    clear H'
    try clear c1
    try clear p2
    obtain ⟨x8_1, rfl, HA, HK1, ⟨m1, rfl⟩⟩ := hrel
    cases gk with
    | zero => exact absurd HA.out (by simp [name_all.l0])
    | succ k1 =>
      have H := HA.out
      clear HA
      simp only [name_all.l0] at H
      by_cases c3 : x8_1 < (a0.size : Int)
      · rw [if_pos c3] at H
        have c3b0 : decide (x8_1 < (a0.size : Int)) = true := decide_eq_true c3
        clear c3
        by_cases c4 : 0 ≤ x8_1
        · rw [if_pos c4] at H
          have c4b0 : decide (0 ≤ x8_1) = true := decide_eq_true c4
          clear c4
          by_cases c5 : x8_1 < (a0.size : Int)
          · rw [if_pos c5] at H
            have c5b0 : decide (x8_1 < (a0.size : Int)) = true := decide_eq_true c5
            clear c5
            replace H := Option.bind_eq_some_iff.mp H
            obtain ⟨t104, A70, H⟩ := H
            replace H : (if t104 = true then (name_all.l0 k1 a0 a1 (a0.size : Int) (wrap64 (x8_1 + 1))) else ((strings_IndexByte.f a1 (bt a0 x8_1)).bind fun t105 => (if t105 < 0 then (some false) else (name_all.l0 k1 a0 a1 (a0.size : Int) (wrap64 (x8_1 + 1)))))) = some r := H
            have A7 := Aside0.mk A70
            clear A70
            by_cases c8 : t104 = true
            · subst c8
              have H1 : (name_all.l0 k1 a0 a1 (a0.size : Int) (wrap64 (x8_1 + 1))) = some r := by rw [if_pos rfl] at H; exact H
              clear H
              have H := H1
              clear H1
              have H' := Aside0.mk H
              clear H
              have p6 : 0 ≤ (x8_1 : Int) := of_decide_eq_true (by first | (with_reducible assumption) | assumption)
              have q6 : x8_1 < (a0.size : Int) := of_decide_eq_true (by first | (with_reducible assumption) | assumption)
              have hx6 := bt_at a0 x8_1
              replace p6 := eq_true p6
              replace q6 := eq_true q6
              go_wp2_with (first | ((with_reducible refine gate_callee (f := 220) rfl ?_); refine goesL_ (some 14) rfl rfl Tryz.func220 (by kernel_rfl) rfl #[.int .u8 (bt a0 x8_1)] rfl (by (try simp only [List.map_toArray, List.map_cons, List.map_nil]); first | done | rfl | (simp only [List.length_drop, List.length_take]; rfl)) ?_; (with_reducible refine (name_plain.calls (bt a0 x8_1) true _ A7.out).mono ?_); rintro e w' ⟨rfl, ⟨nd, rfl⟩⟩; refine ⟨_, rfl, ?_⟩))
              go_roundg k1
              case measure => have := HK1.out; omega
              case rel => exact ⟨(wrap64 (x8_1 + 1)), (by first | rfl | (simp; done) | (simp [*]; done)), H', ⟨by have := HK1.out; omega⟩, by repeat (first | exact Drawn0.refl _ | apply Drawn0.step)⟩
            · replace c8 := Bool.eq_false_iff.mpr c8
              subst c8
              have H1 : ((strings_IndexByte.f a1 (bt a0 x8_1)).bind fun t105 => (if t105 < 0 then (some false) else (name_all.l0 k1 a0 a1 (a0.size : Int) (wrap64 (x8_1 + 1))))) = some r := by rw [if_neg (show ¬ (false = true) by decide)] at H; exact H
              clear H
              have H := H1
              clear H1
              replace H := Option.bind_eq_some_iff.mp H
              obtain ⟨t105, A100, H⟩ := H
              replace H : (if t105 < 0 then (some false) else (name_all.l0 k1 a0 a1 (a0.size : Int) (wrap64 (x8_1 + 1)))) = some r := H
              have A10 := Aside0.mk A100
              clear A100
              by_cases c11 : t105 < 0
              · rw [if_pos c11] at H
                have c11b0 : decide (t105 < 0) = true := decide_eq_true c11
                clear c11
                obtain rfl := Option.some.inj H
                have p6 : 0 ≤ (x8_1 : Int) := of_decide_eq_true (by first | (with_reducible assumption) | assumption)
                have q6 : x8_1 < (a0.size : Int) := of_decide_eq_true (by first | (with_reducible assumption) | assumption)
                have hx6 := bt_at a0 x8_1
                replace p6 := eq_true p6
                replace q6 := eq_true q6
                go_wp2_with (first | ((with_reducible refine gate_callee (f := 220) rfl ?_); refine goesL_ (some 14) rfl rfl Tryz.func220 (by kernel_rfl) rfl #[.int .u8 (bt a0 x8_1)] rfl (by (try simp only [List.map_toArray, List.map_cons, List.map_nil]); first | done | rfl | (simp only [List.length_drop, List.length_take]; rfl)) ?_; (with_reducible refine (name_plain.calls (bt a0 x8_1) false _ A7.out).mono ?_); rintro e w' ⟨rfl, ⟨nd, rfl⟩⟩; refine ⟨_, rfl, ?_⟩; have p9 : 0 ≤ (x8_1 : Int) := of_decide_eq_true (by first | (with_reducible assumption) | assumption); have q9 : x8_1 < (a0.size : Int) := of_decide_eq_true (by first | (with_reducible assumption) | assumption); have hx9 := bt_at a0 x8_1; replace p9 := eq_true p9; replace q9 := eq_true q9) | (go_at_call 221; (with_reducible refine (strings_IndexByte.calls a1 (bt a0 x8_1) t105 _ A10.out).mono ?_); rintro e w' ⟨rfl, ⟨nd, rfl⟩⟩))
                go_ret
                exact ⟨by first | rfl | (simp; done) | (simp [*]; done), by repeat (first | exact Drawn0.refl _ | apply Drawn0.step)⟩
              · rw [if_neg c11] at H
                have c11b0 : decide (t105 < 0) = false := decide_eq_false c11
                clear c11
                have H' := Aside0.mk H
                clear H
                have p6 : 0 ≤ (x8_1 : Int) := of_decide_eq_true (by first | (with_reducible assumption) | assumption)
                have q6 : x8_1 < (a0.size : Int) := of_decide_eq_true (by first | (with_reducible assumption) | assumption)
                have hx6 := bt_at a0 x8_1
                replace p6 := eq_true p6
                replace q6 := eq_true q6
                go_wp2_with (first | ((with_reducible refine gate_callee (f := 220) rfl ?_); refine goesL_ (some 14) rfl rfl Tryz.func220 (by kernel_rfl) rfl #[.int .u8 (bt a0 x8_1)] rfl (by (try simp only [List.map_toArray, List.map_cons, List.map_nil]); first | done | rfl | (simp only [List.length_drop, List.length_take]; rfl)) ?_; (with_reducible refine (name_plain.calls (bt a0 x8_1) false _ A7.out).mono ?_); rintro e w' ⟨rfl, ⟨nd, rfl⟩⟩; refine ⟨_, rfl, ?_⟩; have p9 : 0 ≤ (x8_1 : Int) := of_decide_eq_true (by first | (with_reducible assumption) | assumption); have q9 : x8_1 < (a0.size : Int) := of_decide_eq_true (by first | (with_reducible assumption) | assumption); have hx9 := bt_at a0 x8_1; replace p9 := eq_true p9; replace q9 := eq_true q9) | (go_at_call 221; (with_reducible refine (strings_IndexByte.calls a1 (bt a0 x8_1) t105 _ A10.out).mono ?_); rintro e w' ⟨rfl, ⟨nd, rfl⟩⟩))
                go_roundg k1
                case measure => have := HK1.out; omega
                case rel => exact ⟨(wrap64 (x8_1 + 1)), (by first | rfl | (simp; done) | (simp [*]; done)), H', ⟨by have := HK1.out; omega⟩, by repeat (first | exact Drawn0.refl _ | apply Drawn0.step)⟩
          · rw [if_neg c5] at H
            exact absurd H (by simp)
        · rw [if_neg c4] at H
          exact absurd H (by simp)
      · rw [if_neg c3] at H
        have c3b0 : decide (x8_1 < (a0.size : Int)) = false := decide_eq_false c3
        clear c3
        by_cases c12 : (a0.size : Int) ≥ 1
        · rw [if_pos c12] at H
          have c12b0 : decide (1 ≤ (a0.size : Int)) = true := decide_eq_true c12
          have c12b1 : decide (1 ≤ a0.size) = true := decide_eq_true (by omega)
          clear c12
          obtain rfl := Option.some.inj H
          go_wp2
          go_ret
          exact ⟨by first | rfl | (simp; done) | (simp [*]; done), by repeat (first | exact Drawn0.refl _ | apply Drawn0.step)⟩
        · rw [if_neg c12] at H
          have c12b0 : decide (1 ≤ (a0.size : Int)) = false := decide_eq_false c12
          have c12b1 : decide (1 ≤ a0.size) = false := decide_eq_false (by omega)
          clear c12
          obtain rfl := Option.some.inj H
          go_wp2
          go_ret
          exact ⟨by first | rfl | (simp; done) | (simp [*]; done), by repeat (first | exact Drawn0.refl _ | apply Drawn0.step)⟩
end Go.Proofs.YtkfcgjopabcbeaaGreatDoor.PV

namespace Go.Proofs.YtkfcgjopabcbeaaGreatDoor.PV
open Go.RowKit Go.Proofs.YtkfcgjopabcbeaaGreatDoorW.PrintWords Go.Proofs.YtkfcgjopabcbeaaGreatDoorW.PrintLast Go.Proofs.YtkfcgjopabcbeaaGreatDoorW.PrintMore
attribute [local go_sem] max2_int min2_int max_two min_two max_three min_three max_four min_four   -- for this text's walks alone
set_option linter.unusedVariables false
set_option linter.unusedSimpArgs false
def name_Prop.f (k : Nat) (a0 : ByteArray) : Option (Bool) := (name_all.f k a0 (⟨#[63, 35]⟩ : ByteArray)).bind fun t106 => (some t106)
set_option maxHeartbeats 8000000 in
set_option maxRecDepth 100000 in
theorem name_Prop.calls (k : Nat) (a0 : ByteArray) (r : Bool) (w : World) (h : name_Prop.f k a0 = some r) :
    Calls Tryz.prog 144 #[.string a0] w fun e w' => e = .returned (.bool r) ∧ Drawn0 w w' := by
  have H : ((name_all.f k a0 (⟨#[63, 35]⟩ : ByteArray)).bind fun t106 => (some t106)) = some r := h
  clear h
  replace H := Option.bind_eq_some_iff.mp H
  obtain ⟨t106, A20, H⟩ := H
  replace H : (some t106) = some r := H
  have A2 := Aside0.mk A20
  clear A20
  obtain rfl := Option.some.inj H
  go_enter Tryz.func144, Tryz.ntmps144
  go_wp2_with (first | ((with_reducible refine gate_callee (f := 188) rfl ?_); refine goesL_ (some 4) rfl rfl Tryz.func188 (by kernel_rfl) rfl #[.string a0, .string (⟨#[63, 35]⟩ : ByteArray)] rfl (by (try simp only [List.map_toArray, List.map_cons, List.map_nil]); first | done | rfl | (simp only [List.length_drop, List.length_take]; rfl)) ?_; (with_reducible refine (name_all.calls k a0 (⟨#[63, 35]⟩ : ByteArray) t106 _ A2.out).mono ?_); rintro e w' ⟨rfl, ⟨nd, rfl⟩⟩; refine ⟨_, rfl, ?_⟩))
  go_ret
  exact ⟨by first | rfl | (simp; done) | (simp [*]; done), by repeat (first | exact Drawn0.refl _ | apply Drawn0.step)⟩
end Go.Proofs.YtkfcgjopabcbeaaGreatDoor.PV

namespace Go.Proofs.YtkfcgjopabcbeaaGreatDoor.PV
open Go.RowKit Go.Proofs.YtkfcgjopabcbeaaGreatDoorW.PrintWords Go.Proofs.YtkfcgjopabcbeaaGreatDoorW.PrintLast Go.Proofs.YtkfcgjopabcbeaaGreatDoorW.PrintMore
attribute [local go_sem] max2_int min2_int max_two min_two max_three min_three max_four min_four   -- for this text's walks alone
set_option linter.unusedVariables false
set_option linter.unusedSimpArgs false
mutual
def tree_names.l0 : Nat → List ByteArray → List (S158) → Int → Int → ByteArray → List (S158) → List (S27) → Option (List ByteArray × List ByteArray)
  | 0, _, _, _, _, _, _, _ => none
  | k + 1, x4, x11, x12, x13, x122000, x122001, x122002 => if x13 < x12 then (if 0 ≤ x13 then (if x13 < (x11.length : Int) then (if x4.length < 8796093022208 then (tree_names.l0 k (x4 ++ [(rd_T158 x11 x13).f0]) x11 x12 (wrap64 (x13 + 1)) x122000 x122001 x122002) else (none)) else (none)) else (none)) else (tree_names.l1 k x4 ([] : List ByteArray) x122002 (x122002.length : Int) 0)
def tree_names.l1 : Nat → List ByteArray → List ByteArray → List (S27) → Int → Int → Option (List ByteArray × List ByteArray)
  | 0, _, _, _, _, _ => none
  | k + 1, x4, x5, x24, x25, x26 => if x26 < x25 then (if 0 ≤ x26 then (if x26 < (x24.length : Int) then (if x5.length < 8796093022208 then (tree_names.l1 k x4 (x5 ++ [(rd_T27 x24 x26).f0]) x24 x25 (wrap64 (x26 + 1))) else (none)) else (none)) else (none)) else (some (x4, x5))
end
def tree_names.f (k : Nat) (a0_0 : ByteArray) (l0_1 : List (S158)) (l0_2 : List (S27)) : Option (List ByteArray × List ByteArray) := tree_names.l0 k ([] : List ByteArray) l0_1 (l0_1.length : Int) 0 a0_0 l0_1 l0_2
set_option maxHeartbeats 8000000 in
set_option maxRecDepth 100000 in
theorem tree_names.calls (k : Nat) (a0_0 : ByteArray) (A0_1 : Option Addr) (c0_1 : Nat) (l0_1 : List (S158)) (A0_2 : Option Addr) (c0_2 : Nat) (l0_2 : List (S27)) (r1 : List ByteArray) (r2 : List ByteArray) (w : World) (hr0_1 : Kd.C k158 w A0_1 l0_1.length l0_1) (hc0_1 : l0_1.length ≤ c0_1) (hr0_2 : Kd.C k27 w A0_2 l0_2.length l0_2) (hc0_2 : l0_2.length ≤ c0_2) (h : tree_names.f k a0_0 l0_1 l0_2 = some (r1, r2)) :
    Calls Tryz.prog 140 #[.agg #[.string a0_0, .slice A0_1 l0_1.length c0_1, .slice A0_2 l0_2.length c0_2]] w fun e w' => ∃ v0_ v1_ : Value, e = .returned (.tuple #[v0_, v1_]) ∧ Kd.R Kd.string 9 w' w.heap.size (fun k_ => some k_ ≠ (v1_ : Value).ownBlock) v0_ r1 ∧ Kd.R Kd.string 9 w' w.heap.size (fun k_ => some k_ ≠ (v0_ : Value).ownBlock) v1_ r2 ∧ Below w.heap.size w w' := by
  have hu27 := Tryz.underlying27
  have hu158 := Tryz.underlying158
  have HR0_1 := Aside0.mk hr0_1
  have HC0_1 := Aside0.mk hc0_1
  clear hr0_1 hc0_1
  have HR0_2 := Aside0.mk hr0_2
  have HC0_2 := Aside0.mk hc0_2
  clear hr0_2 hc0_2
  have HB := Aside0.mk (Below.refl w.heap.size w)
  have H : (tree_names.l0 k ([] : List ByteArray) l0_1 (l0_1.length : Int) 0 a0_0 l0_1 l0_2) = some (r1, r2) := h
  clear h
  have H' := Aside0.mk H
  clear H
  go_enter Tryz.func140, Tryz.ntmps140
  go_wp2_with (first | ((with_reducible refine gate_dst (N := 1) rfl ?_); refine box_event ?hg (N := 1) ?hd (cs := #[.string a0_0, .slice A0_1 l0_1.length c0_1, .slice A0_2 l0_2.length c0_2]) (t := 27) ?hr ?_; (case hd => rfl); (case hg => rfl); (case hr => first | (go_simp; done) | (go_simp; rfl)); intro gb121 hg w2 hbox hb; have n0_ := Aside0.mk (below_step (by repeat (first | (with_reducible first | exact HB.out | apply below_alloc | apply pw_below_drewN | apply below_drew1) | exact HB.out)) hb); have n1_ := Aside0.mk (hbox); have n2_ := Aside0.mk ((by rw [hg]; exact (below_size (by repeat (first | (with_reducible first | exact HB.out | apply below_alloc | apply pw_below_drewN | apply below_drew1) | exact HB.out))) : w.heap.size ≤ gb121)); have n3_ := Aside0.mk ((by rw [hg]; exact (below_size (by repeat (first | (with_reducible first | exact HB.out | apply below_alloc | apply pw_below_drewN | apply below_drew1) | exact HB.out))) : w.heap.size ≤ gb121)); clear HB; have HB := n0_; have BK121 := n1_; have GW121 := n2_; have GE121 := n3_; clear n0_ n1_ n2_ n3_; clear hb hbox hg; have hcz3_0 : w2.cell? ⟨gb121, 0, none⟩ = some (.string a0_0) := (blk_cell BK121.out 0).trans rfl; have hcz3_1 : w2.cell? ⟨gb121, 1, none⟩ = some (.slice A0_1 l0_1.length c0_1) := (blk_cell BK121.out 1).trans rfl; have hcz3_2 : w2.cell? ⟨gb121, 2, none⟩ = some (.slice A0_2 l0_2.length c0_2) := (blk_cell BK121.out 2).trans rfl; have hfz3_0 := blk_frozen BK121.out 0; have hfz3_1 := blk_frozen BK121.out 1; have hfz3_2 := blk_frozen BK121.out 2))
  go_loopg [4, 13] k (fun kq v4 v13 w' => ∃ (x4_1 : List ByteArray) (x13_1 : Int), v13 = .int .i64 x13_1 ∧ Aside0 (tree_names.l0 kq x4_1 l0_1 (l0_1.length : Int) x13_1 a0_0 l0_1 l0_2 = some (r1, r2)) ∧ Aside0 (kq ≤ k) ∧ Aside0 (Kd.R Kd.string 9 w' w.heap.size (fun _ => True) v4 x4_1) ∧ Aside0 (w'.heap[gb121]? = some (.cells #[.string a0_0, (.slice A0_1 l0_1.length c0_1), (.slice A0_2 l0_2.length c0_2)] 27 (0, 0))) ∧ Aside0 (Below w.heap.size w w'))
  case atStart => exact ⟨(([] : List ByteArray)), (0), (by first | rfl | (simp; done) | (simp [*]; done)), H', ⟨Nat.le_refl _⟩, ⟨by first | exact Kd.R_nil _ _ _ _ _ | exact Kd.N_nil _ _ _ _ _ | exact Kd.V_nil _ _ _ _ _ | exact Kd.Q_nil _ _ _ _ _ | exact Kd.S_nil _ _ _ _ _⟩, ⟨by (with_reducible repeat (first | refine blk_drewN ?_ _ | refine blk_drew ?_ | refine blk_alloc ?_ _)); exact BK121.out⟩, ⟨by repeat (first | (with_reducible first | exact HB.out | apply below_alloc | apply pw_below_drewN | apply below_drew1 | refine below_set ?_ GE121.out) | exact HB.out)⟩⟩
  case round =>
    clear H'
    try clear c1
    try clear p2
    try clear hcz3_0
    try clear hcz3_1
    try clear hcz3_2
    try clear hfz3_0
    try clear hfz3_1
    try clear hfz3_2
    obtain ⟨x4_1, x13_1, rfl, HA, HK1, HO_4, BK121, HB⟩ := hrel
    cases gk with
    | zero => exact absurd HA.out (by simp [tree_names.l0])
    | succ k1 =>
      have H := HA.out
      clear HA
      simp only [tree_names.l0] at H
      by_cases c4 : x13_1 < (l0_1.length : Int)
      · rw [if_pos c4] at H
        have c4b0 : decide (x13_1 < (l0_1.length : Int)) = true := decide_eq_true c4
        clear c4
        by_cases c5 : 0 ≤ x13_1
        · rw [if_pos c5] at H
          have c5b0 : decide (0 ≤ x13_1) = true := decide_eq_true c5
          clear c5
          by_cases c6 : x13_1 < (l0_1.length : Int)
          · rw [if_pos c6] at H
            have c6b0 : decide (x13_1 < (l0_1.length : Int)) = true := decide_eq_true c6
            clear c6
            by_cases c7 : x4_1.length < 8796093022208
            · rw [if_pos c7] at H
              have LMc7 := Aside0.mk c7
              clear c7
              obtain ⟨y124, hy124⟩ : ∃ y_ : List ByteArray, y_ = (x4_1 ++ [(rd_T158 l0_1 x13_1).f0]) := ⟨_, rfl⟩
              replace H : (tree_names.l0 k1 y124 l0_1 (l0_1.length : Int) (wrap64 (x13_1 + 1)) a0_0 l0_1 l0_2) = some (r1, r2) := by first | (rw [hy124]; with_reducible exact H) | (have H2_ := (Option.bind_some _ _).symm.trans H; rw [hy124]; with_reducible exact H2_) | (have H2_ := (Option.bind_some _ _).symm.trans H; with_reducible exact H2_) | with_reducible exact H | (rw [hy124]; exact H) | exact H
              have Ny124 := Aside0.mk hy124
              clear hy124
              have H' := Aside0.mk H
              clear H
              have p122 : 0 ≤ (x13_1 : Int) := of_decide_eq_true (by first | (with_reducible assumption) | assumption)
              have q122 : x13_1 < (l0_1.length : Int) := of_decide_eq_true (by first | (with_reducible assumption) | assumption)
              obtain ⟨ad122, A122_1, c122_1, e122, hx122_0, hx122_1, hl122_1, hi122_1⟩ := at_T158 HR0_1.out x13_1 p122 q122
              cases e122
              replace hx122_0 := (HB.out.cell (World.block_lt_of_cell? w _ hx122_0)).trans hx122_0
              replace hx122_1 := (HB.out.cell (World.block_lt_of_cell? w _ hx122_1)).trans hx122_1
              have HR122_1 := Aside0.mk hi122_1
              have HC122_1 := Aside0.mk hl122_1
              clear hi122_1 hl122_1
              replace p122 := eq_true p122
              replace q122 := eq_true q122
              go_wp2_with (first | ((with_reducible refine gate_dst (N := 7) rfl ?_); refine box_event ?hg (N := 7) ?hd (cs := #[.string (⟨#[]⟩ : ByteArray), .slice none 0 0]) (t := 158) ?hr ?_; (case hd => rfl); (case hg => rfl); (case hr => first | (go_simp; done) | (go_simp; rfl)); intro gb123 hg w8 hbox hb; have n0_ := Aside0.mk (Kd.R_below (by (with_reducible repeat (first | apply Kd.R_alloc | apply Kd.R_drewN | apply Kd.R_drew)); exact HO_4.out) hb); have n1_ := Aside0.mk (blk_below (g := gb121) (o := .cells #[.string a0_0, .slice (some ad122) l0_1.length c0_1, .slice A0_2 l0_2.length c0_2] 27 (0, 0)) (by (with_reducible repeat (first | refine blk_drewN ?_ _ | refine blk_drew ?_ | refine blk_alloc ?_ _)); exact BK121.out) hb); have n2_ := Aside0.mk (below_step (by repeat (first | (with_reducible first | exact HB.out | apply below_alloc | apply pw_below_drewN | apply below_drew1 | refine below_set ?_ GE121.out) | exact HB.out)) hb); have n3_ := Aside0.mk (hbox); have n4_ := Aside0.mk ((by rw [hg]; exact (below_size (by repeat (first | (with_reducible first | exact HB.out | apply below_alloc | apply pw_below_drewN | apply below_drew1 | refine below_set ?_ GE121.out) | exact HB.out))) : w.heap.size ≤ gb123)); have n5_ := Aside0.mk ((by rw [hg]; exact (below_size (by repeat (first | (with_reducible first | exact HB.out | apply below_alloc | apply pw_below_drewN | apply below_drew1 | refine below_set ?_ GE121.out) | exact HB.out))) : w.heap.size ≤ gb123)); have n6_ := Aside0.mk ((by rw [hg]; exact Nat.ne_of_lt (blk_lt (g := gb121) (o := .cells #[.string a0_0, .slice (some ad122) l0_1.length c0_1, .slice A0_2 l0_2.length c0_2] 27 (0, 0)) (by (with_reducible repeat (first | refine blk_drewN ?_ _ | refine blk_drew ?_ | refine blk_alloc ?_ _)); exact BK121.out)) : gb121 ≠ gb123)); have n7_ := Aside0.mk ((by rw [hg]; exact Nat.ne_of_gt (blk_lt (g := gb121) (o := .cells #[.string a0_0, .slice (some ad122) l0_1.length c0_1, .slice A0_2 l0_2.length c0_2] 27 (0, 0)) (by (with_reducible repeat (first | refine blk_drewN ?_ _ | refine blk_drew ?_ | refine blk_alloc ?_ _)); exact BK121.out)) : gb123 ≠ gb121)); clear HO_4; clear BK121; clear HB; have HO_4 := n0_; have BK121 := n1_; have HB := n2_; have BK123 := n3_; have GW123 := n4_; have GE123 := n5_; have NB121_123 := n6_; have NB123_121 := n7_; clear n0_ n1_ n2_ n3_ n4_ n5_ n6_ n7_; clear hb hbox hg; have hnb9 := NB123_121.out; have hnc9 := NB121_123.out; have hcz10_0 : w8.cell? ⟨gb123, 0, none⟩ = some (.string (⟨#[]⟩ : ByteArray)) := (blk_cell BK123.out 0).trans rfl; have hcz10_1 : w8.cell? ⟨gb123, 1, none⟩ = some (.slice none 0 0) := (blk_cell BK123.out 1).trans rfl; have hfz10_0 := blk_frozen BK123.out 0; have hfz10_1 := blk_frozen BK123.out 1) | ((with_reducible refine gate_builtin (b := .append) (xs := #[.tmp 17, .tmp 20]) rfl ?_); at_builtin; refine Kd.R_append Kd.string (w0 := w) w.heap.size rfl (.tmp 17) (.tmp 20) 37 9 (.string ⟨#[]⟩) 16 rfl Tryz.underlying37 info9 rfl (by decide) (by omega) u4 x4_1 ((rd_T158 l0_1 x13_1).f0) [.string ((rd_T158 l0_1 x13_1).f0)] (fun _ => True) (fun _ => False) rfl (by first | (go_simp; done) | (go_simp; rfl)) ?aP (fun _ hk => hk.elim) ?aF ?aO ?aB ?aS ?aL ?_; (case aP => exact rfl); (case aB => exact (by repeat (first | (with_reducible first | exact HB.out | apply below_alloc | apply pw_below_drewN | apply below_drew1 | refine below_set ?_ GE121.out | refine below_set ?_ GE123.out) | exact HB.out))); (case aF => exact (fun _ _ => trivial)); (case aO => exact (by (with_reducible repeat (first | apply Kd.R_alloc | apply Kd.R_drewN | apply Kd.R_drew)); exact Kd.R_mono (Kd.R_far (p := ⟨gb123, 1, none⟩) (Kd.R_far (p := ⟨gb123, 0, none⟩) (Kd.R_types HO_4.out BK123.out (by decide)) (fun _ hk => hk.2) (.string ((rd_T158 l0_1 x13_1).f0))) (fun _ hk => hk.2) (.slice A122_1 ((rd_T158 l0_1 x13_1).f1).length c122_1)) (fun _ hk => trivial))); (case aS => exact (below_size (by repeat (first | (with_reducible first | exact HB.out | apply below_alloc | apply pw_below_drewN | apply below_drew1 | refine below_set ?_ GE121.out | refine below_set ?_ GE123.out) | exact HB.out)))); (case aL => have := LMc7.out; omega); intro v125 w11 ho hb hg hat; rw [← Ny124.out] at ho; have n0_ := Aside0.mk (blk_grown (g := gb121) (o := .cells #[.string a0_0, .slice (some ad122) l0_1.length c0_1, .slice A0_2 l0_2.length c0_2] 27 (0, 0)) (by (with_reducible repeat (first | refine blk_drewN ?_ _ | refine blk_drew ?_ | refine blk_alloc ?_ _)); refine blk_far ?_ NB121_123.out _; (with_reducible repeat (first | refine blk_drewN ?_ _ | refine blk_drew ?_ | refine blk_alloc ?_ _)); refine blk_far ?_ NB121_123.out _; (with_reducible repeat (first | refine blk_drewN ?_ _ | refine blk_drew ?_ | refine blk_alloc ?_ _)); exact BK121.out) hg (Kd.R_ne HO_4.out BK121.out (by decide))); have n1_ := Aside0.mk (blk_grown (g := gb123) (o := .cells #[.string ((rd_T158 l0_1 x13_1).f0), .slice A122_1 ((rd_T158 l0_1 x13_1).f1).length c122_1] 158 (0, 0)) (by (with_reducible repeat (first | refine blk_drewN ?_ _ | refine blk_drew ?_ | refine blk_alloc ?_ _)); refine blk_put (cs := #[.string ((rd_T158 l0_1 x13_1).f0), .slice none 0 0]) ?_ 1 _ rfl; (with_reducible repeat (first | refine blk_drewN ?_ _ | refine blk_drew ?_ | refine blk_alloc ?_ _)); refine blk_put (cs := #[.string (⟨#[]⟩ : ByteArray), .slice none 0 0]) ?_ 0 _ rfl; (with_reducible repeat (first | refine blk_drewN ?_ _ | refine blk_drew ?_ | refine blk_alloc ?_ _)); exact BK123.out) hg (Kd.R_ne HO_4.out BK123.out (by decide))); have n2_ := Aside0.mk (hb); have n3_ := Aside0.mk (ho); clear BK121; clear BK123; clear HB; clear HO_4; have BK121 := n0_; have BK123 := n1_; have HB := n2_; have HO126 := n3_; clear n0_ n1_ n2_ n3_; clear ho hb hg hat))
              go_roundg k1
              case measure => have := HK1.out; omega
              case rel => exact ⟨(y124), (wrap64 (x13_1 + 1)), (by first | rfl | (simp; done) | (simp [*]; done)), H', ⟨by have := HK1.out; omega⟩, ⟨by (with_reducible repeat (first | apply Kd.R_alloc | apply Kd.R_drewN | apply Kd.R_drew)); exact HO126.out⟩, ⟨by (with_reducible repeat (first | refine blk_drewN ?_ _ | refine blk_drew ?_ | refine blk_alloc ?_ _)); exact BK121.out⟩, ⟨by repeat (first | (with_reducible first | exact HB.out | apply below_alloc | apply pw_below_drewN | apply below_drew1 | refine below_set ?_ GE121.out | refine below_set ?_ GE123.out) | exact HB.out)⟩⟩
            · rw [if_neg c7] at H
              exact absurd H (by simp)
          · rw [if_neg c6] at H
            exact absurd H (by simp)
        · rw [if_neg c5] at H
          exact absurd H (by simp)
      · rw [if_neg c4] at H
        have c4b0 : decide (x13_1 < (l0_1.length : Int)) = false := decide_eq_false c4
        clear c4
        have H' := Aside0.mk H
        clear H
        have hcz12_0 : wr.cell? ⟨gb121, 0, none⟩ = some (.string a0_0) := (blk_cell BK121.out 0).trans rfl
        have hcz12_1 : wr.cell? ⟨gb121, 1, none⟩ = some (.slice A0_1 l0_1.length c0_1) := (blk_cell BK121.out 1).trans rfl
        have hcz12_2 : wr.cell? ⟨gb121, 2, none⟩ = some (.slice A0_2 l0_2.length c0_2) := (blk_cell BK121.out 2).trans rfl
        have hfz12_0 := blk_frozen BK121.out 0
        have hfz12_1 := blk_frozen BK121.out 1
        have hfz12_2 := blk_frozen BK121.out 2
        go_wp2
        go_loopg [5, 26] k1 (fun kq v5 v26 w' => ∃ (x5_2 : List ByteArray) (x26_2 : Int), v26 = .int .i64 x26_2 ∧ Aside0 (tree_names.l1 kq x4_1 x5_2 l0_2 (l0_2.length : Int) x26_2 = some (r1, r2)) ∧ Aside0 (kq ≤ k1) ∧ Aside0 (Kd.R Kd.string 9 w' w.heap.size (fun k_ => some k_ ≠ (v5 : Value).ownBlock) u4 x4_1) ∧ Aside0 (Kd.R Kd.string 9 w' w.heap.size (fun k_ => some k_ ≠ (u4 : Value).ownBlock) v5 x5_2) ∧ Aside0 (w'.heap[gb121]? = some (.cells #[.string a0_0, (.slice A0_1 l0_1.length c0_1), (.slice A0_2 l0_2.length c0_2)] 27 (0, 0))) ∧ Aside0 (Below w.heap.size w w'))
        case atStart => exact ⟨(([] : List ByteArray)), (0), (by first | rfl | (simp; done) | (simp [*]; done)), H', ⟨Nat.le_refl _⟩, ⟨by (with_reducible repeat (first | apply Kd.R_alloc | apply Kd.R_drewN | apply Kd.R_drew)); exact Kd.R_mono HO_4.out (fun _ hk => (by simp [Value.ownBlock]))⟩, ⟨by first | exact Kd.R_nil _ _ _ _ _ | exact Kd.N_nil _ _ _ _ _ | exact Kd.V_nil _ _ _ _ _ | exact Kd.Q_nil _ _ _ _ _ | exact Kd.S_nil _ _ _ _ _⟩, ⟨by (with_reducible repeat (first | refine blk_drewN ?_ _ | refine blk_drew ?_ | refine blk_alloc ?_ _)); exact BK121.out⟩, ⟨by repeat (first | (with_reducible first | exact HB.out | apply below_alloc | apply pw_below_drewN | apply below_drew1 | refine below_set ?_ GE121.out) | exact HB.out)⟩⟩
        case round =>
          clear H'
          try clear c1
          try clear p1
          try clear q1
          try clear hx1
          try clear p2
          try clear c4
          try clear c4b0
          try clear c5
          try clear c5b0
          try clear c6
          try clear c6b0
          try clear p6
          try clear c7
          try clear c9
          try clear c12
          try clear p12
          try clear q12
          try clear hx12
          try clear hcz10_0
          try clear hcz10_1
          try clear hcz12_0
          try clear hcz12_1
          try clear hcz12_2
          try clear hcz3_0
          try clear hcz3_1
          try clear hcz3_2
          try clear hfz10_0
          try clear hfz10_1
          try clear hfz12_0
          try clear hfz12_1
          try clear hfz12_2
          try clear hfz3_0
          try clear hfz3_1
          try clear hfz3_2
          try clear hx122_0
          try clear hx122_1
          try clear p122
          try clear p2
          try clear q122
          obtain ⟨x5_2, x26_2, rfl, HA, HK2, HO_4, HO_5, BK121, HB⟩ := hrel
          cases gk with
          | zero => exact absurd HA.out (by simp [tree_names.l1])
          | succ k2 =>
            have H := HA.out
            clear HA
            simp only [tree_names.l1] at H
            by_cases c13 : x26_2 < (l0_2.length : Int)
            · rw [if_pos c13] at H
              have c13b0 : decide (x26_2 < (l0_2.length : Int)) = true := decide_eq_true c13
              clear c13
              by_cases c14 : 0 ≤ x26_2
              · rw [if_pos c14] at H
                have c14b0 : decide (0 ≤ x26_2) = true := decide_eq_true c14
                clear c14
                by_cases c15 : x26_2 < (l0_2.length : Int)
                · rw [if_pos c15] at H
                  have c15b0 : decide (x26_2 < (l0_2.length : Int)) = true := decide_eq_true c15
                  clear c15
                  by_cases c16 : x5_2.length < 8796093022208
                  · rw [if_pos c16] at H
                    have LMc16 := Aside0.mk c16
                    clear c16
                    obtain ⟨y129, hy129⟩ : ∃ y_ : List ByteArray, y_ = (x5_2 ++ [(rd_T27 l0_2 x26_2).f0]) := ⟨_, rfl⟩
                    replace H : (tree_names.l1 k2 x4_1 y129 l0_2 (l0_2.length : Int) (wrap64 (x26_2 + 1))) = some (r1, r2) := by first | (rw [hy129]; with_reducible exact H) | (have H2_ := (Option.bind_some _ _).symm.trans H; rw [hy129]; with_reducible exact H2_) | (have H2_ := (Option.bind_some _ _).symm.trans H; with_reducible exact H2_) | with_reducible exact H | (rw [hy129]; exact H) | exact H
                    have Ny129 := Aside0.mk hy129
                    clear hy129
                    have H' := Aside0.mk H
                    clear H
                    have p127 : 0 ≤ (x26_2 : Int) := of_decide_eq_true (by first | (with_reducible assumption) | assumption)
                    have q127 : x26_2 < (l0_2.length : Int) := of_decide_eq_true (by first | (with_reducible assumption) | assumption)
                    obtain ⟨ad127, A127_1, c127_1, A127_2, c127_2, e127, hx127_0, hx127_1, hx127_2, hl127_1, hi127_1, hl127_2, hi127_2⟩ := at_T27 HR0_2.out x26_2 p127 q127
                    cases e127
                    replace hx127_0 := (HB.out.cell (World.block_lt_of_cell? w _ hx127_0)).trans hx127_0
                    replace hx127_1 := (HB.out.cell (World.block_lt_of_cell? w _ hx127_1)).trans hx127_1
                    replace hx127_2 := (HB.out.cell (World.block_lt_of_cell? w _ hx127_2)).trans hx127_2
                    have HR127_1 := Aside0.mk hi127_1
                    have HC127_1 := Aside0.mk hl127_1
                    clear hi127_1 hl127_1
                    have HR127_2 := Aside0.mk hi127_2
                    have HC127_2 := Aside0.mk hl127_2
                    clear hi127_2 hl127_2
                    replace p127 := eq_true p127
                    replace q127 := eq_true q127
                    go_wp2_with (first | ((with_reducible refine gate_dst (N := 9) rfl ?_); refine box_event ?hg (N := 9) ?hd (cs := #[.string (⟨#[]⟩ : ByteArray), .slice none 0 0, .slice none 0 0]) (t := 27) ?hr ?_; (case hd => rfl); (case hg => rfl); (case hr => first | (go_simp; done) | (go_simp; rfl)); intro gb128 hg w17 hbox hb; have n0_ := Aside0.mk (Kd.R_below (by (with_reducible repeat (first | apply Kd.R_alloc | apply Kd.R_drewN | apply Kd.R_drew)); exact HO_4.out) hb); have n1_ := Aside0.mk (Kd.R_below (by (with_reducible repeat (first | apply Kd.R_alloc | apply Kd.R_drewN | apply Kd.R_drew)); exact HO_5.out) hb); have n2_ := Aside0.mk (blk_below (g := gb121) (o := .cells #[.string a0_0, .slice A0_1 l0_1.length c0_1, .slice (some ad127) l0_2.length c0_2] 27 (0, 0)) (by (with_reducible repeat (first | refine blk_drewN ?_ _ | refine blk_drew ?_ | refine blk_alloc ?_ _)); exact BK121.out) hb); have n3_ := Aside0.mk (below_step (by repeat (first | (with_reducible first | exact HB.out | apply below_alloc | apply pw_below_drewN | apply below_drew1 | refine below_set ?_ GE121.out) | exact HB.out)) hb); have n4_ := Aside0.mk (hbox); have n5_ := Aside0.mk ((by rw [hg]; exact (below_size (by repeat (first | (with_reducible first | exact HB.out | apply below_alloc | apply pw_below_drewN | apply below_drew1 | refine below_set ?_ GE121.out) | exact HB.out))) : w.heap.size ≤ gb128)); have n6_ := Aside0.mk ((by rw [hg]; exact (below_size (by repeat (first | (with_reducible first | exact HB.out | apply below_alloc | apply pw_below_drewN | apply below_drew1 | refine below_set ?_ GE121.out) | exact HB.out))) : w.heap.size ≤ gb128)); have n7_ := Aside0.mk ((by rw [hg]; exact Nat.ne_of_lt (blk_lt (g := gb121) (o := .cells #[.string a0_0, .slice A0_1 l0_1.length c0_1, .slice (some ad127) l0_2.length c0_2] 27 (0, 0)) (by (with_reducible repeat (first | refine blk_drewN ?_ _ | refine blk_drew ?_ | refine blk_alloc ?_ _)); exact BK121.out)) : gb121 ≠ gb128)); have n8_ := Aside0.mk ((by rw [hg]; exact Nat.ne_of_gt (blk_lt (g := gb121) (o := .cells #[.string a0_0, .slice A0_1 l0_1.length c0_1, .slice (some ad127) l0_2.length c0_2] 27 (0, 0)) (by (with_reducible repeat (first | refine blk_drewN ?_ _ | refine blk_drew ?_ | refine blk_alloc ?_ _)); exact BK121.out)) : gb128 ≠ gb121)); clear HO_4; clear HO_5; clear BK121; clear HB; have HO_4 := n0_; have HO_5 := n1_; have BK121 := n2_; have HB := n3_; have BK128 := n4_; have GW128 := n5_; have GE128 := n6_; have NB121_128 := n7_; have NB128_121 := n8_; clear n0_ n1_ n2_ n3_ n4_ n5_ n6_ n7_ n8_; clear hb hbox hg; have hnb18 := NB128_121.out; have hnc18 := NB121_128.out; have hcz19_0 : w17.cell? ⟨gb128, 0, none⟩ = some (.string (⟨#[]⟩ : ByteArray)) := (blk_cell BK128.out 0).trans rfl; have hcz19_1 : w17.cell? ⟨gb128, 1, none⟩ = some (.slice none 0 0) := (blk_cell BK128.out 1).trans rfl; have hcz19_2 : w17.cell? ⟨gb128, 2, none⟩ = some (.slice none 0 0) := (blk_cell BK128.out 2).trans rfl; have hfz19_0 := blk_frozen BK128.out 0; have hfz19_1 := blk_frozen BK128.out 1; have hfz19_2 := blk_frozen BK128.out 2) | ((with_reducible refine gate_builtin (b := .append) (xs := #[.tmp 30, .tmp 33]) rfl ?_); at_builtin; refine Kd.R_append Kd.string (w0 := w) w.heap.size rfl (.tmp 30) (.tmp 33) 37 9 (.string ⟨#[]⟩) 16 rfl Tryz.underlying37 info9 rfl (by decide) (by omega) u5 x5_2 ((rd_T27 l0_2 x26_2).f0) [.string ((rd_T27 l0_2 x26_2).f0)] (fun k_ => some k_ ≠ (u4 : Value).ownBlock) (fun _ => False) rfl (by first | (go_simp; done) | (go_simp; rfl)) ?aP (fun _ hk => hk.elim) ?aF ?aO ?aB ?aS ?aL ?_; (case aP => exact rfl); (case aB => exact (by repeat (first | (with_reducible first | exact HB.out | apply below_alloc | apply pw_below_drewN | apply below_drew1 | refine below_set ?_ GE121.out | refine below_set ?_ GE128.out) | exact HB.out))); (case aF => exact (fun k_ hk => Kd.fresh' (Kd.R_lt (by (with_reducible repeat (first | apply Kd.R_alloc | apply Kd.R_drewN | apply Kd.R_drew)); exact (Kd.R_mono (Kd.R_far (p := ⟨gb128, 2, none⟩) (Kd.R_far (p := ⟨gb128, 1, none⟩) (Kd.R_far (p := ⟨gb128, 0, none⟩) (Kd.R_types HO_4.out BK128.out (by decide)) (fun _ hk => hk.2) (.string ((rd_T27 l0_2 x26_2).f0))) (fun _ hk => hk.2) (.slice A127_1 ((rd_T27 l0_2 x26_2).f1).length c127_1)) (fun _ hk => hk.2) (.slice A127_2 ((rd_T27 l0_2 x26_2).f2).length c127_2)) (fun _ h_ => h_.1)))) k_ hk)); (case aO => exact (by (with_reducible repeat (first | apply Kd.R_alloc | apply Kd.R_drewN | apply Kd.R_drew)); exact Kd.R_mono (Kd.R_far (p := ⟨gb128, 2, none⟩) (Kd.R_far (p := ⟨gb128, 1, none⟩) (Kd.R_far (p := ⟨gb128, 0, none⟩) (Kd.R_types HO_5.out BK128.out (by decide)) (fun _ hk => hk.2) (.string ((rd_T27 l0_2 x26_2).f0))) (fun _ hk => hk.2) (.slice A127_1 ((rd_T27 l0_2 x26_2).f1).length c127_1)) (fun _ hk => hk.2) (.slice A127_2 ((rd_T27 l0_2 x26_2).f2).length c127_2)) (fun _ hk => hk.1))); (case aS => exact (below_size (by repeat (first | (with_reducible first | exact HB.out | apply below_alloc | apply pw_below_drewN | apply below_drew1 | refine below_set ?_ GE121.out | refine below_set ?_ GE128.out) | exact HB.out)))); (case aL => have := LMc16.out; omega); intro v130 w20 ho hb hg hat; rw [← Ny129.out] at ho; have n0_ := Aside0.mk (Kd.R_after (ok := (fun _ => True)) (by (with_reducible repeat (first | apply Kd.R_alloc | apply Kd.R_drewN | apply Kd.R_drew)); exact Kd.R_mono (Kd.R_far (p := ⟨gb128, 2, none⟩) (Kd.R_far (p := ⟨gb128, 1, none⟩) (Kd.R_far (p := ⟨gb128, 0, none⟩) (Kd.R_types HO_4.out BK128.out (by decide)) (fun _ hk => hk.2) (.string ((rd_T27 l0_2 x26_2).f0))) (fun _ hk => hk.2) (.slice A127_1 ((rd_T27 l0_2 x26_2).f1).length c127_1)) (fun _ hk => hk.2) (.slice A127_2 ((rd_T27 l0_2 x26_2).f2).length c127_2)) (fun _ hk => ⟨trivial, hk.1⟩)) hg hat); have n1_ := Aside0.mk (blk_grown (g := gb121) (o := .cells #[.string a0_0, .slice A0_1 l0_1.length c0_1, .slice (some ad127) l0_2.length c0_2] 27 (0, 0)) (by (with_reducible repeat (first | refine blk_drewN ?_ _ | refine blk_drew ?_ | refine blk_alloc ?_ _)); refine blk_far ?_ NB121_128.out _; (with_reducible repeat (first | refine blk_drewN ?_ _ | refine blk_drew ?_ | refine blk_alloc ?_ _)); refine blk_far ?_ NB121_128.out _; (with_reducible repeat (first | refine blk_drewN ?_ _ | refine blk_drew ?_ | refine blk_alloc ?_ _)); refine blk_far ?_ NB121_128.out _; (with_reducible repeat (first | refine blk_drewN ?_ _ | refine blk_drew ?_ | refine blk_alloc ?_ _)); exact BK121.out) hg (Kd.R_ne HO_5.out BK121.out (by decide))); have n2_ := Aside0.mk (blk_grown (g := gb128) (o := .cells #[.string ((rd_T27 l0_2 x26_2).f0), .slice A127_1 ((rd_T27 l0_2 x26_2).f1).length c127_1, .slice A127_2 ((rd_T27 l0_2 x26_2).f2).length c127_2] 27 (0, 0)) (by (with_reducible repeat (first | refine blk_drewN ?_ _ | refine blk_drew ?_ | refine blk_alloc ?_ _)); refine blk_put (cs := #[.string ((rd_T27 l0_2 x26_2).f0), .slice A127_1 ((rd_T27 l0_2 x26_2).f1).length c127_1, .slice none 0 0]) ?_ 2 _ rfl; (with_reducible repeat (first | refine blk_drewN ?_ _ | refine blk_drew ?_ | refine blk_alloc ?_ _)); refine blk_put (cs := #[.string ((rd_T27 l0_2 x26_2).f0), .slice none 0 0, .slice none 0 0]) ?_ 1 _ rfl; (with_reducible repeat (first | refine blk_drewN ?_ _ | refine blk_drew ?_ | refine blk_alloc ?_ _)); refine blk_put (cs := #[.string (⟨#[]⟩ : ByteArray), .slice none 0 0, .slice none 0 0]) ?_ 0 _ rfl; (with_reducible repeat (first | refine blk_drewN ?_ _ | refine blk_drew ?_ | refine blk_alloc ?_ _)); exact BK128.out) hg (Kd.R_ne HO_5.out BK128.out (by decide))); have n3_ := Aside0.mk (hb); have n4_ := Aside0.mk (ho); clear HO_4; clear BK121; clear BK128; clear HB; clear HO_5; have HO_4 := n0_; have BK121 := n1_; have BK128 := n2_; have HB := n3_; have HO131 := n4_; clear n0_ n1_ n2_ n3_ n4_; clear ho hb hg hat))
                    go_roundg k2
                    case measure => have := HK1.out; have := HK2.out; omega
                    case rel => exact ⟨(y129), (wrap64 (x26_2 + 1)), (by first | rfl | (simp; done) | (simp [*]; done)), H', ⟨by have := HK1.out; have := HK2.out; omega⟩, ⟨by (with_reducible repeat (first | apply Kd.R_alloc | apply Kd.R_drewN | apply Kd.R_drew)); exact Kd.R_mono HO_4.out (fun _ hk => hk.2)⟩, ⟨by (with_reducible repeat (first | apply Kd.R_alloc | apply Kd.R_drewN | apply Kd.R_drew)); exact HO131.out⟩, ⟨by (with_reducible repeat (first | refine blk_drewN ?_ _ | refine blk_drew ?_ | refine blk_alloc ?_ _)); exact BK121.out⟩, ⟨by repeat (first | (with_reducible first | exact HB.out | apply below_alloc | apply pw_below_drewN | apply below_drew1 | refine below_set ?_ GE121.out | refine below_set ?_ GE128.out) | exact HB.out)⟩⟩
                  · rw [if_neg c16] at H
                    exact absurd H (by simp)
                · rw [if_neg c15] at H
                  exact absurd H (by simp)
              · rw [if_neg c14] at H
                exact absurd H (by simp)
            · rw [if_neg c13] at H
              have c13b0 : decide (x26_2 < (l0_2.length : Int)) = false := decide_eq_false c13
              clear c13
              simp only [Option.some.injEq, Prod.mk.injEq] at H
              obtain ⟨rfl, rfl⟩ := H
              go_wp2
              go_ret2
              exact ⟨_, _, by first | rfl | (simp [errW_none, errW_some] <;> rfl) | (simp [*, errW_none, errW_some] <;> rfl), by (with_reducible repeat (first | apply Kd.R_alloc | apply Kd.R_drewN | apply Kd.R_drew)); exact HO_4.out, by (with_reducible repeat (first | apply Kd.R_alloc | apply Kd.R_drewN | apply Kd.R_drew)); exact HO_5.out, by repeat (first | (with_reducible first | exact HB.out | apply below_alloc | apply pw_below_drewN | apply below_drew1 | refine below_set ?_ GE121.out) | exact HB.out)⟩
end Go.Proofs.YtkfcgjopabcbeaaGreatDoor.PV

namespace Go.Proofs.YtkfcgjopabcbeaaGreatDoor.PV
open Go.RowKit Go.Proofs.YtkfcgjopabcbeaaGreatDoorW.PrintWords Go.Proofs.YtkfcgjopabcbeaaGreatDoorW.PrintLast Go.Proofs.YtkfcgjopabcbeaaGreatDoorW.PrintMore
attribute [local go_sem] max2_int min2_int max_two min_two max_three min_three max_four min_four   -- for this text's walks alone
set_option linter.unusedVariables false
set_option linter.unusedSimpArgs false
def stringslite_Index.f (a0 : ByteArray) (a1 : ByteArray) : Option (Int) := match a1.data.toList with | [c] => some (Lib.indexByte a0.data.toList c) | _ => none
theorem stringslite_Index.calls (a0 : ByteArray) (a1 : ByteArray) (r : Int) (w : World) (h : stringslite_Index.f a0 a1 = some r) :
    Calls Tryz.prog 235 #[.string a0, .string a1] w fun e w' => e = .returned (.int .i64 r) ∧ Drawn0 w w' := by
  unfold stringslite_Index.f at h
  split at h
  · next c hc =>
    have ha : a1 = ⟨#[c]⟩ := by
      obtain ⟨⟨l⟩⟩ := a1
      simp only at hc
      rw [hc]
    subst ha
    injection h with hr
    refine (Tryz.stringslite_Index_one a0 c w).mono ?_
    rintro e w' ⟨rfl, rfl⟩
    exact ⟨by rw [hr], Drawn0.refl _⟩
  · cases h
end Go.Proofs.YtkfcgjopabcbeaaGreatDoor.PV

namespace Go.Proofs.YtkfcgjopabcbeaaGreatDoor.PV
open Go.RowKit Go.Proofs.YtkfcgjopabcbeaaGreatDoorW.PrintWords Go.Proofs.YtkfcgjopabcbeaaGreatDoorW.PrintLast Go.Proofs.YtkfcgjopabcbeaaGreatDoorW.PrintMore
attribute [local go_sem] max2_int min2_int max_two min_two max_three min_three max_four min_four   -- for this text's walks alone
set_option linter.unusedVariables false
set_option linter.unusedSimpArgs false
def stringslite_Cut.f (a0 : ByteArray) (a1 : ByteArray) : Option (ByteArray × ByteArray × Bool) := (stringslite_Index.f a0 a1).bind fun t134 => (if t134 ≥ 0 then (if 0 ≤ t134 then (if t134 ≤ (a0.size : Int) then (if 0 ≤ (wrap64 (t134 + (a1.size : Int))) then (if (wrap64 (t134 + (a1.size : Int))) ≤ (a0.size : Int) then (some (a0.extract 0 (t134 : Int).toNat, a0.extract ((wrap64 (t134 + (a1.size : Int))) : Int).toNat a0.size, true)) else (none)) else (none)) else (none)) else (none)) else (some (a0, (⟨#[]⟩ : ByteArray), false)))
set_option maxHeartbeats 8000000 in
set_option maxRecDepth 100000 in
theorem stringslite_Cut.calls (a0 : ByteArray) (a1 : ByteArray) (r1 : ByteArray) (r2 : ByteArray) (r3 : Bool) (w : World) (h : stringslite_Cut.f a0 a1 = some (r1, r2, r3)) :
    Calls Tryz.prog 219 #[.string a0, .string a1] w fun e w' => e = .returned (.tuple #[.string r1, .string r2, .bool r3]) ∧ Drawn0 w w' := by
  have H : ((stringslite_Index.f a0 a1).bind fun t134 => (if t134 ≥ 0 then (if 0 ≤ t134 then (if t134 ≤ (a0.size : Int) then (if 0 ≤ (wrap64 (t134 + (a1.size : Int))) then (if (wrap64 (t134 + (a1.size : Int))) ≤ (a0.size : Int) then (some (a0.extract 0 (t134 : Int).toNat, a0.extract ((wrap64 (t134 + (a1.size : Int))) : Int).toNat a0.size, true)) else (none)) else (none)) else (none)) else (none)) else (some (a0, (⟨#[]⟩ : ByteArray), false)))) = some (r1, r2, r3) := h
  clear h
  replace H := Option.bind_eq_some_iff.mp H
  obtain ⟨t134, A30, H⟩ := H
  replace H : (if t134 ≥ 0 then (if 0 ≤ t134 then (if t134 ≤ (a0.size : Int) then (if 0 ≤ (wrap64 (t134 + (a1.size : Int))) then (if (wrap64 (t134 + (a1.size : Int))) ≤ (a0.size : Int) then (some (a0.extract 0 (t134 : Int).toNat, a0.extract ((wrap64 (t134 + (a1.size : Int))) : Int).toNat a0.size, true)) else (none)) else (none)) else (none)) else (none)) else (some (a0, (⟨#[]⟩ : ByteArray), false))) = some (r1, r2, r3) := H
  have A3 := Aside0.mk A30
  clear A30
  by_cases c4 : t134 ≥ 0
  · rw [if_pos c4] at H
    have c4b0 : decide (0 ≤ t134) = true := decide_eq_true c4
    clear c4
    by_cases c5 : 0 ≤ t134
    · rw [if_pos c5] at H
      have c5b0 := eq_true c5
      have c5b1 : decide (0 ≤ t134) = true := decide_eq_true c5
      clear c5
      by_cases c6 : t134 ≤ (a0.size : Int)
      · rw [if_pos c6] at H
        have c6b0 := eq_true c6
        have c6b1 : decide (t134 ≤ (a0.size : Int)) = true := decide_eq_true c6
        clear c6
        obtain ⟨ji7, hji7⟩ : ∃ j_ : Int, (wrap64 (t134 + (a1.size : Int))) = j_ := ⟨_, rfl⟩
        replace H : (if 0 ≤ (ji7) then (if (ji7) ≤ (a0.size : Int) then (some (a0.extract 0 (t134 : Int).toNat, a0.extract ((ji7) : Int).toNat a0.size, true)) else (none)) else (none)) = some (r1, r2, r3) := by first | (rw [hji7] at H; exact H) | (simp only [hji7] at H ⊢; exact H)
        (try rw [hji7] at A3)
        have hji7w : (IntKind.i64.wrap (t134 + (a1.size : Int))) = ji7 := (i64_w _).trans hji7
        by_cases c8 : 0 ≤ (ji7)
        · rw [if_pos c8] at H
          have c8b0 := eq_true c8
          have c8b1 : decide (0 ≤ (ji7)) = true := decide_eq_true c8
          clear c8
          by_cases c9 : (ji7) ≤ (a0.size : Int)
          · rw [if_pos c9] at H
            have c9b0 := eq_true c9
            have c9b1 : decide ((ji7) ≤ (a0.size : Int)) = true := decide_eq_true c9
            clear c9
            simp only [Option.some.injEq, Prod.mk.injEq] at H
            obtain ⟨rfl, rfl, rfl⟩ := H
            go_enter Tryz.func219, Tryz.ntmps219
            go_wp2_with (first | (go_at_call 235; (with_reducible refine (stringslite_Index.calls a0 a1 t134 _ A3.out).mono ?_); rintro e w' ⟨rfl, ⟨nd, rfl⟩⟩; (try first | exact ⟨rfl, _, World.drewN_drewN _ _ _⟩ | exact ⟨rfl, _, Eq.trans (World.drewN_drewN _ _ _) (congrArg (World.drewN _) (Nat.add_assoc _ _ _))⟩)))
            repeat (go_quiet (first | (go_at_call 235; (with_reducible refine (stringslite_Index.calls a0 a1 t134 _ A3.out).mono ?_); rintro e w' ⟨rfl, ⟨nd, rfl⟩⟩; (try first | exact ⟨rfl, _, World.drewN_drewN _ _ _⟩ | exact ⟨rfl, _, Eq.trans (World.drewN_drewN _ _ _) (congrArg (World.drewN _) (Nat.add_assoc _ _ _))⟩))); try go_wp2_with (first | (go_at_call 235; (with_reducible refine (stringslite_Index.calls a0 a1 t134 _ A3.out).mono ?_); rintro e w' ⟨rfl, ⟨nd, rfl⟩⟩; (try first | exact ⟨rfl, _, World.drewN_drewN _ _ _⟩ | exact ⟨rfl, _, Eq.trans (World.drewN_drewN _ _ _) (congrArg (World.drewN _) (Nat.add_assoc _ _ _))⟩))))
            go_ret3
            exact ⟨by first | rfl | (simp; done) | (simp only [← hji7] <;> (first | rfl | simp)) | (simp [*]; done), by repeat (first | exact Drawn0.refl _ | apply Drawn0.step)⟩
          · rw [if_neg c9] at H
            exact absurd H (by simp)
        · rw [if_neg c8] at H
          exact absurd H (by simp)
      · rw [if_neg c6] at H
        exact absurd H (by simp)
    · rw [if_neg c5] at H
      exact absurd H (by simp)
  · rw [if_neg c4] at H
    have c4b0 : decide (0 ≤ t134) = false := decide_eq_false c4
    clear c4
    simp only [Option.some.injEq, Prod.mk.injEq] at H
    obtain ⟨rfl, rfl, rfl⟩ := H
    go_enter Tryz.func219, Tryz.ntmps219
    go_wp2_with (first | (go_at_call 235; (with_reducible refine (stringslite_Index.calls a0 a1 t134 _ A3.out).mono ?_); rintro e w' ⟨rfl, ⟨nd, rfl⟩⟩; (try first | exact ⟨rfl, _, World.drewN_drewN _ _ _⟩ | exact ⟨rfl, _, Eq.trans (World.drewN_drewN _ _ _) (congrArg (World.drewN _) (Nat.add_assoc _ _ _))⟩)))
    repeat (go_quiet (first | (go_at_call 235; (with_reducible refine (stringslite_Index.calls a0 a1 t134 _ A3.out).mono ?_); rintro e w' ⟨rfl, ⟨nd, rfl⟩⟩; (try first | exact ⟨rfl, _, World.drewN_drewN _ _ _⟩ | exact ⟨rfl, _, Eq.trans (World.drewN_drewN _ _ _) (congrArg (World.drewN _) (Nat.add_assoc _ _ _))⟩))); try go_wp2_with (first | (go_at_call 235; (with_reducible refine (stringslite_Index.calls a0 a1 t134 _ A3.out).mono ?_); rintro e w' ⟨rfl, ⟨nd, rfl⟩⟩; (try first | exact ⟨rfl, _, World.drewN_drewN _ _ _⟩ | exact ⟨rfl, _, Eq.trans (World.drewN_drewN _ _ _) (congrArg (World.drewN _) (Nat.add_assoc _ _ _))⟩))))
    go_ret3
    exact ⟨by first | rfl | (simp; done) | (simp [*]; done), by repeat (first | exact Drawn0.refl _ | apply Drawn0.step)⟩
end Go.Proofs.YtkfcgjopabcbeaaGreatDoor.PV

namespace Go.Proofs.YtkfcgjopabcbeaaGreatDoor.PV
open Go.RowKit Go.Proofs.YtkfcgjopabcbeaaGreatDoorW.PrintWords Go.Proofs.YtkfcgjopabcbeaaGreatDoorW.PrintLast Go.Proofs.YtkfcgjopabcbeaaGreatDoorW.PrintMore
attribute [local go_sem] max2_int min2_int max_two min_two max_three min_three max_four min_four   -- for this text's walks alone
set_option linter.unusedVariables false
set_option linter.unusedSimpArgs false
def strings_Cut.f (a0 : ByteArray) (a1 : ByteArray) : Option (ByteArray × ByteArray × Bool) := (stringslite_Cut.f a0 a1).bind fun bt135 => (some (bt135.1, bt135.2.1, bt135.2.2))
set_option maxHeartbeats 8000000 in
set_option maxRecDepth 100000 in
theorem strings_Cut.calls (a0 : ByteArray) (a1 : ByteArray) (r1 : ByteArray) (r2 : ByteArray) (r3 : Bool) (w : World) (h : strings_Cut.f a0 a1 = some (r1, r2, r3)) :
    Calls Tryz.prog 187 #[.string a0, .string a1] w fun e w' => e = .returned (.tuple #[.string r1, .string r2, .bool r3]) ∧ Drawn0 w w' := by
  have H : ((stringslite_Cut.f a0 a1).bind fun bt135 => (some (bt135.1, bt135.2.1, bt135.2.2))) = some (r1, r2, r3) := h
  clear h
  replace H := Option.bind_eq_some_iff.mp H
  obtain ⟨⟨t135, t136, t137⟩, A30, H⟩ := H
  replace H : (some (t135, t136, t137)) = some (r1, r2, r3) := H
  have A3 := Aside0.mk A30
  clear A30
  simp only [Option.some.injEq, Prod.mk.injEq] at H
  obtain ⟨rfl, rfl, rfl⟩ := H
  go_enter Tryz.func187, Tryz.ntmps187
  go_wp2_with (first | ((with_reducible refine gate_callee (f := 219) rfl ?_); refine goesL_ (some 9) rfl rfl Tryz.func219 (by kernel_rfl) rfl #[.string a0, .string a1] rfl (by (try simp only [List.map_toArray, List.map_cons, List.map_nil]); first | done | rfl | (simp only [List.length_drop, List.length_take]; rfl)) ?_; (with_reducible refine (stringslite_Cut.calls a0 a1 t135 t136 t137 _ A3.out).mono ?_); rintro e w' ⟨rfl, ⟨nd, rfl⟩⟩; refine ⟨_, rfl, ?_⟩))
  go_ret3
  exact ⟨by first | rfl | (simp; done) | (simp [*]; done), by repeat (first | exact Drawn0.refl _ | apply Drawn0.step)⟩
end Go.Proofs.YtkfcgjopabcbeaaGreatDoor.PV

namespace Go.Proofs.YtkfcgjopabcbeaaGreatDoor.PV
open Go.RowKit Go.Proofs.YtkfcgjopabcbeaaGreatDoorW.PrintWords Go.Proofs.YtkfcgjopabcbeaaGreatDoorW.PrintLast Go.Proofs.YtkfcgjopabcbeaaGreatDoorW.PrintMore
attribute [local go_sem] max2_int min2_int max_two min_two max_three min_three max_four min_four   -- for this text's walks alone
set_option linter.unusedVariables false
set_option linter.unusedSimpArgs false
def name_Node.f (k : Nat) (a0 : ByteArray) : Option (Bool) := (strings_Cut.f a0 (⟨#[64]⟩ : ByteArray)).bind fun bt138 => ((name_all.f k bt138.1 (⟨#[]⟩ : ByteArray)).bind fun t141 => (if t141 = true then (if 0 < (bt138.1.size : Int) then ((name_letter.f (bt bt138.1 0)).bind fun t142 => (if t142 = true then (if bt138.2.2 = true then ((name_all.f k bt138.2.1 (⟨#[]⟩ : ByteArray)).bind fun t143 => (some t143)) else (some true)) else (if (bt bt138.1 0) = 95 then (if bt138.2.2 = true then ((name_all.f k bt138.2.1 (⟨#[]⟩ : ByteArray)).bind fun t144 => (some t144)) else (some true)) else (some false)))) else (none)) else (some false)))
set_option maxHeartbeats 8000000 in
set_option maxRecDepth 100000 in
theorem name_Node.calls (k : Nat) (a0 : ByteArray) (r : Bool) (w : World) (h : name_Node.f k a0 = some r) :
    Calls Tryz.prog 141 #[.string a0] w fun e w' => e = .returned (.bool r) ∧ Drawn0 w w' := by
  have H : ((strings_Cut.f a0 (⟨#[64]⟩ : ByteArray)).bind fun bt138 => ((name_all.f k bt138.1 (⟨#[]⟩ : ByteArray)).bind fun t141 => (if t141 = true then (if 0 < (bt138.1.size : Int) then ((name_letter.f (bt bt138.1 0)).bind fun t142 => (if t142 = true then (if bt138.2.2 = true then ((name_all.f k bt138.2.1 (⟨#[]⟩ : ByteArray)).bind fun t143 => (some t143)) else (some true)) else (if (bt bt138.1 0) = 95 then (if bt138.2.2 = true then ((name_all.f k bt138.2.1 (⟨#[]⟩ : ByteArray)).bind fun t144 => (some t144)) else (some true)) else (some false)))) else (none)) else (some false)))) = some r := h
  clear h
  replace H := Option.bind_eq_some_iff.mp H
  obtain ⟨⟨t138, t139, t140⟩, A20, H⟩ := H
  replace H : ((name_all.f k t138 (⟨#[]⟩ : ByteArray)).bind fun t141 => (if t141 = true then (if 0 < (t138.size : Int) then ((name_letter.f (bt t138 0)).bind fun t142 => (if t142 = true then (if t140 = true then ((name_all.f k t139 (⟨#[]⟩ : ByteArray)).bind fun t143 => (some t143)) else (some true)) else (if (bt t138 0) = 95 then (if t140 = true then ((name_all.f k t139 (⟨#[]⟩ : ByteArray)).bind fun t144 => (some t144)) else (some true)) else (some false)))) else (none)) else (some false))) = some r := H
  have A2 := Aside0.mk A20
  clear A20
  replace H := Option.bind_eq_some_iff.mp H
  obtain ⟨t141, A30, H⟩ := H
  replace H : (if t141 = true then (if 0 < (t138.size : Int) then ((name_letter.f (bt t138 0)).bind fun t142 => (if t142 = true then (if t140 = true then ((name_all.f k t139 (⟨#[]⟩ : ByteArray)).bind fun t143 => (some t143)) else (some true)) else (if (bt t138 0) = 95 then (if t140 = true then ((name_all.f k t139 (⟨#[]⟩ : ByteArray)).bind fun t144 => (some t144)) else (some true)) else (some false)))) else (none)) else (some false)) = some r := H
  have A3 := Aside0.mk A30
  clear A30
  by_cases c4 : t141 = true
  · subst c4
    have H1 : (if 0 < (t138.size : Int) then ((name_letter.f (bt t138 0)).bind fun t142 => (if t142 = true then (if t140 = true then ((name_all.f k t139 (⟨#[]⟩ : ByteArray)).bind fun t143 => (some t143)) else (some true)) else (if (bt t138 0) = 95 then (if t140 = true then ((name_all.f k t139 (⟨#[]⟩ : ByteArray)).bind fun t144 => (some t144)) else (some true)) else (some false)))) else (none)) = some r := by rw [if_pos rfl] at H; exact H
    clear H
    have H := H1
    clear H1
    by_cases c5 : 0 < (t138.size : Int)
    · rw [if_pos c5] at H
      have c5b0 : decide (0 < (t138.size : Int)) = true := decide_eq_true c5
      have c5b1 : decide (0 < t138.size) = true := decide_eq_true (by omega)
      clear c5
      replace H := Option.bind_eq_some_iff.mp H
      obtain ⟨t142, A70, H⟩ := H
      replace H : (if t142 = true then (if t140 = true then ((name_all.f k t139 (⟨#[]⟩ : ByteArray)).bind fun t143 => (some t143)) else (some true)) else (if (bt t138 0) = 95 then (if t140 = true then ((name_all.f k t139 (⟨#[]⟩ : ByteArray)).bind fun t144 => (some t144)) else (some true)) else (some false))) = some r := H
      have A7 := Aside0.mk A70
      clear A70
      by_cases c8 : t142 = true
      · subst c8
        have H1 : (if t140 = true then ((name_all.f k t139 (⟨#[]⟩ : ByteArray)).bind fun t143 => (some t143)) else (some true)) = some r := by rw [if_pos rfl] at H; exact H
        clear H
        have H := H1
        clear H1
        by_cases c9 : t140 = true
        · subst c9
          have H1 : ((name_all.f k t139 (⟨#[]⟩ : ByteArray)).bind fun t143 => (some t143)) = some r := by rw [if_pos rfl] at H; exact H
          clear H
          have H := H1
          clear H1
          replace H := Option.bind_eq_some_iff.mp H
          obtain ⟨t143, A100, H⟩ := H
          replace H : (some t143) = some r := H
          have A10 := Aside0.mk A100
          clear A100
          obtain rfl := Option.some.inj H
          go_enter Tryz.func141, Tryz.ntmps141
          go_wp2_with (first | ((with_reducible refine gate_callee (f := 187) rfl ?_); refine goesL_ (some 8) rfl rfl Tryz.func187 (by kernel_rfl) rfl #[.string a0, .string (⟨#[64]⟩ : ByteArray)] rfl (by (try simp only [List.map_toArray, List.map_cons, List.map_nil]); first | done | rfl | (simp only [List.length_drop, List.length_take]; rfl)) ?_; (with_reducible refine (strings_Cut.calls a0 (⟨#[64]⟩ : ByteArray) t138 t139 true _ A2.out).mono ?_); rintro e w' ⟨rfl, ⟨nd, rfl⟩⟩; refine ⟨_, rfl, ?_⟩) | ((with_reducible refine gate_callee (f := 188) rfl ?_); refine goesL_ (some 13) rfl rfl Tryz.func188 (by kernel_rfl) rfl #[.string t138, .string (⟨#[]⟩ : ByteArray)] rfl (by (try simp only [List.map_toArray, List.map_cons, List.map_nil]); first | done | rfl | (simp only [List.length_drop, List.length_take]; rfl)) ?_; (with_reducible refine (name_all.calls k t138 (⟨#[]⟩ : ByteArray) true _ A3.out).mono ?_); rintro e w' ⟨rfl, ⟨nd, rfl⟩⟩; refine ⟨_, rfl, ?_⟩; have p6 : 0 ≤ (0 : Int) := (by omega); have q6 : 0 < t138.size := (by have : (0 : Int) < (t138.size : Int) := of_decide_eq_true (by first | (with_reducible assumption) | assumption); omega); have hx6 : ∀ h : 0 < t138.size, ((t138[0]'h).toNat : Int) = bt t138 0 := bt_at t138 0; clear p6; have qi6 : (0 < (t138.size : Int)) = True := eq_true (of_decide_eq_true (by first | (with_reducible assumption) | assumption)); replace q6 := eq_true q6) | (go_at_call 189; (with_reducible refine (name_letter.calls (bt t138 0) true _ A7.out).mono ?_); rintro e w' ⟨rfl, ⟨nd, rfl⟩⟩) | (go_at_call 188; (with_reducible refine (name_all.calls k t139 (⟨#[]⟩ : ByteArray) t143 _ A10.out).mono ?_); rintro e w' ⟨rfl, ⟨nd, rfl⟩⟩))
          go_ret
          exact ⟨by first | rfl | (simp; done) | (simp [*]; done), by repeat (first | exact Drawn0.refl _ | apply Drawn0.step)⟩
        · replace c9 := Bool.eq_false_iff.mpr c9
          subst c9
          have H1 : (some true) = some r := by rw [if_neg (show ¬ (false = true) by decide)] at H; exact H
          clear H
          have H := H1
          clear H1
          obtain rfl := Option.some.inj H
          go_enter Tryz.func141, Tryz.ntmps141
          go_wp2_with (first | ((with_reducible refine gate_callee (f := 187) rfl ?_); refine goesL_ (some 8) rfl rfl Tryz.func187 (by kernel_rfl) rfl #[.string a0, .string (⟨#[64]⟩ : ByteArray)] rfl (by (try simp only [List.map_toArray, List.map_cons, List.map_nil]); first | done | rfl | (simp only [List.length_drop, List.length_take]; rfl)) ?_; (with_reducible refine (strings_Cut.calls a0 (⟨#[64]⟩ : ByteArray) t138 t139 false _ A2.out).mono ?_); rintro e w' ⟨rfl, ⟨nd, rfl⟩⟩; refine ⟨_, rfl, ?_⟩) | ((with_reducible refine gate_callee (f := 188) rfl ?_); refine goesL_ (some 13) rfl rfl Tryz.func188 (by kernel_rfl) rfl #[.string t138, .string (⟨#[]⟩ : ByteArray)] rfl (by (try simp only [List.map_toArray, List.map_cons, List.map_nil]); first | done | rfl | (simp only [List.length_drop, List.length_take]; rfl)) ?_; (with_reducible refine (name_all.calls k t138 (⟨#[]⟩ : ByteArray) true _ A3.out).mono ?_); rintro e w' ⟨rfl, ⟨nd, rfl⟩⟩; refine ⟨_, rfl, ?_⟩; have p6 : 0 ≤ (0 : Int) := (by omega); have q6 : 0 < t138.size := (by have : (0 : Int) < (t138.size : Int) := of_decide_eq_true (by first | (with_reducible assumption) | assumption); omega); have hx6 : ∀ h : 0 < t138.size, ((t138[0]'h).toNat : Int) = bt t138 0 := bt_at t138 0; clear p6; have qi6 : (0 < (t138.size : Int)) = True := eq_true (of_decide_eq_true (by first | (with_reducible assumption) | assumption)); replace q6 := eq_true q6) | (go_at_call 189; (with_reducible refine (name_letter.calls (bt t138 0) true _ A7.out).mono ?_); rintro e w' ⟨rfl, ⟨nd, rfl⟩⟩))
          go_ret
          exact ⟨by first | rfl | (simp; done) | (simp [*]; done), by repeat (first | exact Drawn0.refl _ | apply Drawn0.step)⟩
      · replace c8 := Bool.eq_false_iff.mpr c8
        subst c8
        have H1 : (if (bt t138 0) = 95 then (if t140 = true then ((name_all.f k t139 (⟨#[]⟩ : ByteArray)).bind fun t144 => (some t144)) else (some true)) else (some false)) = some r := by rw [if_neg (show ¬ (false = true) by decide)] at H; exact H
        clear H
        have H := H1
        clear H1
        by_cases c12 : (bt t138 0) = 95
        · rw [if_pos c12] at H
          have c12b0 : ((bt t138 0) == 95) = true := beq_iff_eq.mpr c12
          have c12b1 : ((bt t138 0) != 95) = false := bne_eq_false_iff_eq.mpr c12
          clear c12
          by_cases c13 : t140 = true
          · subst c13
            have H1 : ((name_all.f k t139 (⟨#[]⟩ : ByteArray)).bind fun t144 => (some t144)) = some r := by rw [if_pos rfl] at H; exact H
            clear H
            have H := H1
            clear H1
            replace H := Option.bind_eq_some_iff.mp H
            obtain ⟨t144, A140, H⟩ := H
            replace H : (some t144) = some r := H
            have A14 := Aside0.mk A140
            clear A140
            obtain rfl := Option.some.inj H
            go_enter Tryz.func141, Tryz.ntmps141
            go_wp2_with (first | ((with_reducible refine gate_callee (f := 187) rfl ?_); refine goesL_ (some 8) rfl rfl Tryz.func187 (by kernel_rfl) rfl #[.string a0, .string (⟨#[64]⟩ : ByteArray)] rfl (by (try simp only [List.map_toArray, List.map_cons, List.map_nil]); first | done | rfl | (simp only [List.length_drop, List.length_take]; rfl)) ?_; (with_reducible refine (strings_Cut.calls a0 (⟨#[64]⟩ : ByteArray) t138 t139 true _ A2.out).mono ?_); rintro e w' ⟨rfl, ⟨nd, rfl⟩⟩; refine ⟨_, rfl, ?_⟩) | ((with_reducible refine gate_callee (f := 188) rfl ?_); refine goesL_ (some 13) rfl rfl Tryz.func188 (by kernel_rfl) rfl #[.string t138, .string (⟨#[]⟩ : ByteArray)] rfl (by (try simp only [List.map_toArray, List.map_cons, List.map_nil]); first | done | rfl | (simp only [List.length_drop, List.length_take]; rfl)) ?_; (with_reducible refine (name_all.calls k t138 (⟨#[]⟩ : ByteArray) true _ A3.out).mono ?_); rintro e w' ⟨rfl, ⟨nd, rfl⟩⟩; refine ⟨_, rfl, ?_⟩; have p6 : 0 ≤ (0 : Int) := (by omega); have q6 : 0 < t138.size := (by have : (0 : Int) < (t138.size : Int) := of_decide_eq_true (by first | (with_reducible assumption) | assumption); omega); have hx6 : ∀ h : 0 < t138.size, ((t138[0]'h).toNat : Int) = bt t138 0 := bt_at t138 0; clear p6; have qi6 : (0 < (t138.size : Int)) = True := eq_true (of_decide_eq_true (by first | (with_reducible assumption) | assumption)); replace q6 := eq_true q6) | (go_at_call 189; (with_reducible refine (name_letter.calls (bt t138 0) false _ A7.out).mono ?_); rintro e w' ⟨rfl, ⟨nd, rfl⟩⟩; have p11 : 0 ≤ (0 : Int) := (by omega); have q11 : 0 < t138.size := (by have : (0 : Int) < (t138.size : Int) := of_decide_eq_true (by first | (with_reducible assumption) | assumption); omega); have hx11 : ∀ h : 0 < t138.size, ((t138[0]'h).toNat : Int) = bt t138 0 := bt_at t138 0; clear p11; have qi11 : (0 < (t138.size : Int)) = True := eq_true (of_decide_eq_true (by first | (with_reducible assumption) | assumption)); replace q11 := eq_true q11) | (go_at_call 188; (with_reducible refine (name_all.calls k t139 (⟨#[]⟩ : ByteArray) t144 _ A14.out).mono ?_); rintro e w' ⟨rfl, ⟨nd, rfl⟩⟩))
            go_ret
            exact ⟨by first | rfl | (simp; done) | (simp [*]; done), by repeat (first | exact Drawn0.refl _ | apply Drawn0.step)⟩
          · replace c13 := Bool.eq_false_iff.mpr c13
            subst c13
            have H1 : (some true) = some r := by rw [if_neg (show ¬ (false = true) by decide)] at H; exact H
            clear H
            have H := H1
            clear H1
            obtain rfl := Option.some.inj H
            go_enter Tryz.func141, Tryz.ntmps141
            go_wp2_with (first | ((with_reducible refine gate_callee (f := 187) rfl ?_); refine goesL_ (some 8) rfl rfl Tryz.func187 (by kernel_rfl) rfl #[.string a0, .string (⟨#[64]⟩ : ByteArray)] rfl (by (try simp only [List.map_toArray, List.map_cons, List.map_nil]); first | done | rfl | (simp only [List.length_drop, List.length_take]; rfl)) ?_; (with_reducible refine (strings_Cut.calls a0 (⟨#[64]⟩ : ByteArray) t138 t139 false _ A2.out).mono ?_); rintro e w' ⟨rfl, ⟨nd, rfl⟩⟩; refine ⟨_, rfl, ?_⟩) | ((with_reducible refine gate_callee (f := 188) rfl ?_); refine goesL_ (some 13) rfl rfl Tryz.func188 (by kernel_rfl) rfl #[.string t138, .string (⟨#[]⟩ : ByteArray)] rfl (by (try simp only [List.map_toArray, List.map_cons, List.map_nil]); first | done | rfl | (simp only [List.length_drop, List.length_take]; rfl)) ?_; (with_reducible refine (name_all.calls k t138 (⟨#[]⟩ : ByteArray) true _ A3.out).mono ?_); rintro e w' ⟨rfl, ⟨nd, rfl⟩⟩; refine ⟨_, rfl, ?_⟩; have p6 : 0 ≤ (0 : Int) := (by omega); have q6 : 0 < t138.size := (by have : (0 : Int) < (t138.size : Int) := of_decide_eq_true (by first | (with_reducible assumption) | assumption); omega); have hx6 : ∀ h : 0 < t138.size, ((t138[0]'h).toNat : Int) = bt t138 0 := bt_at t138 0; clear p6; have qi6 : (0 < (t138.size : Int)) = True := eq_true (of_decide_eq_true (by first | (with_reducible assumption) | assumption)); replace q6 := eq_true q6) | (go_at_call 189; (with_reducible refine (name_letter.calls (bt t138 0) false _ A7.out).mono ?_); rintro e w' ⟨rfl, ⟨nd, rfl⟩⟩; have p11 : 0 ≤ (0 : Int) := (by omega); have q11 : 0 < t138.size := (by have : (0 : Int) < (t138.size : Int) := of_decide_eq_true (by first | (with_reducible assumption) | assumption); omega); have hx11 : ∀ h : 0 < t138.size, ((t138[0]'h).toNat : Int) = bt t138 0 := bt_at t138 0; clear p11; have qi11 : (0 < (t138.size : Int)) = True := eq_true (of_decide_eq_true (by first | (with_reducible assumption) | assumption)); replace q11 := eq_true q11))
            go_ret
            exact ⟨by first | rfl | (simp; done) | (simp [*]; done), by repeat (first | exact Drawn0.refl _ | apply Drawn0.step)⟩
        · rw [if_neg c12] at H
          have c12b0 : ((bt t138 0) == 95) = false := beq_eq_false_iff_ne.mpr c12
          have c12b1 : ((bt t138 0) != 95) = true := bne_iff_ne.mpr c12
          obtain rfl := Option.some.inj H
          go_enter Tryz.func141, Tryz.ntmps141
          go_wp2_with (first | ((with_reducible refine gate_callee (f := 187) rfl ?_); refine goesL_ (some 8) rfl rfl Tryz.func187 (by kernel_rfl) rfl #[.string a0, .string (⟨#[64]⟩ : ByteArray)] rfl (by (try simp only [List.map_toArray, List.map_cons, List.map_nil]); first | done | rfl | (simp only [List.length_drop, List.length_take]; rfl)) ?_; (with_reducible refine (strings_Cut.calls a0 (⟨#[64]⟩ : ByteArray) t138 t139 t140 _ A2.out).mono ?_); rintro e w' ⟨rfl, ⟨nd, rfl⟩⟩; refine ⟨_, rfl, ?_⟩) | ((with_reducible refine gate_callee (f := 188) rfl ?_); refine goesL_ (some 13) rfl rfl Tryz.func188 (by kernel_rfl) rfl #[.string t138, .string (⟨#[]⟩ : ByteArray)] rfl (by (try simp only [List.map_toArray, List.map_cons, List.map_nil]); first | done | rfl | (simp only [List.length_drop, List.length_take]; rfl)) ?_; (with_reducible refine (name_all.calls k t138 (⟨#[]⟩ : ByteArray) true _ A3.out).mono ?_); rintro e w' ⟨rfl, ⟨nd, rfl⟩⟩; refine ⟨_, rfl, ?_⟩; have p6 : 0 ≤ (0 : Int) := (by omega); have q6 : 0 < t138.size := (by have : (0 : Int) < (t138.size : Int) := of_decide_eq_true (by first | (with_reducible assumption) | assumption); omega); have hx6 : ∀ h : 0 < t138.size, ((t138[0]'h).toNat : Int) = bt t138 0 := bt_at t138 0; clear p6; have qi6 : (0 < (t138.size : Int)) = True := eq_true (of_decide_eq_true (by first | (with_reducible assumption) | assumption)); replace q6 := eq_true q6) | (go_at_call 189; (with_reducible refine (name_letter.calls (bt t138 0) false _ A7.out).mono ?_); rintro e w' ⟨rfl, ⟨nd, rfl⟩⟩; have p11 : 0 ≤ (0 : Int) := (by omega); have q11 : 0 < t138.size := (by have : (0 : Int) < (t138.size : Int) := of_decide_eq_true (by first | (with_reducible assumption) | assumption); omega); have hx11 : ∀ h : 0 < t138.size, ((t138[0]'h).toNat : Int) = bt t138 0 := bt_at t138 0; clear p11; have qi11 : (0 < (t138.size : Int)) = True := eq_true (of_decide_eq_true (by first | (with_reducible assumption) | assumption)); replace q11 := eq_true q11))
          go_ret
          exact ⟨by first | rfl | (simp; done) | (simp [*]; done), by repeat (first | exact Drawn0.refl _ | apply Drawn0.step)⟩
    · rw [if_neg c5] at H
      exact absurd H (by simp)
  · replace c4 := Bool.eq_false_iff.mpr c4
    subst c4
    have H1 : (some false) = some r := by rw [if_neg (show ¬ (false = true) by decide)] at H; exact H
    clear H
    have H := H1
    clear H1
    obtain rfl := Option.some.inj H
    go_enter Tryz.func141, Tryz.ntmps141
    go_wp2_with (first | ((with_reducible refine gate_callee (f := 187) rfl ?_); refine goesL_ (some 8) rfl rfl Tryz.func187 (by kernel_rfl) rfl #[.string a0, .string (⟨#[64]⟩ : ByteArray)] rfl (by (try simp only [List.map_toArray, List.map_cons, List.map_nil]); first | done | rfl | (simp only [List.length_drop, List.length_take]; rfl)) ?_; (with_reducible refine (strings_Cut.calls a0 (⟨#[64]⟩ : ByteArray) t138 t139 t140 _ A2.out).mono ?_); rintro e w' ⟨rfl, ⟨nd, rfl⟩⟩; refine ⟨_, rfl, ?_⟩) | ((with_reducible refine gate_callee (f := 188) rfl ?_); refine goesL_ (some 13) rfl rfl Tryz.func188 (by kernel_rfl) rfl #[.string t138, .string (⟨#[]⟩ : ByteArray)] rfl (by (try simp only [List.map_toArray, List.map_cons, List.map_nil]); first | done | rfl | (simp only [List.length_drop, List.length_take]; rfl)) ?_; (with_reducible refine (name_all.calls k t138 (⟨#[]⟩ : ByteArray) false _ A3.out).mono ?_); rintro e w' ⟨rfl, ⟨nd, rfl⟩⟩; refine ⟨_, rfl, ?_⟩))
    go_ret
    exact ⟨by first | rfl | (simp; done) | (simp [*]; done), by repeat (first | exact Drawn0.refl _ | apply Drawn0.step)⟩
end Go.Proofs.YtkfcgjopabcbeaaGreatDoor.PV

namespace Go.Proofs.YtkfcgjopabcbeaaGreatDoor.PV
open Go.RowKit Go.Proofs.YtkfcgjopabcbeaaGreatDoorW.PrintWords Go.Proofs.YtkfcgjopabcbeaaGreatDoorW.PrintLast Go.Proofs.YtkfcgjopabcbeaaGreatDoorW.PrintMore
attribute [local go_sem] max2_int min2_int max_two min_two max_three min_three max_four min_four   -- for this text's walks alone
set_option linter.unusedVariables false
set_option linter.unusedSimpArgs false
def txts (xs : List ByteArray) : List (List UInt8) := xs.map (·.data.toList)
def dupB (xs : List ByteArray) : Bool := decide ((Lib.compact ((txts xs).mergeSort fun x y => decide (x ≤ y))).length < xs.length)
theorem txts_len (xs : List ByteArray) : (txts xs).length = xs.length := by simp [txts]
theorem reps_stringsC {w : World} {base : Nat} {ok : Nat → Prop} {xs : List ByteArray} {cs : List Value} (h : Reps (Kd.string.M w base ok) 1 xs cs) : cs = (txts xs).map encStr := by
  apply List.ext_getElem?
  intro j
  by_cases hj : j < xs.length
  · have h2 := h.2 j xs[j] (List.getElem?_eq_getElem hj)
    have h1 := h.1
    have hl : j < cs.length := by omega
    have h3 : (cs.drop (j * 1)).take 1 = [.string xs[j]] := h2
    rw [Nat.mul_one, List.drop_eq_getElem_cons hl] at h3
    simp only [List.take_succ_cons, List.take_zero, List.cons.injEq, and_true] at h3
    rw [List.getElem?_eq_getElem hl, h3]
    simp [txts, hj]
  · have h1 := h.1
    rw [List.getElem?_eq_none (by omega), List.getElem?_eq_none (by simp [txts]; omega)]
set_option maxRecDepth 100000 in
theorem twice_calls (v : Value) (xs : List ByteArray) (W : World) (base : Nat) (ok : Nat → Prop) (hR : Kd.R Kd.string 9 W base ok v xs) (hl : xs.length < 4611686018427387904) :
    Calls Tryz.prog 145 #[v] W fun e w' => e = .returned (.bool (dupB xs)) ∧ W.grownBy w' v.ownBlock := by
  obtain ⟨_, inner, ho, hr⟩ := hR
  have hi := reps_stringsC hr
  subst hi
  clear hr
  rcases ho.2 with ⟨rfl, h0⟩ | ⟨g, cap, cur, rfl, hg, hb, h1, h2, h3, h4⟩
  · have hx : xs = [] := List.eq_nil_of_length_eq_zero h0
    subst hx
    have q1 := fun W => Tryz.slices_Sort_string_none none 0 W
    have q2 := fun W => Tryz.slices_Compact_string_empty none 0 W
    clear h0 ho
    have hd : dupB [] = false := by decide
    rw [hd]
    go_enter Tryz.func145, Tryz.ntmps145
    go_wp2_with (first | (go_at_call 191; refine (q1 _).mono ?_; rintro e w' ⟨rfl, rfl⟩) | (go_at_call 192; refine (q2 _).mono ?_; rintro e w' ⟨rfl, rfl⟩))
    go_ret
    exact ⟨rfl, World.grownBy.refl _ _⟩
  · have hlt : g < W.heap.size := (Array.getElem?_eq_some_iff.1 hb).1
    have q1 := Tryz.slices_Sort_string g 0 cap (txts xs) W (holds_of_block (by exact hb) (by rw [txts_len]; rw [show Kd.string.sz = 1 from rfl, Nat.mul_one] at h4; exact h4)) hlt (by rw [txts_len]; exact hl)
    rw [txts_len] at q1
    clear ho
    obtain ⟨ss, hss⟩ : ∃ ss, ss = (txts xs).mergeSort fun x y => decide (x ≤ y) := ⟨_, rfl⟩
    have hsl : ss.length = xs.length := by rw [hss, List.length_mergeSort, txts_len]
    have hd : dupB xs = decide ((Lib.compact ss).length < xs.length) := by rw [hss]; rfl
    have q2 : ∀ os m, Calls Tryz.prog 192 #[.slice (some ⟨g, 0, none⟩) xs.length cap] ((Sort.grow (Sort.putRow encStr (Sort.ahead W m) g 0 ss.toArray) os)) fun e w' => e = .returned (.slice (some ⟨g, 0, none⟩) (Lib.compact ss).length cap) ∧ W.grownBy w' (some g) := by
      intro os m
      have hb2 := Go.heap_sorted (os := os) (n := m) ss.toArray (show W.heap[g]? = some (.cells cur 9 (0, 0)) from hb)
      have q := Tryz.slices_Compact_string g 0 cap ss (Sort.grow (Sort.putRow encStr (Sort.ahead W m) g 0 ss.toArray) os) (holds_of_block hb2 (take_putCells cur ss (by rw [hsl, h3, show Kd.string.sz = 1 from rfl]; omega))) (by rw [hsl]; omega) (by rw [hsl]; exact h1)
      rw [hsl] at q
      refine q.mono ?_
      rintro e w' ⟨rfl, k, rfl⟩
      refine ⟨rfl, ?_⟩
      have g1 : W.grownBy (Sort.grow (Sort.putRow encStr (Sort.ahead W m) g 0 ss.toArray) os) (some g) := grownBy_sorted (w := W) ss.toArray
      have g2 := grownBy_sorted (w := Sort.grow (Sort.putRow encStr (Sort.ahead W m) g 0 ss.toArray) os) (g := g) (n := k) (os := #[]) (Lib.compact ss ++ List.replicate (xs.length - (Lib.compact ss).length) []).toArray
      rw [Sort.grow_empty] at g2
      exact World.grownBy.trans g1 g2
    rw [hd]
    have hg0 := hss
    rw [← hss] at q1
    clear hss hg0 hd hsl hb h2 h3 h4 hg h1
    go_enter Tryz.func145, Tryz.ntmps145
    go_wp2_with (first | (go_at_call 191; refine q1.mono ?_; rintro e w' ⟨rfl, m, os, rfl⟩) | (go_at_call 192; refine (q2 os m).mono ?_; rintro e w' ⟨rfl, hgr⟩))
    go_ret
    exact ⟨rfl, hgr⟩
def badIx (k : Nat) : List ByteArray → Nat → Option Int
  | [], _ => some (-1)
  | s :: r, i => (name_Prop.f k s).bind fun b => if b = true then badIx k r (i + 1) else some (i : Int)
set_option maxRecDepth 100000 in
theorem bad_lit (k : Nat) (s : ByteArray) (b : Bool) (w : World) (h : name_Prop.f k s = some b) : Calls Tryz.prog 143 #[.string s] w fun e w' => e = .returned (.bool (!b)) ∧ Drawn0 w w' := by
  have q := fun W => name_Prop.calls k s b W h
  clear h
  go_enter Tryz.func143, Tryz.ntmps143
  go_wp2_with (go_at_call 144; refine (q _).mono ?_; rintro e w' ⟨rfl, ⟨nd, rfl⟩⟩)
  go_ret
  exact ⟨rfl, ⟨_, rfl⟩⟩
theorem str_cell {w : World} {A : Option Addr} {xs : List ByteArray} (h : Kd.C Kd.string w A xs.length xs) (i : Nat) (hi : i < xs.length) : ∃ ad, A = some ad ∧ w.cell? (ad.add i) = some (.string (xs.getD i ⟨#[]⟩)) := by
  obtain ⟨ad, c, e, hc, hk, hcell⟩ := ReadsRow.get_ h ⟨#[]⟩ (i : Int) (Int.natCast_nonneg i) (by omega)
  have hk' : c = [.string (xs.getD (i : Int).toNat ⟨#[]⟩)] := hk
  subst hk'
  have := hcell 0 _ rfl
  simp only [Int.toNat_natCast, show Kd.string.sz = 1 from rfl, Nat.add_zero, Nat.mul_one] at this
  exact ⟨ad, e, this⟩
set_option maxRecDepth 100000 in
set_option maxHeartbeats 2000000 in
theorem bad_index (k : Nat) (xs : List ByteArray) (A : Option Addr) (c : Nat) (r : Int) (w : World) (hr : Kd.C Kd.string w A xs.length xs) (h : badIx k xs 0 = some r) :
    Calls Tryz.prog 190 #[.slice A xs.length c, .func (.func 143) #[] #[]] w fun e w' => e = .returned (.int .i64 r) ∧ Drawn0 w w' := by
  have hm : xs.length ≤ 9223372036854775807 := hr.2.1
  have HR := Aside0.mk hr
  have HM := Aside0.mk hm
  have H0 := Aside0.mk h
  clear hr hm h
  go_enter Tryz.func190, Tryz.ntmps190
  go_wp2
  go_loopg [8] (xs.length + 1) (fun kq v8 w' => ∃ i : Nat, v8 = .int .i64 (i : Int) ∧ Aside0 (i + kq = xs.length + 1) ∧ Aside0 (badIx k (xs.drop i) i = some r) ∧ Aside0 (Drawn0 w w'))
  case atStart => exact ⟨0, rfl, ⟨by omega⟩, ⟨by rw [List.drop_zero]; exact H0.out⟩, ⟨⟨0, rfl⟩⟩⟩
  case round =>
    obtain ⟨i, rfl, HI, HX, HD⟩ := hrel
    obtain ⟨⟨n0, rfl⟩⟩ := HD
    by_cases ci : (i : Int) < (xs.length : Int)
    · have cib : decide ((i : Int) < (xs.length : Int)) = true := decide_eq_true ci
      have cil : i < xs.length := by omega
      obtain ⟨ad, e1, hx0⟩ := str_cell HR.out i cil
      subst e1
      have hk : badIx k (xs.drop i) i = (name_Prop.f k (xs.getD i ⟨#[]⟩)).bind fun b => if b = true then badIx k (xs.drop (i + 1)) (i + 1) else some (i : Int) := by
        rw [List.drop_eq_getElem_cons cil]
        simp only [badIx, List.getD_eq_getElem?_getD, List.getElem?_eq_getElem cil, Option.getD_some]
      have hb := HX.out
      rw [hk] at hb
      obtain ⟨b, hb0, hb1⟩ := Option.bind_eq_some_iff.mp hb
      obtain ⟨s, hs⟩ : ∃ s, s = xs.getD i ⟨#[]⟩ := ⟨_, rfl⟩
      rw [← hs] at hb0 hx0
      have q := fun W => bad_lit k s b W hb0
      clear hk hb hb0 HX hs
      cases gk with
      | zero => have := HI.out; omega
      | succ k1 =>
        cases b with
        | false =>
          have hb2 : (i : Int) = r := by rw [if_neg (by decide)] at hb1; exact Option.some.inj hb1
          subst hb2
          clear hb1
          go_wp2_with (go_at_call 143; refine (q _).mono ?_; rintro e w2 ⟨rfl, ⟨nd, rfl⟩⟩)
          go_ret
          exact ⟨rfl, by repeat (first | exact ⟨0, rfl⟩ | exact Drawn0.refl _ | apply Drawn0.step)⟩
        | true =>
          rw [if_pos rfl] at hb1
          have HX := Aside0.mk hb1
          have hw := i64_w ((i : Int) + 1)
          have hw2 : Go.RowKit.wrap64 ((i : Int) + 1) = ((i + 1 : Nat) : Int) := by have := HM.out; unfold Go.RowKit.wrap64; omega
          clear hb1
          go_wp2_with (go_at_call 143; refine (q _).mono ?_; rintro e w2 ⟨rfl, ⟨nd, rfl⟩⟩)
          go_roundg k1
          case measure => omega
          case rel => exact ⟨i + 1, by first | rfl | (simp; done) | (simp [*]; done), ⟨by have := HI.out; omega⟩, HX, ⟨⟨_, rfl⟩⟩⟩
    · have cib : decide ((i : Int) < (xs.length : Int)) = false := decide_eq_false ci
      have hX := HX.out
      rw [List.drop_of_length_le (by omega)] at hX
      obtain rfl := Option.some.inj hX
      clear HX hX
      go_wp2
      go_ret
      exact ⟨rfl, ⟨_, rfl⟩⟩
set_option maxRecDepth 100000 in
theorem bad_has (k : Nat) (xs : List ByteArray) (A : Option Addr) (c : Nat) (r : Int) (w : World) (hr : Kd.C Kd.string w A xs.length xs) (h : badIx k xs 0 = some r) :
    Calls Tryz.prog 142 #[.slice A xs.length c, .func (.func 143) #[] #[]] w fun e w' => e = .returned (.bool (decide (0 ≤ r))) ∧ Drawn0 w w' := by
  have q := fun n => bad_index k xs A c r (w.drewN n) (Kd.C_drewN hr n) h
  clear hr h
  go_enter Tryz.func142, Tryz.ntmps142
  go_wp2_with (go_at_call 190; refine (q 0).mono ?_; rintro e w2 ⟨rfl, ⟨nd, rfl⟩⟩)
  go_ret
  exact ⟨by first | rfl | (simp; done), ⟨_, rfl⟩⟩
theorem bad_has_v (k : Nat) (v : Value) (xs : List ByteArray) (w : World) (base : Nat) (ok : Nat → Prop) (r : Int) (hr : Kd.R Kd.string 9 w base ok v xs) (h : badIx k xs 0 = some r) :
    Calls Tryz.prog 142 #[v, .func (.func 143) #[] #[]] w fun e w' => e = .returned (.bool (decide (0 ≤ r))) ∧ Drawn0 w w' := by
  obtain ⟨A, c, rfl, _, hC⟩ := Kd.R_reads hr
  exact bad_has k xs A c r w hC h
theorem own_from {w : World} {base : Nat} {ok : Nat → Prop} {v : Value} {xs : List ByteArray} (hr : Kd.R Kd.string 9 w base ok v xs) : ∀ k, v.ownBlock = some k → base ≤ k := fun k hk => own_base hr.2.choose_spec.1 k hk
theorem below_grown_own {W1 W w' : World} {row : Option Nat} (h : Below W1.heap.size W1 W) (hg : W.grownBy w' row) (hr : ∀ k, row = some k → W1.heap.size ≤ k) : Below W1.heap.size W1 w' := h.grown hg h.size hr
theorem w_succ {i n : Nat} (h : i < n) (hn : n ≤ 9223372036854775807) : Go.RowKit.wrap64 ((i : Int) + 1) = ((i + 1 : Nat) : Int) := by unfold Go.RowKit.wrap64; omega
theorem w_two : Go.RowKit.wrap64 ((1 : Int) + 1) = 2 := by unfold Go.RowKit.wrap64; omega
def tree_check.kids (F : ByteArray → List S158 → List S27 → Option Int) : List S27 → Option Int
  | [] => some 0
  | x :: r => (F x.f0 x.f1 x.f2).bind fun e => if e = 0 then tree_check.kids F r else some e
def tree_check.node (k : Nat) (nm : ByteArray) (ps : List S158) (ks : List S27) (d : Int) : Option Int :=
  (tree_names.f k nm ps ks).bind fun lm => if d > 16 then some 6 else if d < 1 then none else (name_Node.f k nm).bind fun b =>
    if d = 1 ∧ nm.toList ≠ [] then some 5 else if d > 1 ∧ b = false then some 5 else (badIx k lm.1 0).bind fun i => if 0 ≤ i then some 5 else
      if lm.1.length < 4611686018427387904 ∧ lm.2.length < 4611686018427387904 then (if dupB lm.1 = true then some 9 else if dupB lm.2 = true then some 9 else some 0) else none
def tree_check.f : Nat → ByteArray → List S158 → List S27 → Int → Option Int
  | 0, _, _, _, _ => none
  | k + 1, nm, ps, ks, d => (tree_check.node k nm ps ks d).bind fun e => if e = 0 then tree_check.kids (fun x y z => tree_check.f k x y z (wrap64 (d + 1))) ks else some e
attribute [local irreducible] Go.Calls in
set_option maxRecDepth 100000 in
set_option maxHeartbeats 1000000 in
theorem tree_check.calls (k : Nat) : ∀ (a0_0 : ByteArray) (A0_1 : Option Addr) (c0_1 : Nat) (l0_1 : List (S158)) (A0_2 : Option Addr) (c0_2 : Nat) (l0_2 : List (S27)) (a1 : Int) (r : Int) (w : World) (hr0_1 : Kd.C k158 w A0_1 l0_1.length l0_1) (hc0_1 : l0_1.length ≤ c0_1) (hr0_2 : Kd.C k27 w A0_2 l0_2.length l0_2) (hc0_2 : l0_2.length ≤ c0_2) (h : tree_check.f k a0_0 l0_1 l0_2 a1 = some r),
    Calls Tryz.prog 75 #[.agg #[.string a0_0, .slice A0_1 l0_1.length c0_1, .slice A0_2 l0_2.length c0_2], .int .i64 a1] w fun e w' => e = .returned (.int .i64 r) ∧ Below w.heap.size w w' := by
  induction k with
  | zero => intro a0_0 A0_1 c0_1 l0_1 A0_2 c0_2 l0_2 a1 r w hr0_1 hc0_1 hr0_2 hc0_2 h; cases h
  | succ k ih =>
  intro a0_0 A0_1 c0_1 l0_1 A0_2 c0_2 l0_2 a1 r w hr0_1 hc0_1 hr0_2 hc0_2 h
  have hu27 := Tryz.underlying27
  have HR2 := Aside0.mk hr0_2
  have H0 : (tree_check.node k a0_0 l0_1 l0_2 a1).bind (fun e => if e = 0 then tree_check.kids (fun x y z => tree_check.f k x y z (wrap64 (a1 + 1))) l0_2 else some e) = some r := h
  clear h
  obtain ⟨e0, hn, H0⟩ := Option.bind_eq_some_iff.mp H0
  unfold tree_check.node at hn
  obtain ⟨⟨lm1, lm2⟩, hnames, hn⟩ := Option.bind_eq_some_iff.mp hn
  simp only at hn
  have hbk := Aside0.mk (blk_new w (.cells #[.string a0_0, .slice A0_1 l0_1.length c0_1, .slice A0_2 l0_2.length c0_2] 27 (0, 0)))
  obtain ⟨W1, hW1⟩ : ∃ W1, W1 = w.alloc (.cells #[.string a0_0, .slice A0_1 l0_1.length c0_1, .slice A0_2 l0_2.length c0_2] 27) := ⟨_, rfl⟩
  have hs1 : W1.heap.size = w.heap.size + 1 := by rw [hW1]; exact Array.size_push ..
  have hb1 := Aside0.mk (show Below w.heap.size w W1 by rw [hW1]; exact below_alloc (Below.refl _ _) _)
  have qn := tree_names.calls k a0_0 A0_1 c0_1 l0_1 A0_2 c0_2 l0_2 lm1 lm2 W1 (Kd.C_below hr0_1 hb1.out) hc0_1 (Kd.C_below hr0_2 hb1.out) hc0_2 hnames
  have hs1' := Aside0.mk hs1
  have hbk1 := Aside0.mk (show W1.heap[w.heap.size]? = some (.cells #[.string a0_0, .slice A0_1 l0_1.length c0_1, .slice A0_2 l0_2.length c0_2] 27 (0, 0)) by rw [hW1]; exact hbk.out)
  have HW1 := Aside0.mk hW1
  rw [hW1] at qn
  clear hW1
  have hm2 : l0_2.length ≤ 9223372036854775807 := hr0_2.2.1
  have HM := Aside0.mk hm2
  clear hr0_1 hr0_2 hnames hbk hs1 hm2
  by_cases d16 : a1 > 16
  · rw [if_pos d16] at hn
    obtain rfl := Option.some.inj hn
    obtain rfl := Option.some.inj H0
    have d16b : decide (a1 > 16) = true := decide_eq_true d16
    have d16c : decide (16 < a1) = true := decide_eq_true d16
    clear hn d16
    go_enter Tryz.func75, Tryz.ntmps75
    go_wp2_with (go_at_call 140; refine (qn).mono ?_; rintro e w' ⟨v0, v1, rfl, h0, h1, hb⟩; rw [← HW1.out] at h0 h1 hb; have hk := blk_below hbk1.out hb; have HB := Aside0.mk hb; have R0 := Aside0.mk h0; have R1 := Aside0.mk h1; clear h0 h1 hb; have hc0 : w'.cell? ⟨w.heap.size, 0, none⟩ = some (.string a0_0) := (blk_cell hk 0).trans rfl; have hc2 : w'.cell? ⟨w.heap.size, 2, none⟩ = some (.slice A0_2 l0_2.length c0_2) := (blk_cell hk 2).trans rfl; have hz0 := blk_frozen hk 0; have hz2 := blk_frozen hk 2; clear hk)
    go_ret
    exact ⟨by first | rfl | (simp; done), below_step hb1.out (by repeat (first | exact HB.out | apply below_alloc | apply pw_below_drewN | apply below_drew1))⟩
  rw [if_neg d16] at hn
  have d16b : decide (a1 > 16) = false := decide_eq_false d16
  have d16c : decide (16 < a1) = false := decide_eq_false d16
  by_cases dl : a1 < 1
  · rw [if_pos dl] at hn
    cases hn
  rw [if_neg dl] at hn
  obtain ⟨b, hnode, hn⟩ := Option.bind_eq_some_iff.mp hn
  have qnode := fun W => name_Node.calls k a0_0 b W hnode
  clear hnode
  by_cases d1 : a1 = 1
  · subst d1
    by_cases hz : a0_0.toList = ([] : List UInt8)
    · have hz0 : (a0_0.toList == ([] : List UInt8)) = true := beq_iff_eq.mpr hz
      have hz1 : (a0_0.toList != ([] : List UInt8)) = false := bne_eq_false_iff_eq.mpr hz
      rw [if_neg (fun h => h.2 hz), if_neg (by omega)] at hn
      clear d16 dl hz
      obtain ⟨i0, hbad0, hn⟩ := Option.bind_eq_some_iff.mp hn
      have hbad := Aside0.mk hbad0
      clear hbad0
      by_cases ci0 : 0 ≤ i0
      · rw [if_pos ci0] at hn
        obtain rfl := Option.some.inj hn
        obtain rfl := Option.some.inj H0
        have ci0b : decide (0 ≤ i0) = true := decide_eq_true ci0
        clear hn ci0
        go_enter Tryz.func75, Tryz.ntmps75
        go_wp2_with (first | (go_at_call 140; refine (qn).mono ?_; rintro e w' ⟨v0, v1, rfl, h0, h1, hb⟩; rw [← HW1.out] at h0 h1 hb; have hk := blk_below hbk1.out hb; have HB := Aside0.mk hb; have R0 := Aside0.mk h0; have R1 := Aside0.mk h1; clear h0 h1 hb; have hc0 : w'.cell? ⟨w.heap.size, 0, none⟩ = some (.string a0_0) := (blk_cell hk 0).trans rfl; have hc2 : w'.cell? ⟨w.heap.size, 2, none⟩ = some (.slice A0_2 l0_2.length c0_2) := (blk_cell hk 2).trans rfl; have hz0 := blk_frozen hk 0; have hz2 := blk_frozen hk 2; clear hk) | (go_at_call 141; refine (qnode _).mono ?_; rintro e w' ⟨rfl, ⟨nd, rfl⟩⟩) | (go_at_call 142; refine (bad_has_v k v0 lm1 _ W1.heap.size (fun k_ => some k_ ≠ v1.ownBlock) i0 (by (with_reducible repeat (first | apply Kd.R_alloc | apply Kd.R_drewN | apply Kd.R_drew)); exact R0.out) hbad.out).mono ?_; rintro e w' ⟨rfl, ⟨nd2, rfl⟩⟩))
        go_ret
        exact ⟨by first | rfl | (simp; done), below_step hb1.out (by repeat (first | exact HB.out | apply below_alloc | apply pw_below_drewN | apply below_drew1))⟩
      rw [if_neg ci0] at hn
      have ci0b : decide (0 ≤ i0) = false := decide_eq_false ci0
      clear ci0
      by_cases hlen : ¬ (lm1.length < 4611686018427387904 ∧ lm2.length < 4611686018427387904)
      · rw [if_neg hlen] at hn
        cases hn
      replace hlen := Decidable.not_not.mp hlen
      rw [if_pos hlen] at hn
      have HL := Aside0.mk hlen
      clear hlen
      by_cases u1 : dupB lm1 = true
      · rw [if_pos u1] at hn
        obtain rfl := Option.some.inj hn
        obtain rfl := Option.some.inj H0
        clear hn
        go_enter Tryz.func75, Tryz.ntmps75
        go_wp2_with (first | (go_at_call 140; refine (qn).mono ?_; rintro e w' ⟨v0, v1, rfl, h0, h1, hb⟩; rw [← HW1.out] at h0 h1 hb; have hk := blk_below hbk1.out hb; have HB := Aside0.mk hb; have R0 := Aside0.mk h0; have R1 := Aside0.mk h1; clear h0 h1 hb; have hc0 : w'.cell? ⟨w.heap.size, 0, none⟩ = some (.string a0_0) := (blk_cell hk 0).trans rfl; have hc2 : w'.cell? ⟨w.heap.size, 2, none⟩ = some (.slice A0_2 l0_2.length c0_2) := (blk_cell hk 2).trans rfl; have hz0 := blk_frozen hk 0; have hz2 := blk_frozen hk 2; clear hk; have qt0 := fun n => twice_calls v0 lm1 (w'.drewN n) W1.heap.size (fun k_ => some k_ ≠ v1.ownBlock) (Kd.R_drewN R0.out n) HL.out.1; have qu0 := twice_calls v0 lm1 w' W1.heap.size (fun k_ => some k_ ≠ v1.ownBlock) R0.out HL.out.1) | (go_at_call 141; refine (qnode _).mono ?_; rintro e w' ⟨rfl, ⟨nd, rfl⟩⟩) | (go_at_call 142; refine (bad_has_v k v0 lm1 _ W1.heap.size (fun k_ => some k_ ≠ v1.ownBlock) i0 (by (with_reducible repeat (first | apply Kd.R_alloc | apply Kd.R_drewN | apply Kd.R_drew)); exact R0.out) hbad.out).mono ?_; rintro e w' ⟨rfl, ⟨nd2, rfl⟩⟩) | (go_at_call 145; (first | (refine (qt0 _).mono ?_) | (refine qu0.mono ?_)); rintro e w2 ⟨rfl, hg2⟩; have nr_ := Aside0.mk (Kd.R_grown (ok := fun k_ => some k_ ≠ v0.ownBlock) (by (with_reducible repeat (first | apply Kd.R_alloc | apply Kd.R_drewN | apply Kd.R_drew)); exact R1.out) hg2 (fun _ h => h)); have nb_ := Aside0.mk (below_grown_own (W1 := W1) (by repeat (first | exact HB.out | apply below_alloc | apply pw_below_drewN | apply below_drew1)) hg2 (own_from R0.out)); have hk_ := blk_below hbk1.out nb_.out; have hc2_2 : w2.cell? ⟨w.heap.size, 2, none⟩ = some (.slice A0_2 l0_2.length c0_2) := (blk_cell hk_ 2).trans rfl; have hz2_2 := blk_frozen hk_ 2; clear HB hk_; have HB := nb_; clear nb_ hg2; clear R1; have R1 := nr_; clear nr_; have qt1 := fun n => twice_calls v1 lm2 (w2.drewN n) W1.heap.size (fun k_ => some k_ ≠ v0.ownBlock) (Kd.R_drewN R1.out n) HL.out.2; have qu1 := twice_calls v1 lm2 w2 W1.heap.size (fun k_ => some k_ ≠ v0.ownBlock) R1.out HL.out.2) | (go_at_call 145; (first | (refine (qt1 _).mono ?_) | (refine qu1.mono ?_)); rintro e w3 ⟨rfl, hg3⟩; have nb_ := Aside0.mk (below_grown_own (W1 := W1) (by repeat (first | exact HB.out | apply below_alloc | apply pw_below_drewN | apply below_drew1)) hg3 (own_from R1.out)); have hk_ := blk_below hbk1.out nb_.out; have hc2_3 : w3.cell? ⟨w.heap.size, 2, none⟩ = some (.slice A0_2 l0_2.length c0_2) := (blk_cell hk_ 2).trans rfl; have hz2_3 := blk_frozen hk_ 2; clear HB hk_; have HB := nb_; clear nb_ hg3))
        go_ret
        exact ⟨by first | rfl | (simp; done), below_step hb1.out (by repeat (first | exact HB.out | apply below_alloc | apply pw_below_drewN | apply below_drew1))⟩
      rw [if_neg u1] at hn
      replace u1 := Bool.eq_false_iff.mpr u1
      by_cases u2 : dupB lm2 = true
      · rw [if_pos u2] at hn
        obtain rfl := Option.some.inj hn
        obtain rfl := Option.some.inj H0
        clear hn
        go_enter Tryz.func75, Tryz.ntmps75
        go_wp2_with (first | (go_at_call 140; refine (qn).mono ?_; rintro e w' ⟨v0, v1, rfl, h0, h1, hb⟩; rw [← HW1.out] at h0 h1 hb; have hk := blk_below hbk1.out hb; have HB := Aside0.mk hb; have R0 := Aside0.mk h0; have R1 := Aside0.mk h1; clear h0 h1 hb; have hc0 : w'.cell? ⟨w.heap.size, 0, none⟩ = some (.string a0_0) := (blk_cell hk 0).trans rfl; have hc2 : w'.cell? ⟨w.heap.size, 2, none⟩ = some (.slice A0_2 l0_2.length c0_2) := (blk_cell hk 2).trans rfl; have hz0 := blk_frozen hk 0; have hz2 := blk_frozen hk 2; clear hk; have qt0 := fun n => twice_calls v0 lm1 (w'.drewN n) W1.heap.size (fun k_ => some k_ ≠ v1.ownBlock) (Kd.R_drewN R0.out n) HL.out.1; have qu0 := twice_calls v0 lm1 w' W1.heap.size (fun k_ => some k_ ≠ v1.ownBlock) R0.out HL.out.1) | (go_at_call 141; refine (qnode _).mono ?_; rintro e w' ⟨rfl, ⟨nd, rfl⟩⟩) | (go_at_call 142; refine (bad_has_v k v0 lm1 _ W1.heap.size (fun k_ => some k_ ≠ v1.ownBlock) i0 (by (with_reducible repeat (first | apply Kd.R_alloc | apply Kd.R_drewN | apply Kd.R_drew)); exact R0.out) hbad.out).mono ?_; rintro e w' ⟨rfl, ⟨nd2, rfl⟩⟩) | (go_at_call 145; (first | (refine (qt0 _).mono ?_) | (refine qu0.mono ?_)); rintro e w2 ⟨rfl, hg2⟩; have nr_ := Aside0.mk (Kd.R_grown (ok := fun k_ => some k_ ≠ v0.ownBlock) (by (with_reducible repeat (first | apply Kd.R_alloc | apply Kd.R_drewN | apply Kd.R_drew)); exact R1.out) hg2 (fun _ h => h)); have nb_ := Aside0.mk (below_grown_own (W1 := W1) (by repeat (first | exact HB.out | apply below_alloc | apply pw_below_drewN | apply below_drew1)) hg2 (own_from R0.out)); have hk_ := blk_below hbk1.out nb_.out; have hc2_2 : w2.cell? ⟨w.heap.size, 2, none⟩ = some (.slice A0_2 l0_2.length c0_2) := (blk_cell hk_ 2).trans rfl; have hz2_2 := blk_frozen hk_ 2; clear HB hk_; have HB := nb_; clear nb_ hg2; clear R1; have R1 := nr_; clear nr_; have qt1 := fun n => twice_calls v1 lm2 (w2.drewN n) W1.heap.size (fun k_ => some k_ ≠ v0.ownBlock) (Kd.R_drewN R1.out n) HL.out.2; have qu1 := twice_calls v1 lm2 w2 W1.heap.size (fun k_ => some k_ ≠ v0.ownBlock) R1.out HL.out.2) | (go_at_call 145; (first | (refine (qt1 _).mono ?_) | (refine qu1.mono ?_)); rintro e w3 ⟨rfl, hg3⟩; have nb_ := Aside0.mk (below_grown_own (W1 := W1) (by repeat (first | exact HB.out | apply below_alloc | apply pw_below_drewN | apply below_drew1)) hg3 (own_from R1.out)); have hk_ := blk_below hbk1.out nb_.out; have hc2_3 : w3.cell? ⟨w.heap.size, 2, none⟩ = some (.slice A0_2 l0_2.length c0_2) := (blk_cell hk_ 2).trans rfl; have hz2_3 := blk_frozen hk_ 2; clear HB hk_; have HB := nb_; clear nb_ hg3))
        go_ret
        exact ⟨by first | rfl | (simp; done), below_step hb1.out (by repeat (first | exact HB.out | apply below_alloc | apply pw_below_drewN | apply below_drew1))⟩
      rw [if_neg u2] at hn
      replace u2 := Bool.eq_false_iff.mpr u2
      obtain rfl := Option.some.inj hn
      rw [if_pos rfl] at H0
      rw [w_two] at H0
      have HK := Aside0.mk H0
      clear H0 hn
      go_enter Tryz.func75, Tryz.ntmps75
      go_wp2_with (first | (go_at_call 140; refine (qn).mono ?_; rintro e w' ⟨v0, v1, rfl, h0, h1, hb⟩; rw [← HW1.out] at h0 h1 hb; have hk := blk_below hbk1.out hb; have HB := Aside0.mk hb; have R0 := Aside0.mk h0; have R1 := Aside0.mk h1; clear h0 h1 hb; have hc0 : w'.cell? ⟨w.heap.size, 0, none⟩ = some (.string a0_0) := (blk_cell hk 0).trans rfl; have hc2 : w'.cell? ⟨w.heap.size, 2, none⟩ = some (.slice A0_2 l0_2.length c0_2) := (blk_cell hk 2).trans rfl; have hz0 := blk_frozen hk 0; have hz2 := blk_frozen hk 2; clear hk; have qt0 := fun n => twice_calls v0 lm1 (w'.drewN n) W1.heap.size (fun k_ => some k_ ≠ v1.ownBlock) (Kd.R_drewN R0.out n) HL.out.1; have qu0 := twice_calls v0 lm1 w' W1.heap.size (fun k_ => some k_ ≠ v1.ownBlock) R0.out HL.out.1) | (go_at_call 141; refine (qnode _).mono ?_; rintro e w' ⟨rfl, ⟨nd, rfl⟩⟩) | (go_at_call 142; refine (bad_has_v k v0 lm1 _ W1.heap.size (fun k_ => some k_ ≠ v1.ownBlock) i0 (by (with_reducible repeat (first | apply Kd.R_alloc | apply Kd.R_drewN | apply Kd.R_drew)); exact R0.out) hbad.out).mono ?_; rintro e w' ⟨rfl, ⟨nd2, rfl⟩⟩) | (go_at_call 145; (first | (refine (qt0 _).mono ?_) | (refine qu0.mono ?_)); rintro e w2 ⟨rfl, hg2⟩; have nr_ := Aside0.mk (Kd.R_grown (ok := fun k_ => some k_ ≠ v0.ownBlock) (by (with_reducible repeat (first | apply Kd.R_alloc | apply Kd.R_drewN | apply Kd.R_drew)); exact R1.out) hg2 (fun _ h => h)); have nb_ := Aside0.mk (below_grown_own (W1 := W1) (by repeat (first | exact HB.out | apply below_alloc | apply pw_below_drewN | apply below_drew1)) hg2 (own_from R0.out)); have hk_ := blk_below hbk1.out nb_.out; have hc2_2 : w2.cell? ⟨w.heap.size, 2, none⟩ = some (.slice A0_2 l0_2.length c0_2) := (blk_cell hk_ 2).trans rfl; have hz2_2 := blk_frozen hk_ 2; clear HB hk_; have HB := nb_; clear nb_ hg2; clear R1; have R1 := nr_; clear nr_; have qt1 := fun n => twice_calls v1 lm2 (w2.drewN n) W1.heap.size (fun k_ => some k_ ≠ v0.ownBlock) (Kd.R_drewN R1.out n) HL.out.2; have qu1 := twice_calls v1 lm2 w2 W1.heap.size (fun k_ => some k_ ≠ v0.ownBlock) R1.out HL.out.2) | (go_at_call 145; (first | (refine (qt1 _).mono ?_) | (refine qu1.mono ?_)); rintro e w3 ⟨rfl, hg3⟩; have nb_ := Aside0.mk (below_grown_own (W1 := W1) (by repeat (first | exact HB.out | apply below_alloc | apply pw_below_drewN | apply below_drew1)) hg3 (own_from R1.out)); have hk_ := blk_below hbk1.out nb_.out; have hc2_3 : w3.cell? ⟨w.heap.size, 2, none⟩ = some (.slice A0_2 l0_2.length c0_2) := (blk_cell hk_ 2).trans rfl; have hz2_3 := blk_frozen hk_ 2; clear HB hk_; have HB := nb_; clear nb_ hg3))
      go_loopg [47] (l0_2.length + 1) (fun kq v47 w' => ∃ i : Nat, v47 = .int .i64 (i : Int) ∧ Aside0 (i + kq = l0_2.length + 1) ∧ Aside0 (tree_check.kids (fun x y z => tree_check.f k x y z 2) (l0_2.drop i) = some r) ∧ Aside0 (Below W1.heap.size W1 w'))
      case atStart => exact ⟨0, rfl, ⟨by omega⟩, ⟨by rw [List.drop_zero]; exact HK.out⟩, HB⟩
      case round =>
        clear hc0 hc2 hz0 hz2 hc2_2 hz2_2 hc2_3 hz2_3 u1 u2 qt0 qu0 qt1 qu1
        obtain ⟨i, rfl, HI, HX, HBr⟩ := hrel
        by_cases ci : (i : Int) < (l0_2.length : Int)
        · have cib : decide ((i : Int) < (l0_2.length : Int)) = true := decide_eq_true ci
          have cil : i < l0_2.length := by omega
          obtain ⟨ad, A1, c1, A2, c2, e1, hx0, hx1, hx2, hl1, hC1, hl2, hC2⟩ := at_T27 HR2.out (i : Int) (Int.natCast_nonneg i) ci
          subst e1
          simp only [Int.toNat_natCast] at hx0 hx1 hx2
          have HBw := Aside0.mk (below_step hb1.out HBr.out)
          replace hx0 := (HBw.out.cell (World.block_lt_of_cell? w _ hx0)).trans hx0
          replace hx1 := (HBw.out.cell (World.block_lt_of_cell? w _ hx1)).trans hx1
          replace hx2 := (HBw.out.cell (World.block_lt_of_cell? w _ hx2)).trans hx2
          have hX := HX.out
          rw [List.drop_eq_getElem_cons cil] at hX
          have hxe : l0_2[i] = rd_T27 l0_2 (i : Int) := by simp only [rd_T27, Int.toNat_natCast, List.getD_eq_getElem?_getD, List.getElem?_eq_getElem cil, Option.getD_some]
          rw [hxe] at hX
          obtain ⟨x, hx⟩ : ∃ x, x = rd_T27 l0_2 (i : Int) := ⟨_, rfl⟩
          rw [← hx] at hX hx0 hx1 hx2 hl1 hC1 hl2 hC2
          clear hx hxe HX
          obtain ⟨e1, hF, hX⟩ := Option.bind_eq_some_iff.mp hX
          have qk := fun W (hW : Below w.heap.size w W) => ih x.f0 A1 c1 x.f1 A2 c2 x.f2 2 e1 W (Kd.C_below hC1 hW) hl1 (Kd.C_below hC2 hW) hl2 hF
          have hwd := True.intro
          have hw := i64_w ((i : Int) + 1)
          have hw2 := w_succ cil HM.out
          clear hF hC1 hC2
          cases gk with
          | zero => exact absurd HI.out (by clear hwd hw hw2; omega)
          | succ k1 =>
            by_cases h0 : e1 = 0
            · rw [if_pos h0] at hX
              have HX := Aside0.mk hX
              have h0b : (e1 == 0) = true := beq_iff_eq.mpr h0
              have h0c : (e1 != 0) = false := bne_eq_false_iff_eq.mpr h0
              clear hX h0
              go_wp2_with (go_at_call 75; refine (qk _ ?hW).mono ?_; (case hW => repeat (first | exact HBw.out | apply below_alloc | apply pw_below_drewN | apply below_drew1)); rintro e w4 ⟨rfl, hb4⟩; have HB4 := Aside0.mk hb4; clear hb4)
              go_roundg k1
              case measure => clear hwd hw hw2; omega
              case rel => exact ⟨i + 1, by first | rfl | (simp; done) | (simp [*]; done), ⟨by clear hwd hw hw2; have := HI.out; omega⟩, HX, ⟨(by repeat (first | exact below_step (by repeat (first | exact HBr.out | apply below_alloc | apply pw_below_drewN | apply below_drew1)) HB4.out | apply below_drew1 | apply pw_below_drewN))⟩⟩
            · rw [if_neg h0] at hX
              obtain rfl := Option.some.inj hX
              have h0b : (e1 == 0) = false := beq_eq_false_iff_ne.mpr h0
              have h0c : (e1 != 0) = true := bne_iff_ne.mpr h0
              clear hX h0
              go_wp2_with (go_at_call 75; refine (qk _ ?hW).mono ?_; (case hW => repeat (first | exact HBw.out | apply below_alloc | apply pw_below_drewN | apply below_drew1)); rintro e w4 ⟨rfl, hb4⟩; have HB4 := Aside0.mk hb4; clear hb4)
              go_ret
              exact ⟨by first | rfl | (simp; done), below_step hb1.out (by repeat (first | exact below_step (by repeat (first | exact HBr.out | apply below_alloc | apply pw_below_drewN | apply below_drew1)) HB4.out | apply below_drew1 | apply pw_below_drewN))⟩
        · have cib : decide ((i : Int) < (l0_2.length : Int)) = false := decide_eq_false ci
          have hX := HX.out
          rw [List.drop_of_length_le (by omega)] at hX
          obtain rfl := Option.some.inj hX
          clear HX hX
          go_wp2
          go_ret
          exact ⟨rfl, below_step hb1.out (by repeat (first | exact HBr.out | apply below_drew1 | apply pw_below_drewN))⟩
    · have hz0 : (a0_0.toList == ([] : List UInt8)) = false := beq_eq_false_iff_ne.mpr hz
      have hz1 : (a0_0.toList != ([] : List UInt8)) = true := bne_iff_ne.mpr hz
      rw [if_pos ⟨rfl, hz⟩] at hn
      obtain rfl := Option.some.inj hn
      obtain rfl := Option.some.inj H0
      clear hn hz d16 dl
      go_enter Tryz.func75, Tryz.ntmps75
      go_wp2_with (first | (go_at_call 140; refine (qn).mono ?_; rintro e w' ⟨v0, v1, rfl, h0, h1, hb⟩; rw [← HW1.out] at h0 h1 hb; have hk := blk_below hbk1.out hb; have HB := Aside0.mk hb; have R0 := Aside0.mk h0; have R1 := Aside0.mk h1; clear h0 h1 hb; have hc0 : w'.cell? ⟨w.heap.size, 0, none⟩ = some (.string a0_0) := (blk_cell hk 0).trans rfl; have hc2 : w'.cell? ⟨w.heap.size, 2, none⟩ = some (.slice A0_2 l0_2.length c0_2) := (blk_cell hk 2).trans rfl; have hz0 := blk_frozen hk 0; have hz2 := blk_frozen hk 2; clear hk) | (go_at_call 141; refine (qnode _).mono ?_; rintro e w' ⟨rfl, ⟨nd, rfl⟩⟩))
      go_ret
      exact ⟨by first | rfl | (simp; done), below_step hb1.out (by repeat (first | exact HB.out | apply below_alloc | apply pw_below_drewN | apply below_drew1))⟩
  · have d1b : decide (a1 = 1) = false := decide_eq_false d1
    have d1c : decide (a1 > 1) = true := decide_eq_true (by omega)
    have d1d : decide (1 < a1) = true := decide_eq_true (by omega)
    have d1e : (a1 == 1) = false := beq_eq_false_iff_ne.mpr d1
    rw [if_neg (fun h => d1 h.1)] at hn
    cases b with
    | false =>
      rw [if_pos ⟨by omega, rfl⟩] at hn
      obtain rfl := Option.some.inj hn
      obtain rfl := Option.some.inj H0
      clear hn d16 dl d1
      go_enter Tryz.func75, Tryz.ntmps75
      go_wp2_with (first | (go_at_call 140; refine (qn).mono ?_; rintro e w' ⟨v0, v1, rfl, h0, h1, hb⟩; rw [← HW1.out] at h0 h1 hb; have hk := blk_below hbk1.out hb; have HB := Aside0.mk hb; have R0 := Aside0.mk h0; have R1 := Aside0.mk h1; clear h0 h1 hb; have hc0 : w'.cell? ⟨w.heap.size, 0, none⟩ = some (.string a0_0) := (blk_cell hk 0).trans rfl; have hc2 : w'.cell? ⟨w.heap.size, 2, none⟩ = some (.slice A0_2 l0_2.length c0_2) := (blk_cell hk 2).trans rfl; have hz0 := blk_frozen hk 0; have hz2 := blk_frozen hk 2; clear hk) | (go_at_call 141; refine (qnode _).mono ?_; rintro e w' ⟨rfl, ⟨nd, rfl⟩⟩))
      go_ret
      exact ⟨by first | rfl | (simp; done), below_step hb1.out (by repeat (first | exact HB.out | apply below_alloc | apply pw_below_drewN | apply below_drew1))⟩
    | true =>
      rw [if_neg (fun h => Bool.noConfusion h.2)] at hn
      clear d16 dl d1
      obtain ⟨i0, hbad0, hn⟩ := Option.bind_eq_some_iff.mp hn
      have hbad := Aside0.mk hbad0
      clear hbad0
      by_cases ci0 : 0 ≤ i0
      · rw [if_pos ci0] at hn
        obtain rfl := Option.some.inj hn
        obtain rfl := Option.some.inj H0
        have ci0b : decide (0 ≤ i0) = true := decide_eq_true ci0
        clear hn ci0
        go_enter Tryz.func75, Tryz.ntmps75
        go_wp2_with (first | (go_at_call 140; refine (qn).mono ?_; rintro e w' ⟨v0, v1, rfl, h0, h1, hb⟩; rw [← HW1.out] at h0 h1 hb; have hk := blk_below hbk1.out hb; have HB := Aside0.mk hb; have R0 := Aside0.mk h0; have R1 := Aside0.mk h1; clear h0 h1 hb; have hc0 : w'.cell? ⟨w.heap.size, 0, none⟩ = some (.string a0_0) := (blk_cell hk 0).trans rfl; have hc2 : w'.cell? ⟨w.heap.size, 2, none⟩ = some (.slice A0_2 l0_2.length c0_2) := (blk_cell hk 2).trans rfl; have hz0 := blk_frozen hk 0; have hz2 := blk_frozen hk 2; clear hk) | (go_at_call 141; refine (qnode _).mono ?_; rintro e w' ⟨rfl, ⟨nd, rfl⟩⟩) | (go_at_call 142; refine (bad_has_v k v0 lm1 _ W1.heap.size (fun k_ => some k_ ≠ v1.ownBlock) i0 (by (with_reducible repeat (first | apply Kd.R_alloc | apply Kd.R_drewN | apply Kd.R_drew)); exact R0.out) hbad.out).mono ?_; rintro e w' ⟨rfl, ⟨nd2, rfl⟩⟩))
        go_ret
        exact ⟨by first | rfl | (simp; done), below_step hb1.out (by repeat (first | exact HB.out | apply below_alloc | apply pw_below_drewN | apply below_drew1))⟩
      rw [if_neg ci0] at hn
      have ci0b : decide (0 ≤ i0) = false := decide_eq_false ci0
      clear ci0
      by_cases hlen : ¬ (lm1.length < 4611686018427387904 ∧ lm2.length < 4611686018427387904)
      · rw [if_neg hlen] at hn
        cases hn
      replace hlen := Decidable.not_not.mp hlen
      rw [if_pos hlen] at hn
      have HL := Aside0.mk hlen
      clear hlen
      by_cases u1 : dupB lm1 = true
      · rw [if_pos u1] at hn
        obtain rfl := Option.some.inj hn
        obtain rfl := Option.some.inj H0
        clear hn
        go_enter Tryz.func75, Tryz.ntmps75
        go_wp2_with (first | (go_at_call 140; refine (qn).mono ?_; rintro e w' ⟨v0, v1, rfl, h0, h1, hb⟩; rw [← HW1.out] at h0 h1 hb; have hk := blk_below hbk1.out hb; have HB := Aside0.mk hb; have R0 := Aside0.mk h0; have R1 := Aside0.mk h1; clear h0 h1 hb; have hc0 : w'.cell? ⟨w.heap.size, 0, none⟩ = some (.string a0_0) := (blk_cell hk 0).trans rfl; have hc2 : w'.cell? ⟨w.heap.size, 2, none⟩ = some (.slice A0_2 l0_2.length c0_2) := (blk_cell hk 2).trans rfl; have hz0 := blk_frozen hk 0; have hz2 := blk_frozen hk 2; clear hk; have qt0 := fun n => twice_calls v0 lm1 (w'.drewN n) W1.heap.size (fun k_ => some k_ ≠ v1.ownBlock) (Kd.R_drewN R0.out n) HL.out.1; have qu0 := twice_calls v0 lm1 w' W1.heap.size (fun k_ => some k_ ≠ v1.ownBlock) R0.out HL.out.1) | (go_at_call 141; refine (qnode _).mono ?_; rintro e w' ⟨rfl, ⟨nd, rfl⟩⟩) | (go_at_call 142; refine (bad_has_v k v0 lm1 _ W1.heap.size (fun k_ => some k_ ≠ v1.ownBlock) i0 (by (with_reducible repeat (first | apply Kd.R_alloc | apply Kd.R_drewN | apply Kd.R_drew)); exact R0.out) hbad.out).mono ?_; rintro e w' ⟨rfl, ⟨nd2, rfl⟩⟩) | (go_at_call 145; (first | (refine (qt0 _).mono ?_) | (refine qu0.mono ?_)); rintro e w2 ⟨rfl, hg2⟩; have nr_ := Aside0.mk (Kd.R_grown (ok := fun k_ => some k_ ≠ v0.ownBlock) (by (with_reducible repeat (first | apply Kd.R_alloc | apply Kd.R_drewN | apply Kd.R_drew)); exact R1.out) hg2 (fun _ h => h)); have nb_ := Aside0.mk (below_grown_own (W1 := W1) (by repeat (first | exact HB.out | apply below_alloc | apply pw_below_drewN | apply below_drew1)) hg2 (own_from R0.out)); have hk_ := blk_below hbk1.out nb_.out; have hc2_2 : w2.cell? ⟨w.heap.size, 2, none⟩ = some (.slice A0_2 l0_2.length c0_2) := (blk_cell hk_ 2).trans rfl; have hz2_2 := blk_frozen hk_ 2; clear HB hk_; have HB := nb_; clear nb_ hg2; clear R1; have R1 := nr_; clear nr_; have qt1 := fun n => twice_calls v1 lm2 (w2.drewN n) W1.heap.size (fun k_ => some k_ ≠ v0.ownBlock) (Kd.R_drewN R1.out n) HL.out.2; have qu1 := twice_calls v1 lm2 w2 W1.heap.size (fun k_ => some k_ ≠ v0.ownBlock) R1.out HL.out.2) | (go_at_call 145; (first | (refine (qt1 _).mono ?_) | (refine qu1.mono ?_)); rintro e w3 ⟨rfl, hg3⟩; have nb_ := Aside0.mk (below_grown_own (W1 := W1) (by repeat (first | exact HB.out | apply below_alloc | apply pw_below_drewN | apply below_drew1)) hg3 (own_from R1.out)); have hk_ := blk_below hbk1.out nb_.out; have hc2_3 : w3.cell? ⟨w.heap.size, 2, none⟩ = some (.slice A0_2 l0_2.length c0_2) := (blk_cell hk_ 2).trans rfl; have hz2_3 := blk_frozen hk_ 2; clear HB hk_; have HB := nb_; clear nb_ hg3))
        go_ret
        exact ⟨by first | rfl | (simp; done), below_step hb1.out (by repeat (first | exact HB.out | apply below_alloc | apply pw_below_drewN | apply below_drew1))⟩
      rw [if_neg u1] at hn
      replace u1 := Bool.eq_false_iff.mpr u1
      by_cases u2 : dupB lm2 = true
      · rw [if_pos u2] at hn
        obtain rfl := Option.some.inj hn
        obtain rfl := Option.some.inj H0
        clear hn
        go_enter Tryz.func75, Tryz.ntmps75
        go_wp2_with (first | (go_at_call 140; refine (qn).mono ?_; rintro e w' ⟨v0, v1, rfl, h0, h1, hb⟩; rw [← HW1.out] at h0 h1 hb; have hk := blk_below hbk1.out hb; have HB := Aside0.mk hb; have R0 := Aside0.mk h0; have R1 := Aside0.mk h1; clear h0 h1 hb; have hc0 : w'.cell? ⟨w.heap.size, 0, none⟩ = some (.string a0_0) := (blk_cell hk 0).trans rfl; have hc2 : w'.cell? ⟨w.heap.size, 2, none⟩ = some (.slice A0_2 l0_2.length c0_2) := (blk_cell hk 2).trans rfl; have hz0 := blk_frozen hk 0; have hz2 := blk_frozen hk 2; clear hk; have qt0 := fun n => twice_calls v0 lm1 (w'.drewN n) W1.heap.size (fun k_ => some k_ ≠ v1.ownBlock) (Kd.R_drewN R0.out n) HL.out.1; have qu0 := twice_calls v0 lm1 w' W1.heap.size (fun k_ => some k_ ≠ v1.ownBlock) R0.out HL.out.1) | (go_at_call 141; refine (qnode _).mono ?_; rintro e w' ⟨rfl, ⟨nd, rfl⟩⟩) | (go_at_call 142; refine (bad_has_v k v0 lm1 _ W1.heap.size (fun k_ => some k_ ≠ v1.ownBlock) i0 (by (with_reducible repeat (first | apply Kd.R_alloc | apply Kd.R_drewN | apply Kd.R_drew)); exact R0.out) hbad.out).mono ?_; rintro e w' ⟨rfl, ⟨nd2, rfl⟩⟩) | (go_at_call 145; (first | (refine (qt0 _).mono ?_) | (refine qu0.mono ?_)); rintro e w2 ⟨rfl, hg2⟩; have nr_ := Aside0.mk (Kd.R_grown (ok := fun k_ => some k_ ≠ v0.ownBlock) (by (with_reducible repeat (first | apply Kd.R_alloc | apply Kd.R_drewN | apply Kd.R_drew)); exact R1.out) hg2 (fun _ h => h)); have nb_ := Aside0.mk (below_grown_own (W1 := W1) (by repeat (first | exact HB.out | apply below_alloc | apply pw_below_drewN | apply below_drew1)) hg2 (own_from R0.out)); have hk_ := blk_below hbk1.out nb_.out; have hc2_2 : w2.cell? ⟨w.heap.size, 2, none⟩ = some (.slice A0_2 l0_2.length c0_2) := (blk_cell hk_ 2).trans rfl; have hz2_2 := blk_frozen hk_ 2; clear HB hk_; have HB := nb_; clear nb_ hg2; clear R1; have R1 := nr_; clear nr_; have qt1 := fun n => twice_calls v1 lm2 (w2.drewN n) W1.heap.size (fun k_ => some k_ ≠ v0.ownBlock) (Kd.R_drewN R1.out n) HL.out.2; have qu1 := twice_calls v1 lm2 w2 W1.heap.size (fun k_ => some k_ ≠ v0.ownBlock) R1.out HL.out.2) | (go_at_call 145; (first | (refine (qt1 _).mono ?_) | (refine qu1.mono ?_)); rintro e w3 ⟨rfl, hg3⟩; have nb_ := Aside0.mk (below_grown_own (W1 := W1) (by repeat (first | exact HB.out | apply below_alloc | apply pw_below_drewN | apply below_drew1)) hg3 (own_from R1.out)); have hk_ := blk_below hbk1.out nb_.out; have hc2_3 : w3.cell? ⟨w.heap.size, 2, none⟩ = some (.slice A0_2 l0_2.length c0_2) := (blk_cell hk_ 2).trans rfl; have hz2_3 := blk_frozen hk_ 2; clear HB hk_; have HB := nb_; clear nb_ hg3))
        go_ret
        exact ⟨by first | rfl | (simp; done), below_step hb1.out (by repeat (first | exact HB.out | apply below_alloc | apply pw_below_drewN | apply below_drew1))⟩
      rw [if_neg u2] at hn
      replace u2 := Bool.eq_false_iff.mpr u2
      obtain rfl := Option.some.inj hn
      rw [if_pos rfl] at H0
      have HK := Aside0.mk H0
      clear H0 hn
      go_enter Tryz.func75, Tryz.ntmps75
      go_wp2_with (first | (go_at_call 140; refine (qn).mono ?_; rintro e w' ⟨v0, v1, rfl, h0, h1, hb⟩; rw [← HW1.out] at h0 h1 hb; have hk := blk_below hbk1.out hb; have HB := Aside0.mk hb; have R0 := Aside0.mk h0; have R1 := Aside0.mk h1; clear h0 h1 hb; have hc0 : w'.cell? ⟨w.heap.size, 0, none⟩ = some (.string a0_0) := (blk_cell hk 0).trans rfl; have hc2 : w'.cell? ⟨w.heap.size, 2, none⟩ = some (.slice A0_2 l0_2.length c0_2) := (blk_cell hk 2).trans rfl; have hz0 := blk_frozen hk 0; have hz2 := blk_frozen hk 2; clear hk; have qt0 := fun n => twice_calls v0 lm1 (w'.drewN n) W1.heap.size (fun k_ => some k_ ≠ v1.ownBlock) (Kd.R_drewN R0.out n) HL.out.1; have qu0 := twice_calls v0 lm1 w' W1.heap.size (fun k_ => some k_ ≠ v1.ownBlock) R0.out HL.out.1) | (go_at_call 141; refine (qnode _).mono ?_; rintro e w' ⟨rfl, ⟨nd, rfl⟩⟩) | (go_at_call 142; refine (bad_has_v k v0 lm1 _ W1.heap.size (fun k_ => some k_ ≠ v1.ownBlock) i0 (by (with_reducible repeat (first | apply Kd.R_alloc | apply Kd.R_drewN | apply Kd.R_drew)); exact R0.out) hbad.out).mono ?_; rintro e w' ⟨rfl, ⟨nd2, rfl⟩⟩) | (go_at_call 145; (first | (refine (qt0 _).mono ?_) | (refine qu0.mono ?_)); rintro e w2 ⟨rfl, hg2⟩; have nr_ := Aside0.mk (Kd.R_grown (ok := fun k_ => some k_ ≠ v0.ownBlock) (by (with_reducible repeat (first | apply Kd.R_alloc | apply Kd.R_drewN | apply Kd.R_drew)); exact R1.out) hg2 (fun _ h => h)); have nb_ := Aside0.mk (below_grown_own (W1 := W1) (by repeat (first | exact HB.out | apply below_alloc | apply pw_below_drewN | apply below_drew1)) hg2 (own_from R0.out)); have hk_ := blk_below hbk1.out nb_.out; have hc2_2 : w2.cell? ⟨w.heap.size, 2, none⟩ = some (.slice A0_2 l0_2.length c0_2) := (blk_cell hk_ 2).trans rfl; have hz2_2 := blk_frozen hk_ 2; clear HB hk_; have HB := nb_; clear nb_ hg2; clear R1; have R1 := nr_; clear nr_; have qt1 := fun n => twice_calls v1 lm2 (w2.drewN n) W1.heap.size (fun k_ => some k_ ≠ v0.ownBlock) (Kd.R_drewN R1.out n) HL.out.2; have qu1 := twice_calls v1 lm2 w2 W1.heap.size (fun k_ => some k_ ≠ v0.ownBlock) R1.out HL.out.2) | (go_at_call 145; (first | (refine (qt1 _).mono ?_) | (refine qu1.mono ?_)); rintro e w3 ⟨rfl, hg3⟩; have nb_ := Aside0.mk (below_grown_own (W1 := W1) (by repeat (first | exact HB.out | apply below_alloc | apply pw_below_drewN | apply below_drew1)) hg3 (own_from R1.out)); have hk_ := blk_below hbk1.out nb_.out; have hc2_3 : w3.cell? ⟨w.heap.size, 2, none⟩ = some (.slice A0_2 l0_2.length c0_2) := (blk_cell hk_ 2).trans rfl; have hz2_3 := blk_frozen hk_ 2; clear HB hk_; have HB := nb_; clear nb_ hg3))
      go_loopg [47] (l0_2.length + 1) (fun kq v47 w' => ∃ i : Nat, v47 = .int .i64 (i : Int) ∧ Aside0 (i + kq = l0_2.length + 1) ∧ Aside0 (tree_check.kids (fun x y z => tree_check.f k x y z (wrap64 (a1 + 1))) (l0_2.drop i) = some r) ∧ Aside0 (Below W1.heap.size W1 w'))
      case atStart => exact ⟨0, rfl, ⟨by omega⟩, ⟨by rw [List.drop_zero]; exact HK.out⟩, HB⟩
      case round =>
        clear hc0 hc2 hz0 hz2 hc2_2 hz2_2 hc2_3 hz2_3 u1 u2 qt0 qu0 qt1 qu1
        obtain ⟨i, rfl, HI, HX, HBr⟩ := hrel
        by_cases ci : (i : Int) < (l0_2.length : Int)
        · have cib : decide ((i : Int) < (l0_2.length : Int)) = true := decide_eq_true ci
          have cil : i < l0_2.length := by omega
          obtain ⟨ad, A1, c1, A2, c2, e1, hx0, hx1, hx2, hl1, hC1, hl2, hC2⟩ := at_T27 HR2.out (i : Int) (Int.natCast_nonneg i) ci
          subst e1
          simp only [Int.toNat_natCast] at hx0 hx1 hx2
          have HBw := Aside0.mk (below_step hb1.out HBr.out)
          replace hx0 := (HBw.out.cell (World.block_lt_of_cell? w _ hx0)).trans hx0
          replace hx1 := (HBw.out.cell (World.block_lt_of_cell? w _ hx1)).trans hx1
          replace hx2 := (HBw.out.cell (World.block_lt_of_cell? w _ hx2)).trans hx2
          have hX := HX.out
          rw [List.drop_eq_getElem_cons cil] at hX
          have hxe : l0_2[i] = rd_T27 l0_2 (i : Int) := by simp only [rd_T27, Int.toNat_natCast, List.getD_eq_getElem?_getD, List.getElem?_eq_getElem cil, Option.getD_some]
          rw [hxe] at hX
          obtain ⟨x, hx⟩ : ∃ x, x = rd_T27 l0_2 (i : Int) := ⟨_, rfl⟩
          rw [← hx] at hX hx0 hx1 hx2 hl1 hC1 hl2 hC2
          clear hx hxe HX
          obtain ⟨e1, hF, hX⟩ := Option.bind_eq_some_iff.mp hX
          have qk := fun W (hW : Below w.heap.size w W) => ih x.f0 A1 c1 x.f1 A2 c2 x.f2 (wrap64 (a1 + 1)) e1 W (Kd.C_below hC1 hW) hl1 (Kd.C_below hC2 hW) hl2 hF
          have hwd := i64_w (a1 + 1)
          have hw := i64_w ((i : Int) + 1)
          have hw2 := w_succ cil HM.out
          clear hF hC1 hC2
          cases gk with
          | zero => exact absurd HI.out (by clear hwd hw hw2; omega)
          | succ k1 =>
            by_cases h0 : e1 = 0
            · rw [if_pos h0] at hX
              have HX := Aside0.mk hX
              have h0b : (e1 == 0) = true := beq_iff_eq.mpr h0
              have h0c : (e1 != 0) = false := bne_eq_false_iff_eq.mpr h0
              clear hX h0
              go_wp2_with (go_at_call 75; refine (qk _ ?hW).mono ?_; (case hW => repeat (first | exact HBw.out | apply below_alloc | apply pw_below_drewN | apply below_drew1)); rintro e w4 ⟨rfl, hb4⟩; have HB4 := Aside0.mk hb4; clear hb4)
              go_roundg k1
              case measure => clear hwd hw hw2; omega
              case rel => exact ⟨i + 1, by first | rfl | (simp; done) | (simp [*]; done), ⟨by clear hwd hw hw2; have := HI.out; omega⟩, HX, ⟨(by repeat (first | exact below_step (by repeat (first | exact HBr.out | apply below_alloc | apply pw_below_drewN | apply below_drew1)) HB4.out | apply below_drew1 | apply pw_below_drewN))⟩⟩
            · rw [if_neg h0] at hX
              obtain rfl := Option.some.inj hX
              have h0b : (e1 == 0) = false := beq_eq_false_iff_ne.mpr h0
              have h0c : (e1 != 0) = true := bne_iff_ne.mpr h0
              clear hX h0
              go_wp2_with (go_at_call 75; refine (qk _ ?hW).mono ?_; (case hW => repeat (first | exact HBw.out | apply below_alloc | apply pw_below_drewN | apply below_drew1)); rintro e w4 ⟨rfl, hb4⟩; have HB4 := Aside0.mk hb4; clear hb4)
              go_ret
              exact ⟨by first | rfl | (simp; done), below_step hb1.out (by repeat (first | exact below_step (by repeat (first | exact HBr.out | apply below_alloc | apply pw_below_drewN | apply below_drew1)) HB4.out | apply below_drew1 | apply pw_below_drewN))⟩
        · have cib : decide ((i : Int) < (l0_2.length : Int)) = false := decide_eq_false ci
          have hX := HX.out
          rw [List.drop_of_length_le (by omega)] at hX
          obtain rfl := Option.some.inj hX
          clear HX hX
          go_wp2
          go_ret
          exact ⟨rfl, below_step hb1.out (by repeat (first | exact HBr.out | apply below_drew1 | apply pw_below_drewN))⟩
end Go.Proofs.YtkfcgjopabcbeaaGreatDoor.PV

namespace Go.Proofs.YtkfcgjopabcbeaaGreatDoor.PV
open Go.RowKit Go.Proofs.YtkfcgjopabcbeaaGreatDoorW.PrintWords Go.Proofs.YtkfcgjopabcbeaaGreatDoorW.PrintLast Go.Proofs.YtkfcgjopabcbeaaGreatDoorW.PrintMore
attribute [local go_sem] max2_int min2_int max_two min_two max_three min_three max_four min_four   -- for this text's walks alone
set_option linter.unusedVariables false
set_option linter.unusedSimpArgs false
theorem eqA76 (d : Nat) (w : World) (x0 y0 : Int) (x1 y1 : Int) :
    (Op.equalIn (d + 2) 76 (.agg #[.int .u64 x0, .int .u64 x1]) (.agg #[.int .u64 y0, .int .u64 y1])).run Tryz.prog w = .ok (x0 == y0 && (x1 == y1)) w := by
  refine eqA_of Tryz.underlying76 (by kernel_rfl) ?_
  refine eqf_cons (by rfl) (by go_simp; rfl) (by go_simp; rfl) (by go_simp) ?_
  exact eqf_last (by rfl) (by go_simp; rfl) (by go_simp; rfl) (by go_simp)
end Go.Proofs.YtkfcgjopabcbeaaGreatDoor.PV

namespace Go.Proofs.YtkfcgjopabcbeaaGreatDoor.PV
open Go.RowKit Go.Proofs.YtkfcgjopabcbeaaGreatDoorW.PrintWords Go.Proofs.YtkfcgjopabcbeaaGreatDoorW.PrintLast Go.Proofs.YtkfcgjopabcbeaaGreatDoorW.PrintMore
attribute [local go_sem] max2_int min2_int max_two min_two max_three min_three max_four min_four   -- for this text's walks alone
set_option linter.unusedVariables false
set_option linter.unusedSimpArgs false
attribute [local go_sem high] eqA76
def api_Reserve_146.l0 : Nat → List (S76) → Int → Int → Int → Int → Option (Int)
  | 0, _, _, _, _, _ => none
  | k + 1, x0, x7, x8, x280000, x280001 => if x8 < x7 then (if 0 ≤ x8 then (if x8 < (x0.length : Int) then (if (x280000 == ((rd_T76 x0 x8).f0) && (x280001 == ((rd_T76 x0 x8).f1))) = true then (some x8) else (api_Reserve_146.l0 k x0 x7 (wrap64 (x8 + 1)) x280000 x280001)) else (none)) else (none)) else (some (-1))
def api_Reserve_146.f (k : Nat) (l0 : List (S76)) (a1_0 : Int) (a1_1 : Int) : Option (Int) := api_Reserve_146.l0 k l0 (l0.length : Int) 0 a1_0 a1_1
set_option maxHeartbeats 8000000 in
set_option maxRecDepth 100000 in
theorem api_Reserve_146.calls (k : Nat) (A0 : Option Addr) (c0 : Nat) (l0 : List (S76)) (a1_0 : Int) (a1_1 : Int) (r : Int) (w : World) (hr0 : Kd.C k76 w A0 l0.length l0) (hc0 : l0.length ≤ c0) (h : api_Reserve_146.f k l0 a1_0 a1_1 = some r) :
    Calls Tryz.prog 146 #[.slice A0 l0.length c0, .agg #[.int .u64 a1_0, .int .u64 a1_1]] w fun e w' => e = .returned (.int .i64 r) ∧ Below w.heap.size w w' := by
  have hu76 := Tryz.underlying76
  have HR0 := Aside0.mk hr0
  have HC0 := Aside0.mk hc0
  clear hr0 hc0
  have HB := Aside0.mk (Below.refl w.heap.size w)
  have H : (api_Reserve_146.l0 k l0 (l0.length : Int) 0 a1_0 a1_1) = some r := h
  clear h
  have H' := Aside0.mk H
  clear H
  go_enter Tryz.func146, Tryz.ntmps146
  go_wp2_with (first | ((with_reducible refine gate_dst (N := 3) rfl ?_); refine box_event ?hg (N := 3) ?hd (cs := #[.int .u64 a1_0, .int .u64 a1_1]) (t := 76) ?hr ?_; (case hd => rfl); (case hg => rfl); (case hr => first | (go_simp; done) | (go_simp; rfl)); intro gb279 hg w3 hbox hb; have n0_ := Aside0.mk (below_step (by repeat (first | (with_reducible first | exact HB.out | apply below_alloc | apply pw_below_drewN | apply below_drew1) | exact HB.out)) hb); have n1_ := Aside0.mk (hbox); have n2_ := Aside0.mk ((by rw [hg]; exact (below_size (by repeat (first | (with_reducible first | exact HB.out | apply below_alloc | apply pw_below_drewN | apply below_drew1) | exact HB.out))) : w.heap.size ≤ gb279)); have n3_ := Aside0.mk ((by rw [hg]; exact (below_size (by repeat (first | (with_reducible first | exact HB.out | apply below_alloc | apply pw_below_drewN | apply below_drew1) | exact HB.out))) : w.heap.size ≤ gb279)); clear HB; have HB := n0_; have BK279 := n1_; have GW279 := n2_; have GE279 := n3_; clear n0_ n1_ n2_ n3_; clear hb hbox hg))
  repeat (go_quiet (first | ((with_reducible refine gate_dst (N := 3) rfl ?_); refine box_event ?hg (N := 3) ?hd (cs := #[.int .u64 a1_0, .int .u64 a1_1]) (t := 76) ?hr ?_; (case hd => rfl); (case hg => rfl); (case hr => first | (go_simp; done) | (go_simp; rfl)); intro gb279 hg w3 hbox hb; have n0_ := Aside0.mk (below_step (by repeat (first | (with_reducible first | exact HB.out | apply below_alloc | apply pw_below_drewN | apply below_drew1) | exact HB.out)) hb); have n1_ := Aside0.mk (hbox); have n2_ := Aside0.mk ((by rw [hg]; exact (below_size (by repeat (first | (with_reducible first | exact HB.out | apply below_alloc | apply pw_below_drewN | apply below_drew1) | exact HB.out))) : w.heap.size ≤ gb279)); have n3_ := Aside0.mk ((by rw [hg]; exact (below_size (by repeat (first | (with_reducible first | exact HB.out | apply below_alloc | apply pw_below_drewN | apply below_drew1) | exact HB.out))) : w.heap.size ≤ gb279)); clear HB; have HB := n0_; have BK279 := n1_; have GW279 := n2_; have GE279 := n3_; clear n0_ n1_ n2_ n3_; clear hb hbox hg)); try go_wp2_with (first | ((with_reducible refine gate_dst (N := 3) rfl ?_); refine box_event ?hg (N := 3) ?hd (cs := #[.int .u64 a1_0, .int .u64 a1_1]) (t := 76) ?hr ?_; (case hd => rfl); (case hg => rfl); (case hr => first | (go_simp; done) | (go_simp; rfl)); intro gb279 hg w3 hbox hb; have n0_ := Aside0.mk (below_step (by repeat (first | (with_reducible first | exact HB.out | apply below_alloc | apply pw_below_drewN | apply below_drew1) | exact HB.out)) hb); have n1_ := Aside0.mk (hbox); have n2_ := Aside0.mk ((by rw [hg]; exact (below_size (by repeat (first | (with_reducible first | exact HB.out | apply below_alloc | apply pw_below_drewN | apply below_drew1) | exact HB.out))) : w.heap.size ≤ gb279)); have n3_ := Aside0.mk ((by rw [hg]; exact (below_size (by repeat (first | (with_reducible first | exact HB.out | apply below_alloc | apply pw_below_drewN | apply below_drew1) | exact HB.out))) : w.heap.size ≤ gb279)); clear HB; have HB := n0_; have BK279 := n1_; have GW279 := n2_; have GE279 := n3_; clear n0_ n1_ n2_ n3_; clear hb hbox hg)))
  go_loopg [8] k (fun kq v8 w' => ∃ (x8_1 : Int), v8 = .int .i64 x8_1 ∧ Aside0 (api_Reserve_146.l0 kq l0 (l0.length : Int) x8_1 a1_0 a1_1 = some r) ∧ Aside0 (kq ≤ k) ∧ Aside0 (w'.heap[gb279]? = some (.cells #[.int .u64 a1_0, .int .u64 a1_1] 76 (0, 0))) ∧ Aside0 (Below w.heap.size w w'))
  case atStart => exact ⟨(0), (by first | rfl | (simp; done) | (simp [*]; done)), H', ⟨Nat.le_refl _⟩, ⟨by (with_reducible repeat (first | refine blk_drewN ?_ _ | refine blk_drew ?_ | refine blk_alloc ?_ _)); exact BK279.out⟩, ⟨by repeat (first | (with_reducible first | exact HB.out | apply below_alloc | apply pw_below_drewN | apply below_drew1 | refine below_set ?_ GE279.out) | exact HB.out)⟩⟩
  case round =>
    clear H'
    try clear c1
    try clear p2
    obtain ⟨x8_1, rfl, HA, HK1, BK279, HB⟩ := hrel
    cases gk with
    | zero => exact absurd HA.out (by simp [api_Reserve_146.l0])
    | succ k1 =>
      have H := HA.out
      clear HA
      simp only [api_Reserve_146.l0] at H
      by_cases c4 : x8_1 < (l0.length : Int)
      · rw [if_pos c4] at H
        have c4b0 : decide (x8_1 < (l0.length : Int)) = true := decide_eq_true c4
        clear c4
        by_cases c5 : 0 ≤ x8_1
        · rw [if_pos c5] at H
          have c5b0 : decide (0 ≤ x8_1) = true := decide_eq_true c5
          clear c5
          by_cases c6 : x8_1 < (l0.length : Int)
          · rw [if_pos c6] at H
            have c6b0 : decide (x8_1 < (l0.length : Int)) = true := decide_eq_true c6
            clear c6
            by_cases c7 : (a1_0 == ((rd_T76 l0 x8_1).f0) && (a1_1 == ((rd_T76 l0 x8_1).f1))) = true
            · rw [if_pos c7] at H
              have c7b0 : (a1_0 == ((rd_T76 l0 x8_1).f0) && (a1_1 == ((rd_T76 l0 x8_1).f1))) = true := c7
              (try (have c7b1 : decide (a1_0 = ((rd_T76 l0 x8_1).f0) && (a1_1 == ((rd_T76 l0 x8_1).f1))) = true := by simpa using c7))
              (try (have c7b2 : (a1_0 == ((rd_T76 l0 x8_1).f0) && (a1_1 == ((rd_T76 l0 x8_1).f1))) = true := by simpa using c7))
              clear c7
              obtain rfl := Option.some.inj H
              have hcz8_0 : wr.cell? ⟨gb279, 0, none⟩ = some (.int .u64 a1_0) := (blk_cell BK279.out 0).trans rfl
              have hcz8_1 : wr.cell? ⟨gb279, 1, none⟩ = some (.int .u64 a1_1) := (blk_cell BK279.out 1).trans rfl
              have hfz8_0 := blk_frozen BK279.out 0
              have hfz8_1 := blk_frozen BK279.out 1
              have p280 : 0 ≤ (x8_1 : Int) := of_decide_eq_true (by first | (with_reducible assumption) | assumption)
              have q280 : x8_1 < (l0.length : Int) := of_decide_eq_true (by first | (with_reducible assumption) | assumption)
              obtain ⟨ad280, e280, hx280_0, hx280_1⟩ := at_T76 HR0.out x8_1 p280 q280
              cases e280
              replace hx280_0 := (HB.out.cell (World.block_lt_of_cell? w _ hx280_0)).trans hx280_0
              replace hx280_1 := (HB.out.cell (World.block_lt_of_cell? w _ hx280_1)).trans hx280_1
              replace p280 := eq_true p280
              replace q280 := eq_true q280
              go_wp2
              repeat (go_quiet (fail); try go_wp2)
              go_ret
              exact ⟨by first | rfl | (simp [errW_none, errW_some] <;> rfl) | (simp [*, errW_none, errW_some] <;> rfl), by repeat (first | (with_reducible first | exact HB.out | apply below_alloc | apply pw_below_drewN | apply below_drew1 | refine below_set ?_ GE279.out) | exact HB.out)⟩
            · rw [if_neg c7] at H
              have c7b0 : (a1_0 == ((rd_T76 l0 x8_1).f0) && (a1_1 == ((rd_T76 l0 x8_1).f1))) = false := by simpa using c7
              (try (have c7b1 : decide (a1_0 = ((rd_T76 l0 x8_1).f0) && (a1_1 == ((rd_T76 l0 x8_1).f1))) = false := by simpa using c7))
              (try (have c7b2 : (a1_0 == ((rd_T76 l0 x8_1).f0) && (a1_1 == ((rd_T76 l0 x8_1).f1))) = false := by simpa using c7))
              (try (have c7b3 : ¬ (a1_0 = ((rd_T76 l0 x8_1).f0) && (a1_1 == ((rd_T76 l0 x8_1).f1))) := by simpa using c7))
              clear c7
              have H' := Aside0.mk H
              clear H
              have hcz9_0 : wr.cell? ⟨gb279, 0, none⟩ = some (.int .u64 a1_0) := (blk_cell BK279.out 0).trans rfl
              have hcz9_1 : wr.cell? ⟨gb279, 1, none⟩ = some (.int .u64 a1_1) := (blk_cell BK279.out 1).trans rfl
              have hfz9_0 := blk_frozen BK279.out 0
              have hfz9_1 := blk_frozen BK279.out 1
              have p280 : 0 ≤ (x8_1 : Int) := of_decide_eq_true (by first | (with_reducible assumption) | assumption)
              have q280 : x8_1 < (l0.length : Int) := of_decide_eq_true (by first | (with_reducible assumption) | assumption)
              obtain ⟨ad280, e280, hx280_0, hx280_1⟩ := at_T76 HR0.out x8_1 p280 q280
              cases e280
              replace hx280_0 := (HB.out.cell (World.block_lt_of_cell? w _ hx280_0)).trans hx280_0
              replace hx280_1 := (HB.out.cell (World.block_lt_of_cell? w _ hx280_1)).trans hx280_1
              replace p280 := eq_true p280
              replace q280 := eq_true q280
              go_wp2
              repeat (go_quiet (fail); try go_wp2)
              go_roundg k1
              case measure => have := HK1.out; omega
              case rel => exact ⟨(wrap64 (x8_1 + 1)), (by first | rfl | (simp; done) | (simp [*]; done)), H', ⟨by have := HK1.out; omega⟩, ⟨by (with_reducible repeat (first | refine blk_drewN ?_ _ | refine blk_drew ?_ | refine blk_alloc ?_ _)); exact BK279.out⟩, ⟨by repeat (first | (with_reducible first | exact HB.out | apply below_alloc | apply pw_below_drewN | apply below_drew1 | refine below_set ?_ GE279.out) | exact HB.out)⟩⟩
          · rw [if_neg c6] at H
            exact absurd H (by simp)
        · rw [if_neg c5] at H
          exact absurd H (by simp)
      · rw [if_neg c4] at H
        have c4b0 : decide (x8_1 < (l0.length : Int)) = false := decide_eq_false c4
        clear c4
        obtain rfl := Option.some.inj H
        go_wp2
        repeat (go_quiet (fail); try go_wp2)
        go_ret
        exact ⟨by first | rfl | (simp [errW_none, errW_some] <;> rfl) | (simp [*, errW_none, errW_some] <;> rfl), by repeat (first | (with_reducible first | exact HB.out | apply below_alloc | apply pw_below_drewN | apply below_drew1 | refine below_set ?_ GE279.out) | exact HB.out)⟩
end Go.Proofs.YtkfcgjopabcbeaaGreatDoor.PV

namespace Go.Proofs.YtkfcgjopabcbeaaGreatDoor.PV
open Go.RowKit Go.Proofs.YtkfcgjopabcbeaaGreatDoorW.PrintWords Go.Proofs.YtkfcgjopabcbeaaGreatDoorW.PrintLast Go.Proofs.YtkfcgjopabcbeaaGreatDoorW.PrintMore
attribute [local go_sem] max2_int min2_int max_two min_two max_three min_three max_four min_four   -- for this text's walks alone
set_option linter.unusedVariables false
set_option linter.unusedSimpArgs false
def api_Reserve_76.f (k : Nat) (l0 : List (S76)) (a1_0 : Int) (a1_1 : Int) : Option (Bool) := (api_Reserve_146.f k l0 a1_0 a1_1).bind fun t282 => (some (decide (t282 ≥ 0)))
set_option maxHeartbeats 8000000 in
set_option maxRecDepth 100000 in
theorem api_Reserve_76.calls (k : Nat) (A0 : Option Addr) (c0 : Nat) (l0 : List (S76)) (a1_0 : Int) (a1_1 : Int) (r : Bool) (w : World) (hr0 : Kd.C k76 w A0 l0.length l0) (hc0 : l0.length ≤ c0) (h : api_Reserve_76.f k l0 a1_0 a1_1 = some r) :
    Calls Tryz.prog 76 #[.slice A0 l0.length c0, .agg #[.int .u64 a1_0, .int .u64 a1_1]] w fun e w' => e = .returned (.bool r) ∧ Below w.heap.size w w' := by
  have hu76 := Tryz.underlying76
  have HR0 := Aside0.mk hr0
  have HC0 := Aside0.mk hc0
  clear hr0 hc0
  have HB := Aside0.mk (Below.refl w.heap.size w)
  have H : ((api_Reserve_146.f k l0 a1_0 a1_1).bind fun t282 => (some (decide (t282 ≥ 0)))) = some r := h
  clear h
  replace H := Option.bind_eq_some_iff.mp H
  obtain ⟨t282, A30, H⟩ := H
  replace H : (some (decide (t282 ≥ 0))) = some r := H
  have A3 := Aside0.mk A30
  clear A30
  obtain rfl := Option.some.inj H
  go_enter Tryz.func76, Tryz.ntmps76
  go_wp2_with (first | ((with_reducible refine gate_dst (N := 3) rfl ?_); refine box_event ?hg (N := 3) ?hd (cs := #[.int .u64 a1_0, .int .u64 a1_1]) (t := 76) ?hr ?_; (case hd => rfl); (case hg => rfl); (case hr => first | (go_simp; done) | (go_simp; rfl)); intro gb281 hg w4 hbox hb; have n0_ := Aside0.mk (below_step (by repeat (first | (with_reducible first | exact HB.out | apply below_alloc | apply pw_below_drewN | apply below_drew1) | exact HB.out)) hb); have n1_ := Aside0.mk (hbox); have n2_ := Aside0.mk ((by rw [hg]; exact (below_size (by repeat (first | (with_reducible first | exact HB.out | apply below_alloc | apply pw_below_drewN | apply below_drew1) | exact HB.out))) : w.heap.size ≤ gb281)); have n3_ := Aside0.mk ((by rw [hg]; exact (below_size (by repeat (first | (with_reducible first | exact HB.out | apply below_alloc | apply pw_below_drewN | apply below_drew1) | exact HB.out))) : w.heap.size ≤ gb281)); clear HB; have HB := n0_; have BK281 := n1_; have GW281 := n2_; have GE281 := n3_; clear n0_ n1_ n2_ n3_; clear hb hbox hg; have hcz5_0 : w4.cell? ⟨gb281, 0, none⟩ = some (.int .u64 a1_0) := (blk_cell BK281.out 0).trans rfl; have hcz5_1 : w4.cell? ⟨gb281, 1, none⟩ = some (.int .u64 a1_1) := (blk_cell BK281.out 1).trans rfl; have hfz5_0 := blk_frozen BK281.out 0; have hfz5_1 := blk_frozen BK281.out 1) | ((with_reducible refine gate_callee (f := 146) rfl ?_); refine goesL_ (some 7) rfl rfl Tryz.func146 (by kernel_rfl) rfl #[.slice A0 l0.length c0, .agg #[.int .u64 a1_0, .int .u64 a1_1]] rfl (by (try simp only [List.map_toArray, List.map_cons, List.map_nil]); first | done | rfl | (simp only [List.length_drop, List.length_take]; rfl)) ?_; (with_reducible refine (api_Reserve_146.calls k _ _ l0 a1_0 a1_1 t282 _ ?side1 ?side2 A3.out).mono ?_); (case side1 => repeat (first | exact (Kd.C_below HR0.out HB.out) | (with_reducible refine Kd.C_alloc ?_ _) | (with_reducible refine Kd.C_drewN ?_ _) | (with_reducible refine Kd.C_drew ?_))); (case side2 => exact HC0.out); rintro e w6 ⟨rfl, hb⟩; refine ⟨_, rfl, ?_⟩; have n0_ := Aside0.mk (blk_below (g := gb281) (o := .cells #[.int .u64 a1_0, .int .u64 a1_1] 76 (0, 0)) (by (with_reducible repeat (first | refine blk_drewN ?_ _ | refine blk_drew ?_ | refine blk_alloc ?_ _)); exact BK281.out) hb); have n1_ := Aside0.mk (below_step (by repeat (first | (with_reducible first | exact HB.out | apply below_alloc | apply pw_below_drewN | apply below_drew1 | refine below_set ?_ GE281.out) | exact HB.out)) hb); clear BK281; clear HB; have BK281 := n0_; have HB := n1_; clear n0_ n1_; (try clear hb); (try clear hb2); (try clear hk); (try clear hi)))
  go_ret
  exact ⟨by first | rfl | (simp [errW_none, errW_some] <;> rfl) | (simp [*, errW_none, errW_some] <;> rfl), by repeat (first | (with_reducible first | exact HB.out | apply below_alloc | apply pw_below_drewN | apply below_drew1 | refine below_set ?_ GE281.out) | exact HB.out)⟩
end Go.Proofs.YtkfcgjopabcbeaaGreatDoor.PV

namespace Go.Proofs.YtkfcgjopabcbeaaGreatDoor.PV
open Go.RowKit Go.Proofs.YtkfcgjopabcbeaaGreatDoorW.PrintWords Go.Proofs.YtkfcgjopabcbeaaGreatDoorW.PrintLast Go.Proofs.YtkfcgjopabcbeaaGreatDoorW.PrintMore
attribute [local go_sem] max2_int min2_int max_two min_two max_three min_three max_four min_four   -- for this text's walks alone
set_option linter.unusedVariables false
set_option linter.unusedSimpArgs false
def tree_Check.f (k : Nat) (a0_0 : Int) (l0_1 : List (S76)) (a0_2 : ByteArray) (l0_3 : List (S158)) (l0_4 : List (S27)) : Option (Int) := (tree_check.f k a0_2 l0_3 l0_4 1).bind fun t284 => (if t284 = 0 then ((tree_Count.f k a0_2 l0_3 l0_4).bind fun bt285 => (if bt285.1 > 4096 then (some 7) else (if bt285.2 > 8192 then (some 7) else (if (l0_1.length : Int) > 64 then (some 7) else ((api_Reserve_76.f k l0_1 0 0).bind fun t287 => (if t287 = true then (some 7) else (some 0))))))) else (some t284))
set_option maxHeartbeats 8000000 in
set_option maxRecDepth 100000 in
theorem tree_Check.calls (k : Nat) (a0_0 : Int) (A0_1 : Option Addr) (c0_1 : Nat) (l0_1 : List (S76)) (a0_2 : ByteArray) (A0_3 : Option Addr) (c0_3 : Nat) (l0_3 : List (S158)) (A0_4 : Option Addr) (c0_4 : Nat) (l0_4 : List (S27)) (r : Int) (w : World) (hr0_1 : Kd.C k76 w A0_1 l0_1.length l0_1) (hc0_1 : l0_1.length ≤ c0_1) (hr0_3 : Kd.C k158 w A0_3 l0_3.length l0_3) (hc0_3 : l0_3.length ≤ c0_3) (hr0_4 : Kd.C k27 w A0_4 l0_4.length l0_4) (hc0_4 : l0_4.length ≤ c0_4) (h : tree_Check.f k a0_0 l0_1 a0_2 l0_3 l0_4 = some r) :
    Calls Tryz.prog 38 #[.agg #[.int .u32 a0_0, .slice A0_1 l0_1.length c0_1, .string a0_2, .slice A0_3 l0_3.length c0_3, .slice A0_4 l0_4.length c0_4]] w fun e w' => e = .returned (.int .i64 r) ∧ Below w.heap.size w w' := by
  have hu29 := Tryz.underlying29
  have hu27 := Tryz.underlying27
  have hu76 := Tryz.underlying76
  have HR0_1 := Aside0.mk hr0_1
  have HC0_1 := Aside0.mk hc0_1
  clear hr0_1 hc0_1
  have HR0_3 := Aside0.mk hr0_3
  have HC0_3 := Aside0.mk hc0_3
  clear hr0_3 hc0_3
  have HR0_4 := Aside0.mk hr0_4
  have HC0_4 := Aside0.mk hc0_4
  clear hr0_4 hc0_4
  have HB := Aside0.mk (Below.refl w.heap.size w)
  have H : ((tree_check.f k a0_2 l0_3 l0_4 1).bind fun t284 => (if t284 = 0 then ((tree_Count.f k a0_2 l0_3 l0_4).bind fun bt285 => (if bt285.1 > 4096 then (some 7) else (if bt285.2 > 8192 then (some 7) else (if (l0_1.length : Int) > 64 then (some 7) else ((api_Reserve_76.f k l0_1 0 0).bind fun t287 => (if t287 = true then (some 7) else (some 0))))))) else (some t284))) = some r := h
  clear h
  replace H := Option.bind_eq_some_iff.mp H
  obtain ⟨t284, A20, H⟩ := H
  replace H : (if t284 = 0 then ((tree_Count.f k a0_2 l0_3 l0_4).bind fun bt285 => (if bt285.1 > 4096 then (some 7) else (if bt285.2 > 8192 then (some 7) else (if (l0_1.length : Int) > 64 then (some 7) else ((api_Reserve_76.f k l0_1 0 0).bind fun t287 => (if t287 = true then (some 7) else (some 0))))))) else (some t284)) = some r := H
  have A2 := Aside0.mk A20
  clear A20
  by_cases c3 : t284 = 0
  · rw [if_pos c3] at H
    have c3b0 : (t284 == 0) = true := beq_iff_eq.mpr c3
    have c3b1 : (t284 != 0) = false := bne_eq_false_iff_eq.mpr c3
    clear c3
    replace H := Option.bind_eq_some_iff.mp H
    obtain ⟨⟨t285, t286⟩, A40, H⟩ := H
    replace H : (if t285 > 4096 then (some 7) else (if t286 > 8192 then (some 7) else (if (l0_1.length : Int) > 64 then (some 7) else ((api_Reserve_76.f k l0_1 0 0).bind fun t287 => (if t287 = true then (some 7) else (some 0)))))) = some r := H
    have A4 := Aside0.mk A40
    clear A40
    by_cases c5 : t285 > 4096
    · rw [if_pos c5] at H
      have c5b0 : decide (4096 < t285) = true := decide_eq_true c5
      clear c5
      obtain rfl := Option.some.inj H
      go_enter Tryz.func38, Tryz.ntmps38
      go_wp2_with (first | ((with_reducible refine gate_dst (N := 1) rfl ?_); (try (refine gate_guard (by rfl) ?_; dsimp only)); refine box_event ?hg (N := 1) ?hd (cs := #[.int .u32 a0_0, .slice A0_1 l0_1.length c0_1, .string a0_2, .slice A0_3 l0_3.length c0_3, .slice A0_4 l0_4.length c0_4]) (t := 29) ?hr ?_; (case hd => rfl); (case hg => rfl); (case hr => first | (go_simp; done) | (go_simp; rfl)); intro gb283 hg w6 hbox hb; have n0_ := Aside0.mk (below_step (by repeat (first | (with_reducible first | exact HB.out | apply below_alloc | apply pw_below_drewN | apply below_drew1) | exact HB.out)) hb); have n1_ := Aside0.mk (hbox); have n2_ := Aside0.mk ((by rw [hg]; exact (below_size (by repeat (first | (with_reducible first | exact HB.out | apply below_alloc | apply pw_below_drewN | apply below_drew1) | exact HB.out))) : w.heap.size ≤ gb283)); have n3_ := Aside0.mk ((by rw [hg]; exact (below_size (by repeat (first | (with_reducible first | exact HB.out | apply below_alloc | apply pw_below_drewN | apply below_drew1) | exact HB.out))) : w.heap.size ≤ gb283)); clear HB; have HB := n0_; have BK283 := n1_; have GW283 := n2_; have GE283 := n3_; clear n0_ n1_ n2_ n3_; clear hb hbox hg; have hcz7_0 : w6.cell? ⟨gb283, 0, none⟩ = some (.int .u32 a0_0) := (blk_cell BK283.out 0).trans rfl; have hcz7_1 : w6.cell? ⟨gb283, 1, none⟩ = some (.slice A0_1 l0_1.length c0_1) := (blk_cell BK283.out 1).trans rfl; have hcz7_2 : w6.cell? ⟨gb283, 2, none⟩ = some (.string a0_2) := (blk_cell BK283.out 2).trans rfl; have hcz7_3 : w6.cell? ⟨gb283, 3, none⟩ = some (.slice A0_3 l0_3.length c0_3) := (blk_cell BK283.out 3).trans rfl; have hcz7_4 : w6.cell? ⟨gb283, 4, none⟩ = some (.slice A0_4 l0_4.length c0_4) := (blk_cell BK283.out 4).trans rfl; have hfz7_0 := blk_frozen BK283.out 0; have hfz7_1 := blk_frozen BK283.out 1; have hfz7_2 := blk_frozen BK283.out 2; have hfz7_3 := blk_frozen BK283.out 3; have hfz7_4 := blk_frozen BK283.out 4) | ((with_reducible refine gate_callee (f := 75) rfl ?_); refine goesL_ (some 8) rfl rfl Tryz.func75 (by kernel_rfl) rfl #[.agg #[.string a0_2, .slice A0_3 l0_3.length c0_3, .slice A0_4 l0_4.length c0_4], .int .i64 1] rfl (by (try simp only [List.map_toArray, List.map_cons, List.map_nil]); first | done | rfl | (simp only [List.length_drop, List.length_take]; rfl)) ?_; (with_reducible refine (tree_check.calls k a0_2 _ _ l0_3 _ _ l0_4 1 t284 _ ?side1 ?side2 ?side3 ?side4 A2.out).mono ?_); (case side1 => repeat (first | exact (Kd.C_below HR0_3.out HB.out) | (with_reducible refine Kd.C_alloc ?_ _) | (with_reducible refine Kd.C_drewN ?_ _) | (with_reducible refine Kd.C_drew ?_))); (case side2 => exact HC0_3.out); (case side3 => repeat (first | exact (Kd.C_below HR0_4.out HB.out) | (with_reducible refine Kd.C_alloc ?_ _) | (with_reducible refine Kd.C_drewN ?_ _) | (with_reducible refine Kd.C_drew ?_))); (case side4 => exact HC0_4.out); rintro e w8 ⟨rfl, hb⟩; refine ⟨_, rfl, ?_⟩; have n0_ := Aside0.mk (blk_below (g := gb283) (o := .cells #[.int .u32 a0_0, .slice A0_1 l0_1.length c0_1, .string a0_2, .slice A0_3 l0_3.length c0_3, .slice A0_4 l0_4.length c0_4] 29 (0, 0)) (by (with_reducible repeat (first | refine blk_drewN ?_ _ | refine blk_drew ?_ | refine blk_alloc ?_ _)); exact BK283.out) hb); have n1_ := Aside0.mk (below_step (by repeat (first | (with_reducible first | exact HB.out | apply below_alloc | apply pw_below_drewN | apply below_drew1 | refine below_set ?_ GE283.out) | exact HB.out)) hb); clear BK283; clear HB; have BK283 := n0_; have HB := n1_; clear n0_ n1_; (try clear hb); (try clear hb2); (try clear hk); (try clear hi); have hcz9_0 : w8.cell? ⟨gb283, 0, none⟩ = some (.int .u32 a0_0) := (blk_cell BK283.out 0).trans rfl; have hcz9_1 : w8.cell? ⟨gb283, 1, none⟩ = some (.slice A0_1 l0_1.length c0_1) := (blk_cell BK283.out 1).trans rfl; have hcz9_2 : w8.cell? ⟨gb283, 2, none⟩ = some (.string a0_2) := (blk_cell BK283.out 2).trans rfl; have hcz9_3 : w8.cell? ⟨gb283, 3, none⟩ = some (.slice A0_3 l0_3.length c0_3) := (blk_cell BK283.out 3).trans rfl; have hcz9_4 : w8.cell? ⟨gb283, 4, none⟩ = some (.slice A0_4 l0_4.length c0_4) := (blk_cell BK283.out 4).trans rfl; have hfz9_0 := blk_frozen BK283.out 0; have hfz9_1 := blk_frozen BK283.out 1; have hfz9_2 := blk_frozen BK283.out 2; have hfz9_3 := blk_frozen BK283.out 3; have hfz9_4 := blk_frozen BK283.out 4) | ((with_reducible refine gate_callee (f := 64) rfl ?_); refine goesL_ (some 15) rfl rfl Tryz.func64 (by kernel_rfl) rfl #[.agg #[.string a0_2, .slice A0_3 l0_3.length c0_3, .slice A0_4 l0_4.length c0_4]] rfl (by (try simp only [List.map_toArray, List.map_cons, List.map_nil]); first | done | rfl | (simp only [List.length_drop, List.length_take]; rfl)) ?_; (with_reducible refine (tree_Count.calls k a0_2 _ _ l0_3 _ _ l0_4 t285 t286 _ ?side1 ?side2 ?side3 ?side4 A4.out).mono ?_); (case side1 => repeat (first | exact (Kd.C_below HR0_3.out HB.out) | (with_reducible refine Kd.C_alloc ?_ _) | (with_reducible refine Kd.C_drewN ?_ _) | (with_reducible refine Kd.C_drew ?_))); (case side2 => exact HC0_3.out); (case side3 => repeat (first | exact (Kd.C_below HR0_4.out HB.out) | (with_reducible refine Kd.C_alloc ?_ _) | (with_reducible refine Kd.C_drewN ?_ _) | (with_reducible refine Kd.C_drew ?_))); (case side4 => exact HC0_4.out); rintro e w10 ⟨rfl, hb⟩; refine ⟨_, rfl, ?_⟩; have n0_ := Aside0.mk (blk_below (g := gb283) (o := .cells #[.int .u32 a0_0, .slice A0_1 l0_1.length c0_1, .string a0_2, .slice A0_3 l0_3.length c0_3, .slice A0_4 l0_4.length c0_4] 29 (0, 0)) (by (with_reducible repeat (first | refine blk_drewN ?_ _ | refine blk_drew ?_ | refine blk_alloc ?_ _)); exact BK283.out) hb); have n1_ := Aside0.mk (below_step (by repeat (first | (with_reducible first | exact HB.out | apply below_alloc | apply pw_below_drewN | apply below_drew1 | refine below_set ?_ GE283.out) | exact HB.out)) hb); clear BK283; clear HB; have BK283 := n0_; have HB := n1_; clear n0_ n1_; (try clear hb); (try clear hb2); (try clear hk); (try clear hi)))
      go_ret
      exact ⟨by first | rfl | (simp [errW_none, errW_some] <;> rfl) | (simp [*, errW_none, errW_some] <;> rfl), by repeat (first | (with_reducible first | exact HB.out | apply below_alloc | apply pw_below_drewN | apply below_drew1 | refine below_set ?_ GE283.out) | exact HB.out)⟩
    · rw [if_neg c5] at H
      have c5b0 : decide (4096 < t285) = false := decide_eq_false c5
      clear c5
      by_cases c11 : t286 > 8192
      · rw [if_pos c11] at H
        have c11b0 : decide (8192 < t286) = true := decide_eq_true c11
        clear c11
        obtain rfl := Option.some.inj H
        go_enter Tryz.func38, Tryz.ntmps38
        go_wp2_with (first | ((with_reducible refine gate_dst (N := 1) rfl ?_); (try (refine gate_guard (by rfl) ?_; dsimp only)); refine box_event ?hg (N := 1) ?hd (cs := #[.int .u32 a0_0, .slice A0_1 l0_1.length c0_1, .string a0_2, .slice A0_3 l0_3.length c0_3, .slice A0_4 l0_4.length c0_4]) (t := 29) ?hr ?_; (case hd => rfl); (case hg => rfl); (case hr => first | (go_simp; done) | (go_simp; rfl)); intro gb283 hg w12 hbox hb; have n0_ := Aside0.mk (below_step (by repeat (first | (with_reducible first | exact HB.out | apply below_alloc | apply pw_below_drewN | apply below_drew1) | exact HB.out)) hb); have n1_ := Aside0.mk (hbox); have n2_ := Aside0.mk ((by rw [hg]; exact (below_size (by repeat (first | (with_reducible first | exact HB.out | apply below_alloc | apply pw_below_drewN | apply below_drew1) | exact HB.out))) : w.heap.size ≤ gb283)); have n3_ := Aside0.mk ((by rw [hg]; exact (below_size (by repeat (first | (with_reducible first | exact HB.out | apply below_alloc | apply pw_below_drewN | apply below_drew1) | exact HB.out))) : w.heap.size ≤ gb283)); clear HB; have HB := n0_; have BK283 := n1_; have GW283 := n2_; have GE283 := n3_; clear n0_ n1_ n2_ n3_; clear hb hbox hg; have hcz13_0 : w12.cell? ⟨gb283, 0, none⟩ = some (.int .u32 a0_0) := (blk_cell BK283.out 0).trans rfl; have hcz13_1 : w12.cell? ⟨gb283, 1, none⟩ = some (.slice A0_1 l0_1.length c0_1) := (blk_cell BK283.out 1).trans rfl; have hcz13_2 : w12.cell? ⟨gb283, 2, none⟩ = some (.string a0_2) := (blk_cell BK283.out 2).trans rfl; have hcz13_3 : w12.cell? ⟨gb283, 3, none⟩ = some (.slice A0_3 l0_3.length c0_3) := (blk_cell BK283.out 3).trans rfl; have hcz13_4 : w12.cell? ⟨gb283, 4, none⟩ = some (.slice A0_4 l0_4.length c0_4) := (blk_cell BK283.out 4).trans rfl; have hfz13_0 := blk_frozen BK283.out 0; have hfz13_1 := blk_frozen BK283.out 1; have hfz13_2 := blk_frozen BK283.out 2; have hfz13_3 := blk_frozen BK283.out 3; have hfz13_4 := blk_frozen BK283.out 4) | ((with_reducible refine gate_callee (f := 75) rfl ?_); refine goesL_ (some 8) rfl rfl Tryz.func75 (by kernel_rfl) rfl #[.agg #[.string a0_2, .slice A0_3 l0_3.length c0_3, .slice A0_4 l0_4.length c0_4], .int .i64 1] rfl (by (try simp only [List.map_toArray, List.map_cons, List.map_nil]); first | done | rfl | (simp only [List.length_drop, List.length_take]; rfl)) ?_; (with_reducible refine (tree_check.calls k a0_2 _ _ l0_3 _ _ l0_4 1 t284 _ ?side1 ?side2 ?side3 ?side4 A2.out).mono ?_); (case side1 => repeat (first | exact (Kd.C_below HR0_3.out HB.out) | (with_reducible refine Kd.C_alloc ?_ _) | (with_reducible refine Kd.C_drewN ?_ _) | (with_reducible refine Kd.C_drew ?_))); (case side2 => exact HC0_3.out); (case side3 => repeat (first | exact (Kd.C_below HR0_4.out HB.out) | (with_reducible refine Kd.C_alloc ?_ _) | (with_reducible refine Kd.C_drewN ?_ _) | (with_reducible refine Kd.C_drew ?_))); (case side4 => exact HC0_4.out); rintro e w14 ⟨rfl, hb⟩; refine ⟨_, rfl, ?_⟩; have n0_ := Aside0.mk (blk_below (g := gb283) (o := .cells #[.int .u32 a0_0, .slice A0_1 l0_1.length c0_1, .string a0_2, .slice A0_3 l0_3.length c0_3, .slice A0_4 l0_4.length c0_4] 29 (0, 0)) (by (with_reducible repeat (first | refine blk_drewN ?_ _ | refine blk_drew ?_ | refine blk_alloc ?_ _)); exact BK283.out) hb); have n1_ := Aside0.mk (below_step (by repeat (first | (with_reducible first | exact HB.out | apply below_alloc | apply pw_below_drewN | apply below_drew1 | refine below_set ?_ GE283.out) | exact HB.out)) hb); clear BK283; clear HB; have BK283 := n0_; have HB := n1_; clear n0_ n1_; (try clear hb); (try clear hb2); (try clear hk); (try clear hi); have hcz15_0 : w14.cell? ⟨gb283, 0, none⟩ = some (.int .u32 a0_0) := (blk_cell BK283.out 0).trans rfl; have hcz15_1 : w14.cell? ⟨gb283, 1, none⟩ = some (.slice A0_1 l0_1.length c0_1) := (blk_cell BK283.out 1).trans rfl; have hcz15_2 : w14.cell? ⟨gb283, 2, none⟩ = some (.string a0_2) := (blk_cell BK283.out 2).trans rfl; have hcz15_3 : w14.cell? ⟨gb283, 3, none⟩ = some (.slice A0_3 l0_3.length c0_3) := (blk_cell BK283.out 3).trans rfl; have hcz15_4 : w14.cell? ⟨gb283, 4, none⟩ = some (.slice A0_4 l0_4.length c0_4) := (blk_cell BK283.out 4).trans rfl; have hfz15_0 := blk_frozen BK283.out 0; have hfz15_1 := blk_frozen BK283.out 1; have hfz15_2 := blk_frozen BK283.out 2; have hfz15_3 := blk_frozen BK283.out 3; have hfz15_4 := blk_frozen BK283.out 4) | ((with_reducible refine gate_callee (f := 64) rfl ?_); refine goesL_ (some 15) rfl rfl Tryz.func64 (by kernel_rfl) rfl #[.agg #[.string a0_2, .slice A0_3 l0_3.length c0_3, .slice A0_4 l0_4.length c0_4]] rfl (by (try simp only [List.map_toArray, List.map_cons, List.map_nil]); first | done | rfl | (simp only [List.length_drop, List.length_take]; rfl)) ?_; (with_reducible refine (tree_Count.calls k a0_2 _ _ l0_3 _ _ l0_4 t285 t286 _ ?side1 ?side2 ?side3 ?side4 A4.out).mono ?_); (case side1 => repeat (first | exact (Kd.C_below HR0_3.out HB.out) | (with_reducible refine Kd.C_alloc ?_ _) | (with_reducible refine Kd.C_drewN ?_ _) | (with_reducible refine Kd.C_drew ?_))); (case side2 => exact HC0_3.out); (case side3 => repeat (first | exact (Kd.C_below HR0_4.out HB.out) | (with_reducible refine Kd.C_alloc ?_ _) | (with_reducible refine Kd.C_drewN ?_ _) | (with_reducible refine Kd.C_drew ?_))); (case side4 => exact HC0_4.out); rintro e w16 ⟨rfl, hb⟩; refine ⟨_, rfl, ?_⟩; have n0_ := Aside0.mk (blk_below (g := gb283) (o := .cells #[.int .u32 a0_0, .slice A0_1 l0_1.length c0_1, .string a0_2, .slice A0_3 l0_3.length c0_3, .slice A0_4 l0_4.length c0_4] 29 (0, 0)) (by (with_reducible repeat (first | refine blk_drewN ?_ _ | refine blk_drew ?_ | refine blk_alloc ?_ _)); exact BK283.out) hb); have n1_ := Aside0.mk (below_step (by repeat (first | (with_reducible first | exact HB.out | apply below_alloc | apply pw_below_drewN | apply below_drew1 | refine below_set ?_ GE283.out) | exact HB.out)) hb); clear BK283; clear HB; have BK283 := n0_; have HB := n1_; clear n0_ n1_; (try clear hb); (try clear hb2); (try clear hk); (try clear hi)))
        go_ret
        exact ⟨by first | rfl | (simp [errW_none, errW_some] <;> rfl) | (simp [*, errW_none, errW_some] <;> rfl), by repeat (first | (with_reducible first | exact HB.out | apply below_alloc | apply pw_below_drewN | apply below_drew1 | refine below_set ?_ GE283.out) | exact HB.out)⟩
      · rw [if_neg c11] at H
        have c11b0 : decide (8192 < t286) = false := decide_eq_false c11
        clear c11
        by_cases c17 : (l0_1.length : Int) > 64
        · rw [if_pos c17] at H
          have c17b0 : decide (64 < (l0_1.length : Int)) = true := decide_eq_true c17
          have c17b1 : decide (64 < l0_1.length) = true := decide_eq_true (by omega)
          clear c17
          obtain rfl := Option.some.inj H
          go_enter Tryz.func38, Tryz.ntmps38
          go_wp2_with (first | ((with_reducible refine gate_dst (N := 1) rfl ?_); (try (refine gate_guard (by rfl) ?_; dsimp only)); refine box_event ?hg (N := 1) ?hd (cs := #[.int .u32 a0_0, .slice A0_1 l0_1.length c0_1, .string a0_2, .slice A0_3 l0_3.length c0_3, .slice A0_4 l0_4.length c0_4]) (t := 29) ?hr ?_; (case hd => rfl); (case hg => rfl); (case hr => first | (go_simp; done) | (go_simp; rfl)); intro gb283 hg w18 hbox hb; have n0_ := Aside0.mk (below_step (by repeat (first | (with_reducible first | exact HB.out | apply below_alloc | apply pw_below_drewN | apply below_drew1) | exact HB.out)) hb); have n1_ := Aside0.mk (hbox); have n2_ := Aside0.mk ((by rw [hg]; exact (below_size (by repeat (first | (with_reducible first | exact HB.out | apply below_alloc | apply pw_below_drewN | apply below_drew1) | exact HB.out))) : w.heap.size ≤ gb283)); have n3_ := Aside0.mk ((by rw [hg]; exact (below_size (by repeat (first | (with_reducible first | exact HB.out | apply below_alloc | apply pw_below_drewN | apply below_drew1) | exact HB.out))) : w.heap.size ≤ gb283)); clear HB; have HB := n0_; have BK283 := n1_; have GW283 := n2_; have GE283 := n3_; clear n0_ n1_ n2_ n3_; clear hb hbox hg; have hcz19_0 : w18.cell? ⟨gb283, 0, none⟩ = some (.int .u32 a0_0) := (blk_cell BK283.out 0).trans rfl; have hcz19_1 : w18.cell? ⟨gb283, 1, none⟩ = some (.slice A0_1 l0_1.length c0_1) := (blk_cell BK283.out 1).trans rfl; have hcz19_2 : w18.cell? ⟨gb283, 2, none⟩ = some (.string a0_2) := (blk_cell BK283.out 2).trans rfl; have hcz19_3 : w18.cell? ⟨gb283, 3, none⟩ = some (.slice A0_3 l0_3.length c0_3) := (blk_cell BK283.out 3).trans rfl; have hcz19_4 : w18.cell? ⟨gb283, 4, none⟩ = some (.slice A0_4 l0_4.length c0_4) := (blk_cell BK283.out 4).trans rfl; have hfz19_0 := blk_frozen BK283.out 0; have hfz19_1 := blk_frozen BK283.out 1; have hfz19_2 := blk_frozen BK283.out 2; have hfz19_3 := blk_frozen BK283.out 3; have hfz19_4 := blk_frozen BK283.out 4) | ((with_reducible refine gate_callee (f := 75) rfl ?_); refine goesL_ (some 8) rfl rfl Tryz.func75 (by kernel_rfl) rfl #[.agg #[.string a0_2, .slice A0_3 l0_3.length c0_3, .slice A0_4 l0_4.length c0_4], .int .i64 1] rfl (by (try simp only [List.map_toArray, List.map_cons, List.map_nil]); first | done | rfl | (simp only [List.length_drop, List.length_take]; rfl)) ?_; (with_reducible refine (tree_check.calls k a0_2 _ _ l0_3 _ _ l0_4 1 t284 _ ?side1 ?side2 ?side3 ?side4 A2.out).mono ?_); (case side1 => repeat (first | exact (Kd.C_below HR0_3.out HB.out) | (with_reducible refine Kd.C_alloc ?_ _) | (with_reducible refine Kd.C_drewN ?_ _) | (with_reducible refine Kd.C_drew ?_))); (case side2 => exact HC0_3.out); (case side3 => repeat (first | exact (Kd.C_below HR0_4.out HB.out) | (with_reducible refine Kd.C_alloc ?_ _) | (with_reducible refine Kd.C_drewN ?_ _) | (with_reducible refine Kd.C_drew ?_))); (case side4 => exact HC0_4.out); rintro e w20 ⟨rfl, hb⟩; refine ⟨_, rfl, ?_⟩; have n0_ := Aside0.mk (blk_below (g := gb283) (o := .cells #[.int .u32 a0_0, .slice A0_1 l0_1.length c0_1, .string a0_2, .slice A0_3 l0_3.length c0_3, .slice A0_4 l0_4.length c0_4] 29 (0, 0)) (by (with_reducible repeat (first | refine blk_drewN ?_ _ | refine blk_drew ?_ | refine blk_alloc ?_ _)); exact BK283.out) hb); have n1_ := Aside0.mk (below_step (by repeat (first | (with_reducible first | exact HB.out | apply below_alloc | apply pw_below_drewN | apply below_drew1 | refine below_set ?_ GE283.out) | exact HB.out)) hb); clear BK283; clear HB; have BK283 := n0_; have HB := n1_; clear n0_ n1_; (try clear hb); (try clear hb2); (try clear hk); (try clear hi); have hcz21_0 : w20.cell? ⟨gb283, 0, none⟩ = some (.int .u32 a0_0) := (blk_cell BK283.out 0).trans rfl; have hcz21_1 : w20.cell? ⟨gb283, 1, none⟩ = some (.slice A0_1 l0_1.length c0_1) := (blk_cell BK283.out 1).trans rfl; have hcz21_2 : w20.cell? ⟨gb283, 2, none⟩ = some (.string a0_2) := (blk_cell BK283.out 2).trans rfl; have hcz21_3 : w20.cell? ⟨gb283, 3, none⟩ = some (.slice A0_3 l0_3.length c0_3) := (blk_cell BK283.out 3).trans rfl; have hcz21_4 : w20.cell? ⟨gb283, 4, none⟩ = some (.slice A0_4 l0_4.length c0_4) := (blk_cell BK283.out 4).trans rfl; have hfz21_0 := blk_frozen BK283.out 0; have hfz21_1 := blk_frozen BK283.out 1; have hfz21_2 := blk_frozen BK283.out 2; have hfz21_3 := blk_frozen BK283.out 3; have hfz21_4 := blk_frozen BK283.out 4) | ((with_reducible refine gate_callee (f := 64) rfl ?_); refine goesL_ (some 15) rfl rfl Tryz.func64 (by kernel_rfl) rfl #[.agg #[.string a0_2, .slice A0_3 l0_3.length c0_3, .slice A0_4 l0_4.length c0_4]] rfl (by (try simp only [List.map_toArray, List.map_cons, List.map_nil]); first | done | rfl | (simp only [List.length_drop, List.length_take]; rfl)) ?_; (with_reducible refine (tree_Count.calls k a0_2 _ _ l0_3 _ _ l0_4 t285 t286 _ ?side1 ?side2 ?side3 ?side4 A4.out).mono ?_); (case side1 => repeat (first | exact (Kd.C_below HR0_3.out HB.out) | (with_reducible refine Kd.C_alloc ?_ _) | (with_reducible refine Kd.C_drewN ?_ _) | (with_reducible refine Kd.C_drew ?_))); (case side2 => exact HC0_3.out); (case side3 => repeat (first | exact (Kd.C_below HR0_4.out HB.out) | (with_reducible refine Kd.C_alloc ?_ _) | (with_reducible refine Kd.C_drewN ?_ _) | (with_reducible refine Kd.C_drew ?_))); (case side4 => exact HC0_4.out); rintro e w22 ⟨rfl, hb⟩; refine ⟨_, rfl, ?_⟩; have n0_ := Aside0.mk (blk_below (g := gb283) (o := .cells #[.int .u32 a0_0, .slice A0_1 l0_1.length c0_1, .string a0_2, .slice A0_3 l0_3.length c0_3, .slice A0_4 l0_4.length c0_4] 29 (0, 0)) (by (with_reducible repeat (first | refine blk_drewN ?_ _ | refine blk_drew ?_ | refine blk_alloc ?_ _)); exact BK283.out) hb); have n1_ := Aside0.mk (below_step (by repeat (first | (with_reducible first | exact HB.out | apply below_alloc | apply pw_below_drewN | apply below_drew1 | refine below_set ?_ GE283.out) | exact HB.out)) hb); clear BK283; clear HB; have BK283 := n0_; have HB := n1_; clear n0_ n1_; (try clear hb); (try clear hb2); (try clear hk); (try clear hi); have hcz23_0 : w22.cell? ⟨gb283, 0, none⟩ = some (.int .u32 a0_0) := (blk_cell BK283.out 0).trans rfl; have hcz23_1 : w22.cell? ⟨gb283, 1, none⟩ = some (.slice A0_1 l0_1.length c0_1) := (blk_cell BK283.out 1).trans rfl; have hcz23_2 : w22.cell? ⟨gb283, 2, none⟩ = some (.string a0_2) := (blk_cell BK283.out 2).trans rfl; have hcz23_3 : w22.cell? ⟨gb283, 3, none⟩ = some (.slice A0_3 l0_3.length c0_3) := (blk_cell BK283.out 3).trans rfl; have hcz23_4 : w22.cell? ⟨gb283, 4, none⟩ = some (.slice A0_4 l0_4.length c0_4) := (blk_cell BK283.out 4).trans rfl; have hfz23_0 := blk_frozen BK283.out 0; have hfz23_1 := blk_frozen BK283.out 1; have hfz23_2 := blk_frozen BK283.out 2; have hfz23_3 := blk_frozen BK283.out 3; have hfz23_4 := blk_frozen BK283.out 4))
          go_ret
          exact ⟨by first | rfl | (simp [errW_none, errW_some] <;> rfl) | (simp [*, errW_none, errW_some] <;> rfl), by repeat (first | (with_reducible first | exact HB.out | apply below_alloc | apply pw_below_drewN | apply below_drew1 | refine below_set ?_ GE283.out) | exact HB.out)⟩
        · rw [if_neg c17] at H
          have c17b0 : decide (64 < (l0_1.length : Int)) = false := decide_eq_false c17
          have c17b1 : decide (64 < l0_1.length) = false := decide_eq_false (by omega)
          clear c17
          replace H := Option.bind_eq_some_iff.mp H
          obtain ⟨t287, A240, H⟩ := H
          replace H : (if t287 = true then (some 7) else (some 0)) = some r := H
          have A24 := Aside0.mk A240
          clear A240
          by_cases c25 : t287 = true
          · subst c25
            have H1 : (some 7) = some r := by rw [if_pos rfl] at H; exact H
            clear H
            have H := H1
            clear H1
            obtain rfl := Option.some.inj H
            go_enter Tryz.func38, Tryz.ntmps38
            go_wp2_with (first | ((with_reducible refine gate_dst (N := 1) rfl ?_); (try (refine gate_guard (by rfl) ?_; dsimp only)); refine box_event ?hg (N := 1) ?hd (cs := #[.int .u32 a0_0, .slice A0_1 l0_1.length c0_1, .string a0_2, .slice A0_3 l0_3.length c0_3, .slice A0_4 l0_4.length c0_4]) (t := 29) ?hr ?_; (case hd => rfl); (case hg => rfl); (case hr => first | (go_simp; done) | (go_simp; rfl)); intro gb283 hg w26 hbox hb; have n0_ := Aside0.mk (below_step (by repeat (first | (with_reducible first | exact HB.out | apply below_alloc | apply pw_below_drewN | apply below_drew1) | exact HB.out)) hb); have n1_ := Aside0.mk (hbox); have n2_ := Aside0.mk ((by rw [hg]; exact (below_size (by repeat (first | (with_reducible first | exact HB.out | apply below_alloc | apply pw_below_drewN | apply below_drew1) | exact HB.out))) : w.heap.size ≤ gb283)); have n3_ := Aside0.mk ((by rw [hg]; exact (below_size (by repeat (first | (with_reducible first | exact HB.out | apply below_alloc | apply pw_below_drewN | apply below_drew1) | exact HB.out))) : w.heap.size ≤ gb283)); clear HB; have HB := n0_; have BK283 := n1_; have GW283 := n2_; have GE283 := n3_; clear n0_ n1_ n2_ n3_; clear hb hbox hg; have hcz27_0 : w26.cell? ⟨gb283, 0, none⟩ = some (.int .u32 a0_0) := (blk_cell BK283.out 0).trans rfl; have hcz27_1 : w26.cell? ⟨gb283, 1, none⟩ = some (.slice A0_1 l0_1.length c0_1) := (blk_cell BK283.out 1).trans rfl; have hcz27_2 : w26.cell? ⟨gb283, 2, none⟩ = some (.string a0_2) := (blk_cell BK283.out 2).trans rfl; have hcz27_3 : w26.cell? ⟨gb283, 3, none⟩ = some (.slice A0_3 l0_3.length c0_3) := (blk_cell BK283.out 3).trans rfl; have hcz27_4 : w26.cell? ⟨gb283, 4, none⟩ = some (.slice A0_4 l0_4.length c0_4) := (blk_cell BK283.out 4).trans rfl; have hfz27_0 := blk_frozen BK283.out 0; have hfz27_1 := blk_frozen BK283.out 1; have hfz27_2 := blk_frozen BK283.out 2; have hfz27_3 := blk_frozen BK283.out 3; have hfz27_4 := blk_frozen BK283.out 4) | ((with_reducible refine gate_callee (f := 75) rfl ?_); refine goesL_ (some 8) rfl rfl Tryz.func75 (by kernel_rfl) rfl #[.agg #[.string a0_2, .slice A0_3 l0_3.length c0_3, .slice A0_4 l0_4.length c0_4], .int .i64 1] rfl (by (try simp only [List.map_toArray, List.map_cons, List.map_nil]); first | done | rfl | (simp only [List.length_drop, List.length_take]; rfl)) ?_; (with_reducible refine (tree_check.calls k a0_2 _ _ l0_3 _ _ l0_4 1 t284 _ ?side1 ?side2 ?side3 ?side4 A2.out).mono ?_); (case side1 => repeat (first | exact (Kd.C_below HR0_3.out HB.out) | (with_reducible refine Kd.C_alloc ?_ _) | (with_reducible refine Kd.C_drewN ?_ _) | (with_reducible refine Kd.C_drew ?_))); (case side2 => exact HC0_3.out); (case side3 => repeat (first | exact (Kd.C_below HR0_4.out HB.out) | (with_reducible refine Kd.C_alloc ?_ _) | (with_reducible refine Kd.C_drewN ?_ _) | (with_reducible refine Kd.C_drew ?_))); (case side4 => exact HC0_4.out); rintro e w28 ⟨rfl, hb⟩; refine ⟨_, rfl, ?_⟩; have n0_ := Aside0.mk (blk_below (g := gb283) (o := .cells #[.int .u32 a0_0, .slice A0_1 l0_1.length c0_1, .string a0_2, .slice A0_3 l0_3.length c0_3, .slice A0_4 l0_4.length c0_4] 29 (0, 0)) (by (with_reducible repeat (first | refine blk_drewN ?_ _ | refine blk_drew ?_ | refine blk_alloc ?_ _)); exact BK283.out) hb); have n1_ := Aside0.mk (below_step (by repeat (first | (with_reducible first | exact HB.out | apply below_alloc | apply pw_below_drewN | apply below_drew1 | refine below_set ?_ GE283.out) | exact HB.out)) hb); clear BK283; clear HB; have BK283 := n0_; have HB := n1_; clear n0_ n1_; (try clear hb); (try clear hb2); (try clear hk); (try clear hi); have hcz29_0 : w28.cell? ⟨gb283, 0, none⟩ = some (.int .u32 a0_0) := (blk_cell BK283.out 0).trans rfl; have hcz29_1 : w28.cell? ⟨gb283, 1, none⟩ = some (.slice A0_1 l0_1.length c0_1) := (blk_cell BK283.out 1).trans rfl; have hcz29_2 : w28.cell? ⟨gb283, 2, none⟩ = some (.string a0_2) := (blk_cell BK283.out 2).trans rfl; have hcz29_3 : w28.cell? ⟨gb283, 3, none⟩ = some (.slice A0_3 l0_3.length c0_3) := (blk_cell BK283.out 3).trans rfl; have hcz29_4 : w28.cell? ⟨gb283, 4, none⟩ = some (.slice A0_4 l0_4.length c0_4) := (blk_cell BK283.out 4).trans rfl; have hfz29_0 := blk_frozen BK283.out 0; have hfz29_1 := blk_frozen BK283.out 1; have hfz29_2 := blk_frozen BK283.out 2; have hfz29_3 := blk_frozen BK283.out 3; have hfz29_4 := blk_frozen BK283.out 4) | ((with_reducible refine gate_callee (f := 64) rfl ?_); refine goesL_ (some 15) rfl rfl Tryz.func64 (by kernel_rfl) rfl #[.agg #[.string a0_2, .slice A0_3 l0_3.length c0_3, .slice A0_4 l0_4.length c0_4]] rfl (by (try simp only [List.map_toArray, List.map_cons, List.map_nil]); first | done | rfl | (simp only [List.length_drop, List.length_take]; rfl)) ?_; (with_reducible refine (tree_Count.calls k a0_2 _ _ l0_3 _ _ l0_4 t285 t286 _ ?side1 ?side2 ?side3 ?side4 A4.out).mono ?_); (case side1 => repeat (first | exact (Kd.C_below HR0_3.out HB.out) | (with_reducible refine Kd.C_alloc ?_ _) | (with_reducible refine Kd.C_drewN ?_ _) | (with_reducible refine Kd.C_drew ?_))); (case side2 => exact HC0_3.out); (case side3 => repeat (first | exact (Kd.C_below HR0_4.out HB.out) | (with_reducible refine Kd.C_alloc ?_ _) | (with_reducible refine Kd.C_drewN ?_ _) | (with_reducible refine Kd.C_drew ?_))); (case side4 => exact HC0_4.out); rintro e w30 ⟨rfl, hb⟩; refine ⟨_, rfl, ?_⟩; have n0_ := Aside0.mk (blk_below (g := gb283) (o := .cells #[.int .u32 a0_0, .slice A0_1 l0_1.length c0_1, .string a0_2, .slice A0_3 l0_3.length c0_3, .slice A0_4 l0_4.length c0_4] 29 (0, 0)) (by (with_reducible repeat (first | refine blk_drewN ?_ _ | refine blk_drew ?_ | refine blk_alloc ?_ _)); exact BK283.out) hb); have n1_ := Aside0.mk (below_step (by repeat (first | (with_reducible first | exact HB.out | apply below_alloc | apply pw_below_drewN | apply below_drew1 | refine below_set ?_ GE283.out) | exact HB.out)) hb); clear BK283; clear HB; have BK283 := n0_; have HB := n1_; clear n0_ n1_; (try clear hb); (try clear hb2); (try clear hk); (try clear hi); have hcz31_0 : w30.cell? ⟨gb283, 0, none⟩ = some (.int .u32 a0_0) := (blk_cell BK283.out 0).trans rfl; have hcz31_1 : w30.cell? ⟨gb283, 1, none⟩ = some (.slice A0_1 l0_1.length c0_1) := (blk_cell BK283.out 1).trans rfl; have hcz31_2 : w30.cell? ⟨gb283, 2, none⟩ = some (.string a0_2) := (blk_cell BK283.out 2).trans rfl; have hcz31_3 : w30.cell? ⟨gb283, 3, none⟩ = some (.slice A0_3 l0_3.length c0_3) := (blk_cell BK283.out 3).trans rfl; have hcz31_4 : w30.cell? ⟨gb283, 4, none⟩ = some (.slice A0_4 l0_4.length c0_4) := (blk_cell BK283.out 4).trans rfl; have hfz31_0 := blk_frozen BK283.out 0; have hfz31_1 := blk_frozen BK283.out 1; have hfz31_2 := blk_frozen BK283.out 2; have hfz31_3 := blk_frozen BK283.out 3; have hfz31_4 := blk_frozen BK283.out 4) | (go_at_call 76; (with_reducible refine (api_Reserve_76.calls k _ _ l0_1 0 0 true _ ?side1 ?side2 A24.out).mono ?_); (case side1 => repeat (first | exact (Kd.C_below HR0_1.out HB.out) | (with_reducible refine Kd.C_alloc ?_ _) | (with_reducible refine Kd.C_drewN ?_ _) | (with_reducible refine Kd.C_drew ?_))); (case side2 => exact HC0_1.out); rintro e w32 ⟨rfl, hb⟩; have n0_ := Aside0.mk (blk_below (g := gb283) (o := .cells #[.int .u32 a0_0, .slice A0_1 l0_1.length c0_1, .string a0_2, .slice A0_3 l0_3.length c0_3, .slice A0_4 l0_4.length c0_4] 29 (0, 0)) (by (with_reducible repeat (first | refine blk_drewN ?_ _ | refine blk_drew ?_ | refine blk_alloc ?_ _)); exact BK283.out) hb); have n1_ := Aside0.mk (below_step (by repeat (first | (with_reducible first | exact HB.out | apply below_alloc | apply pw_below_drewN | apply below_drew1 | refine below_set ?_ GE283.out) | exact HB.out)) hb); clear BK283; clear HB; have BK283 := n0_; have HB := n1_; clear n0_ n1_; (try clear hb); (try clear hb2); (try clear hk); (try clear hi)))
            go_ret
            exact ⟨by first | rfl | (simp [errW_none, errW_some] <;> rfl) | (simp [*, errW_none, errW_some] <;> rfl), by repeat (first | (with_reducible first | exact HB.out | apply below_alloc | apply pw_below_drewN | apply below_drew1 | refine below_set ?_ GE283.out) | exact HB.out)⟩
          · replace c25 := Bool.eq_false_iff.mpr c25
            subst c25
            have H1 : (some 0) = some r := by rw [if_neg (show ¬ (false = true) by decide)] at H; exact H
            clear H
            have H := H1
            clear H1
            obtain rfl := Option.some.inj H
            go_enter Tryz.func38, Tryz.ntmps38
            go_wp2_with (first | ((with_reducible refine gate_dst (N := 1) rfl ?_); (try (refine gate_guard (by rfl) ?_; dsimp only)); refine box_event ?hg (N := 1) ?hd (cs := #[.int .u32 a0_0, .slice A0_1 l0_1.length c0_1, .string a0_2, .slice A0_3 l0_3.length c0_3, .slice A0_4 l0_4.length c0_4]) (t := 29) ?hr ?_; (case hd => rfl); (case hg => rfl); (case hr => first | (go_simp; done) | (go_simp; rfl)); intro gb283 hg w33 hbox hb; have n0_ := Aside0.mk (below_step (by repeat (first | (with_reducible first | exact HB.out | apply below_alloc | apply pw_below_drewN | apply below_drew1) | exact HB.out)) hb); have n1_ := Aside0.mk (hbox); have n2_ := Aside0.mk ((by rw [hg]; exact (below_size (by repeat (first | (with_reducible first | exact HB.out | apply below_alloc | apply pw_below_drewN | apply below_drew1) | exact HB.out))) : w.heap.size ≤ gb283)); have n3_ := Aside0.mk ((by rw [hg]; exact (below_size (by repeat (first | (with_reducible first | exact HB.out | apply below_alloc | apply pw_below_drewN | apply below_drew1) | exact HB.out))) : w.heap.size ≤ gb283)); clear HB; have HB := n0_; have BK283 := n1_; have GW283 := n2_; have GE283 := n3_; clear n0_ n1_ n2_ n3_; clear hb hbox hg; have hcz34_0 : w33.cell? ⟨gb283, 0, none⟩ = some (.int .u32 a0_0) := (blk_cell BK283.out 0).trans rfl; have hcz34_1 : w33.cell? ⟨gb283, 1, none⟩ = some (.slice A0_1 l0_1.length c0_1) := (blk_cell BK283.out 1).trans rfl; have hcz34_2 : w33.cell? ⟨gb283, 2, none⟩ = some (.string a0_2) := (blk_cell BK283.out 2).trans rfl; have hcz34_3 : w33.cell? ⟨gb283, 3, none⟩ = some (.slice A0_3 l0_3.length c0_3) := (blk_cell BK283.out 3).trans rfl; have hcz34_4 : w33.cell? ⟨gb283, 4, none⟩ = some (.slice A0_4 l0_4.length c0_4) := (blk_cell BK283.out 4).trans rfl; have hfz34_0 := blk_frozen BK283.out 0; have hfz34_1 := blk_frozen BK283.out 1; have hfz34_2 := blk_frozen BK283.out 2; have hfz34_3 := blk_frozen BK283.out 3; have hfz34_4 := blk_frozen BK283.out 4) | ((with_reducible refine gate_callee (f := 75) rfl ?_); refine goesL_ (some 8) rfl rfl Tryz.func75 (by kernel_rfl) rfl #[.agg #[.string a0_2, .slice A0_3 l0_3.length c0_3, .slice A0_4 l0_4.length c0_4], .int .i64 1] rfl (by (try simp only [List.map_toArray, List.map_cons, List.map_nil]); first | done | rfl | (simp only [List.length_drop, List.length_take]; rfl)) ?_; (with_reducible refine (tree_check.calls k a0_2 _ _ l0_3 _ _ l0_4 1 t284 _ ?side1 ?side2 ?side3 ?side4 A2.out).mono ?_); (case side1 => repeat (first | exact (Kd.C_below HR0_3.out HB.out) | (with_reducible refine Kd.C_alloc ?_ _) | (with_reducible refine Kd.C_drewN ?_ _) | (with_reducible refine Kd.C_drew ?_))); (case side2 => exact HC0_3.out); (case side3 => repeat (first | exact (Kd.C_below HR0_4.out HB.out) | (with_reducible refine Kd.C_alloc ?_ _) | (with_reducible refine Kd.C_drewN ?_ _) | (with_reducible refine Kd.C_drew ?_))); (case side4 => exact HC0_4.out); rintro e w35 ⟨rfl, hb⟩; refine ⟨_, rfl, ?_⟩; have n0_ := Aside0.mk (blk_below (g := gb283) (o := .cells #[.int .u32 a0_0, .slice A0_1 l0_1.length c0_1, .string a0_2, .slice A0_3 l0_3.length c0_3, .slice A0_4 l0_4.length c0_4] 29 (0, 0)) (by (with_reducible repeat (first | refine blk_drewN ?_ _ | refine blk_drew ?_ | refine blk_alloc ?_ _)); exact BK283.out) hb); have n1_ := Aside0.mk (below_step (by repeat (first | (with_reducible first | exact HB.out | apply below_alloc | apply pw_below_drewN | apply below_drew1 | refine below_set ?_ GE283.out) | exact HB.out)) hb); clear BK283; clear HB; have BK283 := n0_; have HB := n1_; clear n0_ n1_; (try clear hb); (try clear hb2); (try clear hk); (try clear hi); have hcz36_0 : w35.cell? ⟨gb283, 0, none⟩ = some (.int .u32 a0_0) := (blk_cell BK283.out 0).trans rfl; have hcz36_1 : w35.cell? ⟨gb283, 1, none⟩ = some (.slice A0_1 l0_1.length c0_1) := (blk_cell BK283.out 1).trans rfl; have hcz36_2 : w35.cell? ⟨gb283, 2, none⟩ = some (.string a0_2) := (blk_cell BK283.out 2).trans rfl; have hcz36_3 : w35.cell? ⟨gb283, 3, none⟩ = some (.slice A0_3 l0_3.length c0_3) := (blk_cell BK283.out 3).trans rfl; have hcz36_4 : w35.cell? ⟨gb283, 4, none⟩ = some (.slice A0_4 l0_4.length c0_4) := (blk_cell BK283.out 4).trans rfl; have hfz36_0 := blk_frozen BK283.out 0; have hfz36_1 := blk_frozen BK283.out 1; have hfz36_2 := blk_frozen BK283.out 2; have hfz36_3 := blk_frozen BK283.out 3; have hfz36_4 := blk_frozen BK283.out 4) | ((with_reducible refine gate_callee (f := 64) rfl ?_); refine goesL_ (some 15) rfl rfl Tryz.func64 (by kernel_rfl) rfl #[.agg #[.string a0_2, .slice A0_3 l0_3.length c0_3, .slice A0_4 l0_4.length c0_4]] rfl (by (try simp only [List.map_toArray, List.map_cons, List.map_nil]); first | done | rfl | (simp only [List.length_drop, List.length_take]; rfl)) ?_; (with_reducible refine (tree_Count.calls k a0_2 _ _ l0_3 _ _ l0_4 t285 t286 _ ?side1 ?side2 ?side3 ?side4 A4.out).mono ?_); (case side1 => repeat (first | exact (Kd.C_below HR0_3.out HB.out) | (with_reducible refine Kd.C_alloc ?_ _) | (with_reducible refine Kd.C_drewN ?_ _) | (with_reducible refine Kd.C_drew ?_))); (case side2 => exact HC0_3.out); (case side3 => repeat (first | exact (Kd.C_below HR0_4.out HB.out) | (with_reducible refine Kd.C_alloc ?_ _) | (with_reducible refine Kd.C_drewN ?_ _) | (with_reducible refine Kd.C_drew ?_))); (case side4 => exact HC0_4.out); rintro e w37 ⟨rfl, hb⟩; refine ⟨_, rfl, ?_⟩; have n0_ := Aside0.mk (blk_below (g := gb283) (o := .cells #[.int .u32 a0_0, .slice A0_1 l0_1.length c0_1, .string a0_2, .slice A0_3 l0_3.length c0_3, .slice A0_4 l0_4.length c0_4] 29 (0, 0)) (by (with_reducible repeat (first | refine blk_drewN ?_ _ | refine blk_drew ?_ | refine blk_alloc ?_ _)); exact BK283.out) hb); have n1_ := Aside0.mk (below_step (by repeat (first | (with_reducible first | exact HB.out | apply below_alloc | apply pw_below_drewN | apply below_drew1 | refine below_set ?_ GE283.out) | exact HB.out)) hb); clear BK283; clear HB; have BK283 := n0_; have HB := n1_; clear n0_ n1_; (try clear hb); (try clear hb2); (try clear hk); (try clear hi); have hcz38_0 : w37.cell? ⟨gb283, 0, none⟩ = some (.int .u32 a0_0) := (blk_cell BK283.out 0).trans rfl; have hcz38_1 : w37.cell? ⟨gb283, 1, none⟩ = some (.slice A0_1 l0_1.length c0_1) := (blk_cell BK283.out 1).trans rfl; have hcz38_2 : w37.cell? ⟨gb283, 2, none⟩ = some (.string a0_2) := (blk_cell BK283.out 2).trans rfl; have hcz38_3 : w37.cell? ⟨gb283, 3, none⟩ = some (.slice A0_3 l0_3.length c0_3) := (blk_cell BK283.out 3).trans rfl; have hcz38_4 : w37.cell? ⟨gb283, 4, none⟩ = some (.slice A0_4 l0_4.length c0_4) := (blk_cell BK283.out 4).trans rfl; have hfz38_0 := blk_frozen BK283.out 0; have hfz38_1 := blk_frozen BK283.out 1; have hfz38_2 := blk_frozen BK283.out 2; have hfz38_3 := blk_frozen BK283.out 3; have hfz38_4 := blk_frozen BK283.out 4) | (go_at_call 76; (with_reducible refine (api_Reserve_76.calls k _ _ l0_1 0 0 false _ ?side1 ?side2 A24.out).mono ?_); (case side1 => repeat (first | exact (Kd.C_below HR0_1.out HB.out) | (with_reducible refine Kd.C_alloc ?_ _) | (with_reducible refine Kd.C_drewN ?_ _) | (with_reducible refine Kd.C_drew ?_))); (case side2 => exact HC0_1.out); rintro e w39 ⟨rfl, hb⟩; have n0_ := Aside0.mk (blk_below (g := gb283) (o := .cells #[.int .u32 a0_0, .slice A0_1 l0_1.length c0_1, .string a0_2, .slice A0_3 l0_3.length c0_3, .slice A0_4 l0_4.length c0_4] 29 (0, 0)) (by (with_reducible repeat (first | refine blk_drewN ?_ _ | refine blk_drew ?_ | refine blk_alloc ?_ _)); exact BK283.out) hb); have n1_ := Aside0.mk (below_step (by repeat (first | (with_reducible first | exact HB.out | apply below_alloc | apply pw_below_drewN | apply below_drew1 | refine below_set ?_ GE283.out) | exact HB.out)) hb); clear BK283; clear HB; have BK283 := n0_; have HB := n1_; clear n0_ n1_; (try clear hb); (try clear hb2); (try clear hk); (try clear hi)))
            go_ret
            exact ⟨by first | rfl | (simp [errW_none, errW_some] <;> rfl) | (simp [*, errW_none, errW_some] <;> rfl), by repeat (first | (with_reducible first | exact HB.out | apply below_alloc | apply pw_below_drewN | apply below_drew1 | refine below_set ?_ GE283.out) | exact HB.out)⟩
  · rw [if_neg c3] at H
    have c3b0 : (t284 == 0) = false := beq_eq_false_iff_ne.mpr c3
    have c3b1 : (t284 != 0) = true := bne_iff_ne.mpr c3
    obtain rfl := Option.some.inj H
    go_enter Tryz.func38, Tryz.ntmps38
    go_wp2_with (first | ((with_reducible refine gate_dst (N := 1) rfl ?_); (try (refine gate_guard (by rfl) ?_; dsimp only)); refine box_event ?hg (N := 1) ?hd (cs := #[.int .u32 a0_0, .slice A0_1 l0_1.length c0_1, .string a0_2, .slice A0_3 l0_3.length c0_3, .slice A0_4 l0_4.length c0_4]) (t := 29) ?hr ?_; (case hd => rfl); (case hg => rfl); (case hr => first | (go_simp; done) | (go_simp; rfl)); intro gb283 hg w40 hbox hb; have n0_ := Aside0.mk (below_step (by repeat (first | (with_reducible first | exact HB.out | apply below_alloc | apply pw_below_drewN | apply below_drew1) | exact HB.out)) hb); have n1_ := Aside0.mk (hbox); have n2_ := Aside0.mk ((by rw [hg]; exact (below_size (by repeat (first | (with_reducible first | exact HB.out | apply below_alloc | apply pw_below_drewN | apply below_drew1) | exact HB.out))) : w.heap.size ≤ gb283)); have n3_ := Aside0.mk ((by rw [hg]; exact (below_size (by repeat (first | (with_reducible first | exact HB.out | apply below_alloc | apply pw_below_drewN | apply below_drew1) | exact HB.out))) : w.heap.size ≤ gb283)); clear HB; have HB := n0_; have BK283 := n1_; have GW283 := n2_; have GE283 := n3_; clear n0_ n1_ n2_ n3_; clear hb hbox hg; have hcz41_0 : w40.cell? ⟨gb283, 0, none⟩ = some (.int .u32 a0_0) := (blk_cell BK283.out 0).trans rfl; have hcz41_1 : w40.cell? ⟨gb283, 1, none⟩ = some (.slice A0_1 l0_1.length c0_1) := (blk_cell BK283.out 1).trans rfl; have hcz41_2 : w40.cell? ⟨gb283, 2, none⟩ = some (.string a0_2) := (blk_cell BK283.out 2).trans rfl; have hcz41_3 : w40.cell? ⟨gb283, 3, none⟩ = some (.slice A0_3 l0_3.length c0_3) := (blk_cell BK283.out 3).trans rfl; have hcz41_4 : w40.cell? ⟨gb283, 4, none⟩ = some (.slice A0_4 l0_4.length c0_4) := (blk_cell BK283.out 4).trans rfl; have hfz41_0 := blk_frozen BK283.out 0; have hfz41_1 := blk_frozen BK283.out 1; have hfz41_2 := blk_frozen BK283.out 2; have hfz41_3 := blk_frozen BK283.out 3; have hfz41_4 := blk_frozen BK283.out 4) | ((with_reducible refine gate_callee (f := 75) rfl ?_); refine goesL_ (some 8) rfl rfl Tryz.func75 (by kernel_rfl) rfl #[.agg #[.string a0_2, .slice A0_3 l0_3.length c0_3, .slice A0_4 l0_4.length c0_4], .int .i64 1] rfl (by (try simp only [List.map_toArray, List.map_cons, List.map_nil]); first | done | rfl | (simp only [List.length_drop, List.length_take]; rfl)) ?_; (with_reducible refine (tree_check.calls k a0_2 _ _ l0_3 _ _ l0_4 1 t284 _ ?side1 ?side2 ?side3 ?side4 A2.out).mono ?_); (case side1 => repeat (first | exact (Kd.C_below HR0_3.out HB.out) | (with_reducible refine Kd.C_alloc ?_ _) | (with_reducible refine Kd.C_drewN ?_ _) | (with_reducible refine Kd.C_drew ?_))); (case side2 => exact HC0_3.out); (case side3 => repeat (first | exact (Kd.C_below HR0_4.out HB.out) | (with_reducible refine Kd.C_alloc ?_ _) | (with_reducible refine Kd.C_drewN ?_ _) | (with_reducible refine Kd.C_drew ?_))); (case side4 => exact HC0_4.out); rintro e w42 ⟨rfl, hb⟩; refine ⟨_, rfl, ?_⟩; have n0_ := Aside0.mk (blk_below (g := gb283) (o := .cells #[.int .u32 a0_0, .slice A0_1 l0_1.length c0_1, .string a0_2, .slice A0_3 l0_3.length c0_3, .slice A0_4 l0_4.length c0_4] 29 (0, 0)) (by (with_reducible repeat (first | refine blk_drewN ?_ _ | refine blk_drew ?_ | refine blk_alloc ?_ _)); exact BK283.out) hb); have n1_ := Aside0.mk (below_step (by repeat (first | (with_reducible first | exact HB.out | apply below_alloc | apply pw_below_drewN | apply below_drew1 | refine below_set ?_ GE283.out) | exact HB.out)) hb); clear BK283; clear HB; have BK283 := n0_; have HB := n1_; clear n0_ n1_; (try clear hb); (try clear hb2); (try clear hk); (try clear hi)))
    go_ret
    exact ⟨by first | rfl | (simp [errW_none, errW_some] <;> rfl) | (simp [*, errW_none, errW_some] <;> rfl), by repeat (first | (with_reducible first | exact HB.out | apply below_alloc | apply pw_below_drewN | apply below_drew1 | refine below_set ?_ GE283.out) | exact HB.out)⟩
end Go.Proofs.YtkfcgjopabcbeaaGreatDoor.PV

namespace Go.Proofs.YtkfcgjopabcbeaaGreatDoor.PV
open Go.RowKit Go.Proofs.YtkfcgjopabcbeaaGreatDoorW.PrintWords Go.Proofs.YtkfcgjopabcbeaaGreatDoorW.PrintLast Go.Proofs.YtkfcgjopabcbeaaGreatDoorW.PrintMore
attribute [local go_sem] max2_int min2_int max_two min_two max_three min_three max_four min_four   -- for this text's walks alone
set_option linter.unusedVariables false
set_option linter.unusedSimpArgs false
def tree_Find.l0 : Nat → ByteArray → List (S158) → Int → Int → Option (List Int × Bool)
  | 0, _, _, _, _ => none
  | k + 1, x1, x9, x10, x11 => if x11 < x10 then (if 0 ≤ x11 then (if x11 < (x9.length : Int) then (if ((rd_T158 x9 x11).f0).toList = x1.toList then ((bytes_Clone.f ((rd_T158 x9 x11).f1)).bind fun t291 => (some (t291, true))) else (tree_Find.l0 k x1 x9 x10 (wrap64 (x11 + 1)))) else (none)) else (none)) else (some (([] : List Int), false))
def tree_Find.f (k : Nat) (a0_0 : ByteArray) (l0_1 : List (S158)) (l0_2 : List (S27)) (a1 : ByteArray) : Option (List Int × Bool) := tree_Find.l0 k a1 l0_1 (l0_1.length : Int) 0
set_option maxHeartbeats 8000000 in
set_option maxRecDepth 100000 in
theorem tree_Find.calls (k : Nat) (a0_0 : ByteArray) (A0_1 : Option Addr) (c0_1 : Nat) (l0_1 : List (S158)) (A0_2 : Option Addr) (c0_2 : Nat) (l0_2 : List (S27)) (a1 : ByteArray) (r1 : List Int) (r2 : Bool) (w : World) (hr0_1 : Kd.C k158 w A0_1 l0_1.length l0_1) (hc0_1 : l0_1.length ≤ c0_1) (hr0_2 : Kd.C k27 w A0_2 l0_2.length l0_2) (hc0_2 : l0_2.length ≤ c0_2) (h : tree_Find.f k a0_0 l0_1 l0_2 a1 = some (r1, r2)) :
    Calls Tryz.prog 125 #[.agg #[.string a0_0, .slice A0_1 l0_1.length c0_1, .slice A0_2 l0_2.length c0_2], .string a1] w fun e w' => ∃ v0_ : Value, e = .returned (.tuple #[v0_, .bool r2]) ∧ Kd.R (Kd.int .u8) 5 w' w.heap.size (fun _ => True) v0_ r1 ∧ Below w.heap.size w w' := by
  have hu27 := Tryz.underlying27
  have hu158 := Tryz.underlying158
  have HR0_1 := Aside0.mk hr0_1
  have HC0_1 := Aside0.mk hc0_1
  clear hr0_1 hc0_1
  have HR0_2 := Aside0.mk hr0_2
  have HC0_2 := Aside0.mk hc0_2
  clear hr0_2 hc0_2
  have HB := Aside0.mk (Below.refl w.heap.size w)
  have H : (tree_Find.l0 k a1 l0_1 (l0_1.length : Int) 0) = some (r1, r2) := h
  clear h
  have H' := Aside0.mk H
  clear H
  go_enter Tryz.func125, Tryz.ntmps125
  go_wp2_with (first | ((with_reducible refine gate_dst (N := 2) rfl ?_); refine box_event ?hg (N := 2) ?hd (cs := #[.string a0_0, .slice A0_1 l0_1.length c0_1, .slice A0_2 l0_2.length c0_2]) (t := 27) ?hr ?_; (case hd => rfl); (case hg => rfl); (case hr => first | (go_simp; done) | (go_simp; rfl)); intro gb288 hg w3 hbox hb; have n0_ := Aside0.mk (below_step (by repeat (first | (with_reducible first | exact HB.out | apply below_alloc | apply pw_below_drewN | apply below_drew1) | exact HB.out)) hb); have n1_ := Aside0.mk (hbox); have n2_ := Aside0.mk ((by rw [hg]; exact (below_size (by repeat (first | (with_reducible first | exact HB.out | apply below_alloc | apply pw_below_drewN | apply below_drew1) | exact HB.out))) : w.heap.size ≤ gb288)); have n3_ := Aside0.mk ((by rw [hg]; exact (below_size (by repeat (first | (with_reducible first | exact HB.out | apply below_alloc | apply pw_below_drewN | apply below_drew1) | exact HB.out))) : w.heap.size ≤ gb288)); clear HB; have HB := n0_; have BK288 := n1_; have GW288 := n2_; have GE288 := n3_; clear n0_ n1_ n2_ n3_; clear hb hbox hg; have hcz4_0 : w3.cell? ⟨gb288, 0, none⟩ = some (.string a0_0) := (blk_cell BK288.out 0).trans rfl; have hcz4_1 : w3.cell? ⟨gb288, 1, none⟩ = some (.slice A0_1 l0_1.length c0_1) := (blk_cell BK288.out 1).trans rfl; have hcz4_2 : w3.cell? ⟨gb288, 2, none⟩ = some (.slice A0_2 l0_2.length c0_2) := (blk_cell BK288.out 2).trans rfl; have hfz4_0 := blk_frozen BK288.out 0; have hfz4_1 := blk_frozen BK288.out 1; have hfz4_2 := blk_frozen BK288.out 2))
  go_loopg [11] k (fun kq v11 w' => ∃ (x11_1 : Int), v11 = .int .i64 x11_1 ∧ Aside0 (tree_Find.l0 kq a1 l0_1 (l0_1.length : Int) x11_1 = some (r1, r2)) ∧ Aside0 (kq ≤ k) ∧ Aside0 (w'.heap[gb288]? = some (.cells #[.string a0_0, (.slice A0_1 l0_1.length c0_1), (.slice A0_2 l0_2.length c0_2)] 27 (0, 0))) ∧ Aside0 (Below w.heap.size w w'))
  case atStart => exact ⟨(0), (by first | rfl | (simp; done) | (simp [*]; done)), H', ⟨Nat.le_refl _⟩, ⟨by (with_reducible repeat (first | refine blk_drewN ?_ _ | refine blk_drew ?_ | refine blk_alloc ?_ _)); exact BK288.out⟩, ⟨by repeat (first | (with_reducible first | exact HB.out | apply below_alloc | apply pw_below_drewN | apply below_drew1 | refine below_set ?_ GE288.out) | exact HB.out)⟩⟩
  case round =>
    clear H'
    try clear c1
    try clear p2
    try clear hcz4_0
    try clear hcz4_1
    try clear hcz4_2
    try clear hfz4_0
    try clear hfz4_1
    try clear hfz4_2
    obtain ⟨x11_1, rfl, HA, HK1, BK288, HB⟩ := hrel
    cases gk with
    | zero => exact absurd HA.out (by simp [tree_Find.l0])
    | succ k1 =>
      have H := HA.out
      clear HA
      simp only [tree_Find.l0] at H
      by_cases c5 : x11_1 < (l0_1.length : Int)
      · rw [if_pos c5] at H
        have c5b0 : decide (x11_1 < (l0_1.length : Int)) = true := decide_eq_true c5
        clear c5
        by_cases c6 : 0 ≤ x11_1
        · rw [if_pos c6] at H
          have c6b0 : decide (0 ≤ x11_1) = true := decide_eq_true c6
          clear c6
          by_cases c7 : x11_1 < (l0_1.length : Int)
          · rw [if_pos c7] at H
            have c7b0 : decide (x11_1 < (l0_1.length : Int)) = true := decide_eq_true c7
            clear c7
            by_cases c8 : ((rd_T158 l0_1 x11_1).f0).toList = a1.toList
            · rw [if_pos c8] at H
              have c8b0 : (((rd_T158 l0_1 x11_1).f0).toList == a1.toList) = true := beq_iff_eq.mpr c8
              have c8b1 : (((rd_T158 l0_1 x11_1).f0).toList != a1.toList) = false := bne_eq_false_iff_eq.mpr c8
              clear c8
              replace H := Option.bind_eq_some_iff.mp H
              obtain ⟨t291, A90, H⟩ := H
              replace H : (some (t291, true)) = some (r1, r2) := H
              have A9 := Aside0.mk A90
              clear A90
              simp only [Option.some.injEq, Prod.mk.injEq] at H
              obtain ⟨rfl, rfl⟩ := H
              have p289 : 0 ≤ (x11_1 : Int) := of_decide_eq_true (by first | (with_reducible assumption) | assumption)
              have q289 : x11_1 < (l0_1.length : Int) := of_decide_eq_true (by first | (with_reducible assumption) | assumption)
              obtain ⟨ad289, A289_1, c289_1, e289, hx289_0, hx289_1, hl289_1, hi289_1⟩ := at_T158 HR0_1.out x11_1 p289 q289
              cases e289
              replace hx289_0 := (HB.out.cell (World.block_lt_of_cell? w _ hx289_0)).trans hx289_0
              replace hx289_1 := (HB.out.cell (World.block_lt_of_cell? w _ hx289_1)).trans hx289_1
              have HR289_1 := Aside0.mk hi289_1
              have HC289_1 := Aside0.mk hl289_1
              clear hi289_1 hl289_1
              replace p289 := eq_true p289
              replace q289 := eq_true q289
              go_wp2_with (first | ((with_reducible refine gate_dst (N := 7) rfl ?_); refine box_event ?hg (N := 7) ?hd (cs := #[.string (⟨#[]⟩ : ByteArray), .slice none 0 0]) (t := 158) ?hr ?_; (case hd => rfl); (case hg => rfl); (case hr => first | (go_simp; done) | (go_simp; rfl)); intro gb290 hg w10 hbox hb; have n0_ := Aside0.mk (blk_below (g := gb288) (o := .cells #[.string a0_0, .slice (some ad289) l0_1.length c0_1, .slice A0_2 l0_2.length c0_2] 27 (0, 0)) (by (with_reducible repeat (first | refine blk_drewN ?_ _ | refine blk_drew ?_ | refine blk_alloc ?_ _)); exact BK288.out) hb); have n1_ := Aside0.mk (below_step (by repeat (first | (with_reducible first | exact HB.out | apply below_alloc | apply pw_below_drewN | apply below_drew1 | refine below_set ?_ GE288.out) | exact HB.out)) hb); have n2_ := Aside0.mk (hbox); have n3_ := Aside0.mk ((by rw [hg]; exact (below_size (by repeat (first | (with_reducible first | exact HB.out | apply below_alloc | apply pw_below_drewN | apply below_drew1 | refine below_set ?_ GE288.out) | exact HB.out))) : w.heap.size ≤ gb290)); have n4_ := Aside0.mk ((by rw [hg]; exact (below_size (by repeat (first | (with_reducible first | exact HB.out | apply below_alloc | apply pw_below_drewN | apply below_drew1 | refine below_set ?_ GE288.out) | exact HB.out))) : w.heap.size ≤ gb290)); have n5_ := Aside0.mk ((by rw [hg]; exact Nat.ne_of_lt (blk_lt (g := gb288) (o := .cells #[.string a0_0, .slice (some ad289) l0_1.length c0_1, .slice A0_2 l0_2.length c0_2] 27 (0, 0)) (by (with_reducible repeat (first | refine blk_drewN ?_ _ | refine blk_drew ?_ | refine blk_alloc ?_ _)); exact BK288.out)) : gb288 ≠ gb290)); have n6_ := Aside0.mk ((by rw [hg]; exact Nat.ne_of_gt (blk_lt (g := gb288) (o := .cells #[.string a0_0, .slice (some ad289) l0_1.length c0_1, .slice A0_2 l0_2.length c0_2] 27 (0, 0)) (by (with_reducible repeat (first | refine blk_drewN ?_ _ | refine blk_drew ?_ | refine blk_alloc ?_ _)); exact BK288.out)) : gb290 ≠ gb288)); clear BK288; clear HB; have BK288 := n0_; have HB := n1_; have BK290 := n2_; have GW290 := n3_; have GE290 := n4_; have NB288_290 := n5_; have NB290_288 := n6_; clear n0_ n1_ n2_ n3_ n4_ n5_ n6_; clear hb hbox hg; have hnb11 := NB290_288.out; have hnc11 := NB288_290.out; have hcz12_0 : w10.cell? ⟨gb290, 0, none⟩ = some (.string (⟨#[]⟩ : ByteArray)) := (blk_cell BK290.out 0).trans rfl; have hcz12_1 : w10.cell? ⟨gb290, 1, none⟩ = some (.slice none 0 0) := (blk_cell BK290.out 1).trans rfl; have hfz12_0 := blk_frozen BK290.out 0; have hfz12_1 := blk_frozen BK290.out 1) | ((with_reducible refine gate_callee (f := 178) rfl ?_); refine goesL_ (some 21) rfl rfl Tryz.func178 (by kernel_rfl) rfl #[.slice A289_1 ((rd_T158 l0_1 x11_1).f1).length c289_1] rfl (by (try simp only [List.map_toArray, List.map_cons, List.map_nil]); first | done | rfl | (simp only [List.length_drop, List.length_take]; rfl)) ?_; (with_reducible refine (bytes_Clone.calls _ _ ((rd_T158 l0_1 x11_1).f1) t291 _ ?side1 ?side2 A9.out).mono ?_); (case side1 => exact Kd.C_below HR289_1.out (by repeat (first | (with_reducible first | exact HB.out | apply below_alloc | apply pw_below_drewN | apply below_drew1 | refine below_set ?_ GE288.out | refine below_set ?_ GE290.out) | exact HB.out))); (case side2 => exact HC289_1.out); rintro e w13 ⟨v292, rfl, ho0, hb⟩; refine ⟨_, rfl, ?_⟩; have n0_ := Aside0.mk (Kd.R_lower ho0 (below_size (by repeat (first | (with_reducible first | exact HB.out | apply below_alloc | apply pw_below_drewN | apply below_drew1 | refine below_set ?_ GE288.out | refine below_set ?_ GE290.out) | exact HB.out)))); have n1_ := Aside0.mk (blk_below (g := gb288) (o := .cells #[.string a0_0, .slice (some ad289) l0_1.length c0_1, .slice A0_2 l0_2.length c0_2] 27 (0, 0)) (by (with_reducible repeat (first | refine blk_drewN ?_ _ | refine blk_drew ?_ | refine blk_alloc ?_ _)); refine blk_far ?_ NB288_290.out _; (with_reducible repeat (first | refine blk_drewN ?_ _ | refine blk_drew ?_ | refine blk_alloc ?_ _)); refine blk_far ?_ NB288_290.out _; (with_reducible repeat (first | refine blk_drewN ?_ _ | refine blk_drew ?_ | refine blk_alloc ?_ _)); exact BK288.out) hb); have n2_ := Aside0.mk (blk_below (g := gb290) (o := .cells #[.string ((rd_T158 l0_1 x11_1).f0), .slice A289_1 ((rd_T158 l0_1 x11_1).f1).length c289_1] 158 (0, 0)) (by (with_reducible repeat (first | refine blk_drewN ?_ _ | refine blk_drew ?_ | refine blk_alloc ?_ _)); refine blk_put (cs := #[.string ((rd_T158 l0_1 x11_1).f0), .slice none 0 0]) ?_ 1 _ rfl; (with_reducible repeat (first | refine blk_drewN ?_ _ | refine blk_drew ?_ | refine blk_alloc ?_ _)); refine blk_put (cs := #[.string (⟨#[]⟩ : ByteArray), .slice none 0 0]) ?_ 0 _ rfl; (with_reducible repeat (first | refine blk_drewN ?_ _ | refine blk_drew ?_ | refine blk_alloc ?_ _)); exact BK290.out) hb); have n3_ := Aside0.mk (below_step (by repeat (first | (with_reducible first | exact HB.out | apply below_alloc | apply pw_below_drewN | apply below_drew1 | refine below_set ?_ GE288.out | refine below_set ?_ GE290.out) | exact HB.out)) hb); clear BK288; clear BK290; clear HB; have HO293 := n0_; have BK288 := n1_; have BK290 := n2_; have HB := n3_; clear n0_ n1_ n2_ n3_; (try clear hb); (try clear hb2); (try clear hk); (try clear hi); (try clear ho0)))
              go_ret2
              exact ⟨_, by first | rfl | (simp [errW_none, errW_some] <;> rfl) | (simp [*, errW_none, errW_some] <;> rfl), by (with_reducible repeat (first | apply Kd.R_alloc | apply Kd.R_drewN | apply Kd.R_drew)); exact HO293.out, by repeat (first | (with_reducible first | exact HB.out | apply below_alloc | apply pw_below_drewN | apply below_drew1 | refine below_set ?_ GE288.out | refine below_set ?_ GE290.out) | exact HB.out)⟩
            · rw [if_neg c8] at H
              have c8b0 : (((rd_T158 l0_1 x11_1).f0).toList == a1.toList) = false := beq_eq_false_iff_ne.mpr c8
              have c8b1 : (((rd_T158 l0_1 x11_1).f0).toList != a1.toList) = true := bne_iff_ne.mpr c8
              have H' := Aside0.mk H
              clear H
              have p289 : 0 ≤ (x11_1 : Int) := of_decide_eq_true (by first | (with_reducible assumption) | assumption)
              have q289 : x11_1 < (l0_1.length : Int) := of_decide_eq_true (by first | (with_reducible assumption) | assumption)
              obtain ⟨ad289, A289_1, c289_1, e289, hx289_0, hx289_1, hl289_1, hi289_1⟩ := at_T158 HR0_1.out x11_1 p289 q289
              cases e289
              replace hx289_0 := (HB.out.cell (World.block_lt_of_cell? w _ hx289_0)).trans hx289_0
              replace hx289_1 := (HB.out.cell (World.block_lt_of_cell? w _ hx289_1)).trans hx289_1
              have HR289_1 := Aside0.mk hi289_1
              have HC289_1 := Aside0.mk hl289_1
              clear hi289_1 hl289_1
              replace p289 := eq_true p289
              replace q289 := eq_true q289
              go_wp2_with (first | ((with_reducible refine gate_dst (N := 7) rfl ?_); refine box_event ?hg (N := 7) ?hd (cs := #[.string (⟨#[]⟩ : ByteArray), .slice none 0 0]) (t := 158) ?hr ?_; (case hd => rfl); (case hg => rfl); (case hr => first | (go_simp; done) | (go_simp; rfl)); intro gb290 hg w14 hbox hb; have n0_ := Aside0.mk (blk_below (g := gb288) (o := .cells #[.string a0_0, .slice (some ad289) l0_1.length c0_1, .slice A0_2 l0_2.length c0_2] 27 (0, 0)) (by (with_reducible repeat (first | refine blk_drewN ?_ _ | refine blk_drew ?_ | refine blk_alloc ?_ _)); exact BK288.out) hb); have n1_ := Aside0.mk (below_step (by repeat (first | (with_reducible first | exact HB.out | apply below_alloc | apply pw_below_drewN | apply below_drew1 | refine below_set ?_ GE288.out) | exact HB.out)) hb); have n2_ := Aside0.mk (hbox); have n3_ := Aside0.mk ((by rw [hg]; exact (below_size (by repeat (first | (with_reducible first | exact HB.out | apply below_alloc | apply pw_below_drewN | apply below_drew1 | refine below_set ?_ GE288.out) | exact HB.out))) : w.heap.size ≤ gb290)); have n4_ := Aside0.mk ((by rw [hg]; exact (below_size (by repeat (first | (with_reducible first | exact HB.out | apply below_alloc | apply pw_below_drewN | apply below_drew1 | refine below_set ?_ GE288.out) | exact HB.out))) : w.heap.size ≤ gb290)); have n5_ := Aside0.mk ((by rw [hg]; exact Nat.ne_of_lt (blk_lt (g := gb288) (o := .cells #[.string a0_0, .slice (some ad289) l0_1.length c0_1, .slice A0_2 l0_2.length c0_2] 27 (0, 0)) (by (with_reducible repeat (first | refine blk_drewN ?_ _ | refine blk_drew ?_ | refine blk_alloc ?_ _)); exact BK288.out)) : gb288 ≠ gb290)); have n6_ := Aside0.mk ((by rw [hg]; exact Nat.ne_of_gt (blk_lt (g := gb288) (o := .cells #[.string a0_0, .slice (some ad289) l0_1.length c0_1, .slice A0_2 l0_2.length c0_2] 27 (0, 0)) (by (with_reducible repeat (first | refine blk_drewN ?_ _ | refine blk_drew ?_ | refine blk_alloc ?_ _)); exact BK288.out)) : gb290 ≠ gb288)); clear BK288; clear HB; have BK288 := n0_; have HB := n1_; have BK290 := n2_; have GW290 := n3_; have GE290 := n4_; have NB288_290 := n5_; have NB290_288 := n6_; clear n0_ n1_ n2_ n3_ n4_ n5_ n6_; clear hb hbox hg; have hnb15 := NB290_288.out; have hnc15 := NB288_290.out; have hcz16_0 : w14.cell? ⟨gb290, 0, none⟩ = some (.string (⟨#[]⟩ : ByteArray)) := (blk_cell BK290.out 0).trans rfl; have hcz16_1 : w14.cell? ⟨gb290, 1, none⟩ = some (.slice none 0 0) := (blk_cell BK290.out 1).trans rfl; have hfz16_0 := blk_frozen BK290.out 0; have hfz16_1 := blk_frozen BK290.out 1))
              go_roundg k1
              case measure => have := HK1.out; omega
              case rel => exact ⟨(wrap64 (x11_1 + 1)), (by first | rfl | (simp; done) | (simp [*]; done)), H', ⟨by have := HK1.out; omega⟩, ⟨by (with_reducible repeat (first | refine blk_drewN ?_ _ | refine blk_drew ?_ | refine blk_alloc ?_ _)); refine blk_far ?_ NB288_290.out _; (with_reducible repeat (first | refine blk_drewN ?_ _ | refine blk_drew ?_ | refine blk_alloc ?_ _)); refine blk_far ?_ NB288_290.out _; (with_reducible repeat (first | refine blk_drewN ?_ _ | refine blk_drew ?_ | refine blk_alloc ?_ _)); exact BK288.out⟩, ⟨by repeat (first | (with_reducible first | exact HB.out | apply below_alloc | apply pw_below_drewN | apply below_drew1 | refine below_set ?_ GE288.out | refine below_set ?_ GE290.out) | exact HB.out)⟩⟩
          · rw [if_neg c7] at H
            exact absurd H (by simp)
        · rw [if_neg c6] at H
          exact absurd H (by simp)
      · rw [if_neg c5] at H
        have c5b0 : decide (x11_1 < (l0_1.length : Int)) = false := decide_eq_false c5
        clear c5
        simp only [Option.some.injEq, Prod.mk.injEq] at H
        obtain ⟨rfl, rfl⟩ := H
        go_wp2
        go_ret2
        exact ⟨_, by first | rfl | (simp [errW_none, errW_some] <;> rfl) | (simp [*, errW_none, errW_some] <;> rfl), by first | exact Kd.R_nil _ _ _ _ _ | exact Kd.N_nil _ _ _ _ _ | exact Kd.V_nil _ _ _ _ _ | exact Kd.Q_nil _ _ _ _ _ | exact Kd.S_nil _ _ _ _ _, by repeat (first | (with_reducible first | exact HB.out | apply below_alloc | apply pw_below_drewN | apply below_drew1 | refine below_set ?_ GE288.out) | exact HB.out)⟩
end Go.Proofs.YtkfcgjopabcbeaaGreatDoor.PV

namespace Go.Proofs.YtkfcgjopabcbeaaGreatDoor.PV
open Go.RowKit Go.Proofs.YtkfcgjopabcbeaaGreatDoorW.PrintWords Go.Proofs.YtkfcgjopabcbeaaGreatDoorW.PrintLast Go.Proofs.YtkfcgjopabcbeaaGreatDoorW.PrintMore
attribute [local go_sem] max2_int min2_int max_two min_two max_three min_three max_four min_four   -- for this text's walks alone
set_option linter.unusedVariables false
set_option linter.unusedSimpArgs false
set_option maxRecDepth 100000 in
theorem words_part.yes (ad : Addr) (m c : Nat) (i q : Int) (w : World) (h0 : 0 ≤ i) (h1 : i ≤ (m : Int)) (h2 : q ≤ (m : Int) - i) (hq : 0 < q) (hc : m ≤ c) (hm : m ≤ 9223372036854775807) :
    Calls Tryz.prog 183 #[.slice (some ad) m c, .int .i64 i, .int .i64 q] w fun e w' => e = .returned (.slice (if c = i.toNat then some ad else (some ad).map (·.add (i.toNat * 1))) ((i + q).toNat - i.toNat) (c - i.toNat)) ∧ w' = w := by
  have f1 : decide (i < 0) = false := by simp; omega
  have f2 : decide ((m : Int) < i) = false := by simp; omega
  have f3 : decide ((m : Int) - i < q) = false := by simp; omega
  obtain ⟨i0, hi0, _, hsz, _⟩ := info_parts info5
  have hcut := cut_mid 52 5 .i64 .i64 Tryz.underlying52 hi0 1 hsz (some ad) m c i (i + q) h0 (by omega) (by omega) hc
  go_enter Tryz.func183, Tryz.ntmps183
  go_wp2
  go_ret
  exact ⟨rfl, rfl⟩
set_option maxRecDepth 100000 in
theorem words_part.no (B : Option Addr) (m c : Nat) (i q : Int) (w : World) (h : i < 0 ∨ (m : Int) < i ∨ (m : Int) - i < q) (hq : 0 < q) (hq1 : q ≤ 100) (hm : m ≤ 9223372036854775807) :
    Calls Tryz.prog 183 #[.slice B m c, .int .i64 i, .int .i64 q] w fun e w' => e = .returned (.slice none 0 0) ∧ w' = w := by
  by_cases a1 : i < 0
  · have f1 : decide (i < 0) = true := by simp; omega
    clear h
    go_enter Tryz.func183, Tryz.ntmps183
    go_wp2
    go_ret
    exact ⟨rfl, rfl⟩
  · have f1 : decide (i < 0) = false := by simp; omega
    by_cases a2 : (m : Int) < i
    · have f2 : decide ((m : Int) < i) = true := by simp; omega
      clear h
      go_enter Tryz.func183, Tryz.ntmps183
      go_wp2
      go_ret
      exact ⟨rfl, rfl⟩
    · have f2 : decide ((m : Int) < i) = false := by simp; omega
      have f3 : decide ((m : Int) - i < q) = true := by simp; omega
      clear h
      go_enter Tryz.func183, Tryz.ntmps183
      go_wp2
      go_ret
      exact ⟨rfl, rfl⟩
end Go.Proofs.YtkfcgjopabcbeaaGreatDoor.PV

namespace Go.Proofs.YtkfcgjopabcbeaaGreatDoor.PV
open Go.RowKit Go.Proofs.YtkfcgjopabcbeaaGreatDoorW.PrintWords Go.Proofs.YtkfcgjopabcbeaaGreatDoorW.PrintLast Go.Proofs.YtkfcgjopabcbeaaGreatDoorW.PrintMore
attribute [local go_sem] max2_int min2_int max_two min_two max_three min_three max_four min_four   -- for this text's walks alone
set_option linter.unusedVariables false
set_option linter.unusedSimpArgs false
def words_number.l0 : Nat → Int → List Int → Int → Int → Option (Int)
  | 0, _, _, _, _ => none
  | k + 1, x3, x6, x7, x8 => if x8 < x7 then (if 0 ≤ x8 then (if x8 < (x6.length : Int) then (words_number.l0 k (Go.bits .or .u64 (IntKind.u64.wrap (x3 * 256)) (IntKind.u64.wrap (rd x6 x8))) x6 x7 (wrap64 (x8 + 1))) else (none)) else (none)) else (some x3)
def words_number.f (k : Nat) (l0 : List Int) : Option (Int) := words_number.l0 k 0 l0 (l0.length : Int) 0
set_option maxHeartbeats 8000000 in
set_option maxRecDepth 100000 in
theorem words_number.calls (k : Nat) (A0 : Option Addr) (c0 : Nat) (l0 : List Int) (r : Int) (w : World) (hr0 : Kd.C (Kd.int .u8) w A0 l0.length l0) (hc0 : l0.length ≤ c0) (h : words_number.f k l0 = some r) :
    Calls Tryz.prog 184 #[.slice A0 l0.length c0] w fun e w' => e = .returned (.int .u64 r) ∧ Drawn0 w w' := by
  have HR0 := Aside0.mk hr0
  have HC0 := Aside0.mk hc0
  clear hr0 hc0
  have H : (words_number.l0 k 0 l0 (l0.length : Int) 0) = some r := h
  clear h
  have H' := Aside0.mk H
  clear H
  go_enter Tryz.func184, Tryz.ntmps184
  go_wp2
  go_loopg [3, 8] k (fun kq v3 v8 w' => ∃ (x3_1 : Int) (x8_1 : Int), v3 = .int .u64 x3_1 ∧ v8 = .int .i64 x8_1 ∧ Aside0 (words_number.l0 kq x3_1 l0 (l0.length : Int) x8_1 = some r) ∧ Aside0 (kq ≤ k) ∧ Drawn0 w w')
  case atStart => exact ⟨(0), (0), (by first | rfl | (simp; done) | (simp [*]; done)), (by first | rfl | (simp; done) | (simp [*]; done)), H', ⟨Nat.le_refl _⟩, by repeat (first | exact Drawn0.refl _ | apply Drawn0.step)⟩
  case round =>
    clear H'
    try clear c1
    obtain ⟨x3_1, x8_1, rfl, rfl, HA, HK1, ⟨m1, rfl⟩⟩ := hrel
    cases gk with
    | zero => exact absurd HA.out (by simp [words_number.l0])
    | succ k1 =>
      have H := HA.out
      clear HA
      simp only [words_number.l0] at H
      by_cases c2 : x8_1 < (l0.length : Int)
      · rw [if_pos c2] at H
        have c2b0 : decide (x8_1 < (l0.length : Int)) = true := decide_eq_true c2
        clear c2
        by_cases c3 : 0 ≤ x8_1
        · rw [if_pos c3] at H
          have c3b0 : decide (0 ≤ x8_1) = true := decide_eq_true c3
          clear c3
          by_cases c4 : x8_1 < (l0.length : Int)
          · rw [if_pos c4] at H
            have c4b0 : decide (x8_1 < (l0.length : Int)) = true := decide_eq_true c4
            clear c4
            have H' := Aside0.mk H
            clear H
            have p294 : 0 ≤ (x8_1 : Int) := of_decide_eq_true (by first | (with_reducible assumption) | assumption)
            have q294 : x8_1 < (l0.length : Int) := of_decide_eq_true (by first | (with_reducible assumption) | assumption)
            obtain ⟨ad294, e294, hx294_0⟩ := Kd.at_int HR0.out x8_1 p294 q294
            cases e294
            replace p294 := eq_true p294
            replace q294 := eq_true q294
            go_wp2
            go_roundg k1
            case measure => have := HK1.out; omega
            case rel => exact ⟨(Go.bits .or .u64 (IntKind.u64.wrap (x3_1 * 256)) (IntKind.u64.wrap (rd l0 x8_1))), (wrap64 (x8_1 + 1)), (by first | rfl | (simp; done) | (simp [*]; done)), (by first | rfl | (simp; done) | (simp [*]; done)), H', ⟨by have := HK1.out; omega⟩, by repeat (first | exact Drawn0.refl _ | apply Drawn0.step)⟩
          · rw [if_neg c4] at H
            exact absurd H (by simp)
        · rw [if_neg c3] at H
          exact absurd H (by simp)
      · rw [if_neg c2] at H
        have c2b0 : decide (x8_1 < (l0.length : Int)) = false := decide_eq_false c2
        clear c2
        obtain rfl := Option.some.inj H
        go_wp2
        go_ret
        exact ⟨by first | rfl | (simp; done) | (simp [*]; done), by repeat (first | exact Drawn0.refl _ | apply Drawn0.step)⟩
end Go.Proofs.YtkfcgjopabcbeaaGreatDoor.PV

namespace Go.Proofs.YtkfcgjopabcbeaaGreatDoor.PV
open Go.RowKit Go.Proofs.YtkfcgjopabcbeaaGreatDoorW.PrintWords Go.Proofs.YtkfcgjopabcbeaaGreatDoorW.PrintLast Go.Proofs.YtkfcgjopabcbeaaGreatDoorW.PrintMore
attribute [local go_sem] max2_int min2_int max_two min_two max_three min_three max_four min_four   -- for this text's walks alone
set_option linter.unusedVariables false
set_option linter.unusedSimpArgs false
def numb (l : List Int) : Int := l.foldl (fun v c => Go.bits .or .u64 (IntKind.u64.wrap (v * 256)) (IntKind.u64.wrap c)) 0
theorem numb_loop (l : List Int) (hl : l.length ≤ 9223372036854775806) (d : Nat) : ∀ (k : Nat) (v : Int) (i : Nat), i + d = l.length → d < k →
    words_number.l0 k v l (l.length : Int) (i : Int) = some ((l.drop i).foldl (fun v c => Go.bits .or .u64 (IntKind.u64.wrap (v * 256)) (IntKind.u64.wrap c)) v) := by
  induction d with
  | zero =>
    intro k v i hi hk
    obtain ⟨k, rfl⟩ : ∃ m, k = m + 1 := ⟨k - 1, by omega⟩
    simp only [words_number.l0]
    rw [if_neg (by omega), List.drop_of_length_le (by omega)]
    rfl
  | succ d ih =>
    intro k v i hi hk
    obtain ⟨k, rfl⟩ : ∃ m, k = m + 1 := ⟨k - 1, by omega⟩
    simp only [words_number.l0]
    have hw : wrap64 ((i : Int) + 1) = ((i + 1 : Nat) : Int) := by unfold wrap64; omega
    rw [if_pos (by omega), if_pos (by omega), if_pos (by omega), hw, ih k _ (i + 1) (by omega) (by omega), List.drop_eq_getElem_cons (by omega : i < l.length), List.foldl_cons]
    simp [rd, List.getD_eq_getElem?_getD, List.getElem?_eq_getElem (by omega : i < l.length)]
theorem numb_f (l : List Int) (hl : l.length ≤ 9223372036854775806) : words_number.f (l.length + 1) l = some (numb l) := by
  have h := numb_loop l hl l.length (l.length + 1) 0 0 (by omega) (by omega)
  simpa [words_number.f, numb] using h
def words_Get.f (l0 : List Int) (a1 : Int) : Option (Int × Bool) := if 0 ≤ a1 ∧ 4 ≤ (l0.length : Int) - a1 then (some (numb ((l0.take (a1 + 4).toNat).drop a1.toNat) % 4294967296, true)) else (some (0, false))
set_option maxRecDepth 100000 in
theorem words_Get.calls (A0 : Option Addr) (c0 : Nat) (l0 : List Int) (a1 : Int) (r1 : Int) (r2 : Bool) (w : World) (hr0 : Kd.C (Kd.int .u8) w A0 l0.length l0) (hc0 : l0.length ≤ c0) (h : words_Get.f l0 a1 = some (r1, r2)) :
    Calls Tryz.prog 129 #[.slice A0 l0.length c0, .int .i64 a1] w fun e w' => e = .returned (.tuple #[.int .u32 r1, .bool r2]) ∧ Drawn0 w w' := by
  have hm : l0.length ≤ 9223372036854775807 := hr0.2.1
  unfold words_Get.f at h
  by_cases c : 0 ≤ a1 ∧ 4 ≤ (l0.length : Int) - a1
  · rw [if_pos c] at h
    simp only [Option.some.injEq, Prod.mk.injEq] at h
    obtain ⟨rfl, rfl⟩ := h
    obtain ⟨ad, rfl, _⟩ := hr0.2.2 (by omega)
    have hmid := Kd.C_mid (lo := a1.toNat) (hi := (a1 + 4).toNat) hr0 (by omega) (by omega) hc0
    have hlen : ((l0.take (a1 + 4).toNat).drop a1.toNat).length = 4 := by simp; omega
    obtain ⟨y, hy⟩ : ∃ y, y = (l0.take (a1 + 4).toNat).drop a1.toNat := ⟨_, rfl⟩
    rw [← hy] at hmid hlen
    have hsub : (a1 + 4).toNat - a1.toNat = y.length := by rw [hlen]; omega
    have h0 := c.1
    have h1 := c.2
    have hno : c0 ≠ a1.toNat := by omega
    have Hp := words_part.yes ad l0.length c0 a1 4 w h0 (by omega) h1 (by decide) hc0 hm
    rw [if_neg hno, hsub] at Hp
    rw [if_neg hno] at hmid
    have hq : y.length ≤ c0 - a1.toNat := by rw [hlen]; omega
    have Hn := words_number.calls (y.length + 1) ((some ad).map (·.add (a1.toNat * 1))) (c0 - a1.toNat) y (numb y) w hmid hq (numb_f y (by rw [hlen]; decide))
    have Hy := Aside0.mk hy
    clear hy c h0 h1 hno hmid hq hr0 hsub hlen
    obtain ⟨B, hB⟩ : ∃ B, B = ad.add (a1.toNat * 1) := ⟨_, rfl⟩
    simp only [Option.map_some] at Hp Hn
    rw [← hB] at Hp Hn
    clear hB
    have q := fun w' : World => run_neq_slice_nil_any (P := Tryz.prog) w' 52 5 (some B) y.length (c0 - a1.toNat) 0 0 Tryz.underlying52
    simp only [Option.isNone_some, Bool.not_false] at q
    go_enter Tryz.func129, Tryz.ntmps129
    go_wp2_with (first | (go_at_call 183; refine Hp.mono ?_; rintro e w' ⟨rfl, rfl⟩) | (go_at_call 184; refine Hn.mono ?_; rintro e w' ⟨rfl, ⟨nd, rfl⟩⟩))
    go_ret2
    exact ⟨by rw [Hy.out]; rfl, ⟨⟨_, rfl⟩⟩⟩
  · rw [if_neg c] at h
    simp only [Option.some.injEq, Prod.mk.injEq] at h
    obtain ⟨rfl, rfl⟩ := h
    have Hn := words_number.calls 1 none 0 [] 0 w ⟨rfl, by decide, fun h0 => absurd h0 (by decide)⟩ (Nat.le_refl 0) (by decide)
    have q := fun w' : World => run_neq_slice_nil_any (P := Tryz.prog) w' 52 5 none 0 0 0 0 Tryz.underlying52
    simp only [Option.isNone_none, Bool.not_true] at q
    simp only [List.length_nil] at Hn
    have Hp := words_part.no A0 l0.length c0 a1 4 w (by omega) (by decide) (by decide) hm
    clear c hr0
    go_enter Tryz.func129, Tryz.ntmps129
    go_wp2_with (first | (go_at_call 183; refine Hp.mono ?_; rintro e w' ⟨rfl, rfl⟩) | (go_at_call 184; refine Hn.mono ?_; rintro e w' ⟨rfl, ⟨nd, rfl⟩⟩))
    go_ret2
    exact ⟨rfl, ⟨⟨_, rfl⟩⟩⟩
end Go.Proofs.YtkfcgjopabcbeaaGreatDoor.PV

namespace Go.Proofs.YtkfcgjopabcbeaaGreatDoor.PV
open Go.RowKit Go.Proofs.YtkfcgjopabcbeaaGreatDoorW.PrintWords Go.Proofs.YtkfcgjopabcbeaaGreatDoorW.PrintLast Go.Proofs.YtkfcgjopabcbeaaGreatDoorW.PrintMore
attribute [local go_sem] max2_int min2_int max_two min_two max_three min_three max_four min_four   -- for this text's walks alone
set_option linter.unusedVariables false
set_option linter.unusedSimpArgs false
def prop_One.f (k : Nat) (a0_0 : ByteArray) (l0_1 : List (S158)) (l0_2 : List (S27)) (a1 : ByteArray) : Option (Int × Bool × Int) := (tree_Find.f k a0_0 l0_1 l0_2 a1).bind fun bt296 => (if bt296.2 = true then ((words_Get.f bt296.1 0).bind fun bt300 => (if bt300.2 = true then (if (bt296.1.length : Int) = 4 then (some (bt300.1, true, 0)) else (some (0, false, 4))) else (some (0, false, 4)))) else (some (0, false, 0)))
set_option maxHeartbeats 8000000 in
set_option maxRecDepth 100000 in
theorem prop_One.calls (k : Nat) (a0_0 : ByteArray) (A0_1 : Option Addr) (c0_1 : Nat) (l0_1 : List (S158)) (A0_2 : Option Addr) (c0_2 : Nat) (l0_2 : List (S27)) (a1 : ByteArray) (r1 : Int) (r2 : Bool) (r3 : Int) (w : World) (hr0_1 : Kd.C k158 w A0_1 l0_1.length l0_1) (hc0_1 : l0_1.length ≤ c0_1) (hr0_2 : Kd.C k27 w A0_2 l0_2.length l0_2) (hc0_2 : l0_2.length ≤ c0_2) (h : prop_One.f k a0_0 l0_1 l0_2 a1 = some (r1, r2, r3)) :
    Calls Tryz.prog 147 #[.agg #[.string a0_0, .slice A0_1 l0_1.length c0_1, .slice A0_2 l0_2.length c0_2], .string a1] w fun e w' => e = .returned (.tuple #[.int .u32 r1, .bool r2, .int .i64 r3]) ∧ Below w.heap.size w w' := by
  have hu27 := Tryz.underlying27
  have HR0_1 := Aside0.mk hr0_1
  have HC0_1 := Aside0.mk hc0_1
  clear hr0_1 hc0_1
  have HR0_2 := Aside0.mk hr0_2
  have HC0_2 := Aside0.mk hc0_2
  clear hr0_2 hc0_2
  have HB := Aside0.mk (Below.refl w.heap.size w)
  have H : ((tree_Find.f k a0_0 l0_1 l0_2 a1).bind fun bt296 => (if bt296.2 = true then ((words_Get.f bt296.1 0).bind fun bt300 => (if bt300.2 = true then (if (bt296.1.length : Int) = 4 then (some (bt300.1, true, 0)) else (some (0, false, 4))) else (some (0, false, 4)))) else (some (0, false, 0)))) = some (r1, r2, r3) := h
  clear h
  replace H := Option.bind_eq_some_iff.mp H
  obtain ⟨⟨t296, t299⟩, A30, H⟩ := H
  replace H : (if t299 = true then ((words_Get.f t296 0).bind fun bt300 => (if bt300.2 = true then (if (t296.length : Int) = 4 then (some (bt300.1, true, 0)) else (some (0, false, 4))) else (some (0, false, 4)))) else (some (0, false, 0))) = some (r1, r2, r3) := H
  have A3 := Aside0.mk A30
  clear A30
  by_cases c4 : t299 = true
  · subst c4
    have H1 : ((words_Get.f t296 0).bind fun bt300 => (if bt300.2 = true then (if (t296.length : Int) = 4 then (some (bt300.1, true, 0)) else (some (0, false, 4))) else (some (0, false, 4)))) = some (r1, r2, r3) := by rw [if_pos rfl] at H; exact H
    clear H
    have H := H1
    clear H1
    replace H := Option.bind_eq_some_iff.mp H
    obtain ⟨⟨t300, t301⟩, A50, H⟩ := H
    replace H : (if t301 = true then (if (t296.length : Int) = 4 then (some (t300, true, 0)) else (some (0, false, 4))) else (some (0, false, 4))) = some (r1, r2, r3) := H
    have A5 := Aside0.mk A50
    clear A50
    by_cases c6 : t301 = true
    · subst c6
      have H1 : (if (t296.length : Int) = 4 then (some (t300, true, 0)) else (some (0, false, 4))) = some (r1, r2, r3) := by rw [if_pos rfl] at H; exact H
      clear H
      have H := H1
      clear H1
      by_cases c7 : (t296.length : Int) = 4
      · rw [if_pos c7] at H
        have c7b0 : ((t296.length : Int) == 4) = true := beq_iff_eq.mpr c7
        have c7b1 : ((t296.length : Int) != 4) = false := bne_eq_false_iff_eq.mpr c7
        clear c7
        simp only [Option.some.injEq, Prod.mk.injEq] at H
        obtain ⟨rfl, rfl, rfl⟩ := H
        go_enter Tryz.func147, Tryz.ntmps147
        go_wp2_with (first | ((with_reducible refine gate_dst (N := 2) rfl ?_); (try (refine gate_guard (by rfl) ?_; dsimp only)); refine box_event ?hg (N := 2) ?hd (cs := #[.string a0_0, .slice A0_1 l0_1.length c0_1, .slice A0_2 l0_2.length c0_2]) (t := 27) ?hr ?_; (case hd => rfl); (case hg => rfl); (case hr => first | (go_simp; done) | (go_simp; rfl)); intro gb295 hg w8 hbox hb; have n0_ := Aside0.mk (below_step (by repeat (first | (with_reducible first | exact HB.out | apply below_alloc | apply pw_below_drewN | apply below_drew1) | exact HB.out)) hb); have n1_ := Aside0.mk (hbox); have n2_ := Aside0.mk ((by rw [hg]; exact (below_size (by repeat (first | (with_reducible first | exact HB.out | apply below_alloc | apply pw_below_drewN | apply below_drew1) | exact HB.out))) : w.heap.size ≤ gb295)); have n3_ := Aside0.mk ((by rw [hg]; exact (below_size (by repeat (first | (with_reducible first | exact HB.out | apply below_alloc | apply pw_below_drewN | apply below_drew1) | exact HB.out))) : w.heap.size ≤ gb295)); clear HB; have HB := n0_; have BK295 := n1_; have GW295 := n2_; have GE295 := n3_; clear n0_ n1_ n2_ n3_; clear hb hbox hg; have hcz9_0 : w8.cell? ⟨gb295, 0, none⟩ = some (.string a0_0) := (blk_cell BK295.out 0).trans rfl; have hcz9_1 : w8.cell? ⟨gb295, 1, none⟩ = some (.slice A0_1 l0_1.length c0_1) := (blk_cell BK295.out 1).trans rfl; have hcz9_2 : w8.cell? ⟨gb295, 2, none⟩ = some (.slice A0_2 l0_2.length c0_2) := (blk_cell BK295.out 2).trans rfl; have hfz9_0 := blk_frozen BK295.out 0; have hfz9_1 := blk_frozen BK295.out 1; have hfz9_2 := blk_frozen BK295.out 2) | ((with_reducible refine gate_callee (f := 125) rfl ?_); refine goesL_ (some 14) rfl rfl Tryz.func125 (by kernel_rfl) rfl #[.agg #[.string a0_0, .slice A0_1 l0_1.length c0_1, .slice A0_2 l0_2.length c0_2], .string a1] rfl (by (try simp only [List.map_toArray, List.map_cons, List.map_nil]); first | done | rfl | (simp only [List.length_drop, List.length_take]; rfl)) ?_; (with_reducible refine (tree_Find.calls k a0_0 _ _ l0_1 _ _ l0_2 a1 t296 true _ ?side1 ?side2 ?side3 ?side4 A3.out).mono ?_); (case side1 => repeat (first | exact (Kd.C_below HR0_1.out HB.out) | (with_reducible refine Kd.C_alloc ?_ _) | (with_reducible refine Kd.C_drewN ?_ _) | (with_reducible refine Kd.C_drew ?_))); (case side2 => exact HC0_1.out); (case side3 => repeat (first | exact (Kd.C_below HR0_2.out HB.out) | (with_reducible refine Kd.C_alloc ?_ _) | (with_reducible refine Kd.C_drewN ?_ _) | (with_reducible refine Kd.C_drew ?_))); (case side4 => exact HC0_2.out); rintro e w10 ⟨v297, rfl, ho0, hb⟩; refine ⟨_, rfl, ?_⟩; have n0_ := Aside0.mk (Kd.R_lower ho0 (below_size (by repeat (first | (with_reducible first | exact HB.out | apply below_alloc | apply pw_below_drewN | apply below_drew1 | refine below_set ?_ GE295.out) | exact HB.out)))); have n1_ := Aside0.mk (blk_below (g := gb295) (o := .cells #[.string a0_0, .slice A0_1 l0_1.length c0_1, .slice A0_2 l0_2.length c0_2] 27 (0, 0)) (by (with_reducible repeat (first | refine blk_drewN ?_ _ | refine blk_drew ?_ | refine blk_alloc ?_ _)); exact BK295.out) hb); have n2_ := Aside0.mk (below_step (by repeat (first | (with_reducible first | exact HB.out | apply below_alloc | apply pw_below_drewN | apply below_drew1 | refine below_set ?_ GE295.out) | exact HB.out)) hb); clear BK295; clear HB; have HO298 := n0_; have BK295 := n1_; have HB := n2_; clear n0_ n1_ n2_; (try clear hb); (try clear hb2); (try clear hk); (try clear hi); (try clear ho0); obtain ⟨Ao11, co11, eo11⟩ := Kd.R_slice HO298.out; subst eo11) | ((with_reducible refine gate_callee (f := 129) rfl ?_); refine goesL_ (some 21) rfl rfl Tryz.func129 (by kernel_rfl) rfl #[.slice Ao11 t296.length co11, .int .i64 0] rfl (by (try simp only [List.map_toArray, List.map_cons, List.map_nil]); first | done | rfl | (simp only [List.length_drop, List.length_take]; rfl)) ?_; (with_reducible refine (words_Get.calls _ _ t296 0 t300 true _ ?side1 ?side2 A5.out).mono ?_); (case side1 => repeat (first | exact (Kd.R_reads' HO298.out).2.2 | (with_reducible refine Kd.C_alloc ?_ _) | (with_reducible refine Kd.C_drewN ?_ _) | (with_reducible refine Kd.C_drew ?_))); (case side2 => exact (Kd.R_reads' HO298.out).2.1); rintro e w' ⟨rfl, ⟨nd, rfl⟩⟩; refine ⟨_, rfl, ?_⟩))
        go_ret3
        exact ⟨by first | rfl | (simp [errW_none, errW_some] <;> rfl) | (simp [*, errW_none, errW_some] <;> rfl), by repeat (first | (with_reducible first | exact HB.out | apply below_alloc | apply pw_below_drewN | apply below_drew1 | refine below_set ?_ GE295.out) | exact HB.out)⟩
      · rw [if_neg c7] at H
        have c7b0 : ((t296.length : Int) == 4) = false := beq_eq_false_iff_ne.mpr c7
        have c7b1 : ((t296.length : Int) != 4) = true := bne_iff_ne.mpr c7
        simp only [Option.some.injEq, Prod.mk.injEq] at H
        obtain ⟨rfl, rfl, rfl⟩ := H
        go_enter Tryz.func147, Tryz.ntmps147
        go_wp2_with (first | ((with_reducible refine gate_dst (N := 2) rfl ?_); (try (refine gate_guard (by rfl) ?_; dsimp only)); refine box_event ?hg (N := 2) ?hd (cs := #[.string a0_0, .slice A0_1 l0_1.length c0_1, .slice A0_2 l0_2.length c0_2]) (t := 27) ?hr ?_; (case hd => rfl); (case hg => rfl); (case hr => first | (go_simp; done) | (go_simp; rfl)); intro gb295 hg w12 hbox hb; have n0_ := Aside0.mk (below_step (by repeat (first | (with_reducible first | exact HB.out | apply below_alloc | apply pw_below_drewN | apply below_drew1) | exact HB.out)) hb); have n1_ := Aside0.mk (hbox); have n2_ := Aside0.mk ((by rw [hg]; exact (below_size (by repeat (first | (with_reducible first | exact HB.out | apply below_alloc | apply pw_below_drewN | apply below_drew1) | exact HB.out))) : w.heap.size ≤ gb295)); have n3_ := Aside0.mk ((by rw [hg]; exact (below_size (by repeat (first | (with_reducible first | exact HB.out | apply below_alloc | apply pw_below_drewN | apply below_drew1) | exact HB.out))) : w.heap.size ≤ gb295)); clear HB; have HB := n0_; have BK295 := n1_; have GW295 := n2_; have GE295 := n3_; clear n0_ n1_ n2_ n3_; clear hb hbox hg; have hcz13_0 : w12.cell? ⟨gb295, 0, none⟩ = some (.string a0_0) := (blk_cell BK295.out 0).trans rfl; have hcz13_1 : w12.cell? ⟨gb295, 1, none⟩ = some (.slice A0_1 l0_1.length c0_1) := (blk_cell BK295.out 1).trans rfl; have hcz13_2 : w12.cell? ⟨gb295, 2, none⟩ = some (.slice A0_2 l0_2.length c0_2) := (blk_cell BK295.out 2).trans rfl; have hfz13_0 := blk_frozen BK295.out 0; have hfz13_1 := blk_frozen BK295.out 1; have hfz13_2 := blk_frozen BK295.out 2) | ((with_reducible refine gate_callee (f := 125) rfl ?_); refine goesL_ (some 14) rfl rfl Tryz.func125 (by kernel_rfl) rfl #[.agg #[.string a0_0, .slice A0_1 l0_1.length c0_1, .slice A0_2 l0_2.length c0_2], .string a1] rfl (by (try simp only [List.map_toArray, List.map_cons, List.map_nil]); first | done | rfl | (simp only [List.length_drop, List.length_take]; rfl)) ?_; (with_reducible refine (tree_Find.calls k a0_0 _ _ l0_1 _ _ l0_2 a1 t296 true _ ?side1 ?side2 ?side3 ?side4 A3.out).mono ?_); (case side1 => repeat (first | exact (Kd.C_below HR0_1.out HB.out) | (with_reducible refine Kd.C_alloc ?_ _) | (with_reducible refine Kd.C_drewN ?_ _) | (with_reducible refine Kd.C_drew ?_))); (case side2 => exact HC0_1.out); (case side3 => repeat (first | exact (Kd.C_below HR0_2.out HB.out) | (with_reducible refine Kd.C_alloc ?_ _) | (with_reducible refine Kd.C_drewN ?_ _) | (with_reducible refine Kd.C_drew ?_))); (case side4 => exact HC0_2.out); rintro e w14 ⟨v297, rfl, ho0, hb⟩; refine ⟨_, rfl, ?_⟩; have n0_ := Aside0.mk (Kd.R_lower ho0 (below_size (by repeat (first | (with_reducible first | exact HB.out | apply below_alloc | apply pw_below_drewN | apply below_drew1 | refine below_set ?_ GE295.out) | exact HB.out)))); have n1_ := Aside0.mk (blk_below (g := gb295) (o := .cells #[.string a0_0, .slice A0_1 l0_1.length c0_1, .slice A0_2 l0_2.length c0_2] 27 (0, 0)) (by (with_reducible repeat (first | refine blk_drewN ?_ _ | refine blk_drew ?_ | refine blk_alloc ?_ _)); exact BK295.out) hb); have n2_ := Aside0.mk (below_step (by repeat (first | (with_reducible first | exact HB.out | apply below_alloc | apply pw_below_drewN | apply below_drew1 | refine below_set ?_ GE295.out) | exact HB.out)) hb); clear BK295; clear HB; have HO298 := n0_; have BK295 := n1_; have HB := n2_; clear n0_ n1_ n2_; (try clear hb); (try clear hb2); (try clear hk); (try clear hi); (try clear ho0); obtain ⟨Ao15, co15, eo15⟩ := Kd.R_slice HO298.out; subst eo15) | ((with_reducible refine gate_callee (f := 129) rfl ?_); refine goesL_ (some 21) rfl rfl Tryz.func129 (by kernel_rfl) rfl #[.slice Ao15 t296.length co15, .int .i64 0] rfl (by (try simp only [List.map_toArray, List.map_cons, List.map_nil]); first | done | rfl | (simp only [List.length_drop, List.length_take]; rfl)) ?_; (with_reducible refine (words_Get.calls _ _ t296 0 t300 true _ ?side1 ?side2 A5.out).mono ?_); (case side1 => repeat (first | exact (Kd.R_reads' HO298.out).2.2 | (with_reducible refine Kd.C_alloc ?_ _) | (with_reducible refine Kd.C_drewN ?_ _) | (with_reducible refine Kd.C_drew ?_))); (case side2 => exact (Kd.R_reads' HO298.out).2.1); rintro e w' ⟨rfl, ⟨nd, rfl⟩⟩; refine ⟨_, rfl, ?_⟩))
        go_ret3
        exact ⟨by first | rfl | (simp [errW_none, errW_some] <;> rfl) | (simp [*, errW_none, errW_some] <;> rfl), by repeat (first | (with_reducible first | exact HB.out | apply below_alloc | apply pw_below_drewN | apply below_drew1 | refine below_set ?_ GE295.out) | exact HB.out)⟩
    · replace c6 := Bool.eq_false_iff.mpr c6
      subst c6
      have H1 : (some (0, false, 4)) = some (r1, r2, r3) := by rw [if_neg (show ¬ (false = true) by decide)] at H; exact H
      clear H
      have H := H1
      clear H1
      simp only [Option.some.injEq, Prod.mk.injEq] at H
      obtain ⟨rfl, rfl, rfl⟩ := H
      go_enter Tryz.func147, Tryz.ntmps147
      go_wp2_with (first | ((with_reducible refine gate_dst (N := 2) rfl ?_); (try (refine gate_guard (by rfl) ?_; dsimp only)); refine box_event ?hg (N := 2) ?hd (cs := #[.string a0_0, .slice A0_1 l0_1.length c0_1, .slice A0_2 l0_2.length c0_2]) (t := 27) ?hr ?_; (case hd => rfl); (case hg => rfl); (case hr => first | (go_simp; done) | (go_simp; rfl)); intro gb295 hg w16 hbox hb; have n0_ := Aside0.mk (below_step (by repeat (first | (with_reducible first | exact HB.out | apply below_alloc | apply pw_below_drewN | apply below_drew1) | exact HB.out)) hb); have n1_ := Aside0.mk (hbox); have n2_ := Aside0.mk ((by rw [hg]; exact (below_size (by repeat (first | (with_reducible first | exact HB.out | apply below_alloc | apply pw_below_drewN | apply below_drew1) | exact HB.out))) : w.heap.size ≤ gb295)); have n3_ := Aside0.mk ((by rw [hg]; exact (below_size (by repeat (first | (with_reducible first | exact HB.out | apply below_alloc | apply pw_below_drewN | apply below_drew1) | exact HB.out))) : w.heap.size ≤ gb295)); clear HB; have HB := n0_; have BK295 := n1_; have GW295 := n2_; have GE295 := n3_; clear n0_ n1_ n2_ n3_; clear hb hbox hg; have hcz17_0 : w16.cell? ⟨gb295, 0, none⟩ = some (.string a0_0) := (blk_cell BK295.out 0).trans rfl; have hcz17_1 : w16.cell? ⟨gb295, 1, none⟩ = some (.slice A0_1 l0_1.length c0_1) := (blk_cell BK295.out 1).trans rfl; have hcz17_2 : w16.cell? ⟨gb295, 2, none⟩ = some (.slice A0_2 l0_2.length c0_2) := (blk_cell BK295.out 2).trans rfl; have hfz17_0 := blk_frozen BK295.out 0; have hfz17_1 := blk_frozen BK295.out 1; have hfz17_2 := blk_frozen BK295.out 2) | ((with_reducible refine gate_callee (f := 125) rfl ?_); refine goesL_ (some 14) rfl rfl Tryz.func125 (by kernel_rfl) rfl #[.agg #[.string a0_0, .slice A0_1 l0_1.length c0_1, .slice A0_2 l0_2.length c0_2], .string a1] rfl (by (try simp only [List.map_toArray, List.map_cons, List.map_nil]); first | done | rfl | (simp only [List.length_drop, List.length_take]; rfl)) ?_; (with_reducible refine (tree_Find.calls k a0_0 _ _ l0_1 _ _ l0_2 a1 t296 true _ ?side1 ?side2 ?side3 ?side4 A3.out).mono ?_); (case side1 => repeat (first | exact (Kd.C_below HR0_1.out HB.out) | (with_reducible refine Kd.C_alloc ?_ _) | (with_reducible refine Kd.C_drewN ?_ _) | (with_reducible refine Kd.C_drew ?_))); (case side2 => exact HC0_1.out); (case side3 => repeat (first | exact (Kd.C_below HR0_2.out HB.out) | (with_reducible refine Kd.C_alloc ?_ _) | (with_reducible refine Kd.C_drewN ?_ _) | (with_reducible refine Kd.C_drew ?_))); (case side4 => exact HC0_2.out); rintro e w18 ⟨v297, rfl, ho0, hb⟩; refine ⟨_, rfl, ?_⟩; have n0_ := Aside0.mk (Kd.R_lower ho0 (below_size (by repeat (first | (with_reducible first | exact HB.out | apply below_alloc | apply pw_below_drewN | apply below_drew1 | refine below_set ?_ GE295.out) | exact HB.out)))); have n1_ := Aside0.mk (blk_below (g := gb295) (o := .cells #[.string a0_0, .slice A0_1 l0_1.length c0_1, .slice A0_2 l0_2.length c0_2] 27 (0, 0)) (by (with_reducible repeat (first | refine blk_drewN ?_ _ | refine blk_drew ?_ | refine blk_alloc ?_ _)); exact BK295.out) hb); have n2_ := Aside0.mk (below_step (by repeat (first | (with_reducible first | exact HB.out | apply below_alloc | apply pw_below_drewN | apply below_drew1 | refine below_set ?_ GE295.out) | exact HB.out)) hb); clear BK295; clear HB; have HO298 := n0_; have BK295 := n1_; have HB := n2_; clear n0_ n1_ n2_; (try clear hb); (try clear hb2); (try clear hk); (try clear hi); (try clear ho0); obtain ⟨Ao19, co19, eo19⟩ := Kd.R_slice HO298.out; subst eo19) | ((with_reducible refine gate_callee (f := 129) rfl ?_); refine goesL_ (some 21) rfl rfl Tryz.func129 (by kernel_rfl) rfl #[.slice Ao19 t296.length co19, .int .i64 0] rfl (by (try simp only [List.map_toArray, List.map_cons, List.map_nil]); first | done | rfl | (simp only [List.length_drop, List.length_take]; rfl)) ?_; (with_reducible refine (words_Get.calls _ _ t296 0 t300 false _ ?side1 ?side2 A5.out).mono ?_); (case side1 => repeat (first | exact (Kd.R_reads' HO298.out).2.2 | (with_reducible refine Kd.C_alloc ?_ _) | (with_reducible refine Kd.C_drewN ?_ _) | (with_reducible refine Kd.C_drew ?_))); (case side2 => exact (Kd.R_reads' HO298.out).2.1); rintro e w' ⟨rfl, ⟨nd, rfl⟩⟩; refine ⟨_, rfl, ?_⟩))
      go_ret3
      exact ⟨by first | rfl | (simp [errW_none, errW_some] <;> rfl) | (simp [*, errW_none, errW_some] <;> rfl), by repeat (first | (with_reducible first | exact HB.out | apply below_alloc | apply pw_below_drewN | apply below_drew1 | refine below_set ?_ GE295.out) | exact HB.out)⟩
  · replace c4 := Bool.eq_false_iff.mpr c4
    subst c4
    have H1 : (some (0, false, 0)) = some (r1, r2, r3) := by rw [if_neg (show ¬ (false = true) by decide)] at H; exact H
    clear H
    have H := H1
    clear H1
    simp only [Option.some.injEq, Prod.mk.injEq] at H
    obtain ⟨rfl, rfl, rfl⟩ := H
    go_enter Tryz.func147, Tryz.ntmps147
    go_wp2_with (first | ((with_reducible refine gate_dst (N := 2) rfl ?_); (try (refine gate_guard (by rfl) ?_; dsimp only)); refine box_event ?hg (N := 2) ?hd (cs := #[.string a0_0, .slice A0_1 l0_1.length c0_1, .slice A0_2 l0_2.length c0_2]) (t := 27) ?hr ?_; (case hd => rfl); (case hg => rfl); (case hr => first | (go_simp; done) | (go_simp; rfl)); intro gb295 hg w20 hbox hb; have n0_ := Aside0.mk (below_step (by repeat (first | (with_reducible first | exact HB.out | apply below_alloc | apply pw_below_drewN | apply below_drew1) | exact HB.out)) hb); have n1_ := Aside0.mk (hbox); have n2_ := Aside0.mk ((by rw [hg]; exact (below_size (by repeat (first | (with_reducible first | exact HB.out | apply below_alloc | apply pw_below_drewN | apply below_drew1) | exact HB.out))) : w.heap.size ≤ gb295)); have n3_ := Aside0.mk ((by rw [hg]; exact (below_size (by repeat (first | (with_reducible first | exact HB.out | apply below_alloc | apply pw_below_drewN | apply below_drew1) | exact HB.out))) : w.heap.size ≤ gb295)); clear HB; have HB := n0_; have BK295 := n1_; have GW295 := n2_; have GE295 := n3_; clear n0_ n1_ n2_ n3_; clear hb hbox hg; have hcz21_0 : w20.cell? ⟨gb295, 0, none⟩ = some (.string a0_0) := (blk_cell BK295.out 0).trans rfl; have hcz21_1 : w20.cell? ⟨gb295, 1, none⟩ = some (.slice A0_1 l0_1.length c0_1) := (blk_cell BK295.out 1).trans rfl; have hcz21_2 : w20.cell? ⟨gb295, 2, none⟩ = some (.slice A0_2 l0_2.length c0_2) := (blk_cell BK295.out 2).trans rfl; have hfz21_0 := blk_frozen BK295.out 0; have hfz21_1 := blk_frozen BK295.out 1; have hfz21_2 := blk_frozen BK295.out 2) | ((with_reducible refine gate_callee (f := 125) rfl ?_); refine goesL_ (some 14) rfl rfl Tryz.func125 (by kernel_rfl) rfl #[.agg #[.string a0_0, .slice A0_1 l0_1.length c0_1, .slice A0_2 l0_2.length c0_2], .string a1] rfl (by (try simp only [List.map_toArray, List.map_cons, List.map_nil]); first | done | rfl | (simp only [List.length_drop, List.length_take]; rfl)) ?_; (with_reducible refine (tree_Find.calls k a0_0 _ _ l0_1 _ _ l0_2 a1 t296 false _ ?side1 ?side2 ?side3 ?side4 A3.out).mono ?_); (case side1 => repeat (first | exact (Kd.C_below HR0_1.out HB.out) | (with_reducible refine Kd.C_alloc ?_ _) | (with_reducible refine Kd.C_drewN ?_ _) | (with_reducible refine Kd.C_drew ?_))); (case side2 => exact HC0_1.out); (case side3 => repeat (first | exact (Kd.C_below HR0_2.out HB.out) | (with_reducible refine Kd.C_alloc ?_ _) | (with_reducible refine Kd.C_drewN ?_ _) | (with_reducible refine Kd.C_drew ?_))); (case side4 => exact HC0_2.out); rintro e w22 ⟨v297, rfl, ho0, hb⟩; refine ⟨_, rfl, ?_⟩; have n0_ := Aside0.mk (Kd.R_lower ho0 (below_size (by repeat (first | (with_reducible first | exact HB.out | apply below_alloc | apply pw_below_drewN | apply below_drew1 | refine below_set ?_ GE295.out) | exact HB.out)))); have n1_ := Aside0.mk (blk_below (g := gb295) (o := .cells #[.string a0_0, .slice A0_1 l0_1.length c0_1, .slice A0_2 l0_2.length c0_2] 27 (0, 0)) (by (with_reducible repeat (first | refine blk_drewN ?_ _ | refine blk_drew ?_ | refine blk_alloc ?_ _)); exact BK295.out) hb); have n2_ := Aside0.mk (below_step (by repeat (first | (with_reducible first | exact HB.out | apply below_alloc | apply pw_below_drewN | apply below_drew1 | refine below_set ?_ GE295.out) | exact HB.out)) hb); clear BK295; clear HB; have HO298 := n0_; have BK295 := n1_; have HB := n2_; clear n0_ n1_ n2_; (try clear hb); (try clear hb2); (try clear hk); (try clear hi); (try clear ho0)))
    go_ret3
    exact ⟨by first | rfl | (simp [errW_none, errW_some] <;> rfl) | (simp [*, errW_none, errW_some] <;> rfl), by repeat (first | (with_reducible first | exact HB.out | apply below_alloc | apply pw_below_drewN | apply below_drew1 | refine below_set ?_ GE295.out) | exact HB.out)⟩
end Go.Proofs.YtkfcgjopabcbeaaGreatDoor.PV
