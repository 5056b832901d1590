/- EncodeAgain: texts of this session's, and what the kit's print laid for this seat, as far as the law's row uses them (PEx_tree_names, PEx_tree_check, PEx_tree_Check, PEx_bytes_IndexByte, PEx_words_Text, PEx_encode_most, PEx_bytes_Clone, PEx_bytes_Equal, PEx_slices_Clone_byte_byte, PEx_words_put, PEx_words_Put64, PEx_api_Reserve_50, PEx_words_Put, PEx_decode_within, EHeader, EDec1, EDec2, EDec3, PEx_arboretref01_Bytes, EBytes, Enc1, Enc2, Enc3). -/
import Derived.Lib.EndianBits
import Derived.StillTailTactics
import Derived.Test.YtkopmkinlanhoaaZEncodeAgain1
set_option linter.unusedVariables false
set_option linter.unusedSimpArgs false
namespace Go.Proofs.Ytkopmkinlanhoaa.PE
open Go.RowKit Go.Proofs.YtkopmkinlanhoaaW.PrintWords Go.Proofs.YtkopmkinlanhoaaW.PrintLast Go.Proofs.YtkopmkinlanhoaaW.PrintMore
attribute [local go_sem] max2_int min2_int max_two min_two max_three min_three max_four min_four   -- for this text's walks alone
set_option linter.unusedVariables false
set_option linter.unusedSimpArgs false
mutual
def tree_names.l0 : Nat → List ByteArray → List (S63) → Int → Int → ByteArray → List (S63) → List (S27) → Option (List ByteArray × List ByteArray)
  | 0, _, _, _, _, _, _, _ => none
  | k + 1, x4, x11, x12, x13, x251000, x251001, x251002 => if x13 < x12 then (if 0 ≤ x13 then (if x13 < (x11.length : Int) then (if x4.length < 8796093022208 then (tree_names.l0 k (x4 ++ [(rd_T63 x11 x13).f0]) x11 x12 (wrap64 (x13 + 1)) x251000 x251001 x251002) else (none)) else (none)) else (none)) else (tree_names.l1 k x4 ([] : List ByteArray) x251002 (x251002.length : Int) 0)
def tree_names.l1 : Nat → List ByteArray → List ByteArray → List (S27) → Int → Int → Option (List ByteArray × List ByteArray)
  | 0, _, _, _, _, _ => none
  | k + 1, x4, x5, x24, x25, x26 => if x26 < x25 then (if 0 ≤ x26 then (if x26 < (x24.length : Int) then (if x5.length < 8796093022208 then (tree_names.l1 k x4 (x5 ++ [(rd_T27 x24 x26).f0]) x24 x25 (wrap64 (x26 + 1))) else (none)) else (none)) else (none)) else (some (x4, x5))
end
def tree_names.f (k : Nat) (a0_0 : ByteArray) (l0_1 : List (S63)) (l0_2 : List (S27)) : Option (List ByteArray × List ByteArray) := tree_names.l0 k ([] : List ByteArray) l0_1 (l0_1.length : Int) 0 a0_0 l0_1 l0_2
set_option maxHeartbeats 8000000 in
set_option maxRecDepth 100000 in
theorem tree_names.calls (k : Nat) (a0_0 : ByteArray) (A0_1 : Option Addr) (c0_1 : Nat) (l0_1 : List (S63)) (A0_2 : Option Addr) (c0_2 : Nat) (l0_2 : List (S27)) (r1 : List ByteArray) (r2 : List ByteArray) (w : World) (hr0_1 : Kd.C k63 w A0_1 l0_1.length l0_1) (hc0_1 : l0_1.length ≤ c0_1) (hr0_2 : Kd.C k27 w A0_2 l0_2.length l0_2) (hc0_2 : l0_2.length ≤ c0_2) (h : tree_names.f k a0_0 l0_1 l0_2 = some (r1, r2)) :
    Calls Try.prog 87 #[.agg #[.string a0_0, .slice A0_1 l0_1.length c0_1, .slice A0_2 l0_2.length c0_2]] w fun e w' => ∃ v0_ v1_ : Value, e = .returned (.tuple #[v0_, v1_]) ∧ Kd.R Kd.string 9 w' w.heap.size (fun k_ => some k_ ≠ (v1_ : Value).ownBlock) v0_ r1 ∧ Kd.R Kd.string 9 w' w.heap.size (fun k_ => some k_ ≠ (v0_ : Value).ownBlock) v1_ r2 ∧ Below w.heap.size w w' := by
  have hu27 := Try.underlying27
  have hu63 := Try.underlying63
  have HR0_1 := Aside0.mk hr0_1
  have HC0_1 := Aside0.mk hc0_1
  clear hr0_1 hc0_1
  have HR0_2 := Aside0.mk hr0_2
  have HC0_2 := Aside0.mk hc0_2
  clear hr0_2 hc0_2
  have HB := Aside0.mk (Below.refl w.heap.size w)
  have H : (tree_names.l0 k ([] : List ByteArray) l0_1 (l0_1.length : Int) 0 a0_0 l0_1 l0_2) = some (r1, r2) := h
  clear h
  have H' := Aside0.mk H
  clear H
  go_enter Try.func87, Try.ntmps87
  go_wp2_with (first | ((with_reducible refine gate_dst (N := 1) rfl ?_); refine box_event ?hg (N := 1) ?hd (cs := #[.string a0_0, .slice A0_1 l0_1.length c0_1, .slice A0_2 l0_2.length c0_2]) (t := 27) ?hr ?_; (case hd => rfl); (case hg => rfl); (case hr => first | (go_simp; done) | (go_simp; rfl)); intro gb250 hg w2 hbox hb; have n0_ := Aside0.mk (below_step (by repeat (first | (with_reducible first | exact HB.out | apply below_alloc | apply pw_below_drewN | apply below_drew1) | exact HB.out)) hb); have n1_ := Aside0.mk (hbox); have n2_ := Aside0.mk ((by rw [hg]; exact (below_size (by repeat (first | (with_reducible first | exact HB.out | apply below_alloc | apply pw_below_drewN | apply below_drew1) | exact HB.out))) : w.heap.size ≤ gb250)); have n3_ := Aside0.mk ((by rw [hg]; exact (below_size (by repeat (first | (with_reducible first | exact HB.out | apply below_alloc | apply pw_below_drewN | apply below_drew1) | exact HB.out))) : w.heap.size ≤ gb250)); clear HB; have HB := n0_; have BK250 := n1_; have GW250 := n2_; have GE250 := n3_; clear n0_ n1_ n2_ n3_; clear hb hbox hg; have hcz3_0 : w2.cell? ⟨gb250, 0, none⟩ = some (.string a0_0) := (blk_cell BK250.out 0).trans rfl; have hcz3_1 : w2.cell? ⟨gb250, 1, none⟩ = some (.slice A0_1 l0_1.length c0_1) := (blk_cell BK250.out 1).trans rfl; have hcz3_2 : w2.cell? ⟨gb250, 2, none⟩ = some (.slice A0_2 l0_2.length c0_2) := (blk_cell BK250.out 2).trans rfl; have hfz3_0 := blk_frozen BK250.out 0; have hfz3_1 := blk_frozen BK250.out 1; have hfz3_2 := blk_frozen BK250.out 2))
  go_loopg [4, 13] k (fun kq v4 v13 w' => ∃ (x4_1 : List ByteArray) (x13_1 : Int), v13 = .int .i64 x13_1 ∧ Aside0 (tree_names.l0 kq x4_1 l0_1 (l0_1.length : Int) x13_1 a0_0 l0_1 l0_2 = some (r1, r2)) ∧ Aside0 (kq ≤ k) ∧ Aside0 (Kd.R Kd.string 9 w' w.heap.size (fun _ => True) v4 x4_1) ∧ Aside0 (w'.heap[gb250]? = some (.cells #[.string a0_0, (.slice A0_1 l0_1.length c0_1), (.slice A0_2 l0_2.length c0_2)] 27 (0, 0))) ∧ Aside0 (Below w.heap.size w w'))
  case atStart => exact ⟨(([] : List ByteArray)), (0), (by first | rfl | (simp; done) | (simp [*]; done)), H', ⟨Nat.le_refl _⟩, ⟨by first | exact Kd.R_nil _ _ _ _ _ | exact Kd.N_nil _ _ _ _ _ | exact Kd.V_nil _ _ _ _ _ | exact Kd.Q_nil _ _ _ _ _ | exact Kd.S_nil _ _ _ _ _⟩, ⟨by (with_reducible repeat (first | refine blk_drewN ?_ _ | refine blk_drew ?_ | refine blk_alloc ?_ _)); exact BK250.out⟩, ⟨by repeat (first | (with_reducible first | exact HB.out | apply below_alloc | apply pw_below_drewN | apply below_drew1 | refine below_set ?_ GE250.out) | exact HB.out)⟩⟩
  case round =>
    clear H'
    try clear p2
    try clear hcz3_0
    try clear hcz3_1
    try clear hcz3_2
    try clear hfz3_0
    try clear hfz3_1
    try clear hfz3_2
    obtain ⟨x4_1, x13_1, rfl, HA, HK1, HO_4, BK250, HB⟩ := hrel
    cases gk with
    | zero => exact absurd HA.out (by simp [tree_names.l0])
    | succ k1 =>
      have H := HA.out
      clear HA
      simp only [tree_names.l0] at H
      by_cases c4 : x13_1 < (l0_1.length : Int)
      · rw [if_pos c4] at H
        have c4b0 : decide (x13_1 < (l0_1.length : Int)) = true := decide_eq_true c4
        clear c4
        by_cases c5 : 0 ≤ x13_1
        · rw [if_pos c5] at H
          have c5b0 : decide (0 ≤ x13_1) = true := decide_eq_true c5
          clear c5
          by_cases c6 : x13_1 < (l0_1.length : Int)
          · rw [if_pos c6] at H
            have c6b0 : decide (x13_1 < (l0_1.length : Int)) = true := decide_eq_true c6
            clear c6
            by_cases c7 : x4_1.length < 8796093022208
            · rw [if_pos c7] at H
              have LMc7 := Aside0.mk c7
              clear c7
              obtain ⟨y253, hy253⟩ : ∃ y_ : List ByteArray, y_ = (x4_1 ++ [(rd_T63 l0_1 x13_1).f0]) := ⟨_, rfl⟩
              replace H : (tree_names.l0 k1 y253 l0_1 (l0_1.length : Int) (wrap64 (x13_1 + 1)) a0_0 l0_1 l0_2) = some (r1, r2) := by first | (rw [hy253]; with_reducible exact H) | (have H2_ := (Option.bind_some _ _).symm.trans H; rw [hy253]; with_reducible exact H2_) | (have H2_ := (Option.bind_some _ _).symm.trans H; with_reducible exact H2_) | with_reducible exact H | (rw [hy253]; exact H) | exact H
              have Ny253 := Aside0.mk hy253
              clear hy253
              have H' := Aside0.mk H
              clear H
              have p251 : 0 ≤ (x13_1 : Int) := of_decide_eq_true (by first | (with_reducible assumption) | assumption)
              have q251 : x13_1 < (l0_1.length : Int) := of_decide_eq_true (by first | (with_reducible assumption) | assumption)
              obtain ⟨ad251, A251_1, c251_1, e251, hx251_0, hx251_1, hl251_1, hi251_1⟩ := at_T63 HR0_1.out x13_1 p251 q251
              cases e251
              replace hx251_0 := (HB.out.cell (World.block_lt_of_cell? w _ hx251_0)).trans hx251_0
              replace hx251_1 := (HB.out.cell (World.block_lt_of_cell? w _ hx251_1)).trans hx251_1
              have HR251_1 := Aside0.mk hi251_1
              have HC251_1 := Aside0.mk hl251_1
              clear hi251_1 hl251_1
              replace p251 := eq_true p251
              replace q251 := eq_true q251
              go_wp2_with (first | ((with_reducible refine gate_dst (N := 7) rfl ?_); refine box_event ?hg (N := 7) ?hd (cs := #[.string (⟨#[]⟩ : ByteArray), .slice none 0 0]) (t := 63) ?hr ?_; (case hd => rfl); (case hg => rfl); (case hr => first | (go_simp; done) | (go_simp; rfl)); intro gb252 hg w8 hbox hb; have n0_ := Aside0.mk (Kd.R_below (by (with_reducible repeat (first | apply Kd.R_alloc | apply Kd.R_drewN | apply Kd.R_drew)); exact HO_4.out) hb); have n1_ := Aside0.mk (blk_below (g := gb250) (o := .cells #[.string a0_0, .slice (some ad251) l0_1.length c0_1, .slice A0_2 l0_2.length c0_2] 27 (0, 0)) (by (with_reducible repeat (first | refine blk_drewN ?_ _ | refine blk_drew ?_ | refine blk_alloc ?_ _)); exact BK250.out) hb); have n2_ := Aside0.mk (below_step (by repeat (first | (with_reducible first | exact HB.out | apply below_alloc | apply pw_below_drewN | apply below_drew1 | refine below_set ?_ GE250.out) | exact HB.out)) hb); have n3_ := Aside0.mk (hbox); have n4_ := Aside0.mk ((by rw [hg]; exact (below_size (by repeat (first | (with_reducible first | exact HB.out | apply below_alloc | apply pw_below_drewN | apply below_drew1 | refine below_set ?_ GE250.out) | exact HB.out))) : w.heap.size ≤ gb252)); have n5_ := Aside0.mk ((by rw [hg]; exact (below_size (by repeat (first | (with_reducible first | exact HB.out | apply below_alloc | apply pw_below_drewN | apply below_drew1 | refine below_set ?_ GE250.out) | exact HB.out))) : w.heap.size ≤ gb252)); have n6_ := Aside0.mk ((by rw [hg]; exact Nat.ne_of_lt (blk_lt (g := gb250) (o := .cells #[.string a0_0, .slice (some ad251) l0_1.length c0_1, .slice A0_2 l0_2.length c0_2] 27 (0, 0)) (by (with_reducible repeat (first | refine blk_drewN ?_ _ | refine blk_drew ?_ | refine blk_alloc ?_ _)); exact BK250.out)) : gb250 ≠ gb252)); have n7_ := Aside0.mk ((by rw [hg]; exact Nat.ne_of_gt (blk_lt (g := gb250) (o := .cells #[.string a0_0, .slice (some ad251) l0_1.length c0_1, .slice A0_2 l0_2.length c0_2] 27 (0, 0)) (by (with_reducible repeat (first | refine blk_drewN ?_ _ | refine blk_drew ?_ | refine blk_alloc ?_ _)); exact BK250.out)) : gb252 ≠ gb250)); clear HO_4; clear BK250; clear HB; have HO_4 := n0_; have BK250 := n1_; have HB := n2_; have BK252 := n3_; have GW252 := n4_; have GE252 := n5_; have NB250_252 := n6_; have NB252_250 := n7_; clear n0_ n1_ n2_ n3_ n4_ n5_ n6_ n7_; clear hb hbox hg; have hnb9 := NB252_250.out; have hnc9 := NB250_252.out; have hcz10_0 : w8.cell? ⟨gb252, 0, none⟩ = some (.string (⟨#[]⟩ : ByteArray)) := (blk_cell BK252.out 0).trans rfl; have hcz10_1 : w8.cell? ⟨gb252, 1, none⟩ = some (.slice none 0 0) := (blk_cell BK252.out 1).trans rfl; have hfz10_0 := blk_frozen BK252.out 0; have hfz10_1 := blk_frozen BK252.out 1) | ((with_reducible refine gate_builtin (b := .append) (xs := #[.tmp 17, .tmp 20]) rfl ?_); at_builtin; refine Kd.R_append Kd.string (w0 := w) w.heap.size rfl (.tmp 17) (.tmp 20) 83 9 (.string ⟨#[]⟩) 16 rfl Try.underlying83 info9 rfl (by decide) (by omega) u4 x4_1 ((rd_T63 l0_1 x13_1).f0) [.string ((rd_T63 l0_1 x13_1).f0)] (fun _ => True) (fun _ => False) rfl (by first | (go_simp; done) | (go_simp; rfl)) ?aP (fun _ hk => hk.elim) ?aF ?aO ?aB ?aS ?aL ?_; (case aP => exact rfl); (case aB => exact (by repeat (first | (with_reducible first | exact HB.out | apply below_alloc | apply pw_below_drewN | apply below_drew1 | refine below_set ?_ GE250.out | refine below_set ?_ GE252.out) | exact HB.out))); (case aF => exact (fun _ _ => trivial)); (case aO => exact (by (with_reducible repeat (first | apply Kd.R_alloc | apply Kd.R_drewN | apply Kd.R_drew)); exact Kd.R_mono (Kd.R_far (p := ⟨gb252, 1, none⟩) (Kd.R_far (p := ⟨gb252, 0, none⟩) (Kd.R_types HO_4.out BK252.out (by decide)) (fun _ hk => hk.2) (.string ((rd_T63 l0_1 x13_1).f0))) (fun _ hk => hk.2) (.slice A251_1 ((rd_T63 l0_1 x13_1).f1).length c251_1)) (fun _ hk => trivial))); (case aS => exact (below_size (by repeat (first | (with_reducible first | exact HB.out | apply below_alloc | apply pw_below_drewN | apply below_drew1 | refine below_set ?_ GE250.out | refine below_set ?_ GE252.out) | exact HB.out)))); (case aL => have := LMc7.out; omega); intro v254 w11 ho hb hg hat; rw [← Ny253.out] at ho; have n0_ := Aside0.mk (blk_grown (g := gb250) (o := .cells #[.string a0_0, .slice (some ad251) l0_1.length c0_1, .slice A0_2 l0_2.length c0_2] 27 (0, 0)) (by (with_reducible repeat (first | refine blk_drewN ?_ _ | refine blk_drew ?_ | refine blk_alloc ?_ _)); refine blk_far ?_ NB250_252.out _; (with_reducible repeat (first | refine blk_drewN ?_ _ | refine blk_drew ?_ | refine blk_alloc ?_ _)); refine blk_far ?_ NB250_252.out _; (with_reducible repeat (first | refine blk_drewN ?_ _ | refine blk_drew ?_ | refine blk_alloc ?_ _)); exact BK250.out) hg (Kd.R_ne HO_4.out BK250.out (by decide))); have n1_ := Aside0.mk (blk_grown (g := gb252) (o := .cells #[.string ((rd_T63 l0_1 x13_1).f0), .slice A251_1 ((rd_T63 l0_1 x13_1).f1).length c251_1] 63 (0, 0)) (by (with_reducible repeat (first | refine blk_drewN ?_ _ | refine blk_drew ?_ | refine blk_alloc ?_ _)); refine blk_put (cs := #[.string ((rd_T63 l0_1 x13_1).f0), .slice none 0 0]) ?_ 1 _ rfl; (with_reducible repeat (first | refine blk_drewN ?_ _ | refine blk_drew ?_ | refine blk_alloc ?_ _)); refine blk_put (cs := #[.string (⟨#[]⟩ : ByteArray), .slice none 0 0]) ?_ 0 _ rfl; (with_reducible repeat (first | refine blk_drewN ?_ _ | refine blk_drew ?_ | refine blk_alloc ?_ _)); exact BK252.out) hg (Kd.R_ne HO_4.out BK252.out (by decide))); have n2_ := Aside0.mk (hb); have n3_ := Aside0.mk (ho); clear BK250; clear BK252; clear HB; clear HO_4; have BK250 := n0_; have BK252 := n1_; have HB := n2_; have HO255 := n3_; clear n0_ n1_ n2_ n3_; clear ho hb hg hat))
              go_roundg k1
              case measure => have := HK1.out; omega
              case rel => exact ⟨(y253), (wrap64 (x13_1 + 1)), (by first | rfl | (simp; done) | (simp [*]; done)), H', ⟨by have := HK1.out; omega⟩, ⟨by (with_reducible repeat (first | apply Kd.R_alloc | apply Kd.R_drewN | apply Kd.R_drew)); exact HO255.out⟩, ⟨by (with_reducible repeat (first | refine blk_drewN ?_ _ | refine blk_drew ?_ | refine blk_alloc ?_ _)); exact BK250.out⟩, ⟨by repeat (first | (with_reducible first | exact HB.out | apply below_alloc | apply pw_below_drewN | apply below_drew1 | refine below_set ?_ GE250.out | refine below_set ?_ GE252.out) | exact HB.out)⟩⟩
            · rw [if_neg c7] at H
              exact absurd H (by simp)
          · rw [if_neg c6] at H
            exact absurd H (by simp)
        · rw [if_neg c5] at H
          exact absurd H (by simp)
      · rw [if_neg c4] at H
        have c4b0 : decide (x13_1 < (l0_1.length : Int)) = false := decide_eq_false c4
        clear c4
        have H' := Aside0.mk H
        clear H
        have hcz12_0 : wr.cell? ⟨gb250, 0, none⟩ = some (.string a0_0) := (blk_cell BK250.out 0).trans rfl
        have hcz12_1 : wr.cell? ⟨gb250, 1, none⟩ = some (.slice A0_1 l0_1.length c0_1) := (blk_cell BK250.out 1).trans rfl
        have hcz12_2 : wr.cell? ⟨gb250, 2, none⟩ = some (.slice A0_2 l0_2.length c0_2) := (blk_cell BK250.out 2).trans rfl
        have hfz12_0 := blk_frozen BK250.out 0
        have hfz12_1 := blk_frozen BK250.out 1
        have hfz12_2 := blk_frozen BK250.out 2
        go_wp2
        go_loopg [5, 26] k1 (fun kq v5 v26 w' => ∃ (x5_2 : List ByteArray) (x26_2 : Int), v26 = .int .i64 x26_2 ∧ Aside0 (tree_names.l1 kq x4_1 x5_2 l0_2 (l0_2.length : Int) x26_2 = some (r1, r2)) ∧ Aside0 (kq ≤ k1) ∧ Aside0 (Kd.R Kd.string 9 w' w.heap.size (fun k_ => some k_ ≠ (v5 : Value).ownBlock) u4 x4_1) ∧ Aside0 (Kd.R Kd.string 9 w' w.heap.size (fun k_ => some k_ ≠ (u4 : Value).ownBlock) v5 x5_2) ∧ Aside0 (w'.heap[gb250]? = some (.cells #[.string a0_0, (.slice A0_1 l0_1.length c0_1), (.slice A0_2 l0_2.length c0_2)] 27 (0, 0))) ∧ Aside0 (Below w.heap.size w w'))
        case atStart => exact ⟨(([] : List ByteArray)), (0), (by first | rfl | (simp; done) | (simp [*]; done)), H', ⟨Nat.le_refl _⟩, ⟨by (with_reducible repeat (first | apply Kd.R_alloc | apply Kd.R_drewN | apply Kd.R_drew)); exact Kd.R_mono HO_4.out (fun _ hk => (by simp [Value.ownBlock]))⟩, ⟨by first | exact Kd.R_nil _ _ _ _ _ | exact Kd.N_nil _ _ _ _ _ | exact Kd.V_nil _ _ _ _ _ | exact Kd.Q_nil _ _ _ _ _ | exact Kd.S_nil _ _ _ _ _⟩, ⟨by (with_reducible repeat (first | refine blk_drewN ?_ _ | refine blk_drew ?_ | refine blk_alloc ?_ _)); exact BK250.out⟩, ⟨by repeat (first | (with_reducible first | exact HB.out | apply below_alloc | apply pw_below_drewN | apply below_drew1 | refine below_set ?_ GE250.out) | exact HB.out)⟩⟩
        case round =>
          clear H'
          try clear c2
          try clear p2
          try clear q2
          try clear hx2
          try clear c4
          try clear c4b0
          try clear c5
          try clear c5b0
          try clear c6
          try clear c6b0
          try clear p6
          try clear c7
          try clear c8
          try clear c9
          try clear hcz10_0
          try clear hcz10_1
          try clear hcz12_0
          try clear hcz12_1
          try clear hcz12_2
          try clear hcz3_0
          try clear hcz3_1
          try clear hcz3_2
          try clear hfz10_0
          try clear hfz10_1
          try clear hfz12_0
          try clear hfz12_1
          try clear hfz12_2
          try clear hfz3_0
          try clear hfz3_1
          try clear hfz3_2
          try clear hx251_0
          try clear hx251_1
          try clear p2
          try clear p251
          try clear q251
          obtain ⟨x5_2, x26_2, rfl, HA, HK2, HO_4, HO_5, BK250, HB⟩ := hrel
          cases gk with
          | zero => exact absurd HA.out (by simp [tree_names.l1])
          | succ k2 =>
            have H := HA.out
            clear HA
            simp only [tree_names.l1] at H
            by_cases c13 : x26_2 < (l0_2.length : Int)
            · rw [if_pos c13] at H
              have c13b0 : decide (x26_2 < (l0_2.length : Int)) = true := decide_eq_true c13
              clear c13
              by_cases c14 : 0 ≤ x26_2
              · rw [if_pos c14] at H
                have c14b0 : decide (0 ≤ x26_2) = true := decide_eq_true c14
                clear c14
                by_cases c15 : x26_2 < (l0_2.length : Int)
                · rw [if_pos c15] at H
                  have c15b0 : decide (x26_2 < (l0_2.length : Int)) = true := decide_eq_true c15
                  clear c15
                  by_cases c16 : x5_2.length < 8796093022208
                  · rw [if_pos c16] at H
                    have LMc16 := Aside0.mk c16
                    clear c16
                    obtain ⟨y258, hy258⟩ : ∃ y_ : List ByteArray, y_ = (x5_2 ++ [(rd_T27 l0_2 x26_2).f0]) := ⟨_, rfl⟩
                    replace H : (tree_names.l1 k2 x4_1 y258 l0_2 (l0_2.length : Int) (wrap64 (x26_2 + 1))) = some (r1, r2) := by first | (rw [hy258]; with_reducible exact H) | (have H2_ := (Option.bind_some _ _).symm.trans H; rw [hy258]; with_reducible exact H2_) | (have H2_ := (Option.bind_some _ _).symm.trans H; with_reducible exact H2_) | with_reducible exact H | (rw [hy258]; exact H) | exact H
                    have Ny258 := Aside0.mk hy258
                    clear hy258
                    have H' := Aside0.mk H
                    clear H
                    have p256 : 0 ≤ (x26_2 : Int) := of_decide_eq_true (by first | (with_reducible assumption) | assumption)
                    have q256 : x26_2 < (l0_2.length : Int) := of_decide_eq_true (by first | (with_reducible assumption) | assumption)
                    obtain ⟨ad256, A256_1, c256_1, A256_2, c256_2, e256, hx256_0, hx256_1, hx256_2, hl256_1, hi256_1, hl256_2, hi256_2⟩ := at_T27 HR0_2.out x26_2 p256 q256
                    cases e256
                    replace hx256_0 := (HB.out.cell (World.block_lt_of_cell? w _ hx256_0)).trans hx256_0
                    replace hx256_1 := (HB.out.cell (World.block_lt_of_cell? w _ hx256_1)).trans hx256_1
                    replace hx256_2 := (HB.out.cell (World.block_lt_of_cell? w _ hx256_2)).trans hx256_2
                    have HR256_1 := Aside0.mk hi256_1
                    have HC256_1 := Aside0.mk hl256_1
                    clear hi256_1 hl256_1
                    have HR256_2 := Aside0.mk hi256_2
                    have HC256_2 := Aside0.mk hl256_2
                    clear hi256_2 hl256_2
                    replace p256 := eq_true p256
                    replace q256 := eq_true q256
                    go_wp2_with (first | ((with_reducible refine gate_dst (N := 9) rfl ?_); refine box_event ?hg (N := 9) ?hd (cs := #[.string (⟨#[]⟩ : ByteArray), .slice none 0 0, .slice none 0 0]) (t := 27) ?hr ?_; (case hd => rfl); (case hg => rfl); (case hr => first | (go_simp; done) | (go_simp; rfl)); intro gb257 hg w17 hbox hb; have n0_ := Aside0.mk (Kd.R_below (by (with_reducible repeat (first | apply Kd.R_alloc | apply Kd.R_drewN | apply Kd.R_drew)); exact HO_4.out) hb); have n1_ := Aside0.mk (Kd.R_below (by (with_reducible repeat (first | apply Kd.R_alloc | apply Kd.R_drewN | apply Kd.R_drew)); exact HO_5.out) hb); have n2_ := Aside0.mk (blk_below (g := gb250) (o := .cells #[.string a0_0, .slice A0_1 l0_1.length c0_1, .slice (some ad256) l0_2.length c0_2] 27 (0, 0)) (by (with_reducible repeat (first | refine blk_drewN ?_ _ | refine blk_drew ?_ | refine blk_alloc ?_ _)); exact BK250.out) hb); have n3_ := Aside0.mk (below_step (by repeat (first | (with_reducible first | exact HB.out | apply below_alloc | apply pw_below_drewN | apply below_drew1 | refine below_set ?_ GE250.out) | exact HB.out)) hb); have n4_ := Aside0.mk (hbox); have n5_ := Aside0.mk ((by rw [hg]; exact (below_size (by repeat (first | (with_reducible first | exact HB.out | apply below_alloc | apply pw_below_drewN | apply below_drew1 | refine below_set ?_ GE250.out) | exact HB.out))) : w.heap.size ≤ gb257)); have n6_ := Aside0.mk ((by rw [hg]; exact (below_size (by repeat (first | (with_reducible first | exact HB.out | apply below_alloc | apply pw_below_drewN | apply below_drew1 | refine below_set ?_ GE250.out) | exact HB.out))) : w.heap.size ≤ gb257)); have n7_ := Aside0.mk ((by rw [hg]; exact Nat.ne_of_lt (blk_lt (g := gb250) (o := .cells #[.string a0_0, .slice A0_1 l0_1.length c0_1, .slice (some ad256) l0_2.length c0_2] 27 (0, 0)) (by (with_reducible repeat (first | refine blk_drewN ?_ _ | refine blk_drew ?_ | refine blk_alloc ?_ _)); exact BK250.out)) : gb250 ≠ gb257)); have n8_ := Aside0.mk ((by rw [hg]; exact Nat.ne_of_gt (blk_lt (g := gb250) (o := .cells #[.string a0_0, .slice A0_1 l0_1.length c0_1, .slice (some ad256) l0_2.length c0_2] 27 (0, 0)) (by (with_reducible repeat (first | refine blk_drewN ?_ _ | refine blk_drew ?_ | refine blk_alloc ?_ _)); exact BK250.out)) : gb257 ≠ gb250)); clear HO_4; clear HO_5; clear BK250; clear HB; have HO_4 := n0_; have HO_5 := n1_; have BK250 := n2_; have HB := n3_; have BK257 := n4_; have GW257 := n5_; have GE257 := n6_; have NB250_257 := n7_; have NB257_250 := n8_; clear n0_ n1_ n2_ n3_ n4_ n5_ n6_ n7_ n8_; clear hb hbox hg; have hnb18 := NB257_250.out; have hnc18 := NB250_257.out; have hcz19_0 : w17.cell? ⟨gb257, 0, none⟩ = some (.string (⟨#[]⟩ : ByteArray)) := (blk_cell BK257.out 0).trans rfl; have hcz19_1 : w17.cell? ⟨gb257, 1, none⟩ = some (.slice none 0 0) := (blk_cell BK257.out 1).trans rfl; have hcz19_2 : w17.cell? ⟨gb257, 2, none⟩ = some (.slice none 0 0) := (blk_cell BK257.out 2).trans rfl; have hfz19_0 := blk_frozen BK257.out 0; have hfz19_1 := blk_frozen BK257.out 1; have hfz19_2 := blk_frozen BK257.out 2) | ((with_reducible refine gate_builtin (b := .append) (xs := #[.tmp 30, .tmp 33]) rfl ?_); at_builtin; refine Kd.R_append Kd.string (w0 := w) w.heap.size rfl (.tmp 30) (.tmp 33) 83 9 (.string ⟨#[]⟩) 16 rfl Try.underlying83 info9 rfl (by decide) (by omega) u5 x5_2 ((rd_T27 l0_2 x26_2).f0) [.string ((rd_T27 l0_2 x26_2).f0)] (fun k_ => some k_ ≠ (u4 : Value).ownBlock) (fun _ => False) rfl (by first | (go_simp; done) | (go_simp; rfl)) ?aP (fun _ hk => hk.elim) ?aF ?aO ?aB ?aS ?aL ?_; (case aP => exact rfl); (case aB => exact (by repeat (first | (with_reducible first | exact HB.out | apply below_alloc | apply pw_below_drewN | apply below_drew1 | refine below_set ?_ GE250.out | refine below_set ?_ GE257.out) | exact HB.out))); (case aF => exact (fun k_ hk => Kd.fresh' (Kd.R_lt (by (with_reducible repeat (first | apply Kd.R_alloc | apply Kd.R_drewN | apply Kd.R_drew)); exact (Kd.R_mono (Kd.R_far (p := ⟨gb257, 2, none⟩) (Kd.R_far (p := ⟨gb257, 1, none⟩) (Kd.R_far (p := ⟨gb257, 0, none⟩) (Kd.R_types HO_4.out BK257.out (by decide)) (fun _ hk => hk.2) (.string ((rd_T27 l0_2 x26_2).f0))) (fun _ hk => hk.2) (.slice A256_1 ((rd_T27 l0_2 x26_2).f1).length c256_1)) (fun _ hk => hk.2) (.slice A256_2 ((rd_T27 l0_2 x26_2).f2).length c256_2)) (fun _ h_ => h_.1)))) k_ hk)); (case aO => exact (by (with_reducible repeat (first | apply Kd.R_alloc | apply Kd.R_drewN | apply Kd.R_drew)); exact Kd.R_mono (Kd.R_far (p := ⟨gb257, 2, none⟩) (Kd.R_far (p := ⟨gb257, 1, none⟩) (Kd.R_far (p := ⟨gb257, 0, none⟩) (Kd.R_types HO_5.out BK257.out (by decide)) (fun _ hk => hk.2) (.string ((rd_T27 l0_2 x26_2).f0))) (fun _ hk => hk.2) (.slice A256_1 ((rd_T27 l0_2 x26_2).f1).length c256_1)) (fun _ hk => hk.2) (.slice A256_2 ((rd_T27 l0_2 x26_2).f2).length c256_2)) (fun _ hk => hk.1))); (case aS => exact (below_size (by repeat (first | (with_reducible first | exact HB.out | apply below_alloc | apply pw_below_drewN | apply below_drew1 | refine below_set ?_ GE250.out | refine below_set ?_ GE257.out) | exact HB.out)))); (case aL => have := LMc16.out; omega); intro v259 w20 ho hb hg hat; rw [← Ny258.out] at ho; have n0_ := Aside0.mk (Kd.R_after (ok := (fun _ => True)) (by (with_reducible repeat (first | apply Kd.R_alloc | apply Kd.R_drewN | apply Kd.R_drew)); exact Kd.R_mono (Kd.R_far (p := ⟨gb257, 2, none⟩) (Kd.R_far (p := ⟨gb257, 1, none⟩) (Kd.R_far (p := ⟨gb257, 0, none⟩) (Kd.R_types HO_4.out BK257.out (by decide)) (fun _ hk => hk.2) (.string ((rd_T27 l0_2 x26_2).f0))) (fun _ hk => hk.2) (.slice A256_1 ((rd_T27 l0_2 x26_2).f1).length c256_1)) (fun _ hk => hk.2) (.slice A256_2 ((rd_T27 l0_2 x26_2).f2).length c256_2)) (fun _ hk => ⟨trivial, hk.1⟩)) hg hat); have n1_ := Aside0.mk (blk_grown (g := gb250) (o := .cells #[.string a0_0, .slice A0_1 l0_1.length c0_1, .slice (some ad256) l0_2.length c0_2] 27 (0, 0)) (by (with_reducible repeat (first | refine blk_drewN ?_ _ | refine blk_drew ?_ | refine blk_alloc ?_ _)); refine blk_far ?_ NB250_257.out _; (with_reducible repeat (first | refine blk_drewN ?_ _ | refine blk_drew ?_ | refine blk_alloc ?_ _)); refine blk_far ?_ NB250_257.out _; (with_reducible repeat (first | refine blk_drewN ?_ _ | refine blk_drew ?_ | refine blk_alloc ?_ _)); refine blk_far ?_ NB250_257.out _; (with_reducible repeat (first | refine blk_drewN ?_ _ | refine blk_drew ?_ | refine blk_alloc ?_ _)); exact BK250.out) hg (Kd.R_ne HO_5.out BK250.out (by decide))); have n2_ := Aside0.mk (blk_grown (g := gb257) (o := .cells #[.string ((rd_T27 l0_2 x26_2).f0), .slice A256_1 ((rd_T27 l0_2 x26_2).f1).length c256_1, .slice A256_2 ((rd_T27 l0_2 x26_2).f2).length c256_2] 27 (0, 0)) (by (with_reducible repeat (first | refine blk_drewN ?_ _ | refine blk_drew ?_ | refine blk_alloc ?_ _)); refine blk_put (cs := #[.string ((rd_T27 l0_2 x26_2).f0), .slice A256_1 ((rd_T27 l0_2 x26_2).f1).length c256_1, .slice none 0 0]) ?_ 2 _ rfl; (with_reducible repeat (first | refine blk_drewN ?_ _ | refine blk_drew ?_ | refine blk_alloc ?_ _)); refine blk_put (cs := #[.string ((rd_T27 l0_2 x26_2).f0), .slice none 0 0, .slice none 0 0]) ?_ 1 _ rfl; (with_reducible repeat (first | refine blk_drewN ?_ _ | refine blk_drew ?_ | refine blk_alloc ?_ _)); refine blk_put (cs := #[.string (⟨#[]⟩ : ByteArray), .slice none 0 0, .slice none 0 0]) ?_ 0 _ rfl; (with_reducible repeat (first | refine blk_drewN ?_ _ | refine blk_drew ?_ | refine blk_alloc ?_ _)); exact BK257.out) hg (Kd.R_ne HO_5.out BK257.out (by decide))); have n3_ := Aside0.mk (hb); have n4_ := Aside0.mk (ho); clear HO_4; clear BK250; clear BK257; clear HB; clear HO_5; have HO_4 := n0_; have BK250 := n1_; have BK257 := n2_; have HB := n3_; have HO260 := n4_; clear n0_ n1_ n2_ n3_ n4_; clear ho hb hg hat))
                    go_roundg k2
                    case measure => have := HK1.out; have := HK2.out; omega
                    case rel => exact ⟨(y258), (wrap64 (x26_2 + 1)), (by first | rfl | (simp; done) | (simp [*]; done)), H', ⟨by have := HK1.out; have := HK2.out; omega⟩, ⟨by (with_reducible repeat (first | apply Kd.R_alloc | apply Kd.R_drewN | apply Kd.R_drew)); exact Kd.R_mono HO_4.out (fun _ hk => hk.2)⟩, ⟨by (with_reducible repeat (first | apply Kd.R_alloc | apply Kd.R_drewN | apply Kd.R_drew)); exact HO260.out⟩, ⟨by (with_reducible repeat (first | refine blk_drewN ?_ _ | refine blk_drew ?_ | refine blk_alloc ?_ _)); exact BK250.out⟩, ⟨by repeat (first | (with_reducible first | exact HB.out | apply below_alloc | apply pw_below_drewN | apply below_drew1 | refine below_set ?_ GE250.out | refine below_set ?_ GE257.out) | exact HB.out)⟩⟩
                  · rw [if_neg c16] at H
                    exact absurd H (by simp)
                · rw [if_neg c15] at H
                  exact absurd H (by simp)
              · rw [if_neg c14] at H
                exact absurd H (by simp)
            · rw [if_neg c13] at H
              have c13b0 : decide (x26_2 < (l0_2.length : Int)) = false := decide_eq_false c13
              clear c13
              simp only [Option.some.injEq, Prod.mk.injEq] at H
              obtain ⟨rfl, rfl⟩ := H
              go_wp2
              go_ret2
              exact ⟨_, _, by first | rfl | (simp [errW_none, errW_some] <;> rfl) | (simp [*, errW_none, errW_some] <;> rfl), by (with_reducible repeat (first | apply Kd.R_alloc | apply Kd.R_drewN | apply Kd.R_drew)); exact HO_4.out, by (with_reducible repeat (first | apply Kd.R_alloc | apply Kd.R_drewN | apply Kd.R_drew)); exact HO_5.out, by repeat (first | (with_reducible first | exact HB.out | apply below_alloc | apply pw_below_drewN | apply below_drew1 | refine below_set ?_ GE250.out) | exact HB.out)⟩
end Go.Proofs.Ytkopmkinlanhoaa.PE

namespace Go.Proofs.Ytkopmkinlanhoaa.PE
open Go.RowKit Go.Proofs.YtkopmkinlanhoaaW.PrintWords Go.Proofs.YtkopmkinlanhoaaW.PrintLast Go.Proofs.YtkopmkinlanhoaaW.PrintMore
attribute [local go_sem] max2_int min2_int max_two min_two max_three min_three max_four min_four   -- for this text's walks alone
set_option linter.unusedVariables false
set_option linter.unusedSimpArgs false
def txts (xs : List ByteArray) : List (List UInt8) := xs.map (·.data.toList)
def dupB (xs : List ByteArray) : Bool := decide ((Lib.compact ((txts xs).mergeSort fun x y => decide (x ≤ y))).length < xs.length)
theorem txts_len (xs : List ByteArray) : (txts xs).length = xs.length := by simp [txts]
theorem reps_strings {w : World} {base : Nat} {ok : Nat → Prop} {xs : List ByteArray} {cs : List Value} (h : Reps (Kd.string.M w base ok) 1 xs cs) : cs = (txts xs).map encStr := by
  apply List.ext_getElem?
  intro j
  by_cases hj : j < xs.length
  · have h2 := h.2 j xs[j] (List.getElem?_eq_getElem hj)
    have h1 := h.1
    have hl : j < cs.length := by omega
    have h3 : (cs.drop (j * 1)).take 1 = [.string xs[j]] := h2
    rw [Nat.mul_one, List.drop_eq_getElem_cons hl] at h3
    simp only [List.take_succ_cons, List.take_zero, List.cons.injEq, and_true] at h3
    rw [List.getElem?_eq_getElem hl, h3]
    simp [txts, hj]
  · have h1 := h.1
    rw [List.getElem?_eq_none (by omega), List.getElem?_eq_none (by simp [txts]; omega)]
set_option maxRecDepth 100000 in
theorem twice_calls (v : Value) (xs : List ByteArray) (W : World) (base : Nat) (ok : Nat → Prop) (hR : Kd.R Kd.string 9 W base ok v xs) (hl : xs.length < 4611686018427387904) :
    Calls Try.prog 90 #[v] W fun e w' => e = .returned (.bool (dupB xs)) ∧ W.grownBy w' v.ownBlock := by
  obtain ⟨_, inner, ho, hr⟩ := hR
  have hi := reps_strings hr
  subst hi
  clear hr
  rcases ho.2 with ⟨rfl, h0⟩ | ⟨g, cap, cur, rfl, hg, hb, h1, h2, h3, h4⟩
  · have hx : xs = [] := List.eq_nil_of_length_eq_zero h0
    subst hx
    have q1 := fun W => Try.slices_Sort_string_none none 0 W
    have q2 := fun W => Try.slices_Compact_string_empty none 0 W
    clear h0 ho
    have hd : dupB [] = false := by decide
    rw [hd]
    go_enter Try.func90, Try.ntmps90
    go_wp2_with (first | (go_at_call 101; refine (q1 _).mono ?_; rintro e w' ⟨rfl, rfl⟩) | (go_at_call 102; refine (q2 _).mono ?_; rintro e w' ⟨rfl, rfl⟩))
    go_ret
    exact ⟨rfl, World.grownBy.refl _ _⟩
  · have hlt : g < W.heap.size := (Array.getElem?_eq_some_iff.1 hb).1
    have q1 := Try.slices_Sort_string g 0 cap (txts xs) W (holds_of_block (by exact hb) (by rw [txts_len]; rw [show Kd.string.sz = 1 from rfl, Nat.mul_one] at h4; exact h4)) hlt (by rw [txts_len]; exact hl)
    rw [txts_len] at q1
    clear ho
    obtain ⟨ss, hss⟩ : ∃ ss, ss = (txts xs).mergeSort fun x y => decide (x ≤ y) := ⟨_, rfl⟩
    have hsl : ss.length = xs.length := by rw [hss, List.length_mergeSort, txts_len]
    have hd : dupB xs = decide ((Lib.compact ss).length < xs.length) := by rw [hss]; rfl
    have q2 : ∀ os m, Calls Try.prog 102 #[.slice (some ⟨g, 0, none⟩) xs.length cap] ((Sort.grow (Sort.putRow encStr (Sort.ahead W m) g 0 ss.toArray) os)) fun e w' => e = .returned (.slice (some ⟨g, 0, none⟩) (Lib.compact ss).length cap) ∧ W.grownBy w' (some g) := by
      intro os m
      have hb2 := Go.heap_sorted (os := os) (n := m) ss.toArray (show W.heap[g]? = some (.cells cur 9 (0, 0)) from hb)
      have q := Try.slices_Compact_string g 0 cap ss (Sort.grow (Sort.putRow encStr (Sort.ahead W m) g 0 ss.toArray) os) (holds_of_block hb2 (take_putCells cur ss (by rw [hsl, h3, show Kd.string.sz = 1 from rfl]; omega))) (by rw [hsl]; omega) (by rw [hsl]; exact h1)
      rw [hsl] at q
      refine q.mono ?_
      rintro e w' ⟨rfl, k, rfl⟩
      refine ⟨rfl, ?_⟩
      have g1 : W.grownBy (Sort.grow (Sort.putRow encStr (Sort.ahead W m) g 0 ss.toArray) os) (some g) := grownBy_sorted (w := W) ss.toArray
      have g2 := grownBy_sorted (w := Sort.grow (Sort.putRow encStr (Sort.ahead W m) g 0 ss.toArray) os) (g := g) (n := k) (os := #[]) (Lib.compact ss ++ List.replicate (xs.length - (Lib.compact ss).length) []).toArray
      rw [Sort.grow_empty] at g2
      exact World.grownBy.trans g1 g2
    rw [hd]
    have hg0 := hss
    rw [← hss] at q1
    clear hss hg0 hd hsl hb h2 h3 h4 hg h1
    go_enter Try.func90, Try.ntmps90
    go_wp2_with (first | (go_at_call 101; refine q1.mono ?_; rintro e w' ⟨rfl, m, os, rfl⟩) | (go_at_call 102; refine (q2 os m).mono ?_; rintro e w' ⟨rfl, hgr⟩))
    go_ret
    exact ⟨rfl, hgr⟩
def badIx (k : Nat) : List ByteArray → Nat → Option Int
  | [], _ => some (-1)
  | s :: r, i => (name_Prop.f k s).bind fun b => if b = true then badIx k r (i + 1) else some (i : Int)
set_option maxRecDepth 100000 in
theorem bad_lit (k : Nat) (s : ByteArray) (b : Bool) (w : World) (h : name_Prop.f k s = some b) : Calls Try.prog 89 #[.string s] w fun e w' => e = .returned (.bool (!b)) ∧ Drawn0 w w' := by
  have q := fun W => name_Prop.calls k s b W h
  clear h
  go_enter Try.func89, Try.ntmps89
  go_wp2_with (go_at_call 86; refine (q _).mono ?_; rintro e w' ⟨rfl, ⟨nd, rfl⟩⟩)
  go_ret
  exact ⟨rfl, ⟨_, rfl⟩⟩
theorem str_cell {w : World} {A : Option Addr} {xs : List ByteArray} (h : Kd.C Kd.string w A xs.length xs) (i : Nat) (hi : i < xs.length) : ∃ ad, A = some ad ∧ w.cell? (ad.add i) = some (.string (xs.getD i ⟨#[]⟩)) := by
  obtain ⟨ad, c, e, hc, hk, hcell⟩ := ReadsRow.get_ h ⟨#[]⟩ (i : Int) (Int.natCast_nonneg i) (by omega)
  have hk' : c = [.string (xs.getD (i : Int).toNat ⟨#[]⟩)] := hk
  subst hk'
  have := hcell 0 _ rfl
  simp only [Int.toNat_natCast, show Kd.string.sz = 1 from rfl, Nat.add_zero, Nat.mul_one] at this
  exact ⟨ad, e, this⟩
set_option maxRecDepth 100000 in
set_option maxHeartbeats 2000000 in
theorem bad_index (k : Nat) (xs : List ByteArray) (A : Option Addr) (c : Nat) (r : Int) (w : World) (hr : Kd.C Kd.string w A xs.length xs) (h : badIx k xs 0 = some r) :
    Calls Try.prog 100 #[.slice A xs.length c, .func (.func 89) #[] #[]] w fun e w' => e = .returned (.int .i64 r) ∧ Drawn0 w w' := by
  have hm : xs.length ≤ 9223372036854775807 := hr.2.1
  have HR := Aside0.mk hr
  have HM := Aside0.mk hm
  have H0 := Aside0.mk h
  clear hr hm h
  go_enter Try.func100, Try.ntmps100
  go_wp2
  go_loopg [8] (xs.length + 1) (fun kq v8 w' => ∃ i : Nat, v8 = .int .i64 (i : Int) ∧ Aside0 (i + kq = xs.length + 1) ∧ Aside0 (badIx k (xs.drop i) i = some r) ∧ Aside0 (Drawn0 w w'))
  case atStart => exact ⟨0, rfl, ⟨by omega⟩, ⟨by rw [List.drop_zero]; exact H0.out⟩, ⟨⟨0, rfl⟩⟩⟩
  case round =>
    obtain ⟨i, rfl, HI, HX, HD⟩ := hrel
    obtain ⟨⟨n0, rfl⟩⟩ := HD
    by_cases ci : (i : Int) < (xs.length : Int)
    · have cib : decide ((i : Int) < (xs.length : Int)) = true := decide_eq_true ci
      have cil : i < xs.length := by omega
      obtain ⟨ad, e1, hx0⟩ := str_cell HR.out i cil
      subst e1
      have hk : badIx k (xs.drop i) i = (name_Prop.f k (xs.getD i ⟨#[]⟩)).bind fun b => if b = true then badIx k (xs.drop (i + 1)) (i + 1) else some (i : Int) := by
        rw [List.drop_eq_getElem_cons cil]
        simp only [badIx, List.getD_eq_getElem?_getD, List.getElem?_eq_getElem cil, Option.getD_some]
      have hb := HX.out
      rw [hk] at hb
      obtain ⟨b, hb0, hb1⟩ := Option.bind_eq_some_iff.mp hb
      obtain ⟨s, hs⟩ : ∃ s, s = xs.getD i ⟨#[]⟩ := ⟨_, rfl⟩
      rw [← hs] at hb0 hx0
      have q := fun W => bad_lit k s b W hb0
      clear hk hb hb0 HX hs
      cases gk with
      | zero => have := HI.out; omega
      | succ k1 =>
        cases b with
        | false =>
          have hb2 : (i : Int) = r := by rw [if_neg (by decide)] at hb1; exact Option.some.inj hb1
          subst hb2
          clear hb1
          go_wp2_with (go_at_call 89; refine (q _).mono ?_; rintro e w2 ⟨rfl, ⟨nd, rfl⟩⟩)
          go_ret
          exact ⟨rfl, by repeat (first | exact ⟨0, rfl⟩ | exact Drawn0.refl _ | apply Drawn0.step)⟩
        | true =>
          rw [if_pos rfl] at hb1
          have HX := Aside0.mk hb1
          have hw := i64_w ((i : Int) + 1)
          have hw2 : Go.RowKit.wrap64 ((i : Int) + 1) = ((i + 1 : Nat) : Int) := by have := HM.out; unfold Go.RowKit.wrap64; omega
          clear hb1
          go_wp2_with (go_at_call 89; refine (q _).mono ?_; rintro e w2 ⟨rfl, ⟨nd, rfl⟩⟩)
          go_roundg k1
          case measure => omega
          case rel => exact ⟨i + 1, by first | rfl | (simp; done) | (simp [*]; done), ⟨by have := HI.out; omega⟩, HX, ⟨⟨_, rfl⟩⟩⟩
    · have cib : decide ((i : Int) < (xs.length : Int)) = false := decide_eq_false ci
      have hX := HX.out
      rw [List.drop_of_length_le (by omega)] at hX
      obtain rfl := Option.some.inj hX
      clear HX hX
      go_wp2
      go_ret
      exact ⟨rfl, ⟨_, rfl⟩⟩
set_option maxRecDepth 100000 in
theorem bad_has (k : Nat) (xs : List ByteArray) (A : Option Addr) (c : Nat) (r : Int) (w : World) (hr : Kd.C Kd.string w A xs.length xs) (h : badIx k xs 0 = some r) :
    Calls Try.prog 88 #[.slice A xs.length c, .func (.func 89) #[] #[]] w fun e w' => e = .returned (.bool (decide (0 ≤ r))) ∧ Drawn0 w w' := by
  have q := fun n => bad_index k xs A c r (w.drewN n) (Kd.C_drewN hr n) h
  clear hr h
  go_enter Try.func88, Try.ntmps88
  go_wp2_with (go_at_call 100; refine (q 0).mono ?_; rintro e w2 ⟨rfl, ⟨nd, rfl⟩⟩)
  go_ret
  exact ⟨by first | rfl | (simp; done), ⟨_, rfl⟩⟩
theorem bad_has_v (k : Nat) (v : Value) (xs : List ByteArray) (w : World) (base : Nat) (ok : Nat → Prop) (r : Int) (hr : Kd.R Kd.string 9 w base ok v xs) (h : badIx k xs 0 = some r) :
    Calls Try.prog 88 #[v, .func (.func 89) #[] #[]] w fun e w' => e = .returned (.bool (decide (0 ≤ r))) ∧ Drawn0 w w' := by
  obtain ⟨A, c, rfl, _, hC⟩ := Kd.R_reads hr
  exact bad_has k xs A c r w hC h
theorem own_from {w : World} {base : Nat} {ok : Nat → Prop} {v : Value} {xs : List ByteArray} (hr : Kd.R Kd.string 9 w base ok v xs) : ∀ k, v.ownBlock = some k → base ≤ k := fun k hk => own_base hr.2.choose_spec.1 k hk
theorem below_grown_own {W1 W w' : World} {row : Option Nat} (h : Below W1.heap.size W1 W) (hg : W.grownBy w' row) (hr : ∀ k, row = some k → W1.heap.size ≤ k) : Below W1.heap.size W1 w' := h.grown hg h.size hr
theorem w_succ {i n : Nat} (h : i < n) (hn : n ≤ 9223372036854775807) : Go.RowKit.wrap64 ((i : Int) + 1) = ((i + 1 : Nat) : Int) := by unfold Go.RowKit.wrap64; omega
theorem w_two : Go.RowKit.wrap64 ((1 : Int) + 1) = 2 := by unfold Go.RowKit.wrap64; omega
def tree_check.kids (F : ByteArray → List S63 → List S27 → Option Int) : List S27 → Option Int
  | [] => some 0
  | x :: r => (F x.f0 x.f1 x.f2).bind fun e => if e = 0 then tree_check.kids F r else some e
def tree_check.node (k : Nat) (nm : ByteArray) (ps : List S63) (ks : List S27) (d : Int) : Option Int :=
  (tree_names.f k nm ps ks).bind fun lm => if d > 16 then some 6 else if d < 1 then none else (name_Node.f k nm).bind fun b =>
    if d = 1 ∧ nm.toList ≠ [] then some 5 else if d > 1 ∧ b = false then some 5 else (badIx k lm.1 0).bind fun i => if 0 ≤ i then some 5 else
      if lm.1.length < 4611686018427387904 ∧ lm.2.length < 4611686018427387904 then (if dupB lm.1 = true then some 9 else if dupB lm.2 = true then some 9 else some 0) else none
def tree_check.f : Nat → ByteArray → List S63 → List S27 → Int → Option Int
  | 0, _, _, _, _ => none
  | k + 1, nm, ps, ks, d => (tree_check.node k nm ps ks d).bind fun e => if e = 0 then tree_check.kids (fun x y z => tree_check.f k x y z (wrap64 (d + 1))) ks else some e
attribute [local irreducible] Go.Calls in
set_option maxRecDepth 100000 in
set_option maxHeartbeats 1000000 in
theorem tree_check.calls (k : Nat) : ∀ (a0_0 : ByteArray) (A0_1 : Option Addr) (c0_1 : Nat) (l0_1 : List (S63)) (A0_2 : Option Addr) (c0_2 : Nat) (l0_2 : List (S27)) (a1 : Int) (r : Int) (w : World) (hr0_1 : Kd.C k63 w A0_1 l0_1.length l0_1) (hc0_1 : l0_1.length ≤ c0_1) (hr0_2 : Kd.C k27 w A0_2 l0_2.length l0_2) (hc0_2 : l0_2.length ≤ c0_2) (h : tree_check.f k a0_0 l0_1 l0_2 a1 = some r),
    Calls Try.prog 72 #[.agg #[.string a0_0, .slice A0_1 l0_1.length c0_1, .slice A0_2 l0_2.length c0_2], .int .i64 a1] w fun e w' => e = .returned (.int .i64 r) ∧ Below w.heap.size w w' := by
  induction k with
  | zero => intro a0_0 A0_1 c0_1 l0_1 A0_2 c0_2 l0_2 a1 r w hr0_1 hc0_1 hr0_2 hc0_2 h; cases h
  | succ k ih =>
  intro a0_0 A0_1 c0_1 l0_1 A0_2 c0_2 l0_2 a1 r w hr0_1 hc0_1 hr0_2 hc0_2 h
  have hu27 := Try.underlying27
  have HR2 := Aside0.mk hr0_2
  have H0 : (tree_check.node k a0_0 l0_1 l0_2 a1).bind (fun e => if e = 0 then tree_check.kids (fun x y z => tree_check.f k x y z (wrap64 (a1 + 1))) l0_2 else some e) = some r := h
  clear h
  obtain ⟨e0, hn, H0⟩ := Option.bind_eq_some_iff.mp H0
  unfold tree_check.node at hn
  obtain ⟨⟨lm1, lm2⟩, hnames, hn⟩ := Option.bind_eq_some_iff.mp hn
  simp only at hn
  have hbk := Aside0.mk (blk_new w (.cells #[.string a0_0, .slice A0_1 l0_1.length c0_1, .slice A0_2 l0_2.length c0_2] 27 (0, 0)))
  obtain ⟨W1, hW1⟩ : ∃ W1, W1 = w.alloc (.cells #[.string a0_0, .slice A0_1 l0_1.length c0_1, .slice A0_2 l0_2.length c0_2] 27) := ⟨_, rfl⟩
  have hs1 : W1.heap.size = w.heap.size + 1 := by rw [hW1]; exact Array.size_push ..
  have hb1 := Aside0.mk (show Below w.heap.size w W1 by rw [hW1]; exact below_alloc (Below.refl _ _) _)
  have qn := tree_names.calls k a0_0 A0_1 c0_1 l0_1 A0_2 c0_2 l0_2 lm1 lm2 W1 (Kd.C_below hr0_1 hb1.out) hc0_1 (Kd.C_below hr0_2 hb1.out) hc0_2 hnames
  have hs1' := Aside0.mk hs1
  have hbk1 := Aside0.mk (show W1.heap[w.heap.size]? = some (.cells #[.string a0_0, .slice A0_1 l0_1.length c0_1, .slice A0_2 l0_2.length c0_2] 27 (0, 0)) by rw [hW1]; exact hbk.out)
  have HW1 := Aside0.mk hW1
  rw [hW1] at qn
  clear hW1
  have hm2 : l0_2.length ≤ 9223372036854775807 := hr0_2.2.1
  have HM := Aside0.mk hm2
  clear hr0_1 hr0_2 hnames hbk hs1 hm2
  by_cases d16 : a1 > 16
  · rw [if_pos d16] at hn
    obtain rfl := Option.some.inj hn
    obtain rfl := Option.some.inj H0
    have d16b : decide (a1 > 16) = true := decide_eq_true d16
    have d16c : decide (16 < a1) = true := decide_eq_true d16
    clear hn d16
    go_enter Try.func72, Try.ntmps72
    go_wp2_with (go_at_call 87; refine (qn).mono ?_; rintro e w' ⟨v0, v1, rfl, h0, h1, hb⟩; rw [← HW1.out] at h0 h1 hb; have hk := blk_below hbk1.out hb; have HB := Aside0.mk hb; have R0 := Aside0.mk h0; have R1 := Aside0.mk h1; clear h0 h1 hb; have hc0 : w'.cell? ⟨w.heap.size, 0, none⟩ = some (.string a0_0) := (blk_cell hk 0).trans rfl; have hc2 : w'.cell? ⟨w.heap.size, 2, none⟩ = some (.slice A0_2 l0_2.length c0_2) := (blk_cell hk 2).trans rfl; have hz0 := blk_frozen hk 0; have hz2 := blk_frozen hk 2; clear hk)
    go_ret
    exact ⟨by first | rfl | (simp; done), below_step hb1.out (by repeat (first | exact HB.out | apply below_alloc | apply pw_below_drewN | apply below_drew1))⟩
  rw [if_neg d16] at hn
  have d16b : decide (a1 > 16) = false := decide_eq_false d16
  have d16c : decide (16 < a1) = false := decide_eq_false d16
  by_cases dl : a1 < 1
  · rw [if_pos dl] at hn
    cases hn
  rw [if_neg dl] at hn
  obtain ⟨b, hnode, hn⟩ := Option.bind_eq_some_iff.mp hn
  have qnode := fun W => name_Node.calls k a0_0 b W hnode
  clear hnode
  by_cases d1 : a1 = 1
  · subst d1
    by_cases hz : a0_0.toList = ([] : List UInt8)
    · have hz0 : (a0_0.toList == ([] : List UInt8)) = true := beq_iff_eq.mpr hz
      have hz1 : (a0_0.toList != ([] : List UInt8)) = false := bne_eq_false_iff_eq.mpr hz
      rw [if_neg (fun h => h.2 hz), if_neg (by omega)] at hn
      clear d16 dl hz
      obtain ⟨i0, hbad0, hn⟩ := Option.bind_eq_some_iff.mp hn
      have hbad := Aside0.mk hbad0
      clear hbad0
      by_cases ci0 : 0 ≤ i0
      · rw [if_pos ci0] at hn
        obtain rfl := Option.some.inj hn
        obtain rfl := Option.some.inj H0
        have ci0b : decide (0 ≤ i0) = true := decide_eq_true ci0
        clear hn ci0
        go_enter Try.func72, Try.ntmps72
        go_wp2_with (first | (go_at_call 87; refine (qn).mono ?_; rintro e w' ⟨v0, v1, rfl, h0, h1, hb⟩; rw [← HW1.out] at h0 h1 hb; have hk := blk_below hbk1.out hb; have HB := Aside0.mk hb; have R0 := Aside0.mk h0; have R1 := Aside0.mk h1; clear h0 h1 hb; have hc0 : w'.cell? ⟨w.heap.size, 0, none⟩ = some (.string a0_0) := (blk_cell hk 0).trans rfl; have hc2 : w'.cell? ⟨w.heap.size, 2, none⟩ = some (.slice A0_2 l0_2.length c0_2) := (blk_cell hk 2).trans rfl; have hz0 := blk_frozen hk 0; have hz2 := blk_frozen hk 2; clear hk) | (go_at_call 85; refine (qnode _).mono ?_; rintro e w' ⟨rfl, ⟨nd, rfl⟩⟩) | (go_at_call 88; refine (bad_has_v k v0 lm1 _ W1.heap.size (fun k_ => some k_ ≠ v1.ownBlock) i0 (by (with_reducible repeat (first | apply Kd.R_alloc | apply Kd.R_drewN | apply Kd.R_drew)); exact R0.out) hbad.out).mono ?_; rintro e w' ⟨rfl, ⟨nd2, rfl⟩⟩))
        go_ret
        exact ⟨by first | rfl | (simp; done), below_step hb1.out (by repeat (first | exact HB.out | apply below_alloc | apply pw_below_drewN | apply below_drew1))⟩
      rw [if_neg ci0] at hn
      have ci0b : decide (0 ≤ i0) = false := decide_eq_false ci0
      clear ci0
      by_cases hlen : ¬ (lm1.length < 4611686018427387904 ∧ lm2.length < 4611686018427387904)
      · rw [if_neg hlen] at hn
        cases hn
      replace hlen := Decidable.not_not.mp hlen
      rw [if_pos hlen] at hn
      have HL := Aside0.mk hlen
      clear hlen
      by_cases u1 : dupB lm1 = true
      · rw [if_pos u1] at hn
        obtain rfl := Option.some.inj hn
        obtain rfl := Option.some.inj H0
        clear hn
        go_enter Try.func72, Try.ntmps72
        go_wp2_with (first | (go_at_call 87; refine (qn).mono ?_; rintro e w' ⟨v0, v1, rfl, h0, h1, hb⟩; rw [← HW1.out] at h0 h1 hb; have hk := blk_below hbk1.out hb; have HB := Aside0.mk hb; have R0 := Aside0.mk h0; have R1 := Aside0.mk h1; clear h0 h1 hb; have hc0 : w'.cell? ⟨w.heap.size, 0, none⟩ = some (.string a0_0) := (blk_cell hk 0).trans rfl; have hc2 : w'.cell? ⟨w.heap.size, 2, none⟩ = some (.slice A0_2 l0_2.length c0_2) := (blk_cell hk 2).trans rfl; have hz0 := blk_frozen hk 0; have hz2 := blk_frozen hk 2; clear hk; have qt0 := fun n => twice_calls v0 lm1 (w'.drewN n) W1.heap.size (fun k_ => some k_ ≠ v1.ownBlock) (Kd.R_drewN R0.out n) HL.out.1; have qu0 := twice_calls v0 lm1 w' W1.heap.size (fun k_ => some k_ ≠ v1.ownBlock) R0.out HL.out.1) | (go_at_call 85; refine (qnode _).mono ?_; rintro e w' ⟨rfl, ⟨nd, rfl⟩⟩) | (go_at_call 88; refine (bad_has_v k v0 lm1 _ W1.heap.size (fun k_ => some k_ ≠ v1.ownBlock) i0 (by (with_reducible repeat (first | apply Kd.R_alloc | apply Kd.R_drewN | apply Kd.R_drew)); exact R0.out) hbad.out).mono ?_; rintro e w' ⟨rfl, ⟨nd2, rfl⟩⟩) | (go_at_call 90; (first | (refine (qt0 _).mono ?_) | (refine qu0.mono ?_)); rintro e w2 ⟨rfl, hg2⟩; have nr_ := Aside0.mk (Kd.R_grown (ok := fun k_ => some k_ ≠ v0.ownBlock) (by (with_reducible repeat (first | apply Kd.R_alloc | apply Kd.R_drewN | apply Kd.R_drew)); exact R1.out) hg2 (fun _ h => h)); have nb_ := Aside0.mk (below_grown_own (W1 := W1) (by repeat (first | exact HB.out | apply below_alloc | apply pw_below_drewN | apply below_drew1)) hg2 (own_from R0.out)); have hk_ := blk_below hbk1.out nb_.out; have hc2_2 : w2.cell? ⟨w.heap.size, 2, none⟩ = some (.slice A0_2 l0_2.length c0_2) := (blk_cell hk_ 2).trans rfl; have hz2_2 := blk_frozen hk_ 2; clear HB hk_; have HB := nb_; clear nb_ hg2; clear R1; have R1 := nr_; clear nr_; have qt1 := fun n => twice_calls v1 lm2 (w2.drewN n) W1.heap.size (fun k_ => some k_ ≠ v0.ownBlock) (Kd.R_drewN R1.out n) HL.out.2; have qu1 := twice_calls v1 lm2 w2 W1.heap.size (fun k_ => some k_ ≠ v0.ownBlock) R1.out HL.out.2) | (go_at_call 90; (first | (refine (qt1 _).mono ?_) | (refine qu1.mono ?_)); rintro e w3 ⟨rfl, hg3⟩; have nb_ := Aside0.mk (below_grown_own (W1 := W1) (by repeat (first | exact HB.out | apply below_alloc | apply pw_below_drewN | apply below_drew1)) hg3 (own_from R1.out)); have hk_ := blk_below hbk1.out nb_.out; have hc2_3 : w3.cell? ⟨w.heap.size, 2, none⟩ = some (.slice A0_2 l0_2.length c0_2) := (blk_cell hk_ 2).trans rfl; have hz2_3 := blk_frozen hk_ 2; clear HB hk_; have HB := nb_; clear nb_ hg3))
        go_ret
        exact ⟨by first | rfl | (simp; done), below_step hb1.out (by repeat (first | exact HB.out | apply below_alloc | apply pw_below_drewN | apply below_drew1))⟩
      rw [if_neg u1] at hn
      replace u1 := Bool.eq_false_iff.mpr u1
      by_cases u2 : dupB lm2 = true
      · rw [if_pos u2] at hn
        obtain rfl := Option.some.inj hn
        obtain rfl := Option.some.inj H0
        clear hn
        go_enter Try.func72, Try.ntmps72
        go_wp2_with (first | (go_at_call 87; refine (qn).mono ?_; rintro e w' ⟨v0, v1, rfl, h0, h1, hb⟩; rw [← HW1.out] at h0 h1 hb; have hk := blk_below hbk1.out hb; have HB := Aside0.mk hb; have R0 := Aside0.mk h0; have R1 := Aside0.mk h1; clear h0 h1 hb; have hc0 : w'.cell? ⟨w.heap.size, 0, none⟩ = some (.string a0_0) := (blk_cell hk 0).trans rfl; have hc2 : w'.cell? ⟨w.heap.size, 2, none⟩ = some (.slice A0_2 l0_2.length c0_2) := (blk_cell hk 2).trans rfl; have hz0 := blk_frozen hk 0; have hz2 := blk_frozen hk 2; clear hk; have qt0 := fun n => twice_calls v0 lm1 (w'.drewN n) W1.heap.size (fun k_ => some k_ ≠ v1.ownBlock) (Kd.R_drewN R0.out n) HL.out.1; have qu0 := twice_calls v0 lm1 w' W1.heap.size (fun k_ => some k_ ≠ v1.ownBlock) R0.out HL.out.1) | (go_at_call 85; refine (qnode _).mono ?_; rintro e w' ⟨rfl, ⟨nd, rfl⟩⟩) | (go_at_call 88; refine (bad_has_v k v0 lm1 _ W1.heap.size (fun k_ => some k_ ≠ v1.ownBlock) i0 (by (with_reducible repeat (first | apply Kd.R_alloc | apply Kd.R_drewN | apply Kd.R_drew)); exact R0.out) hbad.out).mono ?_; rintro e w' ⟨rfl, ⟨nd2, rfl⟩⟩) | (go_at_call 90; (first | (refine (qt0 _).mono ?_) | (refine qu0.mono ?_)); rintro e w2 ⟨rfl, hg2⟩; have nr_ := Aside0.mk (Kd.R_grown (ok := fun k_ => some k_ ≠ v0.ownBlock) (by (with_reducible repeat (first | apply Kd.R_alloc | apply Kd.R_drewN | apply Kd.R_drew)); exact R1.out) hg2 (fun _ h => h)); have nb_ := Aside0.mk (below_grown_own (W1 := W1) (by repeat (first | exact HB.out | apply below_alloc | apply pw_below_drewN | apply below_drew1)) hg2 (own_from R0.out)); have hk_ := blk_below hbk1.out nb_.out; have hc2_2 : w2.cell? ⟨w.heap.size, 2, none⟩ = some (.slice A0_2 l0_2.length c0_2) := (blk_cell hk_ 2).trans rfl; have hz2_2 := blk_frozen hk_ 2; clear HB hk_; have HB := nb_; clear nb_ hg2; clear R1; have R1 := nr_; clear nr_; have qt1 := fun n => twice_calls v1 lm2 (w2.drewN n) W1.heap.size (fun k_ => some k_ ≠ v0.ownBlock) (Kd.R_drewN R1.out n) HL.out.2; have qu1 := twice_calls v1 lm2 w2 W1.heap.size (fun k_ => some k_ ≠ v0.ownBlock) R1.out HL.out.2) | (go_at_call 90; (first | (refine (qt1 _).mono ?_) | (refine qu1.mono ?_)); rintro e w3 ⟨rfl, hg3⟩; have nb_ := Aside0.mk (below_grown_own (W1 := W1) (by repeat (first | exact HB.out | apply below_alloc | apply pw_below_drewN | apply below_drew1)) hg3 (own_from R1.out)); have hk_ := blk_below hbk1.out nb_.out; have hc2_3 : w3.cell? ⟨w.heap.size, 2, none⟩ = some (.slice A0_2 l0_2.length c0_2) := (blk_cell hk_ 2).trans rfl; have hz2_3 := blk_frozen hk_ 2; clear HB hk_; have HB := nb_; clear nb_ hg3))
        go_ret
        exact ⟨by first | rfl | (simp; done), below_step hb1.out (by repeat (first | exact HB.out | apply below_alloc | apply pw_below_drewN | apply below_drew1))⟩
      rw [if_neg u2] at hn
      replace u2 := Bool.eq_false_iff.mpr u2
      obtain rfl := Option.some.inj hn
      rw [if_pos rfl] at H0
      rw [w_two] at H0
      have HK := Aside0.mk H0
      clear H0 hn
      go_enter Try.func72, Try.ntmps72
      go_wp2_with (first | (go_at_call 87; refine (qn).mono ?_; rintro e w' ⟨v0, v1, rfl, h0, h1, hb⟩; rw [← HW1.out] at h0 h1 hb; have hk := blk_below hbk1.out hb; have HB := Aside0.mk hb; have R0 := Aside0.mk h0; have R1 := Aside0.mk h1; clear h0 h1 hb; have hc0 : w'.cell? ⟨w.heap.size, 0, none⟩ = some (.string a0_0) := (blk_cell hk 0).trans rfl; have hc2 : w'.cell? ⟨w.heap.size, 2, none⟩ = some (.slice A0_2 l0_2.length c0_2) := (blk_cell hk 2).trans rfl; have hz0 := blk_frozen hk 0; have hz2 := blk_frozen hk 2; clear hk; have qt0 := fun n => twice_calls v0 lm1 (w'.drewN n) W1.heap.size (fun k_ => some k_ ≠ v1.ownBlock) (Kd.R_drewN R0.out n) HL.out.1; have qu0 := twice_calls v0 lm1 w' W1.heap.size (fun k_ => some k_ ≠ v1.ownBlock) R0.out HL.out.1) | (go_at_call 85; refine (qnode _).mono ?_; rintro e w' ⟨rfl, ⟨nd, rfl⟩⟩) | (go_at_call 88; refine (bad_has_v k v0 lm1 _ W1.heap.size (fun k_ => some k_ ≠ v1.ownBlock) i0 (by (with_reducible repeat (first | apply Kd.R_alloc | apply Kd.R_drewN | apply Kd.R_drew)); exact R0.out) hbad.out).mono ?_; rintro e w' ⟨rfl, ⟨nd2, rfl⟩⟩) | (go_at_call 90; (first | (refine (qt0 _).mono ?_) | (refine qu0.mono ?_)); rintro e w2 ⟨rfl, hg2⟩; have nr_ := Aside0.mk (Kd.R_grown (ok := fun k_ => some k_ ≠ v0.ownBlock) (by (with_reducible repeat (first | apply Kd.R_alloc | apply Kd.R_drewN | apply Kd.R_drew)); exact R1.out) hg2 (fun _ h => h)); have nb_ := Aside0.mk (below_grown_own (W1 := W1) (by repeat (first | exact HB.out | apply below_alloc | apply pw_below_drewN | apply below_drew1)) hg2 (own_from R0.out)); have hk_ := blk_below hbk1.out nb_.out; have hc2_2 : w2.cell? ⟨w.heap.size, 2, none⟩ = some (.slice A0_2 l0_2.length c0_2) := (blk_cell hk_ 2).trans rfl; have hz2_2 := blk_frozen hk_ 2; clear HB hk_; have HB := nb_; clear nb_ hg2; clear R1; have R1 := nr_; clear nr_; have qt1 := fun n => twice_calls v1 lm2 (w2.drewN n) W1.heap.size (fun k_ => some k_ ≠ v0.ownBlock) (Kd.R_drewN R1.out n) HL.out.2; have qu1 := twice_calls v1 lm2 w2 W1.heap.size (fun k_ => some k_ ≠ v0.ownBlock) R1.out HL.out.2) | (go_at_call 90; (first | (refine (qt1 _).mono ?_) | (refine qu1.mono ?_)); rintro e w3 ⟨rfl, hg3⟩; have nb_ := Aside0.mk (below_grown_own (W1 := W1) (by repeat (first | exact HB.out | apply below_alloc | apply pw_below_drewN | apply below_drew1)) hg3 (own_from R1.out)); have hk_ := blk_below hbk1.out nb_.out; have hc2_3 : w3.cell? ⟨w.heap.size, 2, none⟩ = some (.slice A0_2 l0_2.length c0_2) := (blk_cell hk_ 2).trans rfl; have hz2_3 := blk_frozen hk_ 2; clear HB hk_; have HB := nb_; clear nb_ hg3))
      go_loopg [47] (l0_2.length + 1) (fun kq v47 w' => ∃ i : Nat, v47 = .int .i64 (i : Int) ∧ Aside0 (i + kq = l0_2.length + 1) ∧ Aside0 (tree_check.kids (fun x y z => tree_check.f k x y z 2) (l0_2.drop i) = some r) ∧ Aside0 (Below W1.heap.size W1 w'))
      case atStart => exact ⟨0, rfl, ⟨by omega⟩, ⟨by rw [List.drop_zero]; exact HK.out⟩, HB⟩
      case round =>
        clear hc0 hc2 hz0 hz2 hc2_2 hz2_2 hc2_3 hz2_3 u1 u2 qt0 qu0 qt1 qu1
        obtain ⟨i, rfl, HI, HX, HBr⟩ := hrel
        by_cases ci : (i : Int) < (l0_2.length : Int)
        · have cib : decide ((i : Int) < (l0_2.length : Int)) = true := decide_eq_true ci
          have cil : i < l0_2.length := by omega
          obtain ⟨ad, A1, c1, A2, c2, e1, hx0, hx1, hx2, hl1, hC1, hl2, hC2⟩ := at_T27 HR2.out (i : Int) (Int.natCast_nonneg i) ci
          subst e1
          simp only [Int.toNat_natCast] at hx0 hx1 hx2
          have HBw := Aside0.mk (below_step hb1.out HBr.out)
          replace hx0 := (HBw.out.cell (World.block_lt_of_cell? w _ hx0)).trans hx0
          replace hx1 := (HBw.out.cell (World.block_lt_of_cell? w _ hx1)).trans hx1
          replace hx2 := (HBw.out.cell (World.block_lt_of_cell? w _ hx2)).trans hx2
          have hX := HX.out
          rw [List.drop_eq_getElem_cons cil] at hX
          have hxe : l0_2[i] = rd_T27 l0_2 (i : Int) := by simp only [rd_T27, Int.toNat_natCast, List.getD_eq_getElem?_getD, List.getElem?_eq_getElem cil, Option.getD_some]
          rw [hxe] at hX
          obtain ⟨x, hx⟩ : ∃ x, x = rd_T27 l0_2 (i : Int) := ⟨_, rfl⟩
          rw [← hx] at hX hx0 hx1 hx2 hl1 hC1 hl2 hC2
          clear hx hxe HX
          obtain ⟨e1, hF, hX⟩ := Option.bind_eq_some_iff.mp hX
          have qk := fun W (hW : Below w.heap.size w W) => ih x.f0 A1 c1 x.f1 A2 c2 x.f2 2 e1 W (Kd.C_below hC1 hW) hl1 (Kd.C_below hC2 hW) hl2 hF
          have hwd := True.intro
          have hw := i64_w ((i : Int) + 1)
          have hw2 := w_succ cil HM.out
          clear hF hC1 hC2
          cases gk with
          | zero => exact absurd HI.out (by clear hwd hw hw2; omega)
          | succ k1 =>
            by_cases h0 : e1 = 0
            · rw [if_pos h0] at hX
              have HX := Aside0.mk hX
              have h0b : (e1 == 0) = true := beq_iff_eq.mpr h0
              have h0c : (e1 != 0) = false := bne_eq_false_iff_eq.mpr h0
              clear hX h0
              go_wp2_with (go_at_call 72; refine (qk _ ?hW).mono ?_; (case hW => repeat (first | exact HBw.out | apply below_alloc | apply pw_below_drewN | apply below_drew1)); rintro e w4 ⟨rfl, hb4⟩; have HB4 := Aside0.mk hb4; clear hb4)
              go_roundg k1
              case measure => clear hwd hw hw2; omega
              case rel => exact ⟨i + 1, by first | rfl | (simp; done) | (simp [*]; done), ⟨by clear hwd hw hw2; have := HI.out; omega⟩, HX, ⟨(by repeat (first | exact below_step (by repeat (first | exact HBr.out | apply below_alloc | apply pw_below_drewN | apply below_drew1)) HB4.out | apply below_drew1 | apply pw_below_drewN))⟩⟩
            · rw [if_neg h0] at hX
              obtain rfl := Option.some.inj hX
              have h0b : (e1 == 0) = false := beq_eq_false_iff_ne.mpr h0
              have h0c : (e1 != 0) = true := bne_iff_ne.mpr h0
              clear hX h0
              go_wp2_with (go_at_call 72; refine (qk _ ?hW).mono ?_; (case hW => repeat (first | exact HBw.out | apply below_alloc | apply pw_below_drewN | apply below_drew1)); rintro e w4 ⟨rfl, hb4⟩; have HB4 := Aside0.mk hb4; clear hb4)
              go_ret
              exact ⟨by first | rfl | (simp; done), below_step hb1.out (by repeat (first | exact below_step (by repeat (first | exact HBr.out | apply below_alloc | apply pw_below_drewN | apply below_drew1)) HB4.out | apply below_drew1 | apply pw_below_drewN))⟩
        · have cib : decide ((i : Int) < (l0_2.length : Int)) = false := decide_eq_false ci
          have hX := HX.out
          rw [List.drop_of_length_le (by omega)] at hX
          obtain rfl := Option.some.inj hX
          clear HX hX
          go_wp2
          go_ret
          exact ⟨rfl, below_step hb1.out (by repeat (first | exact HBr.out | apply below_drew1 | apply pw_below_drewN))⟩
    · have hz0 : (a0_0.toList == ([] : List UInt8)) = false := beq_eq_false_iff_ne.mpr hz
      have hz1 : (a0_0.toList != ([] : List UInt8)) = true := bne_iff_ne.mpr hz
      rw [if_pos ⟨rfl, hz⟩] at hn
      obtain rfl := Option.some.inj hn
      obtain rfl := Option.some.inj H0
      clear hn hz d16 dl
      go_enter Try.func72, Try.ntmps72
      go_wp2_with (first | (go_at_call 87; refine (qn).mono ?_; rintro e w' ⟨v0, v1, rfl, h0, h1, hb⟩; rw [← HW1.out] at h0 h1 hb; have hk := blk_below hbk1.out hb; have HB := Aside0.mk hb; have R0 := Aside0.mk h0; have R1 := Aside0.mk h1; clear h0 h1 hb; have hc0 : w'.cell? ⟨w.heap.size, 0, none⟩ = some (.string a0_0) := (blk_cell hk 0).trans rfl; have hc2 : w'.cell? ⟨w.heap.size, 2, none⟩ = some (.slice A0_2 l0_2.length c0_2) := (blk_cell hk 2).trans rfl; have hz0 := blk_frozen hk 0; have hz2 := blk_frozen hk 2; clear hk) | (go_at_call 85; refine (qnode _).mono ?_; rintro e w' ⟨rfl, ⟨nd, rfl⟩⟩))
      go_ret
      exact ⟨by first | rfl | (simp; done), below_step hb1.out (by repeat (first | exact HB.out | apply below_alloc | apply pw_below_drewN | apply below_drew1))⟩
  · have d1b : decide (a1 = 1) = false := decide_eq_false d1
    have d1c : decide (a1 > 1) = true := decide_eq_true (by omega)
    have d1d : decide (1 < a1) = true := decide_eq_true (by omega)
    have d1e : (a1 == 1) = false := beq_eq_false_iff_ne.mpr d1
    rw [if_neg (fun h => d1 h.1)] at hn
    cases b with
    | false =>
      rw [if_pos ⟨by omega, rfl⟩] at hn
      obtain rfl := Option.some.inj hn
      obtain rfl := Option.some.inj H0
      clear hn d16 dl d1
      go_enter Try.func72, Try.ntmps72
      go_wp2_with (first | (go_at_call 87; refine (qn).mono ?_; rintro e w' ⟨v0, v1, rfl, h0, h1, hb⟩; rw [← HW1.out] at h0 h1 hb; have hk := blk_below hbk1.out hb; have HB := Aside0.mk hb; have R0 := Aside0.mk h0; have R1 := Aside0.mk h1; clear h0 h1 hb; have hc0 : w'.cell? ⟨w.heap.size, 0, none⟩ = some (.string a0_0) := (blk_cell hk 0).trans rfl; have hc2 : w'.cell? ⟨w.heap.size, 2, none⟩ = some (.slice A0_2 l0_2.length c0_2) := (blk_cell hk 2).trans rfl; have hz0 := blk_frozen hk 0; have hz2 := blk_frozen hk 2; clear hk) | (go_at_call 85; refine (qnode _).mono ?_; rintro e w' ⟨rfl, ⟨nd, rfl⟩⟩))
      go_ret
      exact ⟨by first | rfl | (simp; done), below_step hb1.out (by repeat (first | exact HB.out | apply below_alloc | apply pw_below_drewN | apply below_drew1))⟩
    | true =>
      rw [if_neg (fun h => Bool.noConfusion h.2)] at hn
      clear d16 dl d1
      obtain ⟨i0, hbad0, hn⟩ := Option.bind_eq_some_iff.mp hn
      have hbad := Aside0.mk hbad0
      clear hbad0
      by_cases ci0 : 0 ≤ i0
      · rw [if_pos ci0] at hn
        obtain rfl := Option.some.inj hn
        obtain rfl := Option.some.inj H0
        have ci0b : decide (0 ≤ i0) = true := decide_eq_true ci0
        clear hn ci0
        go_enter Try.func72, Try.ntmps72
        go_wp2_with (first | (go_at_call 87; refine (qn).mono ?_; rintro e w' ⟨v0, v1, rfl, h0, h1, hb⟩; rw [← HW1.out] at h0 h1 hb; have hk := blk_below hbk1.out hb; have HB := Aside0.mk hb; have R0 := Aside0.mk h0; have R1 := Aside0.mk h1; clear h0 h1 hb; have hc0 : w'.cell? ⟨w.heap.size, 0, none⟩ = some (.string a0_0) := (blk_cell hk 0).trans rfl; have hc2 : w'.cell? ⟨w.heap.size, 2, none⟩ = some (.slice A0_2 l0_2.length c0_2) := (blk_cell hk 2).trans rfl; have hz0 := blk_frozen hk 0; have hz2 := blk_frozen hk 2; clear hk) | (go_at_call 85; refine (qnode _).mono ?_; rintro e w' ⟨rfl, ⟨nd, rfl⟩⟩) | (go_at_call 88; refine (bad_has_v k v0 lm1 _ W1.heap.size (fun k_ => some k_ ≠ v1.ownBlock) i0 (by (with_reducible repeat (first | apply Kd.R_alloc | apply Kd.R_drewN | apply Kd.R_drew)); exact R0.out) hbad.out).mono ?_; rintro e w' ⟨rfl, ⟨nd2, rfl⟩⟩))
        go_ret
        exact ⟨by first | rfl | (simp; done), below_step hb1.out (by repeat (first | exact HB.out | apply below_alloc | apply pw_below_drewN | apply below_drew1))⟩
      rw [if_neg ci0] at hn
      have ci0b : decide (0 ≤ i0) = false := decide_eq_false ci0
      clear ci0
      by_cases hlen : ¬ (lm1.length < 4611686018427387904 ∧ lm2.length < 4611686018427387904)
      · rw [if_neg hlen] at hn
        cases hn
      replace hlen := Decidable.not_not.mp hlen
      rw [if_pos hlen] at hn
      have HL := Aside0.mk hlen
      clear hlen
      by_cases u1 : dupB lm1 = true
      · rw [if_pos u1] at hn
        obtain rfl := Option.some.inj hn
        obtain rfl := Option.some.inj H0
        clear hn
        go_enter Try.func72, Try.ntmps72
        go_wp2_with (first | (go_at_call 87; refine (qn).mono ?_; rintro e w' ⟨v0, v1, rfl, h0, h1, hb⟩; rw [← HW1.out] at h0 h1 hb; have hk := blk_below hbk1.out hb; have HB := Aside0.mk hb; have R0 := Aside0.mk h0; have R1 := Aside0.mk h1; clear h0 h1 hb; have hc0 : w'.cell? ⟨w.heap.size, 0, none⟩ = some (.string a0_0) := (blk_cell hk 0).trans rfl; have hc2 : w'.cell? ⟨w.heap.size, 2, none⟩ = some (.slice A0_2 l0_2.length c0_2) := (blk_cell hk 2).trans rfl; have hz0 := blk_frozen hk 0; have hz2 := blk_frozen hk 2; clear hk; have qt0 := fun n => twice_calls v0 lm1 (w'.drewN n) W1.heap.size (fun k_ => some k_ ≠ v1.ownBlock) (Kd.R_drewN R0.out n) HL.out.1; have qu0 := twice_calls v0 lm1 w' W1.heap.size (fun k_ => some k_ ≠ v1.ownBlock) R0.out HL.out.1) | (go_at_call 85; refine (qnode _).mono ?_; rintro e w' ⟨rfl, ⟨nd, rfl⟩⟩) | (go_at_call 88; refine (bad_has_v k v0 lm1 _ W1.heap.size (fun k_ => some k_ ≠ v1.ownBlock) i0 (by (with_reducible repeat (first | apply Kd.R_alloc | apply Kd.R_drewN | apply Kd.R_drew)); exact R0.out) hbad.out).mono ?_; rintro e w' ⟨rfl, ⟨nd2, rfl⟩⟩) | (go_at_call 90; (first | (refine (qt0 _).mono ?_) | (refine qu0.mono ?_)); rintro e w2 ⟨rfl, hg2⟩; have nr_ := Aside0.mk (Kd.R_grown (ok := fun k_ => some k_ ≠ v0.ownBlock) (by (with_reducible repeat (first | apply Kd.R_alloc | apply Kd.R_drewN | apply Kd.R_drew)); exact R1.out) hg2 (fun _ h => h)); have nb_ := Aside0.mk (below_grown_own (W1 := W1) (by repeat (first | exact HB.out | apply below_alloc | apply pw_below_drewN | apply below_drew1)) hg2 (own_from R0.out)); have hk_ := blk_below hbk1.out nb_.out; have hc2_2 : w2.cell? ⟨w.heap.size, 2, none⟩ = some (.slice A0_2 l0_2.length c0_2) := (blk_cell hk_ 2).trans rfl; have hz2_2 := blk_frozen hk_ 2; clear HB hk_; have HB := nb_; clear nb_ hg2; clear R1; have R1 := nr_; clear nr_; have qt1 := fun n => twice_calls v1 lm2 (w2.drewN n) W1.heap.size (fun k_ => some k_ ≠ v0.ownBlock) (Kd.R_drewN R1.out n) HL.out.2; have qu1 := twice_calls v1 lm2 w2 W1.heap.size (fun k_ => some k_ ≠ v0.ownBlock) R1.out HL.out.2) | (go_at_call 90; (first | (refine (qt1 _).mono ?_) | (refine qu1.mono ?_)); rintro e w3 ⟨rfl, hg3⟩; have nb_ := Aside0.mk (below_grown_own (W1 := W1) (by repeat (first | exact HB.out | apply below_alloc | apply pw_below_drewN | apply below_drew1)) hg3 (own_from R1.out)); have hk_ := blk_below hbk1.out nb_.out; have hc2_3 : w3.cell? ⟨w.heap.size, 2, none⟩ = some (.slice A0_2 l0_2.length c0_2) := (blk_cell hk_ 2).trans rfl; have hz2_3 := blk_frozen hk_ 2; clear HB hk_; have HB := nb_; clear nb_ hg3))
        go_ret
        exact ⟨by first | rfl | (simp; done), below_step hb1.out (by repeat (first | exact HB.out | apply below_alloc | apply pw_below_drewN | apply below_drew1))⟩
      rw [if_neg u1] at hn
      replace u1 := Bool.eq_false_iff.mpr u1
      by_cases u2 : dupB lm2 = true
      · rw [if_pos u2] at hn
        obtain rfl := Option.some.inj hn
        obtain rfl := Option.some.inj H0
        clear hn
        go_enter Try.func72, Try.ntmps72
        go_wp2_with (first | (go_at_call 87; refine (qn).mono ?_; rintro e w' ⟨v0, v1, rfl, h0, h1, hb⟩; rw [← HW1.out] at h0 h1 hb; have hk := blk_below hbk1.out hb; have HB := Aside0.mk hb; have R0 := Aside0.mk h0; have R1 := Aside0.mk h1; clear h0 h1 hb; have hc0 : w'.cell? ⟨w.heap.size, 0, none⟩ = some (.string a0_0) := (blk_cell hk 0).trans rfl; have hc2 : w'.cell? ⟨w.heap.size, 2, none⟩ = some (.slice A0_2 l0_2.length c0_2) := (blk_cell hk 2).trans rfl; have hz0 := blk_frozen hk 0; have hz2 := blk_frozen hk 2; clear hk; have qt0 := fun n => twice_calls v0 lm1 (w'.drewN n) W1.heap.size (fun k_ => some k_ ≠ v1.ownBlock) (Kd.R_drewN R0.out n) HL.out.1; have qu0 := twice_calls v0 lm1 w' W1.heap.size (fun k_ => some k_ ≠ v1.ownBlock) R0.out HL.out.1) | (go_at_call 85; refine (qnode _).mono ?_; rintro e w' ⟨rfl, ⟨nd, rfl⟩⟩) | (go_at_call 88; refine (bad_has_v k v0 lm1 _ W1.heap.size (fun k_ => some k_ ≠ v1.ownBlock) i0 (by (with_reducible repeat (first | apply Kd.R_alloc | apply Kd.R_drewN | apply Kd.R_drew)); exact R0.out) hbad.out).mono ?_; rintro e w' ⟨rfl, ⟨nd2, rfl⟩⟩) | (go_at_call 90; (first | (refine (qt0 _).mono ?_) | (refine qu0.mono ?_)); rintro e w2 ⟨rfl, hg2⟩; have nr_ := Aside0.mk (Kd.R_grown (ok := fun k_ => some k_ ≠ v0.ownBlock) (by (with_reducible repeat (first | apply Kd.R_alloc | apply Kd.R_drewN | apply Kd.R_drew)); exact R1.out) hg2 (fun _ h => h)); have nb_ := Aside0.mk (below_grown_own (W1 := W1) (by repeat (first | exact HB.out | apply below_alloc | apply pw_below_drewN | apply below_drew1)) hg2 (own_from R0.out)); have hk_ := blk_below hbk1.out nb_.out; have hc2_2 : w2.cell? ⟨w.heap.size, 2, none⟩ = some (.slice A0_2 l0_2.length c0_2) := (blk_cell hk_ 2).trans rfl; have hz2_2 := blk_frozen hk_ 2; clear HB hk_; have HB := nb_; clear nb_ hg2; clear R1; have R1 := nr_; clear nr_; have qt1 := fun n => twice_calls v1 lm2 (w2.drewN n) W1.heap.size (fun k_ => some k_ ≠ v0.ownBlock) (Kd.R_drewN R1.out n) HL.out.2; have qu1 := twice_calls v1 lm2 w2 W1.heap.size (fun k_ => some k_ ≠ v0.ownBlock) R1.out HL.out.2) | (go_at_call 90; (first | (refine (qt1 _).mono ?_) | (refine qu1.mono ?_)); rintro e w3 ⟨rfl, hg3⟩; have nb_ := Aside0.mk (below_grown_own (W1 := W1) (by repeat (first | exact HB.out | apply below_alloc | apply pw_below_drewN | apply below_drew1)) hg3 (own_from R1.out)); have hk_ := blk_below hbk1.out nb_.out; have hc2_3 : w3.cell? ⟨w.heap.size, 2, none⟩ = some (.slice A0_2 l0_2.length c0_2) := (blk_cell hk_ 2).trans rfl; have hz2_3 := blk_frozen hk_ 2; clear HB hk_; have HB := nb_; clear nb_ hg3))
        go_ret
        exact ⟨by first | rfl | (simp; done), below_step hb1.out (by repeat (first | exact HB.out | apply below_alloc | apply pw_below_drewN | apply below_drew1))⟩
      rw [if_neg u2] at hn
      replace u2 := Bool.eq_false_iff.mpr u2
      obtain rfl := Option.some.inj hn
      rw [if_pos rfl] at H0
      have HK := Aside0.mk H0
      clear H0 hn
      go_enter Try.func72, Try.ntmps72
      go_wp2_with (first | (go_at_call 87; refine (qn).mono ?_; rintro e w' ⟨v0, v1, rfl, h0, h1, hb⟩; rw [← HW1.out] at h0 h1 hb; have hk := blk_below hbk1.out hb; have HB := Aside0.mk hb; have R0 := Aside0.mk h0; have R1 := Aside0.mk h1; clear h0 h1 hb; have hc0 : w'.cell? ⟨w.heap.size, 0, none⟩ = some (.string a0_0) := (blk_cell hk 0).trans rfl; have hc2 : w'.cell? ⟨w.heap.size, 2, none⟩ = some (.slice A0_2 l0_2.length c0_2) := (blk_cell hk 2).trans rfl; have hz0 := blk_frozen hk 0; have hz2 := blk_frozen hk 2; clear hk; have qt0 := fun n => twice_calls v0 lm1 (w'.drewN n) W1.heap.size (fun k_ => some k_ ≠ v1.ownBlock) (Kd.R_drewN R0.out n) HL.out.1; have qu0 := twice_calls v0 lm1 w' W1.heap.size (fun k_ => some k_ ≠ v1.ownBlock) R0.out HL.out.1) | (go_at_call 85; refine (qnode _).mono ?_; rintro e w' ⟨rfl, ⟨nd, rfl⟩⟩) | (go_at_call 88; refine (bad_has_v k v0 lm1 _ W1.heap.size (fun k_ => some k_ ≠ v1.ownBlock) i0 (by (with_reducible repeat (first | apply Kd.R_alloc | apply Kd.R_drewN | apply Kd.R_drew)); exact R0.out) hbad.out).mono ?_; rintro e w' ⟨rfl, ⟨nd2, rfl⟩⟩) | (go_at_call 90; (first | (refine (qt0 _).mono ?_) | (refine qu0.mono ?_)); rintro e w2 ⟨rfl, hg2⟩; have nr_ := Aside0.mk (Kd.R_grown (ok := fun k_ => some k_ ≠ v0.ownBlock) (by (with_reducible repeat (first | apply Kd.R_alloc | apply Kd.R_drewN | apply Kd.R_drew)); exact R1.out) hg2 (fun _ h => h)); have nb_ := Aside0.mk (below_grown_own (W1 := W1) (by repeat (first | exact HB.out | apply below_alloc | apply pw_below_drewN | apply below_drew1)) hg2 (own_from R0.out)); have hk_ := blk_below hbk1.out nb_.out; have hc2_2 : w2.cell? ⟨w.heap.size, 2, none⟩ = some (.slice A0_2 l0_2.length c0_2) := (blk_cell hk_ 2).trans rfl; have hz2_2 := blk_frozen hk_ 2; clear HB hk_; have HB := nb_; clear nb_ hg2; clear R1; have R1 := nr_; clear nr_; have qt1 := fun n => twice_calls v1 lm2 (w2.drewN n) W1.heap.size (fun k_ => some k_ ≠ v0.ownBlock) (Kd.R_drewN R1.out n) HL.out.2; have qu1 := twice_calls v1 lm2 w2 W1.heap.size (fun k_ => some k_ ≠ v0.ownBlock) R1.out HL.out.2) | (go_at_call 90; (first | (refine (qt1 _).mono ?_) | (refine qu1.mono ?_)); rintro e w3 ⟨rfl, hg3⟩; have nb_ := Aside0.mk (below_grown_own (W1 := W1) (by repeat (first | exact HB.out | apply below_alloc | apply pw_below_drewN | apply below_drew1)) hg3 (own_from R1.out)); have hk_ := blk_below hbk1.out nb_.out; have hc2_3 : w3.cell? ⟨w.heap.size, 2, none⟩ = some (.slice A0_2 l0_2.length c0_2) := (blk_cell hk_ 2).trans rfl; have hz2_3 := blk_frozen hk_ 2; clear HB hk_; have HB := nb_; clear nb_ hg3))
      go_loopg [47] (l0_2.length + 1) (fun kq v47 w' => ∃ i : Nat, v47 = .int .i64 (i : Int) ∧ Aside0 (i + kq = l0_2.length + 1) ∧ Aside0 (tree_check.kids (fun x y z => tree_check.f k x y z (wrap64 (a1 + 1))) (l0_2.drop i) = some r) ∧ Aside0 (Below W1.heap.size W1 w'))
      case atStart => exact ⟨0, rfl, ⟨by omega⟩, ⟨by rw [List.drop_zero]; exact HK.out⟩, HB⟩
      case round =>
        clear hc0 hc2 hz0 hz2 hc2_2 hz2_2 hc2_3 hz2_3 u1 u2 qt0 qu0 qt1 qu1
        obtain ⟨i, rfl, HI, HX, HBr⟩ := hrel
        by_cases ci : (i : Int) < (l0_2.length : Int)
        · have cib : decide ((i : Int) < (l0_2.length : Int)) = true := decide_eq_true ci
          have cil : i < l0_2.length := by omega
          obtain ⟨ad, A1, c1, A2, c2, e1, hx0, hx1, hx2, hl1, hC1, hl2, hC2⟩ := at_T27 HR2.out (i : Int) (Int.natCast_nonneg i) ci
          subst e1
          simp only [Int.toNat_natCast] at hx0 hx1 hx2
          have HBw := Aside0.mk (below_step hb1.out HBr.out)
          replace hx0 := (HBw.out.cell (World.block_lt_of_cell? w _ hx0)).trans hx0
          replace hx1 := (HBw.out.cell (World.block_lt_of_cell? w _ hx1)).trans hx1
          replace hx2 := (HBw.out.cell (World.block_lt_of_cell? w _ hx2)).trans hx2
          have hX := HX.out
          rw [List.drop_eq_getElem_cons cil] at hX
          have hxe : l0_2[i] = rd_T27 l0_2 (i : Int) := by simp only [rd_T27, Int.toNat_natCast, List.getD_eq_getElem?_getD, List.getElem?_eq_getElem cil, Option.getD_some]
          rw [hxe] at hX
          obtain ⟨x, hx⟩ : ∃ x, x = rd_T27 l0_2 (i : Int) := ⟨_, rfl⟩
          rw [← hx] at hX hx0 hx1 hx2 hl1 hC1 hl2 hC2
          clear hx hxe HX
          obtain ⟨e1, hF, hX⟩ := Option.bind_eq_some_iff.mp hX
          have qk := fun W (hW : Below w.heap.size w W) => ih x.f0 A1 c1 x.f1 A2 c2 x.f2 (wrap64 (a1 + 1)) e1 W (Kd.C_below hC1 hW) hl1 (Kd.C_below hC2 hW) hl2 hF
          have hwd := i64_w (a1 + 1)
          have hw := i64_w ((i : Int) + 1)
          have hw2 := w_succ cil HM.out
          clear hF hC1 hC2
          cases gk with
          | zero => exact absurd HI.out (by clear hwd hw hw2; omega)
          | succ k1 =>
            by_cases h0 : e1 = 0
            · rw [if_pos h0] at hX
              have HX := Aside0.mk hX
              have h0b : (e1 == 0) = true := beq_iff_eq.mpr h0
              have h0c : (e1 != 0) = false := bne_eq_false_iff_eq.mpr h0
              clear hX h0
              go_wp2_with (go_at_call 72; refine (qk _ ?hW).mono ?_; (case hW => repeat (first | exact HBw.out | apply below_alloc | apply pw_below_drewN | apply below_drew1)); rintro e w4 ⟨rfl, hb4⟩; have HB4 := Aside0.mk hb4; clear hb4)
              go_roundg k1
              case measure => clear hwd hw hw2; omega
              case rel => exact ⟨i + 1, by first | rfl | (simp; done) | (simp [*]; done), ⟨by clear hwd hw hw2; have := HI.out; omega⟩, HX, ⟨(by repeat (first | exact below_step (by repeat (first | exact HBr.out | apply below_alloc | apply pw_below_drewN | apply below_drew1)) HB4.out | apply below_drew1 | apply pw_below_drewN))⟩⟩
            · rw [if_neg h0] at hX
              obtain rfl := Option.some.inj hX
              have h0b : (e1 == 0) = false := beq_eq_false_iff_ne.mpr h0
              have h0c : (e1 != 0) = true := bne_iff_ne.mpr h0
              clear hX h0
              go_wp2_with (go_at_call 72; refine (qk _ ?hW).mono ?_; (case hW => repeat (first | exact HBw.out | apply below_alloc | apply pw_below_drewN | apply below_drew1)); rintro e w4 ⟨rfl, hb4⟩; have HB4 := Aside0.mk hb4; clear hb4)
              go_ret
              exact ⟨by first | rfl | (simp; done), below_step hb1.out (by repeat (first | exact below_step (by repeat (first | exact HBr.out | apply below_alloc | apply pw_below_drewN | apply below_drew1)) HB4.out | apply below_drew1 | apply pw_below_drewN))⟩
        · have cib : decide ((i : Int) < (l0_2.length : Int)) = false := decide_eq_false ci
          have hX := HX.out
          rw [List.drop_of_length_le (by omega)] at hX
          obtain rfl := Option.some.inj hX
          clear HX hX
          go_wp2
          go_ret
          exact ⟨rfl, below_step hb1.out (by repeat (first | exact HBr.out | apply below_drew1 | apply pw_below_drewN))⟩
end Go.Proofs.Ytkopmkinlanhoaa.PE

namespace Go.Proofs.Ytkopmkinlanhoaa.PE
open Go.RowKit Go.Proofs.YtkopmkinlanhoaaW.PrintWords Go.Proofs.YtkopmkinlanhoaaW.PrintLast Go.Proofs.YtkopmkinlanhoaaW.PrintMore
attribute [local go_sem] max2_int min2_int max_two min_two max_three min_three max_four min_four   -- for this text's walks alone
set_option linter.unusedVariables false
set_option linter.unusedSimpArgs false
def tree_Check.f (k : Nat) (a0_0 : Int) (l0_1 : List (S82)) (a0_2 : ByteArray) (l0_3 : List (S63)) (l0_4 : List (S27)) : Option (Int) := (tree_check.f k a0_2 l0_3 l0_4 1).bind fun t400 => (if t400 = 0 then ((tree_Count.f k a0_2 l0_3 l0_4).bind fun bt401 => (if bt401.1 > 4096 then (some 7) else (if bt401.2 > 8192 then (some 7) else (if (l0_1.length : Int) > 64 then (some 7) else ((api_Reserve_73.f k l0_1 0 0).bind fun t403 => (if t403 = true then (some 7) else (some 0))))))) else (some t400))
set_option maxHeartbeats 8000000 in
set_option maxRecDepth 100000 in
theorem tree_Check.calls (k : Nat) (a0_0 : Int) (A0_1 : Option Addr) (c0_1 : Nat) (l0_1 : List (S82)) (a0_2 : ByteArray) (A0_3 : Option Addr) (c0_3 : Nat) (l0_3 : List (S63)) (A0_4 : Option Addr) (c0_4 : Nat) (l0_4 : List (S27)) (r : Int) (w : World) (hr0_1 : Kd.C k82 w A0_1 l0_1.length l0_1) (hc0_1 : l0_1.length ≤ c0_1) (hr0_3 : Kd.C k63 w A0_3 l0_3.length l0_3) (hc0_3 : l0_3.length ≤ c0_3) (hr0_4 : Kd.C k27 w A0_4 l0_4.length l0_4) (hc0_4 : l0_4.length ≤ c0_4) (h : tree_Check.f k a0_0 l0_1 a0_2 l0_3 l0_4 = some r) :
    Calls Try.prog 46 #[.agg #[.int .u32 a0_0, .slice A0_1 l0_1.length c0_1, .string a0_2, .slice A0_3 l0_3.length c0_3, .slice A0_4 l0_4.length c0_4]] w fun e w' => e = .returned (.int .i64 r) ∧ Below w.heap.size w w' := by
  have hu29 := Try.underlying29
  have hu27 := Try.underlying27
  have hu82 := Try.underlying82
  have HR0_1 := Aside0.mk hr0_1
  have HC0_1 := Aside0.mk hc0_1
  clear hr0_1 hc0_1
  have HR0_3 := Aside0.mk hr0_3
  have HC0_3 := Aside0.mk hc0_3
  clear hr0_3 hc0_3
  have HR0_4 := Aside0.mk hr0_4
  have HC0_4 := Aside0.mk hc0_4
  clear hr0_4 hc0_4
  have HB := Aside0.mk (Below.refl w.heap.size w)
  have H : ((tree_check.f k a0_2 l0_3 l0_4 1).bind fun t400 => (if t400 = 0 then ((tree_Count.f k a0_2 l0_3 l0_4).bind fun bt401 => (if bt401.1 > 4096 then (some 7) else (if bt401.2 > 8192 then (some 7) else (if (l0_1.length : Int) > 64 then (some 7) else ((api_Reserve_73.f k l0_1 0 0).bind fun t403 => (if t403 = true then (some 7) else (some 0))))))) else (some t400))) = some r := h
  clear h
  replace H := Option.bind_eq_some_iff.mp H
  obtain ⟨t400, A20, H⟩ := H
  replace H : (if t400 = 0 then ((tree_Count.f k a0_2 l0_3 l0_4).bind fun bt401 => (if bt401.1 > 4096 then (some 7) else (if bt401.2 > 8192 then (some 7) else (if (l0_1.length : Int) > 64 then (some 7) else ((api_Reserve_73.f k l0_1 0 0).bind fun t403 => (if t403 = true then (some 7) else (some 0))))))) else (some t400)) = some r := H
  have A2 := Aside0.mk A20
  clear A20
  by_cases c3 : t400 = 0
  · rw [if_pos c3] at H
    have c3b0 : (t400 == 0) = true := beq_iff_eq.mpr c3
    have c3b1 : (t400 != 0) = false := bne_eq_false_iff_eq.mpr c3
    clear c3
    replace H := Option.bind_eq_some_iff.mp H
    obtain ⟨⟨t401, t402⟩, A40, H⟩ := H
    replace H : (if t401 > 4096 then (some 7) else (if t402 > 8192 then (some 7) else (if (l0_1.length : Int) > 64 then (some 7) else ((api_Reserve_73.f k l0_1 0 0).bind fun t403 => (if t403 = true then (some 7) else (some 0)))))) = some r := H
    have A4 := Aside0.mk A40
    clear A40
    by_cases c5 : t401 > 4096
    · rw [if_pos c5] at H
      have c5b0 : decide (4096 < t401) = true := decide_eq_true c5
      clear c5
      obtain rfl := Option.some.inj H
      go_enter Try.func46, Try.ntmps46
      go_wp2_with (first | ((with_reducible refine gate_dst (N := 1) rfl ?_); (try (refine gate_guard (by rfl) ?_; dsimp only)); refine box_event ?hg (N := 1) ?hd (cs := #[.int .u32 a0_0, .slice A0_1 l0_1.length c0_1, .string a0_2, .slice A0_3 l0_3.length c0_3, .slice A0_4 l0_4.length c0_4]) (t := 29) ?hr ?_; (case hd => rfl); (case hg => rfl); (case hr => first | (go_simp; done) | (go_simp; rfl)); intro gb399 hg w6 hbox hb; have n0_ := Aside0.mk (below_step (by repeat (first | (with_reducible first | exact HB.out | apply below_alloc | apply pw_below_drewN | apply below_drew1) | exact HB.out)) hb); have n1_ := Aside0.mk (hbox); have n2_ := Aside0.mk ((by rw [hg]; exact (below_size (by repeat (first | (with_reducible first | exact HB.out | apply below_alloc | apply pw_below_drewN | apply below_drew1) | exact HB.out))) : w.heap.size ≤ gb399)); have n3_ := Aside0.mk ((by rw [hg]; exact (below_size (by repeat (first | (with_reducible first | exact HB.out | apply below_alloc | apply pw_below_drewN | apply below_drew1) | exact HB.out))) : w.heap.size ≤ gb399)); clear HB; have HB := n0_; have BK399 := n1_; have GW399 := n2_; have GE399 := n3_; clear n0_ n1_ n2_ n3_; clear hb hbox hg; have hcz7_0 : w6.cell? ⟨gb399, 0, none⟩ = some (.int .u32 a0_0) := (blk_cell BK399.out 0).trans rfl; have hcz7_1 : w6.cell? ⟨gb399, 1, none⟩ = some (.slice A0_1 l0_1.length c0_1) := (blk_cell BK399.out 1).trans rfl; have hcz7_2 : w6.cell? ⟨gb399, 2, none⟩ = some (.string a0_2) := (blk_cell BK399.out 2).trans rfl; have hcz7_3 : w6.cell? ⟨gb399, 3, none⟩ = some (.slice A0_3 l0_3.length c0_3) := (blk_cell BK399.out 3).trans rfl; have hcz7_4 : w6.cell? ⟨gb399, 4, none⟩ = some (.slice A0_4 l0_4.length c0_4) := (blk_cell BK399.out 4).trans rfl; have hfz7_0 := blk_frozen BK399.out 0; have hfz7_1 := blk_frozen BK399.out 1; have hfz7_2 := blk_frozen BK399.out 2; have hfz7_3 := blk_frozen BK399.out 3; have hfz7_4 := blk_frozen BK399.out 4) | ((with_reducible refine gate_callee (f := 72) rfl ?_); refine goesL_ (some 8) rfl rfl Try.func72 (by kernel_rfl) rfl #[.agg #[.string a0_2, .slice A0_3 l0_3.length c0_3, .slice A0_4 l0_4.length c0_4], .int .i64 1] rfl (by (try simp only [List.map_toArray, List.map_cons, List.map_nil]); first | done | rfl | (simp only [List.length_drop, List.length_take]; rfl)) ?_; (with_reducible refine (tree_check.calls k a0_2 _ _ l0_3 _ _ l0_4 1 t400 _ ?side1 ?side2 ?side3 ?side4 A2.out).mono ?_); (case side1 => repeat (first | exact (Kd.C_below HR0_3.out HB.out) | (with_reducible refine Kd.C_alloc ?_ _) | (with_reducible refine Kd.C_drewN ?_ _) | (with_reducible refine Kd.C_drew ?_))); (case side2 => exact HC0_3.out); (case side3 => repeat (first | exact (Kd.C_below HR0_4.out HB.out) | (with_reducible refine Kd.C_alloc ?_ _) | (with_reducible refine Kd.C_drewN ?_ _) | (with_reducible refine Kd.C_drew ?_))); (case side4 => exact HC0_4.out); rintro e w8 ⟨rfl, hb⟩; refine ⟨_, rfl, ?_⟩; have n0_ := Aside0.mk (blk_below (g := gb399) (o := .cells #[.int .u32 a0_0, .slice A0_1 l0_1.length c0_1, .string a0_2, .slice A0_3 l0_3.length c0_3, .slice A0_4 l0_4.length c0_4] 29 (0, 0)) (by (with_reducible repeat (first | refine blk_drewN ?_ _ | refine blk_drew ?_ | refine blk_alloc ?_ _)); exact BK399.out) hb); have n1_ := Aside0.mk (below_step (by repeat (first | (with_reducible first | exact HB.out | apply below_alloc | apply pw_below_drewN | apply below_drew1 | refine below_set ?_ GE399.out) | exact HB.out)) hb); clear BK399; clear HB; have BK399 := n0_; have HB := n1_; clear n0_ n1_; (try clear hb); (try clear hb2); (try clear hk); (try clear hi); have hcz9_0 : w8.cell? ⟨gb399, 0, none⟩ = some (.int .u32 a0_0) := (blk_cell BK399.out 0).trans rfl; have hcz9_1 : w8.cell? ⟨gb399, 1, none⟩ = some (.slice A0_1 l0_1.length c0_1) := (blk_cell BK399.out 1).trans rfl; have hcz9_2 : w8.cell? ⟨gb399, 2, none⟩ = some (.string a0_2) := (blk_cell BK399.out 2).trans rfl; have hcz9_3 : w8.cell? ⟨gb399, 3, none⟩ = some (.slice A0_3 l0_3.length c0_3) := (blk_cell BK399.out 3).trans rfl; have hcz9_4 : w8.cell? ⟨gb399, 4, none⟩ = some (.slice A0_4 l0_4.length c0_4) := (blk_cell BK399.out 4).trans rfl; have hfz9_0 := blk_frozen BK399.out 0; have hfz9_1 := blk_frozen BK399.out 1; have hfz9_2 := blk_frozen BK399.out 2; have hfz9_3 := blk_frozen BK399.out 3; have hfz9_4 := blk_frozen BK399.out 4) | ((with_reducible refine gate_callee (f := 45) rfl ?_); refine goesL_ (some 15) rfl rfl Try.func45 (by kernel_rfl) rfl #[.agg #[.string a0_2, .slice A0_3 l0_3.length c0_3, .slice A0_4 l0_4.length c0_4]] rfl (by (try simp only [List.map_toArray, List.map_cons, List.map_nil]); first | done | rfl | (simp only [List.length_drop, List.length_take]; rfl)) ?_; (with_reducible refine (tree_Count.calls k a0_2 _ _ l0_3 _ _ l0_4 t401 t402 _ ?side1 ?side2 ?side3 ?side4 A4.out).mono ?_); (case side1 => repeat (first | exact (Kd.C_below HR0_3.out HB.out) | (with_reducible refine Kd.C_alloc ?_ _) | (with_reducible refine Kd.C_drewN ?_ _) | (with_reducible refine Kd.C_drew ?_))); (case side2 => exact HC0_3.out); (case side3 => repeat (first | exact (Kd.C_below HR0_4.out HB.out) | (with_reducible refine Kd.C_alloc ?_ _) | (with_reducible refine Kd.C_drewN ?_ _) | (with_reducible refine Kd.C_drew ?_))); (case side4 => exact HC0_4.out); rintro e w10 ⟨rfl, hb⟩; refine ⟨_, rfl, ?_⟩; have n0_ := Aside0.mk (blk_below (g := gb399) (o := .cells #[.int .u32 a0_0, .slice A0_1 l0_1.length c0_1, .string a0_2, .slice A0_3 l0_3.length c0_3, .slice A0_4 l0_4.length c0_4] 29 (0, 0)) (by (with_reducible repeat (first | refine blk_drewN ?_ _ | refine blk_drew ?_ | refine blk_alloc ?_ _)); exact BK399.out) hb); have n1_ := Aside0.mk (below_step (by repeat (first | (with_reducible first | exact HB.out | apply below_alloc | apply pw_below_drewN | apply below_drew1 | refine below_set ?_ GE399.out) | exact HB.out)) hb); clear BK399; clear HB; have BK399 := n0_; have HB := n1_; clear n0_ n1_; (try clear hb); (try clear hb2); (try clear hk); (try clear hi)))
      go_ret
      exact ⟨by first | rfl | (simp [errW_none, errW_some] <;> rfl) | (simp [*, errW_none, errW_some] <;> rfl), by repeat (first | (with_reducible first | exact HB.out | apply below_alloc | apply pw_below_drewN | apply below_drew1 | refine below_set ?_ GE399.out) | exact HB.out)⟩
    · rw [if_neg c5] at H
      have c5b0 : decide (4096 < t401) = false := decide_eq_false c5
      clear c5
      by_cases c11 : t402 > 8192
      · rw [if_pos c11] at H
        have c11b0 : decide (8192 < t402) = true := decide_eq_true c11
        clear c11
        obtain rfl := Option.some.inj H
        go_enter Try.func46, Try.ntmps46
        go_wp2_with (first | ((with_reducible refine gate_dst (N := 1) rfl ?_); (try (refine gate_guard (by rfl) ?_; dsimp only)); refine box_event ?hg (N := 1) ?hd (cs := #[.int .u32 a0_0, .slice A0_1 l0_1.length c0_1, .string a0_2, .slice A0_3 l0_3.length c0_3, .slice A0_4 l0_4.length c0_4]) (t := 29) ?hr ?_; (case hd => rfl); (case hg => rfl); (case hr => first | (go_simp; done) | (go_simp; rfl)); intro gb399 hg w12 hbox hb; have n0_ := Aside0.mk (below_step (by repeat (first | (with_reducible first | exact HB.out | apply below_alloc | apply pw_below_drewN | apply below_drew1) | exact HB.out)) hb); have n1_ := Aside0.mk (hbox); have n2_ := Aside0.mk ((by rw [hg]; exact (below_size (by repeat (first | (with_reducible first | exact HB.out | apply below_alloc | apply pw_below_drewN | apply below_drew1) | exact HB.out))) : w.heap.size ≤ gb399)); have n3_ := Aside0.mk ((by rw [hg]; exact (below_size (by repeat (first | (with_reducible first | exact HB.out | apply below_alloc | apply pw_below_drewN | apply below_drew1) | exact HB.out))) : w.heap.size ≤ gb399)); clear HB; have HB := n0_; have BK399 := n1_; have GW399 := n2_; have GE399 := n3_; clear n0_ n1_ n2_ n3_; clear hb hbox hg; have hcz13_0 : w12.cell? ⟨gb399, 0, none⟩ = some (.int .u32 a0_0) := (blk_cell BK399.out 0).trans rfl; have hcz13_1 : w12.cell? ⟨gb399, 1, none⟩ = some (.slice A0_1 l0_1.length c0_1) := (blk_cell BK399.out 1).trans rfl; have hcz13_2 : w12.cell? ⟨gb399, 2, none⟩ = some (.string a0_2) := (blk_cell BK399.out 2).trans rfl; have hcz13_3 : w12.cell? ⟨gb399, 3, none⟩ = some (.slice A0_3 l0_3.length c0_3) := (blk_cell BK399.out 3).trans rfl; have hcz13_4 : w12.cell? ⟨gb399, 4, none⟩ = some (.slice A0_4 l0_4.length c0_4) := (blk_cell BK399.out 4).trans rfl; have hfz13_0 := blk_frozen BK399.out 0; have hfz13_1 := blk_frozen BK399.out 1; have hfz13_2 := blk_frozen BK399.out 2; have hfz13_3 := blk_frozen BK399.out 3; have hfz13_4 := blk_frozen BK399.out 4) | ((with_reducible refine gate_callee (f := 72) rfl ?_); refine goesL_ (some 8) rfl rfl Try.func72 (by kernel_rfl) rfl #[.agg #[.string a0_2, .slice A0_3 l0_3.length c0_3, .slice A0_4 l0_4.length c0_4], .int .i64 1] rfl (by (try simp only [List.map_toArray, List.map_cons, List.map_nil]); first | done | rfl | (simp only [List.length_drop, List.length_take]; rfl)) ?_; (with_reducible refine (tree_check.calls k a0_2 _ _ l0_3 _ _ l0_4 1 t400 _ ?side1 ?side2 ?side3 ?side4 A2.out).mono ?_); (case side1 => repeat (first | exact (Kd.C_below HR0_3.out HB.out) | (with_reducible refine Kd.C_alloc ?_ _) | (with_reducible refine Kd.C_drewN ?_ _) | (with_reducible refine Kd.C_drew ?_))); (case side2 => exact HC0_3.out); (case side3 => repeat (first | exact (Kd.C_below HR0_4.out HB.out) | (with_reducible refine Kd.C_alloc ?_ _) | (with_reducible refine Kd.C_drewN ?_ _) | (with_reducible refine Kd.C_drew ?_))); (case side4 => exact HC0_4.out); rintro e w14 ⟨rfl, hb⟩; refine ⟨_, rfl, ?_⟩; have n0_ := Aside0.mk (blk_below (g := gb399) (o := .cells #[.int .u32 a0_0, .slice A0_1 l0_1.length c0_1, .string a0_2, .slice A0_3 l0_3.length c0_3, .slice A0_4 l0_4.length c0_4] 29 (0, 0)) (by (with_reducible repeat (first | refine blk_drewN ?_ _ | refine blk_drew ?_ | refine blk_alloc ?_ _)); exact BK399.out) hb); have n1_ := Aside0.mk (below_step (by repeat (first | (with_reducible first | exact HB.out | apply below_alloc | apply pw_below_drewN | apply below_drew1 | refine below_set ?_ GE399.out) | exact HB.out)) hb); clear BK399; clear HB; have BK399 := n0_; have HB := n1_; clear n0_ n1_; (try clear hb); (try clear hb2); (try clear hk); (try clear hi); have hcz15_0 : w14.cell? ⟨gb399, 0, none⟩ = some (.int .u32 a0_0) := (blk_cell BK399.out 0).trans rfl; have hcz15_1 : w14.cell? ⟨gb399, 1, none⟩ = some (.slice A0_1 l0_1.length c0_1) := (blk_cell BK399.out 1).trans rfl; have hcz15_2 : w14.cell? ⟨gb399, 2, none⟩ = some (.string a0_2) := (blk_cell BK399.out 2).trans rfl; have hcz15_3 : w14.cell? ⟨gb399, 3, none⟩ = some (.slice A0_3 l0_3.length c0_3) := (blk_cell BK399.out 3).trans rfl; have hcz15_4 : w14.cell? ⟨gb399, 4, none⟩ = some (.slice A0_4 l0_4.length c0_4) := (blk_cell BK399.out 4).trans rfl; have hfz15_0 := blk_frozen BK399.out 0; have hfz15_1 := blk_frozen BK399.out 1; have hfz15_2 := blk_frozen BK399.out 2; have hfz15_3 := blk_frozen BK399.out 3; have hfz15_4 := blk_frozen BK399.out 4) | ((with_reducible refine gate_callee (f := 45) rfl ?_); refine goesL_ (some 15) rfl rfl Try.func45 (by kernel_rfl) rfl #[.agg #[.string a0_2, .slice A0_3 l0_3.length c0_3, .slice A0_4 l0_4.length c0_4]] rfl (by (try simp only [List.map_toArray, List.map_cons, List.map_nil]); first | done | rfl | (simp only [List.length_drop, List.length_take]; rfl)) ?_; (with_reducible refine (tree_Count.calls k a0_2 _ _ l0_3 _ _ l0_4 t401 t402 _ ?side1 ?side2 ?side3 ?side4 A4.out).mono ?_); (case side1 => repeat (first | exact (Kd.C_below HR0_3.out HB.out) | (with_reducible refine Kd.C_alloc ?_ _) | (with_reducible refine Kd.C_drewN ?_ _) | (with_reducible refine Kd.C_drew ?_))); (case side2 => exact HC0_3.out); (case side3 => repeat (first | exact (Kd.C_below HR0_4.out HB.out) | (with_reducible refine Kd.C_alloc ?_ _) | (with_reducible refine Kd.C_drewN ?_ _) | (with_reducible refine Kd.C_drew ?_))); (case side4 => exact HC0_4.out); rintro e w16 ⟨rfl, hb⟩; refine ⟨_, rfl, ?_⟩; have n0_ := Aside0.mk (blk_below (g := gb399) (o := .cells #[.int .u32 a0_0, .slice A0_1 l0_1.length c0_1, .string a0_2, .slice A0_3 l0_3.length c0_3, .slice A0_4 l0_4.length c0_4] 29 (0, 0)) (by (with_reducible repeat (first | refine blk_drewN ?_ _ | refine blk_drew ?_ | refine blk_alloc ?_ _)); exact BK399.out) hb); have n1_ := Aside0.mk (below_step (by repeat (first | (with_reducible first | exact HB.out | apply below_alloc | apply pw_below_drewN | apply below_drew1 | refine below_set ?_ GE399.out) | exact HB.out)) hb); clear BK399; clear HB; have BK399 := n0_; have HB := n1_; clear n0_ n1_; (try clear hb); (try clear hb2); (try clear hk); (try clear hi)))
        go_ret
        exact ⟨by first | rfl | (simp [errW_none, errW_some] <;> rfl) | (simp [*, errW_none, errW_some] <;> rfl), by repeat (first | (with_reducible first | exact HB.out | apply below_alloc | apply pw_below_drewN | apply below_drew1 | refine below_set ?_ GE399.out) | exact HB.out)⟩
      · rw [if_neg c11] at H
        have c11b0 : decide (8192 < t402) = false := decide_eq_false c11
        clear c11
        by_cases c17 : (l0_1.length : Int) > 64
        · rw [if_pos c17] at H
          have c17b0 : decide (64 < (l0_1.length : Int)) = true := decide_eq_true c17
          have c17b1 : decide (64 < l0_1.length) = true := decide_eq_true (by omega)
          clear c17
          obtain rfl := Option.some.inj H
          go_enter Try.func46, Try.ntmps46
          go_wp2_with (first | ((with_reducible refine gate_dst (N := 1) rfl ?_); (try (refine gate_guard (by rfl) ?_; dsimp only)); refine box_event ?hg (N := 1) ?hd (cs := #[.int .u32 a0_0, .slice A0_1 l0_1.length c0_1, .string a0_2, .slice A0_3 l0_3.length c0_3, .slice A0_4 l0_4.length c0_4]) (t := 29) ?hr ?_; (case hd => rfl); (case hg => rfl); (case hr => first | (go_simp; done) | (go_simp; rfl)); intro gb399 hg w18 hbox hb; have n0_ := Aside0.mk (below_step (by repeat (first | (with_reducible first | exact HB.out | apply below_alloc | apply pw_below_drewN | apply below_drew1) | exact HB.out)) hb); have n1_ := Aside0.mk (hbox); have n2_ := Aside0.mk ((by rw [hg]; exact (below_size (by repeat (first | (with_reducible first | exact HB.out | apply below_alloc | apply pw_below_drewN | apply below_drew1) | exact HB.out))) : w.heap.size ≤ gb399)); have n3_ := Aside0.mk ((by rw [hg]; exact (below_size (by repeat (first | (with_reducible first | exact HB.out | apply below_alloc | apply pw_below_drewN | apply below_drew1) | exact HB.out))) : w.heap.size ≤ gb399)); clear HB; have HB := n0_; have BK399 := n1_; have GW399 := n2_; have GE399 := n3_; clear n0_ n1_ n2_ n3_; clear hb hbox hg; have hcz19_0 : w18.cell? ⟨gb399, 0, none⟩ = some (.int .u32 a0_0) := (blk_cell BK399.out 0).trans rfl; have hcz19_1 : w18.cell? ⟨gb399, 1, none⟩ = some (.slice A0_1 l0_1.length c0_1) := (blk_cell BK399.out 1).trans rfl; have hcz19_2 : w18.cell? ⟨gb399, 2, none⟩ = some (.string a0_2) := (blk_cell BK399.out 2).trans rfl; have hcz19_3 : w18.cell? ⟨gb399, 3, none⟩ = some (.slice A0_3 l0_3.length c0_3) := (blk_cell BK399.out 3).trans rfl; have hcz19_4 : w18.cell? ⟨gb399, 4, none⟩ = some (.slice A0_4 l0_4.length c0_4) := (blk_cell BK399.out 4).trans rfl; have hfz19_0 := blk_frozen BK399.out 0; have hfz19_1 := blk_frozen BK399.out 1; have hfz19_2 := blk_frozen BK399.out 2; have hfz19_3 := blk_frozen BK399.out 3; have hfz19_4 := blk_frozen BK399.out 4) | ((with_reducible refine gate_callee (f := 72) rfl ?_); refine goesL_ (some 8) rfl rfl Try.func72 (by kernel_rfl) rfl #[.agg #[.string a0_2, .slice A0_3 l0_3.length c0_3, .slice A0_4 l0_4.length c0_4], .int .i64 1] rfl (by (try simp only [List.map_toArray, List.map_cons, List.map_nil]); first | done | rfl | (simp only [List.length_drop, List.length_take]; rfl)) ?_; (with_reducible refine (tree_check.calls k a0_2 _ _ l0_3 _ _ l0_4 1 t400 _ ?side1 ?side2 ?side3 ?side4 A2.out).mono ?_); (case side1 => repeat (first | exact (Kd.C_below HR0_3.out HB.out) | (with_reducible refine Kd.C_alloc ?_ _) | (with_reducible refine Kd.C_drewN ?_ _) | (with_reducible refine Kd.C_drew ?_))); (case side2 => exact HC0_3.out); (case side3 => repeat (first | exact (Kd.C_below HR0_4.out HB.out) | (with_reducible refine Kd.C_alloc ?_ _) | (with_reducible refine Kd.C_drewN ?_ _) | (with_reducible refine Kd.C_drew ?_))); (case side4 => exact HC0_4.out); rintro e w20 ⟨rfl, hb⟩; refine ⟨_, rfl, ?_⟩; have n0_ := Aside0.mk (blk_below (g := gb399) (o := .cells #[.int .u32 a0_0, .slice A0_1 l0_1.length c0_1, .string a0_2, .slice A0_3 l0_3.length c0_3, .slice A0_4 l0_4.length c0_4] 29 (0, 0)) (by (with_reducible repeat (first | refine blk_drewN ?_ _ | refine blk_drew ?_ | refine blk_alloc ?_ _)); exact BK399.out) hb); have n1_ := Aside0.mk (below_step (by repeat (first | (with_reducible first | exact HB.out | apply below_alloc | apply pw_below_drewN | apply below_drew1 | refine below_set ?_ GE399.out) | exact HB.out)) hb); clear BK399; clear HB; have BK399 := n0_; have HB := n1_; clear n0_ n1_; (try clear hb); (try clear hb2); (try clear hk); (try clear hi); have hcz21_0 : w20.cell? ⟨gb399, 0, none⟩ = some (.int .u32 a0_0) := (blk_cell BK399.out 0).trans rfl; have hcz21_1 : w20.cell? ⟨gb399, 1, none⟩ = some (.slice A0_1 l0_1.length c0_1) := (blk_cell BK399.out 1).trans rfl; have hcz21_2 : w20.cell? ⟨gb399, 2, none⟩ = some (.string a0_2) := (blk_cell BK399.out 2).trans rfl; have hcz21_3 : w20.cell? ⟨gb399, 3, none⟩ = some (.slice A0_3 l0_3.length c0_3) := (blk_cell BK399.out 3).trans rfl; have hcz21_4 : w20.cell? ⟨gb399, 4, none⟩ = some (.slice A0_4 l0_4.length c0_4) := (blk_cell BK399.out 4).trans rfl; have hfz21_0 := blk_frozen BK399.out 0; have hfz21_1 := blk_frozen BK399.out 1; have hfz21_2 := blk_frozen BK399.out 2; have hfz21_3 := blk_frozen BK399.out 3; have hfz21_4 := blk_frozen BK399.out 4) | ((with_reducible refine gate_callee (f := 45) rfl ?_); refine goesL_ (some 15) rfl rfl Try.func45 (by kernel_rfl) rfl #[.agg #[.string a0_2, .slice A0_3 l0_3.length c0_3, .slice A0_4 l0_4.length c0_4]] rfl (by (try simp only [List.map_toArray, List.map_cons, List.map_nil]); first | done | rfl | (simp only [List.length_drop, List.length_take]; rfl)) ?_; (with_reducible refine (tree_Count.calls k a0_2 _ _ l0_3 _ _ l0_4 t401 t402 _ ?side1 ?side2 ?side3 ?side4 A4.out).mono ?_); (case side1 => repeat (first | exact (Kd.C_below HR0_3.out HB.out) | (with_reducible refine Kd.C_alloc ?_ _) | (with_reducible refine Kd.C_drewN ?_ _) | (with_reducible refine Kd.C_drew ?_))); (case side2 => exact HC0_3.out); (case side3 => repeat (first | exact (Kd.C_below HR0_4.out HB.out) | (with_reducible refine Kd.C_alloc ?_ _) | (with_reducible refine Kd.C_drewN ?_ _) | (with_reducible refine Kd.C_drew ?_))); (case side4 => exact HC0_4.out); rintro e w22 ⟨rfl, hb⟩; refine ⟨_, rfl, ?_⟩; have n0_ := Aside0.mk (blk_below (g := gb399) (o := .cells #[.int .u32 a0_0, .slice A0_1 l0_1.length c0_1, .string a0_2, .slice A0_3 l0_3.length c0_3, .slice A0_4 l0_4.length c0_4] 29 (0, 0)) (by (with_reducible repeat (first | refine blk_drewN ?_ _ | refine blk_drew ?_ | refine blk_alloc ?_ _)); exact BK399.out) hb); have n1_ := Aside0.mk (below_step (by repeat (first | (with_reducible first | exact HB.out | apply below_alloc | apply pw_below_drewN | apply below_drew1 | refine below_set ?_ GE399.out) | exact HB.out)) hb); clear BK399; clear HB; have BK399 := n0_; have HB := n1_; clear n0_ n1_; (try clear hb); (try clear hb2); (try clear hk); (try clear hi); have hcz23_0 : w22.cell? ⟨gb399, 0, none⟩ = some (.int .u32 a0_0) := (blk_cell BK399.out 0).trans rfl; have hcz23_1 : w22.cell? ⟨gb399, 1, none⟩ = some (.slice A0_1 l0_1.length c0_1) := (blk_cell BK399.out 1).trans rfl; have hcz23_2 : w22.cell? ⟨gb399, 2, none⟩ = some (.string a0_2) := (blk_cell BK399.out 2).trans rfl; have hcz23_3 : w22.cell? ⟨gb399, 3, none⟩ = some (.slice A0_3 l0_3.length c0_3) := (blk_cell BK399.out 3).trans rfl; have hcz23_4 : w22.cell? ⟨gb399, 4, none⟩ = some (.slice A0_4 l0_4.length c0_4) := (blk_cell BK399.out 4).trans rfl; have hfz23_0 := blk_frozen BK399.out 0; have hfz23_1 := blk_frozen BK399.out 1; have hfz23_2 := blk_frozen BK399.out 2; have hfz23_3 := blk_frozen BK399.out 3; have hfz23_4 := blk_frozen BK399.out 4))
          go_ret
          exact ⟨by first | rfl | (simp [errW_none, errW_some] <;> rfl) | (simp [*, errW_none, errW_some] <;> rfl), by repeat (first | (with_reducible first | exact HB.out | apply below_alloc | apply pw_below_drewN | apply below_drew1 | refine below_set ?_ GE399.out) | exact HB.out)⟩
        · rw [if_neg c17] at H
          have c17b0 : decide (64 < (l0_1.length : Int)) = false := decide_eq_false c17
          have c17b1 : decide (64 < l0_1.length) = false := decide_eq_false (by omega)
          clear c17
          replace H := Option.bind_eq_some_iff.mp H
          obtain ⟨t403, A240, H⟩ := H
          replace H : (if t403 = true then (some 7) else (some 0)) = some r := H
          have A24 := Aside0.mk A240
          clear A240
          by_cases c25 : t403 = true
          · subst c25
            have H1 : (some 7) = some r := by rw [if_pos rfl] at H; exact H
            clear H
            have H := H1
            clear H1
            obtain rfl := Option.some.inj H
            go_enter Try.func46, Try.ntmps46
            go_wp2_with (first | ((with_reducible refine gate_dst (N := 1) rfl ?_); (try (refine gate_guard (by rfl) ?_; dsimp only)); refine box_event ?hg (N := 1) ?hd (cs := #[.int .u32 a0_0, .slice A0_1 l0_1.length c0_1, .string a0_2, .slice A0_3 l0_3.length c0_3, .slice A0_4 l0_4.length c0_4]) (t := 29) ?hr ?_; (case hd => rfl); (case hg => rfl); (case hr => first | (go_simp; done) | (go_simp; rfl)); intro gb399 hg w26 hbox hb; have n0_ := Aside0.mk (below_step (by repeat (first | (with_reducible first | exact HB.out | apply below_alloc | apply pw_below_drewN | apply below_drew1) | exact HB.out)) hb); have n1_ := Aside0.mk (hbox); have n2_ := Aside0.mk ((by rw [hg]; exact (below_size (by repeat (first | (with_reducible first | exact HB.out | apply below_alloc | apply pw_below_drewN | apply below_drew1) | exact HB.out))) : w.heap.size ≤ gb399)); have n3_ := Aside0.mk ((by rw [hg]; exact (below_size (by repeat (first | (with_reducible first | exact HB.out | apply below_alloc | apply pw_below_drewN | apply below_drew1) | exact HB.out))) : w.heap.size ≤ gb399)); clear HB; have HB := n0_; have BK399 := n1_; have GW399 := n2_; have GE399 := n3_; clear n0_ n1_ n2_ n3_; clear hb hbox hg; have hcz27_0 : w26.cell? ⟨gb399, 0, none⟩ = some (.int .u32 a0_0) := (blk_cell BK399.out 0).trans rfl; have hcz27_1 : w26.cell? ⟨gb399, 1, none⟩ = some (.slice A0_1 l0_1.length c0_1) := (blk_cell BK399.out 1).trans rfl; have hcz27_2 : w26.cell? ⟨gb399, 2, none⟩ = some (.string a0_2) := (blk_cell BK399.out 2).trans rfl; have hcz27_3 : w26.cell? ⟨gb399, 3, none⟩ = some (.slice A0_3 l0_3.length c0_3) := (blk_cell BK399.out 3).trans rfl; have hcz27_4 : w26.cell? ⟨gb399, 4, none⟩ = some (.slice A0_4 l0_4.length c0_4) := (blk_cell BK399.out 4).trans rfl; have hfz27_0 := blk_frozen BK399.out 0; have hfz27_1 := blk_frozen BK399.out 1; have hfz27_2 := blk_frozen BK399.out 2; have hfz27_3 := blk_frozen BK399.out 3; have hfz27_4 := blk_frozen BK399.out 4) | ((with_reducible refine gate_callee (f := 72) rfl ?_); refine goesL_ (some 8) rfl rfl Try.func72 (by kernel_rfl) rfl #[.agg #[.string a0_2, .slice A0_3 l0_3.length c0_3, .slice A0_4 l0_4.length c0_4], .int .i64 1] rfl (by (try simp only [List.map_toArray, List.map_cons, List.map_nil]); first | done | rfl | (simp only [List.length_drop, List.length_take]; rfl)) ?_; (with_reducible refine (tree_check.calls k a0_2 _ _ l0_3 _ _ l0_4 1 t400 _ ?side1 ?side2 ?side3 ?side4 A2.out).mono ?_); (case side1 => repeat (first | exact (Kd.C_below HR0_3.out HB.out) | (with_reducible refine Kd.C_alloc ?_ _) | (with_reducible refine Kd.C_drewN ?_ _) | (with_reducible refine Kd.C_drew ?_))); (case side2 => exact HC0_3.out); (case side3 => repeat (first | exact (Kd.C_below HR0_4.out HB.out) | (with_reducible refine Kd.C_alloc ?_ _) | (with_reducible refine Kd.C_drewN ?_ _) | (with_reducible refine Kd.C_drew ?_))); (case side4 => exact HC0_4.out); rintro e w28 ⟨rfl, hb⟩; refine ⟨_, rfl, ?_⟩; have n0_ := Aside0.mk (blk_below (g := gb399) (o := .cells #[.int .u32 a0_0, .slice A0_1 l0_1.length c0_1, .string a0_2, .slice A0_3 l0_3.length c0_3, .slice A0_4 l0_4.length c0_4] 29 (0, 0)) (by (with_reducible repeat (first | refine blk_drewN ?_ _ | refine blk_drew ?_ | refine blk_alloc ?_ _)); exact BK399.out) hb); have n1_ := Aside0.mk (below_step (by repeat (first | (with_reducible first | exact HB.out | apply below_alloc | apply pw_below_drewN | apply below_drew1 | refine below_set ?_ GE399.out) | exact HB.out)) hb); clear BK399; clear HB; have BK399 := n0_; have HB := n1_; clear n0_ n1_; (try clear hb); (try clear hb2); (try clear hk); (try clear hi); have hcz29_0 : w28.cell? ⟨gb399, 0, none⟩ = some (.int .u32 a0_0) := (blk_cell BK399.out 0).trans rfl; have hcz29_1 : w28.cell? ⟨gb399, 1, none⟩ = some (.slice A0_1 l0_1.length c0_1) := (blk_cell BK399.out 1).trans rfl; have hcz29_2 : w28.cell? ⟨gb399, 2, none⟩ = some (.string a0_2) := (blk_cell BK399.out 2).trans rfl; have hcz29_3 : w28.cell? ⟨gb399, 3, none⟩ = some (.slice A0_3 l0_3.length c0_3) := (blk_cell BK399.out 3).trans rfl; have hcz29_4 : w28.cell? ⟨gb399, 4, none⟩ = some (.slice A0_4 l0_4.length c0_4) := (blk_cell BK399.out 4).trans rfl; have hfz29_0 := blk_frozen BK399.out 0; have hfz29_1 := blk_frozen BK399.out 1; have hfz29_2 := blk_frozen BK399.out 2; have hfz29_3 := blk_frozen BK399.out 3; have hfz29_4 := blk_frozen BK399.out 4) | ((with_reducible refine gate_callee (f := 45) rfl ?_); refine goesL_ (some 15) rfl rfl Try.func45 (by kernel_rfl) rfl #[.agg #[.string a0_2, .slice A0_3 l0_3.length c0_3, .slice A0_4 l0_4.length c0_4]] rfl (by (try simp only [List.map_toArray, List.map_cons, List.map_nil]); first | done | rfl | (simp only [List.length_drop, List.length_take]; rfl)) ?_; (with_reducible refine (tree_Count.calls k a0_2 _ _ l0_3 _ _ l0_4 t401 t402 _ ?side1 ?side2 ?side3 ?side4 A4.out).mono ?_); (case side1 => repeat (first | exact (Kd.C_below HR0_3.out HB.out) | (with_reducible refine Kd.C_alloc ?_ _) | (with_reducible refine Kd.C_drewN ?_ _) | (with_reducible refine Kd.C_drew ?_))); (case side2 => exact HC0_3.out); (case side3 => repeat (first | exact (Kd.C_below HR0_4.out HB.out) | (with_reducible refine Kd.C_alloc ?_ _) | (with_reducible refine Kd.C_drewN ?_ _) | (with_reducible refine Kd.C_drew ?_))); (case side4 => exact HC0_4.out); rintro e w30 ⟨rfl, hb⟩; refine ⟨_, rfl, ?_⟩; have n0_ := Aside0.mk (blk_below (g := gb399) (o := .cells #[.int .u32 a0_0, .slice A0_1 l0_1.length c0_1, .string a0_2, .slice A0_3 l0_3.length c0_3, .slice A0_4 l0_4.length c0_4] 29 (0, 0)) (by (with_reducible repeat (first | refine blk_drewN ?_ _ | refine blk_drew ?_ | refine blk_alloc ?_ _)); exact BK399.out) hb); have n1_ := Aside0.mk (below_step (by repeat (first | (with_reducible first | exact HB.out | apply below_alloc | apply pw_below_drewN | apply below_drew1 | refine below_set ?_ GE399.out) | exact HB.out)) hb); clear BK399; clear HB; have BK399 := n0_; have HB := n1_; clear n0_ n1_; (try clear hb); (try clear hb2); (try clear hk); (try clear hi); have hcz31_0 : w30.cell? ⟨gb399, 0, none⟩ = some (.int .u32 a0_0) := (blk_cell BK399.out 0).trans rfl; have hcz31_1 : w30.cell? ⟨gb399, 1, none⟩ = some (.slice A0_1 l0_1.length c0_1) := (blk_cell BK399.out 1).trans rfl; have hcz31_2 : w30.cell? ⟨gb399, 2, none⟩ = some (.string a0_2) := (blk_cell BK399.out 2).trans rfl; have hcz31_3 : w30.cell? ⟨gb399, 3, none⟩ = some (.slice A0_3 l0_3.length c0_3) := (blk_cell BK399.out 3).trans rfl; have hcz31_4 : w30.cell? ⟨gb399, 4, none⟩ = some (.slice A0_4 l0_4.length c0_4) := (blk_cell BK399.out 4).trans rfl; have hfz31_0 := blk_frozen BK399.out 0; have hfz31_1 := blk_frozen BK399.out 1; have hfz31_2 := blk_frozen BK399.out 2; have hfz31_3 := blk_frozen BK399.out 3; have hfz31_4 := blk_frozen BK399.out 4) | (go_at_call 73; (with_reducible refine (api_Reserve_73.calls k _ _ l0_1 0 0 true _ ?side1 ?side2 A24.out).mono ?_); (case side1 => repeat (first | exact (Kd.C_below HR0_1.out HB.out) | (with_reducible refine Kd.C_alloc ?_ _) | (with_reducible refine Kd.C_drewN ?_ _) | (with_reducible refine Kd.C_drew ?_))); (case side2 => exact HC0_1.out); rintro e w32 ⟨rfl, hb⟩; have n0_ := Aside0.mk (blk_below (g := gb399) (o := .cells #[.int .u32 a0_0, .slice A0_1 l0_1.length c0_1, .string a0_2, .slice A0_3 l0_3.length c0_3, .slice A0_4 l0_4.length c0_4] 29 (0, 0)) (by (with_reducible repeat (first | refine blk_drewN ?_ _ | refine blk_drew ?_ | refine blk_alloc ?_ _)); exact BK399.out) hb); have n1_ := Aside0.mk (below_step (by repeat (first | (with_reducible first | exact HB.out | apply below_alloc | apply pw_below_drewN | apply below_drew1 | refine below_set ?_ GE399.out) | exact HB.out)) hb); clear BK399; clear HB; have BK399 := n0_; have HB := n1_; clear n0_ n1_; (try clear hb); (try clear hb2); (try clear hk); (try clear hi)))
            go_ret
            exact ⟨by first | rfl | (simp [errW_none, errW_some] <;> rfl) | (simp [*, errW_none, errW_some] <;> rfl), by repeat (first | (with_reducible first | exact HB.out | apply below_alloc | apply pw_below_drewN | apply below_drew1 | refine below_set ?_ GE399.out) | exact HB.out)⟩
          · replace c25 := Bool.eq_false_iff.mpr c25
            subst c25
            have H1 : (some 0) = some r := by rw [if_neg (show ¬ (false = true) by decide)] at H; exact H
            clear H
            have H := H1
            clear H1
            obtain rfl := Option.some.inj H
            go_enter Try.func46, Try.ntmps46
            go_wp2_with (first | ((with_reducible refine gate_dst (N := 1) rfl ?_); (try (refine gate_guard (by rfl) ?_; dsimp only)); refine box_event ?hg (N := 1) ?hd (cs := #[.int .u32 a0_0, .slice A0_1 l0_1.length c0_1, .string a0_2, .slice A0_3 l0_3.length c0_3, .slice A0_4 l0_4.length c0_4]) (t := 29) ?hr ?_; (case hd => rfl); (case hg => rfl); (case hr => first | (go_simp; done) | (go_simp; rfl)); intro gb399 hg w33 hbox hb; have n0_ := Aside0.mk (below_step (by repeat (first | (with_reducible first | exact HB.out | apply below_alloc | apply pw_below_drewN | apply below_drew1) | exact HB.out)) hb); have n1_ := Aside0.mk (hbox); have n2_ := Aside0.mk ((by rw [hg]; exact (below_size (by repeat (first | (with_reducible first | exact HB.out | apply below_alloc | apply pw_below_drewN | apply below_drew1) | exact HB.out))) : w.heap.size ≤ gb399)); have n3_ := Aside0.mk ((by rw [hg]; exact (below_size (by repeat (first | (with_reducible first | exact HB.out | apply below_alloc | apply pw_below_drewN | apply below_drew1) | exact HB.out))) : w.heap.size ≤ gb399)); clear HB; have HB := n0_; have BK399 := n1_; have GW399 := n2_; have GE399 := n3_; clear n0_ n1_ n2_ n3_; clear hb hbox hg; have hcz34_0 : w33.cell? ⟨gb399, 0, none⟩ = some (.int .u32 a0_0) := (blk_cell BK399.out 0).trans rfl; have hcz34_1 : w33.cell? ⟨gb399, 1, none⟩ = some (.slice A0_1 l0_1.length c0_1) := (blk_cell BK399.out 1).trans rfl; have hcz34_2 : w33.cell? ⟨gb399, 2, none⟩ = some (.string a0_2) := (blk_cell BK399.out 2).trans rfl; have hcz34_3 : w33.cell? ⟨gb399, 3, none⟩ = some (.slice A0_3 l0_3.length c0_3) := (blk_cell BK399.out 3).trans rfl; have hcz34_4 : w33.cell? ⟨gb399, 4, none⟩ = some (.slice A0_4 l0_4.length c0_4) := (blk_cell BK399.out 4).trans rfl; have hfz34_0 := blk_frozen BK399.out 0; have hfz34_1 := blk_frozen BK399.out 1; have hfz34_2 := blk_frozen BK399.out 2; have hfz34_3 := blk_frozen BK399.out 3; have hfz34_4 := blk_frozen BK399.out 4) | ((with_reducible refine gate_callee (f := 72) rfl ?_); refine goesL_ (some 8) rfl rfl Try.func72 (by kernel_rfl) rfl #[.agg #[.string a0_2, .slice A0_3 l0_3.length c0_3, .slice A0_4 l0_4.length c0_4], .int .i64 1] rfl (by (try simp only [List.map_toArray, List.map_cons, List.map_nil]); first | done | rfl | (simp only [List.length_drop, List.length_take]; rfl)) ?_; (with_reducible refine (tree_check.calls k a0_2 _ _ l0_3 _ _ l0_4 1 t400 _ ?side1 ?side2 ?side3 ?side4 A2.out).mono ?_); (case side1 => repeat (first | exact (Kd.C_below HR0_3.out HB.out) | (with_reducible refine Kd.C_alloc ?_ _) | (with_reducible refine Kd.C_drewN ?_ _) | (with_reducible refine Kd.C_drew ?_))); (case side2 => exact HC0_3.out); (case side3 => repeat (first | exact (Kd.C_below HR0_4.out HB.out) | (with_reducible refine Kd.C_alloc ?_ _) | (with_reducible refine Kd.C_drewN ?_ _) | (with_reducible refine Kd.C_drew ?_))); (case side4 => exact HC0_4.out); rintro e w35 ⟨rfl, hb⟩; refine ⟨_, rfl, ?_⟩; have n0_ := Aside0.mk (blk_below (g := gb399) (o := .cells #[.int .u32 a0_0, .slice A0_1 l0_1.length c0_1, .string a0_2, .slice A0_3 l0_3.length c0_3, .slice A0_4 l0_4.length c0_4] 29 (0, 0)) (by (with_reducible repeat (first | refine blk_drewN ?_ _ | refine blk_drew ?_ | refine blk_alloc ?_ _)); exact BK399.out) hb); have n1_ := Aside0.mk (below_step (by repeat (first | (with_reducible first | exact HB.out | apply below_alloc | apply pw_below_drewN | apply below_drew1 | refine below_set ?_ GE399.out) | exact HB.out)) hb); clear BK399; clear HB; have BK399 := n0_; have HB := n1_; clear n0_ n1_; (try clear hb); (try clear hb2); (try clear hk); (try clear hi); have hcz36_0 : w35.cell? ⟨gb399, 0, none⟩ = some (.int .u32 a0_0) := (blk_cell BK399.out 0).trans rfl; have hcz36_1 : w35.cell? ⟨gb399, 1, none⟩ = some (.slice A0_1 l0_1.length c0_1) := (blk_cell BK399.out 1).trans rfl; have hcz36_2 : w35.cell? ⟨gb399, 2, none⟩ = some (.string a0_2) := (blk_cell BK399.out 2).trans rfl; have hcz36_3 : w35.cell? ⟨gb399, 3, none⟩ = some (.slice A0_3 l0_3.length c0_3) := (blk_cell BK399.out 3).trans rfl; have hcz36_4 : w35.cell? ⟨gb399, 4, none⟩ = some (.slice A0_4 l0_4.length c0_4) := (blk_cell BK399.out 4).trans rfl; have hfz36_0 := blk_frozen BK399.out 0; have hfz36_1 := blk_frozen BK399.out 1; have hfz36_2 := blk_frozen BK399.out 2; have hfz36_3 := blk_frozen BK399.out 3; have hfz36_4 := blk_frozen BK399.out 4) | ((with_reducible refine gate_callee (f := 45) rfl ?_); refine goesL_ (some 15) rfl rfl Try.func45 (by kernel_rfl) rfl #[.agg #[.string a0_2, .slice A0_3 l0_3.length c0_3, .slice A0_4 l0_4.length c0_4]] rfl (by (try simp only [List.map_toArray, List.map_cons, List.map_nil]); first | done | rfl | (simp only [List.length_drop, List.length_take]; rfl)) ?_; (with_reducible refine (tree_Count.calls k a0_2 _ _ l0_3 _ _ l0_4 t401 t402 _ ?side1 ?side2 ?side3 ?side4 A4.out).mono ?_); (case side1 => repeat (first | exact (Kd.C_below HR0_3.out HB.out) | (with_reducible refine Kd.C_alloc ?_ _) | (with_reducible refine Kd.C_drewN ?_ _) | (with_reducible refine Kd.C_drew ?_))); (case side2 => exact HC0_3.out); (case side3 => repeat (first | exact (Kd.C_below HR0_4.out HB.out) | (with_reducible refine Kd.C_alloc ?_ _) | (with_reducible refine Kd.C_drewN ?_ _) | (with_reducible refine Kd.C_drew ?_))); (case side4 => exact HC0_4.out); rintro e w37 ⟨rfl, hb⟩; refine ⟨_, rfl, ?_⟩; have n0_ := Aside0.mk (blk_below (g := gb399) (o := .cells #[.int .u32 a0_0, .slice A0_1 l0_1.length c0_1, .string a0_2, .slice A0_3 l0_3.length c0_3, .slice A0_4 l0_4.length c0_4] 29 (0, 0)) (by (with_reducible repeat (first | refine blk_drewN ?_ _ | refine blk_drew ?_ | refine blk_alloc ?_ _)); exact BK399.out) hb); have n1_ := Aside0.mk (below_step (by repeat (first | (with_reducible first | exact HB.out | apply below_alloc | apply pw_below_drewN | apply below_drew1 | refine below_set ?_ GE399.out) | exact HB.out)) hb); clear BK399; clear HB; have BK399 := n0_; have HB := n1_; clear n0_ n1_; (try clear hb); (try clear hb2); (try clear hk); (try clear hi); have hcz38_0 : w37.cell? ⟨gb399, 0, none⟩ = some (.int .u32 a0_0) := (blk_cell BK399.out 0).trans rfl; have hcz38_1 : w37.cell? ⟨gb399, 1, none⟩ = some (.slice A0_1 l0_1.length c0_1) := (blk_cell BK399.out 1).trans rfl; have hcz38_2 : w37.cell? ⟨gb399, 2, none⟩ = some (.string a0_2) := (blk_cell BK399.out 2).trans rfl; have hcz38_3 : w37.cell? ⟨gb399, 3, none⟩ = some (.slice A0_3 l0_3.length c0_3) := (blk_cell BK399.out 3).trans rfl; have hcz38_4 : w37.cell? ⟨gb399, 4, none⟩ = some (.slice A0_4 l0_4.length c0_4) := (blk_cell BK399.out 4).trans rfl; have hfz38_0 := blk_frozen BK399.out 0; have hfz38_1 := blk_frozen BK399.out 1; have hfz38_2 := blk_frozen BK399.out 2; have hfz38_3 := blk_frozen BK399.out 3; have hfz38_4 := blk_frozen BK399.out 4) | (go_at_call 73; (with_reducible refine (api_Reserve_73.calls k _ _ l0_1 0 0 false _ ?side1 ?side2 A24.out).mono ?_); (case side1 => repeat (first | exact (Kd.C_below HR0_1.out HB.out) | (with_reducible refine Kd.C_alloc ?_ _) | (with_reducible refine Kd.C_drewN ?_ _) | (with_reducible refine Kd.C_drew ?_))); (case side2 => exact HC0_1.out); rintro e w39 ⟨rfl, hb⟩; have n0_ := Aside0.mk (blk_below (g := gb399) (o := .cells #[.int .u32 a0_0, .slice A0_1 l0_1.length c0_1, .string a0_2, .slice A0_3 l0_3.length c0_3, .slice A0_4 l0_4.length c0_4] 29 (0, 0)) (by (with_reducible repeat (first | refine blk_drewN ?_ _ | refine blk_drew ?_ | refine blk_alloc ?_ _)); exact BK399.out) hb); have n1_ := Aside0.mk (below_step (by repeat (first | (with_reducible first | exact HB.out | apply below_alloc | apply pw_below_drewN | apply below_drew1 | refine below_set ?_ GE399.out) | exact HB.out)) hb); clear BK399; clear HB; have BK399 := n0_; have HB := n1_; clear n0_ n1_; (try clear hb); (try clear hb2); (try clear hk); (try clear hi)))
            go_ret
            exact ⟨by first | rfl | (simp [errW_none, errW_some] <;> rfl) | (simp [*, errW_none, errW_some] <;> rfl), by repeat (first | (with_reducible first | exact HB.out | apply below_alloc | apply pw_below_drewN | apply below_drew1 | refine below_set ?_ GE399.out) | exact HB.out)⟩
  · rw [if_neg c3] at H
    have c3b0 : (t400 == 0) = false := beq_eq_false_iff_ne.mpr c3
    have c3b1 : (t400 != 0) = true := bne_iff_ne.mpr c3
    obtain rfl := Option.some.inj H
    go_enter Try.func46, Try.ntmps46
    go_wp2_with (first | ((with_reducible refine gate_dst (N := 1) rfl ?_); (try (refine gate_guard (by rfl) ?_; dsimp only)); refine box_event ?hg (N := 1) ?hd (cs := #[.int .u32 a0_0, .slice A0_1 l0_1.length c0_1, .string a0_2, .slice A0_3 l0_3.length c0_3, .slice A0_4 l0_4.length c0_4]) (t := 29) ?hr ?_; (case hd => rfl); (case hg => rfl); (case hr => first | (go_simp; done) | (go_simp; rfl)); intro gb399 hg w40 hbox hb; have n0_ := Aside0.mk (below_step (by repeat (first | (with_reducible first | exact HB.out | apply below_alloc | apply pw_below_drewN | apply below_drew1) | exact HB.out)) hb); have n1_ := Aside0.mk (hbox); have n2_ := Aside0.mk ((by rw [hg]; exact (below_size (by repeat (first | (with_reducible first | exact HB.out | apply below_alloc | apply pw_below_drewN | apply below_drew1) | exact HB.out))) : w.heap.size ≤ gb399)); have n3_ := Aside0.mk ((by rw [hg]; exact (below_size (by repeat (first | (with_reducible first | exact HB.out | apply below_alloc | apply pw_below_drewN | apply below_drew1) | exact HB.out))) : w.heap.size ≤ gb399)); clear HB; have HB := n0_; have BK399 := n1_; have GW399 := n2_; have GE399 := n3_; clear n0_ n1_ n2_ n3_; clear hb hbox hg; have hcz41_0 : w40.cell? ⟨gb399, 0, none⟩ = some (.int .u32 a0_0) := (blk_cell BK399.out 0).trans rfl; have hcz41_1 : w40.cell? ⟨gb399, 1, none⟩ = some (.slice A0_1 l0_1.length c0_1) := (blk_cell BK399.out 1).trans rfl; have hcz41_2 : w40.cell? ⟨gb399, 2, none⟩ = some (.string a0_2) := (blk_cell BK399.out 2).trans rfl; have hcz41_3 : w40.cell? ⟨gb399, 3, none⟩ = some (.slice A0_3 l0_3.length c0_3) := (blk_cell BK399.out 3).trans rfl; have hcz41_4 : w40.cell? ⟨gb399, 4, none⟩ = some (.slice A0_4 l0_4.length c0_4) := (blk_cell BK399.out 4).trans rfl; have hfz41_0 := blk_frozen BK399.out 0; have hfz41_1 := blk_frozen BK399.out 1; have hfz41_2 := blk_frozen BK399.out 2; have hfz41_3 := blk_frozen BK399.out 3; have hfz41_4 := blk_frozen BK399.out 4) | ((with_reducible refine gate_callee (f := 72) rfl ?_); refine goesL_ (some 8) rfl rfl Try.func72 (by kernel_rfl) rfl #[.agg #[.string a0_2, .slice A0_3 l0_3.length c0_3, .slice A0_4 l0_4.length c0_4], .int .i64 1] rfl (by (try simp only [List.map_toArray, List.map_cons, List.map_nil]); first | done | rfl | (simp only [List.length_drop, List.length_take]; rfl)) ?_; (with_reducible refine (tree_check.calls k a0_2 _ _ l0_3 _ _ l0_4 1 t400 _ ?side1 ?side2 ?side3 ?side4 A2.out).mono ?_); (case side1 => repeat (first | exact (Kd.C_below HR0_3.out HB.out) | (with_reducible refine Kd.C_alloc ?_ _) | (with_reducible refine Kd.C_drewN ?_ _) | (with_reducible refine Kd.C_drew ?_))); (case side2 => exact HC0_3.out); (case side3 => repeat (first | exact (Kd.C_below HR0_4.out HB.out) | (with_reducible refine Kd.C_alloc ?_ _) | (with_reducible refine Kd.C_drewN ?_ _) | (with_reducible refine Kd.C_drew ?_))); (case side4 => exact HC0_4.out); rintro e w42 ⟨rfl, hb⟩; refine ⟨_, rfl, ?_⟩; have n0_ := Aside0.mk (blk_below (g := gb399) (o := .cells #[.int .u32 a0_0, .slice A0_1 l0_1.length c0_1, .string a0_2, .slice A0_3 l0_3.length c0_3, .slice A0_4 l0_4.length c0_4] 29 (0, 0)) (by (with_reducible repeat (first | refine blk_drewN ?_ _ | refine blk_drew ?_ | refine blk_alloc ?_ _)); exact BK399.out) hb); have n1_ := Aside0.mk (below_step (by repeat (first | (with_reducible first | exact HB.out | apply below_alloc | apply pw_below_drewN | apply below_drew1 | refine below_set ?_ GE399.out) | exact HB.out)) hb); clear BK399; clear HB; have BK399 := n0_; have HB := n1_; clear n0_ n1_; (try clear hb); (try clear hb2); (try clear hk); (try clear hi)))
    go_ret
    exact ⟨by first | rfl | (simp [errW_none, errW_some] <;> rfl) | (simp [*, errW_none, errW_some] <;> rfl), by repeat (first | (with_reducible first | exact HB.out | apply below_alloc | apply pw_below_drewN | apply below_drew1 | refine below_set ?_ GE399.out) | exact HB.out)⟩
end Go.Proofs.Ytkopmkinlanhoaa.PE

namespace Go.Proofs.Ytkopmkinlanhoaa.PE
open Go.RowKit Go.Proofs.YtkopmkinlanhoaaW.PrintWords Go.Proofs.YtkopmkinlanhoaaW.PrintLast Go.Proofs.YtkopmkinlanhoaaW.PrintMore
attribute [local go_sem] max2_int min2_int max_two min_two max_three min_three max_four min_four   -- for this text's walks alone
set_option linter.unusedVariables false
set_option linter.unusedSimpArgs false
def bytes_IndexByte.f (l0 : List Int) (a1 : Int) : Option Int := if l0.length = 0 then none else some (Lib.indexByte (Lib.bytesOf l0) a1.toNat.toUInt8)
theorem bytes_IndexByte.calls (A0 : Option Addr) (c0 : Nat) (l0 : List Int) (a1 : Int) (r : Int) (w : World) (hr0 : Kd.C (Kd.int .u8) w A0 l0.length l0) (hc0 : l0.length ≤ c0) (h : bytes_IndexByte.f l0 a1 = some r) :
    Calls Try.prog 95 #[.slice A0 l0.length c0, .int .u8 a1] w fun e w' => e = .returned (.int .i64 r) ∧ Drawn0 w w' := by
  unfold bytes_IndexByte.f at h
  by_cases c : l0.length = 0
  · rw [if_pos c] at h
    cases h
  · rw [if_neg c] at h
    injection h with h
    have hr := Kd.reads_of_C (enc := Value.int .u8) (d := (0 : Int)) (h1 := fun _ => rfl) hr0
    obtain ⟨ad, rfl, hc⟩ := hr.2.2 (by omega)
    refine (Any.bytes_IndexByte_at Try.lays187 ad l0.length c0 l0 a1 w rfl (fun i hi => hc i hi)).mono ?_
    rintro e w' ⟨rfl, rfl⟩
    exact ⟨by rw [h], Drawn0.refl _⟩
end Go.Proofs.Ytkopmkinlanhoaa.PE

namespace Go.Proofs.Ytkopmkinlanhoaa.PE
open Go.RowKit Go.Proofs.YtkopmkinlanhoaaW.PrintWords Go.Proofs.YtkopmkinlanhoaaW.PrintLast Go.Proofs.YtkopmkinlanhoaaW.PrintMore
attribute [local go_sem] max2_int min2_int max_two min_two max_three min_three max_four min_four   -- for this text's walks alone
set_option linter.unusedVariables false
set_option linter.unusedSimpArgs false
def words_Text.j0 : Nat → List Int → Int → Bool → Option (ByteArray × Bool)
  | 0, _, _, _ => none
  | k + 1, x0, x1, x14 => if x14 = true then (some ((⟨#[]⟩ : ByteArray), false)) else (if 0 ≤ x1 then (if x1 ≤ (x0.length : Int) then ((bytes_IndexByte.f (x0.drop (x1 : Int).toNat) 0).bind fun t118 => (if t118 < 0 then (some ((⟨#[]⟩ : ByteArray), false)) else (if x1 ≤ (wrap64 (x1 + t118)) then (if (wrap64 (x1 + t118)) ≤ (x0.length : Int) then (some (strOfNums ((x0.take ((wrap64 (x1 + t118)) : Int).toNat).drop (x1 : Int).toNat), true)) else (none)) else (none)))) else (none)) else (none))
def words_Text.f (k : Nat) (l0 : List Int) (a1 : Int) : Option (ByteArray × Bool) := if a1 < 0 then (words_Text.j0 k l0 a1 true) else (words_Text.j0 k l0 a1 (decide (a1 ≥ (l0.length : Int))))
set_option maxHeartbeats 8000000 in
set_option maxRecDepth 100000 in
theorem words_Text.calls (k : Nat) (A0 : Option Addr) (c0 : Nat) (l0 : List Int) (a1 : Int) (r1 : ByteArray) (r2 : Bool) (w : World) (hr0 : Kd.C (Kd.int .u8) w A0 l0.length l0) (hc0 : l0.length ≤ c0) (h : words_Text.f k l0 a1 = some (r1, r2)) :
    Calls Try.prog 83 #[.slice A0 l0.length c0, .int .i64 a1] w fun e w' => e = .returned (.tuple #[.string r1, .bool r2]) ∧ Drawn0 w w' := by
  have HR0 := Aside0.mk hr0
  have HC0 := Aside0.mk hc0
  clear hr0 hc0
  have H : (if a1 < 0 then (words_Text.j0 k l0 a1 true) else (words_Text.j0 k l0 a1 (decide (a1 ≥ (l0.length : Int))))) = some (r1, r2) := h
  clear h
  have HC3 := Aside0.mk H
  clear H
  go_enter Try.func83, Try.ntmps83
  go_upto_region 1 with (fail)
  go_cut [14] (fun v14 wc => ∃ (kq : Nat) (x14_2 : Bool), v14 = .bool x14_2 ∧ Aside0 (words_Text.j0 kq l0 a1 x14_2 = some (r1, r2)) ∧ Aside0 (kq ≤ k) ∧ Drawn0 w wc)
  case first =>
    have H := HC3.out
    clear HC3
    by_cases c4 : a1 < 0
    · rw [if_pos c4] at H
      have c4b0 : decide (a1 < 0) = true := decide_eq_true c4
      clear c4
      (first | rw [c4b0] | (simp only [i64_w, i32_w]; rw [c4b0]) | skip)
      have H' := Aside0.mk H
      clear H
      go_wp2
      go_meet
      case rel => exact ⟨_, (true), (by first | rfl | (simp; done) | (simp [*]; done)), H', ⟨by first | omega | exact Nat.le_refl _⟩, by repeat (first | exact Drawn0.refl _ | apply Drawn0.step)⟩
    · rw [if_neg c4] at H
      have c4b0 : decide (a1 < 0) = false := decide_eq_false c4
      clear c4
      (first | rw [c4b0] | (simp only [i64_w, i32_w]; rw [c4b0]) | skip)
      have H' := Aside0.mk H
      clear H
      go_wp2
      go_meet
      case rel => exact ⟨_, (decide (a1 ≥ (l0.length : Int))), (by first | rfl | (simp; done) | (simp [*]; done)), H', ⟨by first | omega | exact Nat.le_refl _⟩, by repeat (first | exact Drawn0.refl _ | apply Drawn0.step)⟩
  case rest =>
    clear HC3
    try clear p2
    try clear c4
    try clear c4b0
    obtain ⟨kq, x14_2, rfl, HA, HJ2, ⟨mc2, rfl⟩⟩ := hcut
    cases kq with
    | zero => exact absurd HA.out (by simp [words_Text.j0])
    | succ kj2 =>
      have H := HA.out
      clear HA
      simp only [words_Text.j0] at H
      by_cases c5 : x14_2 = true
      · subst c5
        have H1 : (some ((⟨#[]⟩ : ByteArray), false)) = some (r1, r2) := by rw [if_pos rfl] at H; exact H
        clear H
        have H := H1
        clear H1
        simp only [Option.some.injEq, Prod.mk.injEq] at H
        obtain ⟨rfl, rfl⟩ := H
        go_wp2
        go_ret2
        exact ⟨by first | rfl | (simp; done) | (simp [*]; done), by repeat (first | exact Drawn0.refl _ | apply Drawn0.step)⟩
      · replace c5 := Bool.eq_false_iff.mpr c5
        subst c5
        have H1 : (if 0 ≤ a1 then (if a1 ≤ (l0.length : Int) then ((bytes_IndexByte.f (l0.drop (a1 : Int).toNat) 0).bind fun t118 => (if t118 < 0 then (some ((⟨#[]⟩ : ByteArray), false)) else (if a1 ≤ (wrap64 (a1 + t118)) then (if (wrap64 (a1 + t118)) ≤ (l0.length : Int) then (some (strOfNums ((l0.take ((wrap64 (a1 + t118)) : Int).toNat).drop (a1 : Int).toNat), true)) else (none)) else (none)))) else (none)) else (none)) = some (r1, r2) := by rw [if_neg (show ¬ (false = true) by decide)] at H; exact H
        clear H
        have H := H1
        clear H1
        by_cases c6 : 0 ≤ a1
        · rw [if_pos c6] at H
          have c6b0 := eq_true c6
          have c6b1 : decide (0 ≤ a1) = true := decide_eq_true c6
          clear c6
          by_cases c7 : a1 ≤ (l0.length : Int)
          · rw [if_pos c7] at H
            have c7b0 := eq_true c7
            have c7b1 : decide (a1 ≤ (l0.length : Int)) = true := decide_eq_true c7
            clear c7
            replace H := Option.bind_eq_some_iff.mp H
            obtain ⟨t118, A80, H⟩ := H
            replace H : (if t118 < 0 then (some ((⟨#[]⟩ : ByteArray), false)) else (if a1 ≤ (wrap64 (a1 + t118)) then (if (wrap64 (a1 + t118)) ≤ (l0.length : Int) then (some (strOfNums ((l0.take ((wrap64 (a1 + t118)) : Int).toNat).drop (a1 : Int).toNat), true)) else (none)) else (none))) = some (r1, r2) := H
            have A8 := Aside0.mk A80
            clear A80
            by_cases c9 : t118 < 0
            · rw [if_pos c9] at H
              have c9b0 : decide (t118 < 0) = true := decide_eq_true c9
              clear c9
              simp only [Option.some.injEq, Prod.mk.injEq] at H
              obtain ⟨rfl, rfl⟩ := H
              obtain ⟨i010, hi010, _, hsz10, _⟩ := info_parts info5
              obtain ⟨A10, hcut10, hA10, hC10⟩ := print_drop_of (P := Try.prog) (Value.int .u8) 0 45 5 .i64 Try.underlying45 hi010 hsz10 A0 c0 l0 a1 (of_decide_eq_true (by first | (with_reducible assumption) | assumption)) (of_decide_eq_true (by first | (with_reducible assumption) | assumption)) HC0.out
              have HR117 := Aside0.mk (Kd.C_of_reads (h1 := fun _ => rfl) (hA10 _ (Kd.reads_of_C HR0.out)))
              have HC117 := Aside0.mk hC10
              clear hA10 hC10 hi010 hsz10
              go_wp2_with (first | ((with_reducible refine gate_callee (f := 95) rfl ?_); refine goesL_ (some 18) rfl rfl Try.func95 (by kernel_rfl) rfl #[.slice A10 (l0.drop (a1 : Int).toNat).length (c0 - a1.toNat), .int .u8 0] rfl (by (try simp only [List.map_toArray, List.map_cons, List.map_nil]); first | done | (rw [show (l0.drop (a1 : Int).toNat).length = (l0.length - a1.toNat) from List.length_drop] <;> rfl) | rfl | (simp only [List.length_drop, List.length_take]; rfl)) ?_; (with_reducible refine (bytes_IndexByte.calls _ _ (l0.drop (a1 : Int).toNat) 0 t118 _ ?side1 ?side2 A8.out).mono ?_); (case side1 => repeat (first | exact HR117.out | (with_reducible refine Kd.C_alloc ?_ _) | (with_reducible refine Kd.C_drewN ?_ _) | (with_reducible refine Kd.C_drew ?_))); (case side2 => exact HC117.out); rintro e w' ⟨rfl, ⟨nd, rfl⟩⟩; refine ⟨_, rfl, ?_⟩))
              go_ret2
              exact ⟨by first | rfl | (simp; done) | (simp [*]; done), by repeat (first | exact Drawn0.refl _ | apply Drawn0.step)⟩
            · rw [if_neg c9] at H
              have c9b0 : decide (t118 < 0) = false := decide_eq_false c9
              clear c9
              have c11b0 := eq_true (of_decide_eq_true (by first | (with_reducible assumption) | assumption) : 0 ≤ a1)
              by_cases c12 : a1 ≤ (wrap64 (a1 + t118))
              · rw [if_pos c12] at H
                have c12b0 := eq_true c12
                have c12b1 : decide (a1 ≤ (wrap64 (a1 + t118))) = true := decide_eq_true c12
                by_cases c13 : (wrap64 (a1 + t118)) ≤ (l0.length : Int)
                · rw [if_pos c13] at H
                  have c13b0 := eq_true c13
                  have c13b1 : decide ((wrap64 (a1 + t118)) ≤ (l0.length : Int)) = true := decide_eq_true c13
                  simp only [Option.some.injEq, Prod.mk.injEq] at H
                  obtain ⟨rfl, rfl⟩ := H
                  obtain ⟨i014, hi014, _, hsz14, _⟩ := info_parts info5
                  obtain ⟨A14, hcut14, hA14, hC14⟩ := print_drop_of (P := Try.prog) (Value.int .u8) 0 45 5 .i64 Try.underlying45 hi014 hsz14 A0 c0 l0 a1 (of_decide_eq_true (by first | (with_reducible assumption) | assumption)) (of_decide_eq_true (by first | (with_reducible assumption) | assumption)) HC0.out
                  have HR117 := Aside0.mk (Kd.C_of_reads (h1 := fun _ => rfl) (hA14 _ (Kd.reads_of_C HR0.out)))
                  have HC117 := Aside0.mk hC14
                  clear hA14 hC14 hi014 hsz14
                  go_wp2_with (first | ((with_reducible refine gate_callee (f := 95) rfl ?_); refine goesL_ (some 18) rfl rfl Try.func95 (by kernel_rfl) rfl #[.slice A14 (l0.drop (a1 : Int).toNat).length (c0 - a1.toNat), .int .u8 0] rfl (by (try simp only [List.map_toArray, List.map_cons, List.map_nil]); first | done | (rw [show (l0.drop (a1 : Int).toNat).length = (l0.length - a1.toNat) from List.length_drop] <;> rfl) | rfl | (simp only [List.length_drop, List.length_take]; rfl)) ?_; (with_reducible refine (bytes_IndexByte.calls _ _ (l0.drop (a1 : Int).toNat) 0 t118 _ ?side1 ?side2 A8.out).mono ?_); (case side1 => repeat (first | exact HR117.out | (with_reducible refine Kd.C_alloc ?_ _) | (with_reducible refine Kd.C_drewN ?_ _) | (with_reducible refine Kd.C_drew ?_))); (case side2 => exact HC117.out); rintro e w' ⟨rfl, ⟨nd, rfl⟩⟩; refine ⟨_, rfl, ?_⟩; obtain ⟨i015, hi015, _, hsz15, _⟩ := info_parts info5; obtain ⟨A15, hcut15, hA15, hC15⟩ := print_mid_of (P := Try.prog) (Value.int .u8) 0 45 5 .i64 .i64 Try.underlying45 hi015 hsz15 A0 c0 l0 a1 (wrap64 (a1 + t118)) (of_decide_eq_true (by first | (with_reducible assumption) | assumption)) (by first | omega | exact of_decide_eq_true (by first | (with_reducible assumption) | assumption)) (of_decide_eq_true (by first | (with_reducible assumption) | assumption)) HC0.out; have HR119 := Aside0.mk (Kd.C_of_reads (h1 := fun _ => rfl) (hA15 _ (Kd.reads_of_C HR0.out))); have HC119 := Aside0.mk hC15; clear hA15 hC15 hi015 hsz15; have hcv16 := Kd.C_string (P := Try.prog) (A := A15) (c := (c0 - a1.toNat)) Try.underlying45 Try.underlying5 Try.underlying9 HR119.out; have hcv16d := fun nd_ : Nat => Kd.C_string (P := Try.prog) (A := A15) (c := (c0 - a1.toNat)) Try.underlying45 Try.underlying5 Try.underlying9 (Kd.C_drewN HR119.out nd_); have hcv16l : (((l0).take ((wrap64 (a1 + t118)) : Int).toNat).drop (a1 : Int).toNat).length = ((wrap64 (a1 + t118)) : Int).toNat - (a1 : Int).toNat := (by have q_ : (wrap64 (a1 + t118)) ≤ ((l0).length : Int) := of_decide_eq_true (by first | (with_reducible assumption) | assumption); simp only [List.length_drop, List.length_take]; omega); have hcv16e := hcv16d; (try rw [hcv16l] at hcv16); (try simp only [hcv16l] at hcv16e)))
                  go_ret2
                  exact ⟨by first | rfl | (simp; done) | (simp [*]; done), by repeat (first | exact Drawn0.refl _ | apply Drawn0.step)⟩
                · rw [if_neg c13] at H
                  exact absurd H (by simp)
              · rw [if_neg c12] at H
                exact absurd H (by simp)
          · rw [if_neg c7] at H
            exact absurd H (by simp)
        · rw [if_neg c6] at H
          exact absurd H (by simp)
end Go.Proofs.Ytkopmkinlanhoaa.PE

namespace Go.Proofs.Ytkopmkinlanhoaa.PE
open Go.RowKit Go.Proofs.YtkopmkinlanhoaaW.PrintWords Go.Proofs.YtkopmkinlanhoaaW.PrintLast Go.Proofs.YtkopmkinlanhoaaW.PrintMore
attribute [local go_sem] max2_int min2_int max_two min_two max_three min_three max_four min_four   -- for this text's walks alone
set_option linter.unusedVariables false
set_option linter.unusedSimpArgs false
mutual
def encode_most.l0 : Nat → Int → List (S63) → Int → Int → ByteArray → List (S63) → List (S27) → Option (Int × Bool)
  | 0, _, _, _, _, _, _, _ => none
  | k + 1, x1, x12, x13, x14, x405000, x405001, x405002 => if x14 < x13 then (if 0 ≤ x14 then (if x14 < (x12.length : Int) then (if (wrap64 (x1 + (((rd_T63 x12 x14).f1).length : Int))) > 1048576 then (some (wrap64 (x1 + (((rd_T63 x12 x14).f1).length : Int)), true)) else (encode_most.l0 k (wrap64 (x1 + (((rd_T63 x12 x14).f1).length : Int))) x12 x13 (wrap64 (x14 + 1)) x405000 x405001 x405002)) else (none)) else (none)) else (encode_most.l1 k x1 x405002 (x405002.length : Int) 0)
def encode_most.l1 : Nat → Int → List (S27) → Int → Int → Option (Int × Bool)
  | 0, _, _, _, _ => none
  | k + 1, x1, x28, x29, x30 => if x30 < x29 then (if 0 ≤ x30 then (if x30 < (x28.length : Int) then ((encode_most.f k ((rd_T27 x28 x30).f0) ((rd_T27 x28 x30).f1) ((rd_T27 x28 x30).f2) x1).bind fun bt409 => (if bt409.2 = true then (some (bt409.1, true)) else (encode_most.l1 k bt409.1 x28 x29 (wrap64 (x30 + 1))))) else (none)) else (none)) else (some (x1, false))
def encode_most.f : Nat → ByteArray → List (S63) → List (S27) → Int → Option (Int × Bool)
  | 0, _, _, _, _ => none
  | k + 1, a0_0, l0_1, l0_2, a1 => encode_most.l0 k a1 l0_1 (l0_1.length : Int) 0 a0_0 l0_1 l0_2
end
set_option maxHeartbeats 8000000 in
set_option maxRecDepth 100000 in
theorem encode_most.calls (k : Nat) : ∀ (a0_0 : ByteArray) (A0_1 : Option Addr) (c0_1 : Nat) (l0_1 : List (S63)) (A0_2 : Option Addr) (c0_2 : Nat) (l0_2 : List (S27)) (a1 : Int) (r1 : Int) (r2 : Bool) (w : World) (hr0_1 : Kd.C k63 w A0_1 l0_1.length l0_1) (hc0_1 : l0_1.length ≤ c0_1) (hr0_2 : Kd.C k27 w A0_2 l0_2.length l0_2) (hc0_2 : l0_2.length ≤ c0_2) (h : encode_most.f k a0_0 l0_1 l0_2 a1 = some (r1, r2)),
    Calls Try.prog 47 #[.agg #[.string a0_0, .slice A0_1 l0_1.length c0_1, .slice A0_2 l0_2.length c0_2], .int .i64 a1] w fun e w' => e = .returned (.tuple #[.int .i64 r1, .bool r2]) ∧ Below w.heap.size w w' := by
  induction k using Nat.strongRecOn with
  | _ k ih =>
  intro a0_0 A0_1 c0_1 l0_1 A0_2 c0_2 l0_2 a1 r1 r2 w hr0_1 hc0_1 hr0_2 hc0_2 h
  cases k with
  | zero => exact absurd h (by simp [encode_most.f])
  | succ k =>
  simp only [encode_most.f] at h
  have hu27 := Try.underlying27
  have hu63 := Try.underlying63
  have HR0_1 := Aside0.mk hr0_1
  have HC0_1 := Aside0.mk hc0_1
  clear hr0_1 hc0_1
  have HR0_2 := Aside0.mk hr0_2
  have HC0_2 := Aside0.mk hc0_2
  clear hr0_2 hc0_2
  have HB := Aside0.mk (Below.refl w.heap.size w)
  have H : (encode_most.l0 k a1 l0_1 (l0_1.length : Int) 0 a0_0 l0_1 l0_2) = some (r1, r2) := h
  clear h
  have H' := Aside0.mk H
  clear H
  go_enter Try.func47, Try.ntmps47
  go_wp2_with (first | ((with_reducible refine gate_dst (N := 2) rfl ?_); refine box_event ?hg (N := 2) ?hd (cs := #[.string a0_0, .slice A0_1 l0_1.length c0_1, .slice A0_2 l0_2.length c0_2]) (t := 27) ?hr ?_; (case hd => rfl); (case hg => rfl); (case hr => first | (go_simp; done) | (go_simp; rfl)); intro gb404 hg w3 hbox hb; have n0_ := Aside0.mk (below_step (by repeat (first | (with_reducible first | exact HB.out | apply below_alloc | apply pw_below_drewN | apply below_drew1) | exact HB.out)) hb); have n1_ := Aside0.mk (hbox); have n2_ := Aside0.mk ((by rw [hg]; exact (below_size (by repeat (first | (with_reducible first | exact HB.out | apply below_alloc | apply pw_below_drewN | apply below_drew1) | exact HB.out))) : w.heap.size ≤ gb404)); have n3_ := Aside0.mk ((by rw [hg]; exact (below_size (by repeat (first | (with_reducible first | exact HB.out | apply below_alloc | apply pw_below_drewN | apply below_drew1) | exact HB.out))) : w.heap.size ≤ gb404)); clear HB; have HB := n0_; have BK404 := n1_; have GW404 := n2_; have GE404 := n3_; clear n0_ n1_ n2_ n3_; clear hb hbox hg; have hcz4_0 : w3.cell? ⟨gb404, 0, none⟩ = some (.string a0_0) := (blk_cell BK404.out 0).trans rfl; have hcz4_1 : w3.cell? ⟨gb404, 1, none⟩ = some (.slice A0_1 l0_1.length c0_1) := (blk_cell BK404.out 1).trans rfl; have hcz4_2 : w3.cell? ⟨gb404, 2, none⟩ = some (.slice A0_2 l0_2.length c0_2) := (blk_cell BK404.out 2).trans rfl; have hfz4_0 := blk_frozen BK404.out 0; have hfz4_1 := blk_frozen BK404.out 1; have hfz4_2 := blk_frozen BK404.out 2))
  go_loopg [1, 14] k (fun kq v1 v14 w' => ∃ (x1_1 : Int) (x14_1 : Int), v1 = .int .i64 x1_1 ∧ v14 = .int .i64 x14_1 ∧ Aside0 (encode_most.l0 kq x1_1 l0_1 (l0_1.length : Int) x14_1 a0_0 l0_1 l0_2 = some (r1, r2)) ∧ Aside0 (kq ≤ k) ∧ Aside0 (w'.heap[gb404]? = some (.cells #[.string a0_0, (.slice A0_1 l0_1.length c0_1), (.slice A0_2 l0_2.length c0_2)] 27 (0, 0))) ∧ Aside0 (Below w.heap.size w w'))
  case atStart => exact ⟨(a1), (0), (by first | rfl | (simp; done) | (simp [*]; done)), (by first | rfl | (simp; done) | (simp [*]; done)), H', ⟨Nat.le_refl _⟩, ⟨by (with_reducible repeat (first | refine blk_drewN ?_ _ | refine blk_drew ?_ | refine blk_alloc ?_ _)); exact BK404.out⟩, ⟨by repeat (first | (with_reducible first | exact HB.out | apply below_alloc | apply pw_below_drewN | apply below_drew1 | refine below_set ?_ GE404.out) | exact HB.out)⟩⟩
  case round =>
    clear H'
    try clear p2
    try clear c4
    try clear hcz4_0
    try clear hcz4_1
    try clear hcz4_2
    try clear hfz4_0
    try clear hfz4_1
    try clear hfz4_2
    obtain ⟨x1_1, x14_1, rfl, rfl, HA, HK1, BK404, HB⟩ := hrel
    cases gk with
    | zero => exact absurd HA.out (by simp [encode_most.l0])
    | succ k1 =>
      have H := HA.out
      clear HA
      simp only [encode_most.l0] at H
      by_cases c5 : x14_1 < (l0_1.length : Int)
      · rw [if_pos c5] at H
        have c5b0 : decide (x14_1 < (l0_1.length : Int)) = true := decide_eq_true c5
        clear c5
        by_cases c6 : 0 ≤ x14_1
        · rw [if_pos c6] at H
          have c6b0 : decide (0 ≤ x14_1) = true := decide_eq_true c6
          clear c6
          by_cases c7 : x14_1 < (l0_1.length : Int)
          · rw [if_pos c7] at H
            have c7b0 : decide (x14_1 < (l0_1.length : Int)) = true := decide_eq_true c7
            clear c7
            by_cases c8 : (wrap64 (x1_1 + (((rd_T63 l0_1 x14_1).f1).length : Int))) > 1048576
            · rw [if_pos c8] at H
              have c8b0 : decide (1048576 < (wrap64 (x1_1 + (((rd_T63 l0_1 x14_1).f1).length : Int)))) = true := decide_eq_true c8
              clear c8
              simp only [Option.some.injEq, Prod.mk.injEq] at H
              obtain ⟨rfl, rfl⟩ := H
              have p405 : 0 ≤ (x14_1 : Int) := of_decide_eq_true (by first | (with_reducible assumption) | assumption)
              have q405 : x14_1 < (l0_1.length : Int) := of_decide_eq_true (by first | (with_reducible assumption) | assumption)
              obtain ⟨ad405, A405_1, c405_1, e405, hx405_0, hx405_1, hl405_1, hi405_1⟩ := at_T63 HR0_1.out x14_1 p405 q405
              cases e405
              replace hx405_0 := (HB.out.cell (World.block_lt_of_cell? w _ hx405_0)).trans hx405_0
              replace hx405_1 := (HB.out.cell (World.block_lt_of_cell? w _ hx405_1)).trans hx405_1
              have HR405_1 := Aside0.mk hi405_1
              have HC405_1 := Aside0.mk hl405_1
              clear hi405_1 hl405_1
              replace p405 := eq_true p405
              replace q405 := eq_true q405
              go_wp2_with (first | ((with_reducible refine gate_dst (N := 7) rfl ?_); refine box_event ?hg (N := 7) ?hd (cs := #[.string (⟨#[]⟩ : ByteArray), .slice none 0 0]) (t := 63) ?hr ?_; (case hd => rfl); (case hg => rfl); (case hr => first | (go_simp; done) | (go_simp; rfl)); intro gb406 hg w9 hbox hb; have n0_ := Aside0.mk (blk_below (g := gb404) (o := .cells #[.string a0_0, .slice (some ad405) l0_1.length c0_1, .slice A0_2 l0_2.length c0_2] 27 (0, 0)) (by (with_reducible repeat (first | refine blk_drewN ?_ _ | refine blk_drew ?_ | refine blk_alloc ?_ _)); exact BK404.out) hb); have n1_ := Aside0.mk (below_step (by repeat (first | (with_reducible first | exact HB.out | apply below_alloc | apply pw_below_drewN | apply below_drew1 | refine below_set ?_ GE404.out) | exact HB.out)) hb); have n2_ := Aside0.mk (hbox); have n3_ := Aside0.mk ((by rw [hg]; exact (below_size (by repeat (first | (with_reducible first | exact HB.out | apply below_alloc | apply pw_below_drewN | apply below_drew1 | refine below_set ?_ GE404.out) | exact HB.out))) : w.heap.size ≤ gb406)); have n4_ := Aside0.mk ((by rw [hg]; exact (below_size (by repeat (first | (with_reducible first | exact HB.out | apply below_alloc | apply pw_below_drewN | apply below_drew1 | refine below_set ?_ GE404.out) | exact HB.out))) : w.heap.size ≤ gb406)); have n5_ := Aside0.mk ((by rw [hg]; exact Nat.ne_of_lt (blk_lt (g := gb404) (o := .cells #[.string a0_0, .slice (some ad405) l0_1.length c0_1, .slice A0_2 l0_2.length c0_2] 27 (0, 0)) (by (with_reducible repeat (first | refine blk_drewN ?_ _ | refine blk_drew ?_ | refine blk_alloc ?_ _)); exact BK404.out)) : gb404 ≠ gb406)); have n6_ := Aside0.mk ((by rw [hg]; exact Nat.ne_of_gt (blk_lt (g := gb404) (o := .cells #[.string a0_0, .slice (some ad405) l0_1.length c0_1, .slice A0_2 l0_2.length c0_2] 27 (0, 0)) (by (with_reducible repeat (first | refine blk_drewN ?_ _ | refine blk_drew ?_ | refine blk_alloc ?_ _)); exact BK404.out)) : gb406 ≠ gb404)); clear BK404; clear HB; have BK404 := n0_; have HB := n1_; have BK406 := n2_; have GW406 := n3_; have GE406 := n4_; have NB404_406 := n5_; have NB406_404 := n6_; clear n0_ n1_ n2_ n3_ n4_ n5_ n6_; clear hb hbox hg; have hnb10 := NB406_404.out; have hnc10 := NB404_406.out; have hcz11_0 : w9.cell? ⟨gb406, 0, none⟩ = some (.string (⟨#[]⟩ : ByteArray)) := (blk_cell BK406.out 0).trans rfl; have hcz11_1 : w9.cell? ⟨gb406, 1, none⟩ = some (.slice none 0 0) := (blk_cell BK406.out 1).trans rfl; have hfz11_0 := blk_frozen BK406.out 0; have hfz11_1 := blk_frozen BK406.out 1))
              go_ret2
              exact ⟨by first | rfl | (simp [errW_none, errW_some] <;> rfl) | (simp [*, errW_none, errW_some] <;> rfl), by repeat (first | (with_reducible first | exact HB.out | apply below_alloc | apply pw_below_drewN | apply below_drew1 | refine below_set ?_ GE404.out | refine below_set ?_ GE406.out) | exact HB.out)⟩
            · rw [if_neg c8] at H
              have c8b0 : decide (1048576 < (wrap64 (x1_1 + (((rd_T63 l0_1 x14_1).f1).length : Int)))) = false := decide_eq_false c8
              clear c8
              have H' := Aside0.mk H
              clear H
              have p405 : 0 ≤ (x14_1 : Int) := of_decide_eq_true (by first | (with_reducible assumption) | assumption)
              have q405 : x14_1 < (l0_1.length : Int) := of_decide_eq_true (by first | (with_reducible assumption) | assumption)
              obtain ⟨ad405, A405_1, c405_1, e405, hx405_0, hx405_1, hl405_1, hi405_1⟩ := at_T63 HR0_1.out x14_1 p405 q405
              cases e405
              replace hx405_0 := (HB.out.cell (World.block_lt_of_cell? w _ hx405_0)).trans hx405_0
              replace hx405_1 := (HB.out.cell (World.block_lt_of_cell? w _ hx405_1)).trans hx405_1
              have HR405_1 := Aside0.mk hi405_1
              have HC405_1 := Aside0.mk hl405_1
              clear hi405_1 hl405_1
              replace p405 := eq_true p405
              replace q405 := eq_true q405
              go_wp2_with (first | ((with_reducible refine gate_dst (N := 7) rfl ?_); refine box_event ?hg (N := 7) ?hd (cs := #[.string (⟨#[]⟩ : ByteArray), .slice none 0 0]) (t := 63) ?hr ?_; (case hd => rfl); (case hg => rfl); (case hr => first | (go_simp; done) | (go_simp; rfl)); intro gb406 hg w12 hbox hb; have n0_ := Aside0.mk (blk_below (g := gb404) (o := .cells #[.string a0_0, .slice (some ad405) l0_1.length c0_1, .slice A0_2 l0_2.length c0_2] 27 (0, 0)) (by (with_reducible repeat (first | refine blk_drewN ?_ _ | refine blk_drew ?_ | refine blk_alloc ?_ _)); exact BK404.out) hb); have n1_ := Aside0.mk (below_step (by repeat (first | (with_reducible first | exact HB.out | apply below_alloc | apply pw_below_drewN | apply below_drew1 | refine below_set ?_ GE404.out) | exact HB.out)) hb); have n2_ := Aside0.mk (hbox); have n3_ := Aside0.mk ((by rw [hg]; exact (below_size (by repeat (first | (with_reducible first | exact HB.out | apply below_alloc | apply pw_below_drewN | apply below_drew1 | refine below_set ?_ GE404.out) | exact HB.out))) : w.heap.size ≤ gb406)); have n4_ := Aside0.mk ((by rw [hg]; exact (below_size (by repeat (first | (with_reducible first | exact HB.out | apply below_alloc | apply pw_below_drewN | apply below_drew1 | refine below_set ?_ GE404.out) | exact HB.out))) : w.heap.size ≤ gb406)); have n5_ := Aside0.mk ((by rw [hg]; exact Nat.ne_of_lt (blk_lt (g := gb404) (o := .cells #[.string a0_0, .slice (some ad405) l0_1.length c0_1, .slice A0_2 l0_2.length c0_2] 27 (0, 0)) (by (with_reducible repeat (first | refine blk_drewN ?_ _ | refine blk_drew ?_ | refine blk_alloc ?_ _)); exact BK404.out)) : gb404 ≠ gb406)); have n6_ := Aside0.mk ((by rw [hg]; exact Nat.ne_of_gt (blk_lt (g := gb404) (o := .cells #[.string a0_0, .slice (some ad405) l0_1.length c0_1, .slice A0_2 l0_2.length c0_2] 27 (0, 0)) (by (with_reducible repeat (first | refine blk_drewN ?_ _ | refine blk_drew ?_ | refine blk_alloc ?_ _)); exact BK404.out)) : gb406 ≠ gb404)); clear BK404; clear HB; have BK404 := n0_; have HB := n1_; have BK406 := n2_; have GW406 := n3_; have GE406 := n4_; have NB404_406 := n5_; have NB406_404 := n6_; clear n0_ n1_ n2_ n3_ n4_ n5_ n6_; clear hb hbox hg; have hnb13 := NB406_404.out; have hnc13 := NB404_406.out; have hcz14_0 : w12.cell? ⟨gb406, 0, none⟩ = some (.string (⟨#[]⟩ : ByteArray)) := (blk_cell BK406.out 0).trans rfl; have hcz14_1 : w12.cell? ⟨gb406, 1, none⟩ = some (.slice none 0 0) := (blk_cell BK406.out 1).trans rfl; have hfz14_0 := blk_frozen BK406.out 0; have hfz14_1 := blk_frozen BK406.out 1))
              go_roundg k1
              case measure => have := HK1.out; omega
              case rel => exact ⟨(wrap64 (x1_1 + (((rd_T63 l0_1 x14_1).f1).length : Int))), (wrap64 (x14_1 + 1)), (by first | rfl | (simp; done) | (simp [*]; done)), (by first | rfl | (simp; done) | (simp [*]; done)), H', ⟨by have := HK1.out; omega⟩, ⟨by (with_reducible repeat (first | refine blk_drewN ?_ _ | refine blk_drew ?_ | refine blk_alloc ?_ _)); refine blk_far ?_ NB404_406.out _; (with_reducible repeat (first | refine blk_drewN ?_ _ | refine blk_drew ?_ | refine blk_alloc ?_ _)); refine blk_far ?_ NB404_406.out _; (with_reducible repeat (first | refine blk_drewN ?_ _ | refine blk_drew ?_ | refine blk_alloc ?_ _)); exact BK404.out⟩, ⟨by repeat (first | (with_reducible first | exact HB.out | apply below_alloc | apply pw_below_drewN | apply below_drew1 | refine below_set ?_ GE404.out | refine below_set ?_ GE406.out) | exact HB.out)⟩⟩
          · rw [if_neg c7] at H
            exact absurd H (by simp)
        · rw [if_neg c6] at H
          exact absurd H (by simp)
      · rw [if_neg c5] at H
        have c5b0 : decide (x14_1 < (l0_1.length : Int)) = false := decide_eq_false c5
        clear c5
        have H' := Aside0.mk H
        clear H
        have hcz15_0 : wr.cell? ⟨gb404, 0, none⟩ = some (.string a0_0) := (blk_cell BK404.out 0).trans rfl
        have hcz15_1 : wr.cell? ⟨gb404, 1, none⟩ = some (.slice A0_1 l0_1.length c0_1) := (blk_cell BK404.out 1).trans rfl
        have hcz15_2 : wr.cell? ⟨gb404, 2, none⟩ = some (.slice A0_2 l0_2.length c0_2) := (blk_cell BK404.out 2).trans rfl
        have hfz15_0 := blk_frozen BK404.out 0
        have hfz15_1 := blk_frozen BK404.out 1
        have hfz15_2 := blk_frozen BK404.out 2
        go_wp2
        go_loopg [1, 30] k1 (fun kq v1 v30 w' => ∃ (x1_2 : Int) (x30_2 : Int), v1 = .int .i64 x1_2 ∧ v30 = .int .i64 x30_2 ∧ Aside0 (encode_most.l1 kq x1_2 l0_2 (l0_2.length : Int) x30_2 = some (r1, r2)) ∧ Aside0 (kq ≤ k1) ∧ Aside0 (w'.heap[gb404]? = some (.cells #[.string a0_0, (.slice A0_1 l0_1.length c0_1), (.slice A0_2 l0_2.length c0_2)] 27 (0, 0))) ∧ Aside0 (Below w.heap.size w w'))
        case atStart => exact ⟨(x1_1), (0), (by first | rfl | (simp; done) | (simp [*]; done)), (by first | rfl | (simp; done) | (simp [*]; done)), H', ⟨Nat.le_refl _⟩, ⟨by (with_reducible repeat (first | refine blk_drewN ?_ _ | refine blk_drew ?_ | refine blk_alloc ?_ _)); exact BK404.out⟩, ⟨by repeat (first | (with_reducible first | exact HB.out | apply below_alloc | apply pw_below_drewN | apply below_drew1 | refine below_set ?_ GE404.out) | exact HB.out)⟩⟩
        case round =>
          clear H'
          try clear c1
          try clear p2
          try clear c4
          try clear p4
          try clear q4
          try clear hx4
          try clear c5
          try clear c5b0
          try clear c6
          try clear c6b0
          try clear p6
          try clear c7
          try clear c7b0
          try clear c8
          try clear c8b0
          try clear c10
          try clear c13
          try clear hcz11_0
          try clear hcz11_1
          try clear hcz14_0
          try clear hcz14_1
          try clear hcz15_0
          try clear hcz15_1
          try clear hcz15_2
          try clear hcz4_0
          try clear hcz4_1
          try clear hcz4_2
          try clear hfz11_0
          try clear hfz11_1
          try clear hfz14_0
          try clear hfz14_1
          try clear hfz15_0
          try clear hfz15_1
          try clear hfz15_2
          try clear hfz4_0
          try clear hfz4_1
          try clear hfz4_2
          try clear hx405_0
          try clear hx405_1
          try clear p2
          try clear p405
          try clear q405
          obtain ⟨x1_2, x30_2, rfl, rfl, HA, HK2, BK404, HB⟩ := hrel
          cases gk with
          | zero => exact absurd HA.out (by simp [encode_most.l1])
          | succ k2 =>
            have H := HA.out
            clear HA
            simp only [encode_most.l1] at H
            by_cases c16 : x30_2 < (l0_2.length : Int)
            · rw [if_pos c16] at H
              have c16b0 : decide (x30_2 < (l0_2.length : Int)) = true := decide_eq_true c16
              clear c16
              by_cases c17 : 0 ≤ x30_2
              · rw [if_pos c17] at H
                have c17b0 : decide (0 ≤ x30_2) = true := decide_eq_true c17
                clear c17
                by_cases c18 : x30_2 < (l0_2.length : Int)
                · rw [if_pos c18] at H
                  have c18b0 : decide (x30_2 < (l0_2.length : Int)) = true := decide_eq_true c18
                  clear c18
                  replace H := Option.bind_eq_some_iff.mp H
                  obtain ⟨⟨t409, t410⟩, A190, H⟩ := H
                  replace H : (if t410 = true then (some (t409, true)) else (encode_most.l1 k2 t409 l0_2 (l0_2.length : Int) (wrap64 (x30_2 + 1)))) = some (r1, r2) := H
                  have A19 := Aside0.mk A190
                  clear A190
                  by_cases c20 : t410 = true
                  · subst c20
                    have H1 : (some (t409, true)) = some (r1, r2) := by rw [if_pos rfl] at H; exact H
                    clear H
                    have H := H1
                    clear H1
                    simp only [Option.some.injEq, Prod.mk.injEq] at H
                    obtain ⟨rfl, rfl⟩ := H
                    have p407 : 0 ≤ (x30_2 : Int) := of_decide_eq_true (by first | (with_reducible assumption) | assumption)
                    have q407 : x30_2 < (l0_2.length : Int) := of_decide_eq_true (by first | (with_reducible assumption) | assumption)
                    obtain ⟨ad407, A407_1, c407_1, A407_2, c407_2, e407, hx407_0, hx407_1, hx407_2, hl407_1, hi407_1, hl407_2, hi407_2⟩ := at_T27 HR0_2.out x30_2 p407 q407
                    cases e407
                    replace hx407_0 := (HB.out.cell (World.block_lt_of_cell? w _ hx407_0)).trans hx407_0
                    replace hx407_1 := (HB.out.cell (World.block_lt_of_cell? w _ hx407_1)).trans hx407_1
                    replace hx407_2 := (HB.out.cell (World.block_lt_of_cell? w _ hx407_2)).trans hx407_2
                    have HR407_1 := Aside0.mk hi407_1
                    have HC407_1 := Aside0.mk hl407_1
                    clear hi407_1 hl407_1
                    have HR407_2 := Aside0.mk hi407_2
                    have HC407_2 := Aside0.mk hl407_2
                    clear hi407_2 hl407_2
                    replace p407 := eq_true p407
                    replace q407 := eq_true q407
                    go_wp2_with (first | ((with_reducible refine gate_dst (N := 9) rfl ?_); refine box_event ?hg (N := 9) ?hd (cs := #[.string (⟨#[]⟩ : ByteArray), .slice none 0 0, .slice none 0 0]) (t := 27) ?hr ?_; (case hd => rfl); (case hg => rfl); (case hr => first | (go_simp; done) | (go_simp; rfl)); intro gb408 hg w21 hbox hb; have n0_ := Aside0.mk (blk_below (g := gb404) (o := .cells #[.string a0_0, .slice A0_1 l0_1.length c0_1, .slice (some ad407) l0_2.length c0_2] 27 (0, 0)) (by (with_reducible repeat (first | refine blk_drewN ?_ _ | refine blk_drew ?_ | refine blk_alloc ?_ _)); exact BK404.out) hb); have n1_ := Aside0.mk (below_step (by repeat (first | (with_reducible first | exact HB.out | apply below_alloc | apply pw_below_drewN | apply below_drew1 | refine below_set ?_ GE404.out) | exact HB.out)) hb); have n2_ := Aside0.mk (hbox); have n3_ := Aside0.mk ((by rw [hg]; exact (below_size (by repeat (first | (with_reducible first | exact HB.out | apply below_alloc | apply pw_below_drewN | apply below_drew1 | refine below_set ?_ GE404.out) | exact HB.out))) : w.heap.size ≤ gb408)); have n4_ := Aside0.mk ((by rw [hg]; exact (below_size (by repeat (first | (with_reducible first | exact HB.out | apply below_alloc | apply pw_below_drewN | apply below_drew1 | refine below_set ?_ GE404.out) | exact HB.out))) : w.heap.size ≤ gb408)); have n5_ := Aside0.mk ((by rw [hg]; exact Nat.ne_of_lt (blk_lt (g := gb404) (o := .cells #[.string a0_0, .slice A0_1 l0_1.length c0_1, .slice (some ad407) l0_2.length c0_2] 27 (0, 0)) (by (with_reducible repeat (first | refine blk_drewN ?_ _ | refine blk_drew ?_ | refine blk_alloc ?_ _)); exact BK404.out)) : gb404 ≠ gb408)); have n6_ := Aside0.mk ((by rw [hg]; exact Nat.ne_of_gt (blk_lt (g := gb404) (o := .cells #[.string a0_0, .slice A0_1 l0_1.length c0_1, .slice (some ad407) l0_2.length c0_2] 27 (0, 0)) (by (with_reducible repeat (first | refine blk_drewN ?_ _ | refine blk_drew ?_ | refine blk_alloc ?_ _)); exact BK404.out)) : gb408 ≠ gb404)); clear BK404; clear HB; have BK404 := n0_; have HB := n1_; have BK408 := n2_; have GW408 := n3_; have GE408 := n4_; have NB404_408 := n5_; have NB408_404 := n6_; clear n0_ n1_ n2_ n3_ n4_ n5_ n6_; clear hb hbox hg; have hnb22 := NB408_404.out; have hnc22 := NB404_408.out; have hcz23_0 : w21.cell? ⟨gb408, 0, none⟩ = some (.string (⟨#[]⟩ : ByteArray)) := (blk_cell BK408.out 0).trans rfl; have hcz23_1 : w21.cell? ⟨gb408, 1, none⟩ = some (.slice none 0 0) := (blk_cell BK408.out 1).trans rfl; have hcz23_2 : w21.cell? ⟨gb408, 2, none⟩ = some (.slice none 0 0) := (blk_cell BK408.out 2).trans rfl; have hfz23_0 := blk_frozen BK408.out 0; have hfz23_1 := blk_frozen BK408.out 1; have hfz23_2 := blk_frozen BK408.out 2) | ((with_reducible refine gate_callee (f := 47) rfl ?_); refine goesL_ (some 37) rfl rfl Try.func47 (by kernel_rfl) rfl #[.agg #[.string ((rd_T27 l0_2 x30_2).f0), .slice A407_1 ((rd_T27 l0_2 x30_2).f1).length c407_1, .slice A407_2 ((rd_T27 l0_2 x30_2).f2).length c407_2], .int .i64 x1_2] rfl (by (try simp only [List.map_toArray, List.map_cons, List.map_nil]); first | done | rfl | (simp only [List.length_drop, List.length_take]; rfl)) ?_; (with_reducible refine (ih k2 (by have := HK1.out; have := HK2.out; omega) ((rd_T27 l0_2 x30_2).f0) _ _ ((rd_T27 l0_2 x30_2).f1) _ _ ((rd_T27 l0_2 x30_2).f2) x1_2 t409 true _ ?side1 ?side2 ?side3 ?side4 A19.out).mono ?_); (case side1 => exact Kd.C_below HR407_1.out (by repeat (first | (with_reducible first | exact HB.out | apply below_alloc | apply pw_below_drewN | apply below_drew1 | refine below_set ?_ GE404.out | refine below_set ?_ GE408.out) | exact HB.out))); (case side2 => exact HC407_1.out); (case side3 => exact Kd.C_below HR407_2.out (by repeat (first | (with_reducible first | exact HB.out | apply below_alloc | apply pw_below_drewN | apply below_drew1 | refine below_set ?_ GE404.out | refine below_set ?_ GE408.out) | exact HB.out))); (case side4 => exact HC407_2.out); rintro e w24 ⟨rfl, hb⟩; refine ⟨_, rfl, ?_⟩; have n0_ := Aside0.mk (blk_below (g := gb404) (o := .cells #[.string a0_0, .slice A0_1 l0_1.length c0_1, .slice (some ad407) l0_2.length c0_2] 27 (0, 0)) (by (with_reducible repeat (first | refine blk_drewN ?_ _ | refine blk_drew ?_ | refine blk_alloc ?_ _)); refine blk_far ?_ NB404_408.out _; (with_reducible repeat (first | refine blk_drewN ?_ _ | refine blk_drew ?_ | refine blk_alloc ?_ _)); refine blk_far ?_ NB404_408.out _; (with_reducible repeat (first | refine blk_drewN ?_ _ | refine blk_drew ?_ | refine blk_alloc ?_ _)); refine blk_far ?_ NB404_408.out _; (with_reducible repeat (first | refine blk_drewN ?_ _ | refine blk_drew ?_ | refine blk_alloc ?_ _)); exact BK404.out) hb); have n1_ := Aside0.mk (blk_below (g := gb408) (o := .cells #[.string ((rd_T27 l0_2 x30_2).f0), .slice A407_1 ((rd_T27 l0_2 x30_2).f1).length c407_1, .slice A407_2 ((rd_T27 l0_2 x30_2).f2).length c407_2] 27 (0, 0)) (by (with_reducible repeat (first | refine blk_drewN ?_ _ | refine blk_drew ?_ | refine blk_alloc ?_ _)); refine blk_put (cs := #[.string ((rd_T27 l0_2 x30_2).f0), .slice A407_1 ((rd_T27 l0_2 x30_2).f1).length c407_1, .slice none 0 0]) ?_ 2 _ rfl; (with_reducible repeat (first | refine blk_drewN ?_ _ | refine blk_drew ?_ | refine blk_alloc ?_ _)); refine blk_put (cs := #[.string ((rd_T27 l0_2 x30_2).f0), .slice none 0 0, .slice none 0 0]) ?_ 1 _ rfl; (with_reducible repeat (first | refine blk_drewN ?_ _ | refine blk_drew ?_ | refine blk_alloc ?_ _)); refine blk_put (cs := #[.string (⟨#[]⟩ : ByteArray), .slice none 0 0, .slice none 0 0]) ?_ 0 _ rfl; (with_reducible repeat (first | refine blk_drewN ?_ _ | refine blk_drew ?_ | refine blk_alloc ?_ _)); exact BK408.out) hb); have n2_ := Aside0.mk (below_step (by repeat (first | (with_reducible first | exact HB.out | apply below_alloc | apply pw_below_drewN | apply below_drew1 | refine below_set ?_ GE404.out | refine below_set ?_ GE408.out) | exact HB.out)) hb); clear BK404; clear BK408; clear HB; have BK404 := n0_; have BK408 := n1_; have HB := n2_; clear n0_ n1_ n2_; (try clear hb); (try clear hb2); (try clear hk); (try clear hi)))
                    go_ret2
                    exact ⟨by first | rfl | (simp [errW_none, errW_some] <;> rfl) | (simp [*, errW_none, errW_some] <;> rfl), by repeat (first | (with_reducible first | exact HB.out | apply below_alloc | apply pw_below_drewN | apply below_drew1 | refine below_set ?_ GE404.out | refine below_set ?_ GE408.out) | exact HB.out)⟩
                  · replace c20 := Bool.eq_false_iff.mpr c20
                    subst c20
                    have H1 : (encode_most.l1 k2 t409 l0_2 (l0_2.length : Int) (wrap64 (x30_2 + 1))) = some (r1, r2) := by rw [if_neg (show ¬ (false = true) by decide)] at H; exact H
                    clear H
                    have H := H1
                    clear H1
                    have H' := Aside0.mk H
                    clear H
                    have p407 : 0 ≤ (x30_2 : Int) := of_decide_eq_true (by first | (with_reducible assumption) | assumption)
                    have q407 : x30_2 < (l0_2.length : Int) := of_decide_eq_true (by first | (with_reducible assumption) | assumption)
                    obtain ⟨ad407, A407_1, c407_1, A407_2, c407_2, e407, hx407_0, hx407_1, hx407_2, hl407_1, hi407_1, hl407_2, hi407_2⟩ := at_T27 HR0_2.out x30_2 p407 q407
                    cases e407
                    replace hx407_0 := (HB.out.cell (World.block_lt_of_cell? w _ hx407_0)).trans hx407_0
                    replace hx407_1 := (HB.out.cell (World.block_lt_of_cell? w _ hx407_1)).trans hx407_1
                    replace hx407_2 := (HB.out.cell (World.block_lt_of_cell? w _ hx407_2)).trans hx407_2
                    have HR407_1 := Aside0.mk hi407_1
                    have HC407_1 := Aside0.mk hl407_1
                    clear hi407_1 hl407_1
                    have HR407_2 := Aside0.mk hi407_2
                    have HC407_2 := Aside0.mk hl407_2
                    clear hi407_2 hl407_2
                    replace p407 := eq_true p407
                    replace q407 := eq_true q407
                    go_wp2_with (first | ((with_reducible refine gate_dst (N := 9) rfl ?_); refine box_event ?hg (N := 9) ?hd (cs := #[.string (⟨#[]⟩ : ByteArray), .slice none 0 0, .slice none 0 0]) (t := 27) ?hr ?_; (case hd => rfl); (case hg => rfl); (case hr => first | (go_simp; done) | (go_simp; rfl)); intro gb408 hg w25 hbox hb; have n0_ := Aside0.mk (blk_below (g := gb404) (o := .cells #[.string a0_0, .slice A0_1 l0_1.length c0_1, .slice (some ad407) l0_2.length c0_2] 27 (0, 0)) (by (with_reducible repeat (first | refine blk_drewN ?_ _ | refine blk_drew ?_ | refine blk_alloc ?_ _)); exact BK404.out) hb); have n1_ := Aside0.mk (below_step (by repeat (first | (with_reducible first | exact HB.out | apply below_alloc | apply pw_below_drewN | apply below_drew1 | refine below_set ?_ GE404.out) | exact HB.out)) hb); have n2_ := Aside0.mk (hbox); have n3_ := Aside0.mk ((by rw [hg]; exact (below_size (by repeat (first | (with_reducible first | exact HB.out | apply below_alloc | apply pw_below_drewN | apply below_drew1 | refine below_set ?_ GE404.out) | exact HB.out))) : w.heap.size ≤ gb408)); have n4_ := Aside0.mk ((by rw [hg]; exact (below_size (by repeat (first | (with_reducible first | exact HB.out | apply below_alloc | apply pw_below_drewN | apply below_drew1 | refine below_set ?_ GE404.out) | exact HB.out))) : w.heap.size ≤ gb408)); have n5_ := Aside0.mk ((by rw [hg]; exact Nat.ne_of_lt (blk_lt (g := gb404) (o := .cells #[.string a0_0, .slice A0_1 l0_1.length c0_1, .slice (some ad407) l0_2.length c0_2] 27 (0, 0)) (by (with_reducible repeat (first | refine blk_drewN ?_ _ | refine blk_drew ?_ | refine blk_alloc ?_ _)); exact BK404.out)) : gb404 ≠ gb408)); have n6_ := Aside0.mk ((by rw [hg]; exact Nat.ne_of_gt (blk_lt (g := gb404) (o := .cells #[.string a0_0, .slice A0_1 l0_1.length c0_1, .slice (some ad407) l0_2.length c0_2] 27 (0, 0)) (by (with_reducible repeat (first | refine blk_drewN ?_ _ | refine blk_drew ?_ | refine blk_alloc ?_ _)); exact BK404.out)) : gb408 ≠ gb404)); clear BK404; clear HB; have BK404 := n0_; have HB := n1_; have BK408 := n2_; have GW408 := n3_; have GE408 := n4_; have NB404_408 := n5_; have NB408_404 := n6_; clear n0_ n1_ n2_ n3_ n4_ n5_ n6_; clear hb hbox hg; have hnb26 := NB408_404.out; have hnc26 := NB404_408.out; have hcz27_0 : w25.cell? ⟨gb408, 0, none⟩ = some (.string (⟨#[]⟩ : ByteArray)) := (blk_cell BK408.out 0).trans rfl; have hcz27_1 : w25.cell? ⟨gb408, 1, none⟩ = some (.slice none 0 0) := (blk_cell BK408.out 1).trans rfl; have hcz27_2 : w25.cell? ⟨gb408, 2, none⟩ = some (.slice none 0 0) := (blk_cell BK408.out 2).trans rfl; have hfz27_0 := blk_frozen BK408.out 0; have hfz27_1 := blk_frozen BK408.out 1; have hfz27_2 := blk_frozen BK408.out 2) | ((with_reducible refine gate_callee (f := 47) rfl ?_); refine goesL_ (some 37) rfl rfl Try.func47 (by kernel_rfl) rfl #[.agg #[.string ((rd_T27 l0_2 x30_2).f0), .slice A407_1 ((rd_T27 l0_2 x30_2).f1).length c407_1, .slice A407_2 ((rd_T27 l0_2 x30_2).f2).length c407_2], .int .i64 x1_2] rfl (by (try simp only [List.map_toArray, List.map_cons, List.map_nil]); first | done | rfl | (simp only [List.length_drop, List.length_take]; rfl)) ?_; (with_reducible refine (ih k2 (by have := HK1.out; have := HK2.out; omega) ((rd_T27 l0_2 x30_2).f0) _ _ ((rd_T27 l0_2 x30_2).f1) _ _ ((rd_T27 l0_2 x30_2).f2) x1_2 t409 false _ ?side1 ?side2 ?side3 ?side4 A19.out).mono ?_); (case side1 => exact Kd.C_below HR407_1.out (by repeat (first | (with_reducible first | exact HB.out | apply below_alloc | apply pw_below_drewN | apply below_drew1 | refine below_set ?_ GE404.out | refine below_set ?_ GE408.out) | exact HB.out))); (case side2 => exact HC407_1.out); (case side3 => exact Kd.C_below HR407_2.out (by repeat (first | (with_reducible first | exact HB.out | apply below_alloc | apply pw_below_drewN | apply below_drew1 | refine below_set ?_ GE404.out | refine below_set ?_ GE408.out) | exact HB.out))); (case side4 => exact HC407_2.out); rintro e w28 ⟨rfl, hb⟩; refine ⟨_, rfl, ?_⟩; have n0_ := Aside0.mk (blk_below (g := gb404) (o := .cells #[.string a0_0, .slice A0_1 l0_1.length c0_1, .slice (some ad407) l0_2.length c0_2] 27 (0, 0)) (by (with_reducible repeat (first | refine blk_drewN ?_ _ | refine blk_drew ?_ | refine blk_alloc ?_ _)); refine blk_far ?_ NB404_408.out _; (with_reducible repeat (first | refine blk_drewN ?_ _ | refine blk_drew ?_ | refine blk_alloc ?_ _)); refine blk_far ?_ NB404_408.out _; (with_reducible repeat (first | refine blk_drewN ?_ _ | refine blk_drew ?_ | refine blk_alloc ?_ _)); refine blk_far ?_ NB404_408.out _; (with_reducible repeat (first | refine blk_drewN ?_ _ | refine blk_drew ?_ | refine blk_alloc ?_ _)); exact BK404.out) hb); have n1_ := Aside0.mk (blk_below (g := gb408) (o := .cells #[.string ((rd_T27 l0_2 x30_2).f0), .slice A407_1 ((rd_T27 l0_2 x30_2).f1).length c407_1, .slice A407_2 ((rd_T27 l0_2 x30_2).f2).length c407_2] 27 (0, 0)) (by (with_reducible repeat (first | refine blk_drewN ?_ _ | refine blk_drew ?_ | refine blk_alloc ?_ _)); refine blk_put (cs := #[.string ((rd_T27 l0_2 x30_2).f0), .slice A407_1 ((rd_T27 l0_2 x30_2).f1).length c407_1, .slice none 0 0]) ?_ 2 _ rfl; (with_reducible repeat (first | refine blk_drewN ?_ _ | refine blk_drew ?_ | refine blk_alloc ?_ _)); refine blk_put (cs := #[.string ((rd_T27 l0_2 x30_2).f0), .slice none 0 0, .slice none 0 0]) ?_ 1 _ rfl; (with_reducible repeat (first | refine blk_drewN ?_ _ | refine blk_drew ?_ | refine blk_alloc ?_ _)); refine blk_put (cs := #[.string (⟨#[]⟩ : ByteArray), .slice none 0 0, .slice none 0 0]) ?_ 0 _ rfl; (with_reducible repeat (first | refine blk_drewN ?_ _ | refine blk_drew ?_ | refine blk_alloc ?_ _)); exact BK408.out) hb); have n2_ := Aside0.mk (below_step (by repeat (first | (with_reducible first | exact HB.out | apply below_alloc | apply pw_below_drewN | apply below_drew1 | refine below_set ?_ GE404.out | refine below_set ?_ GE408.out) | exact HB.out)) hb); clear BK404; clear BK408; clear HB; have BK404 := n0_; have BK408 := n1_; have HB := n2_; clear n0_ n1_ n2_; (try clear hb); (try clear hb2); (try clear hk); (try clear hi)))
                    go_roundg k2
                    case measure => have := HK1.out; have := HK2.out; omega
                    case rel => exact ⟨(t409), (wrap64 (x30_2 + 1)), (by first | rfl | (simp; done) | (simp [*]; done)), (by first | rfl | (simp; done) | (simp [*]; done)), H', ⟨by have := HK1.out; have := HK2.out; omega⟩, ⟨by (with_reducible repeat (first | refine blk_drewN ?_ _ | refine blk_drew ?_ | refine blk_alloc ?_ _)); exact BK404.out⟩, ⟨by repeat (first | (with_reducible first | exact HB.out | apply below_alloc | apply pw_below_drewN | apply below_drew1 | refine below_set ?_ GE404.out | refine below_set ?_ GE408.out) | exact HB.out)⟩⟩
                · rw [if_neg c18] at H
                  exact absurd H (by simp)
              · rw [if_neg c17] at H
                exact absurd H (by simp)
            · rw [if_neg c16] at H
              have c16b0 : decide (x30_2 < (l0_2.length : Int)) = false := decide_eq_false c16
              clear c16
              simp only [Option.some.injEq, Prod.mk.injEq] at H
              obtain ⟨rfl, rfl⟩ := H
              go_wp2
              go_ret2
              exact ⟨by first | rfl | (simp [errW_none, errW_some] <;> rfl) | (simp [*, errW_none, errW_some] <;> rfl), by repeat (first | (with_reducible first | exact HB.out | apply below_alloc | apply pw_below_drewN | apply below_drew1 | refine below_set ?_ GE404.out) | exact HB.out)⟩
end Go.Proofs.Ytkopmkinlanhoaa.PE

namespace Go.Proofs.Ytkopmkinlanhoaa.PE
open Go.RowKit Go.Proofs.YtkopmkinlanhoaaW.PrintWords Go.Proofs.YtkopmkinlanhoaaW.PrintLast Go.Proofs.YtkopmkinlanhoaaW.PrintMore
attribute [local go_sem] max2_int min2_int max_two min_two max_three min_three max_four min_four   -- for this text's walks alone
set_option linter.unusedVariables false
set_option linter.unusedSimpArgs false
def bytes_Clone.f (l0 : List Int) : Option (List Int) := if l0.length < 140737488355328 then (some l0) else (none)
set_option maxRecDepth 100000 in
theorem bytes_Clone.calls (A0 : Option Addr) (c0 : Nat) (l0 : List Int) (r : List Int) (w : World) (hr0 : Kd.C (Kd.int .u8) w A0 l0.length l0) (hc0 : l0.length ≤ c0) (h : bytes_Clone.f l0 = some r) :
    Calls Try.prog 79 #[.slice A0 l0.length c0] w fun e w' => ∃ v0_ : Value, e = .returned (v0_) ∧ Kd.R (Kd.int .u8) 5 w' w.heap.size (fun _ => True) v0_ r ∧ Below w.heap.size w w' := by
  unfold bytes_Clone.f at h
  by_cases c3 : l0.length < 140737488355328
  · rw [if_pos c3] at h
    injection h with h
    subst h
    have HR0 := Aside0.mk hr0
    have HC0 := Aside0.mk hc0
    clear hr0 hc0
    have HB := Aside0.mk (Below.refl w.heap.size w)
    have LMc3 := Aside0.mk c3
    clear c3
    cases A0 with
    | none =>
      have hn : l0 = [] := by
        cases l0 with
        | nil => rfl
        | cons x r =>
          obtain ⟨ad, he, _⟩ := HR0.out.2.2 (by simp)
          cases he
      subst hn
      have q := fun w' : World => Lib.run_eql_slice_nil (P := Try.prog) w' 45 5 none ([] : List Int).length c0 0 0 Try.underlying45
      simp only [Option.isNone_none, List.length_nil] at q
      go_enter Try.func79, Try.ntmps79
      go_wp2
      go_ret
      exact ⟨_, rfl, Kd.R_nil _ _ _ _ _, Below.refl _ _⟩
    | some x0 =>
      have q := fun w' : World => Lib.run_eql_slice_nil (P := Try.prog) w' 45 5 (some x0) l0.length c0 0 0 Try.underlying45
      simp only [Option.isNone_some] at q
      obtain ⟨y5, hy5⟩ : ∃ y_ : List Int, y_ = [] := ⟨_, rfl⟩
      have Ny5 := Aside0.mk hy5
      clear hy5
      obtain ⟨y7, hy7⟩ : ∃ y_ : List Int, y_ = y5 ++ l0 := ⟨_, rfl⟩
      have Ny7 := Aside0.mk hy7
      clear hy7
      go_enter Try.func79, Try.ntmps79
      go_wp2_with (first | ((with_reducible refine gate_dst (N := 5) rfl ?_); refine Kd.R_lit (Kd.int .u8) _ 5 ?hg (N := 5) ?hd (xs := ([] : List Int)) (inner := []) (ok := fun _ => True) (okp := fun _ => True) ?hr ?hp (fun _ hk => hk) trivial (Below.refl _ _) (Nat.le_refl _) (by simp) ?_; (case hd => rfl); (case hg => rfl); (case hr => first | (go_simp; done) | (go_simp; rfl)); (case hp => exact (Reps.none _ _)); intro v5 w5 ho6 hb hg_ hnew_; clear hg_ hnew_; rw [← Ny5.out] at ho6; have n0_ := Aside0.mk (Kd.R_lower (base' := w.heap.size) ho6 (below_size (by repeat (first | (with_reducible first | exact HB.out | apply below_alloc | apply pw_below_drewN | apply below_drew1) | exact HB.out)))); have n2_ := Aside0.mk (below_step (by repeat (first | (with_reducible first | exact HB.out | apply below_alloc | apply pw_below_drewN | apply below_drew1) | exact HB.out)) hb); clear HB; have HO5 := n0_; have HB := n2_; clear n0_ n2_; clear hb ho6) | ((with_reducible refine gate_builtin (b := .append) (xs := #[.tmp 5, .tmp 6]) rfl ?_); at_builtin; refine Kd.R_append_rows (Kd.int .u8) (w0 := w) w.heap.size rfl (.tmp 5) (.tmp 6) 45 5 (.int .u8 0) 1 rfl Try.underlying45 info5 rfl (by decide) (by omega) v5 y5 l0 _ _ _ (fun _ => True) (fun _ => False) rfl rfl ?aO ?aR (fun _ _ h => h) (fun _ h => h.elim) (fun _ _ => trivial) ?aB ?aS ?aL ?_; (case aR => repeat (first | exact (Kd.C_below HR0.out HB.out) | (with_reducible refine Kd.C_alloc ?_ _) | (with_reducible refine Kd.C_drewN ?_ _) | (with_reducible refine Kd.C_drew ?_))); (case aB => exact (by repeat (first | (with_reducible first | exact HB.out | apply below_alloc | apply pw_below_drewN | apply below_drew1) | exact HB.out))); (case aO => exact (by (with_reducible repeat (first | apply Kd.R_alloc | apply Kd.R_drewN | apply Kd.R_drew)); exact HO5.out)); (case aS => exact (below_size (by repeat (first | (with_reducible first | exact HB.out | apply below_alloc | apply pw_below_drewN | apply below_drew1) | exact HB.out)))); (case aL => have := LMc3.out; rw [Ny5.out]; simp; omega); intro v7 w7 ho hb hg hat; rw [← Ny7.out] at ho; have n1_ := Aside0.mk (hb); have n2_ := Aside0.mk (ho); clear HB; clear HO5; have HB := n1_; have HO7 := n2_; clear n1_ n2_; clear ho hb hg hat))
      go_ret
      exact ⟨_, rfl, by have e7 : y7 = l0 := (by rw [Ny7.out, Ny5.out]; rfl); rw [← e7]; (with_reducible repeat (first | apply Kd.R_alloc | apply Kd.R_drewN | apply Kd.R_drew)); exact HO7.out, by repeat (first | (with_reducible first | exact HB.out | apply below_alloc | apply pw_below_drewN | apply below_drew1) | exact HB.out)⟩
  · rw [if_neg c3] at h
    cases h
end Go.Proofs.Ytkopmkinlanhoaa.PE

namespace Go.Proofs.Ytkopmkinlanhoaa.PE
open Go.RowKit Go.Proofs.YtkopmkinlanhoaaW.PrintWords Go.Proofs.YtkopmkinlanhoaaW.PrintLast Go.Proofs.YtkopmkinlanhoaaW.PrintMore
attribute [local go_sem] max2_int min2_int max_two min_two max_three min_three max_four min_four   -- for this text's walks alone
set_option linter.unusedVariables false
set_option linter.unusedSimpArgs false
def bytes_Equal.f (l0 : List Int) (l1 : List Int) : Option (Bool) := some ((strOfNums l0).toList == (strOfNums l1).toList)
set_option maxHeartbeats 8000000 in
set_option maxRecDepth 100000 in
theorem bytes_Equal.calls (A0 : Option Addr) (c0 : Nat) (l0 : List Int) (A1 : Option Addr) (c1 : Nat) (l1 : List Int) (r : Bool) (w : World) (hr0 : Kd.C (Kd.int .u8) w A0 l0.length l0) (hc0 : l0.length ≤ c0) (hr1 : Kd.C (Kd.int .u8) w A1 l1.length l1) (hc1 : l1.length ≤ c1) (h : bytes_Equal.f l0 l1 = some r) :
    Calls Try.prog 55 #[.slice A0 l0.length c0, .slice A1 l1.length c1] w fun e w' => e = .returned (.bool r) ∧ Drawn0 w w' := by
  have HR0 := Aside0.mk hr0
  have HC0 := Aside0.mk hc0
  clear hr0 hc0
  have HR1 := Aside0.mk hr1
  have HC1 := Aside0.mk hc1
  clear hr1 hc1
  have H : (some ((strOfNums l0).toList == (strOfNums l1).toList)) = some r := h
  clear h
  obtain rfl := Option.some.inj H
  have hcv3 := Kd.C_string (P := Try.prog) (A := A0) (c := c0) Try.underlying45 Try.underlying5 Try.underlying9 HR0.out
  have hcv3d := fun nd_ : Nat => Kd.C_string (P := Try.prog) (A := A0) (c := c0) Try.underlying45 Try.underlying5 Try.underlying9 (Kd.C_drewN HR0.out nd_)
  have hcv4 := Kd.C_string (P := Try.prog) (A := A1) (c := c1) Try.underlying45 Try.underlying5 Try.underlying9 HR1.out
  have hcv4d := fun nd_ : Nat => Kd.C_string (P := Try.prog) (A := A1) (c := c1) Try.underlying45 Try.underlying5 Try.underlying9 (Kd.C_drewN HR1.out nd_)
  go_enter Try.func55, Try.ntmps55
  go_wp2
  go_ret
  exact ⟨by first | rfl | (simp; done) | (simp [*]; done), by repeat (first | exact Drawn0.refl _ | apply Drawn0.step)⟩
end Go.Proofs.Ytkopmkinlanhoaa.PE

namespace Go.Proofs.Ytkopmkinlanhoaa.PE
open Go.RowKit Go.Proofs.YtkopmkinlanhoaaW.PrintWords Go.Proofs.YtkopmkinlanhoaaW.PrintLast Go.Proofs.YtkopmkinlanhoaaW.PrintMore
attribute [local go_sem] max2_int min2_int max_two min_two max_three min_three max_four min_four   -- for this text's walks alone
set_option linter.unusedVariables false
set_option linter.unusedSimpArgs false
def slices_Clone_byte_byte.f (l0 : List Int) : Option (List Int) := if l0.length < 140737488355328 then (some l0) else (none)
set_option maxRecDepth 100000 in
theorem slices_Clone_byte_byte.calls (A0 : Option Addr) (c0 : Nat) (l0 : List Int) (r : List Int) (w : World) (hr0 : Kd.C (Kd.int .u8) w A0 l0.length l0) (hc0 : l0.length ≤ c0) (h : slices_Clone_byte_byte.f l0 = some r) :
    Calls Try.prog 93 #[.slice A0 l0.length c0] w fun e w' => ∃ v0_ : Value, e = .returned (v0_) ∧ Kd.R (Kd.int .u8) 5 w' w.heap.size (fun _ => True) v0_ r ∧ Below w.heap.size w w' := by
  unfold slices_Clone_byte_byte.f at h
  by_cases c3 : l0.length < 140737488355328
  · rw [if_pos c3] at h
    injection h with h
    subst h
    have HR0 := Aside0.mk hr0
    have HC0 := Aside0.mk hc0
    clear hr0 hc0
    have HB := Aside0.mk (Below.refl w.heap.size w)
    have LMc3 := Aside0.mk c3
    clear c3
    cases A0 with
    | none =>
      have hn : l0 = [] := by
        cases l0 with
        | nil => rfl
        | cons x r =>
          obtain ⟨ad, he, _⟩ := HR0.out.2.2 (by simp)
          cases he
      subst hn
      have q := fun w' : World => Lib.run_eql_slice_nil (P := Try.prog) w' 45 5 none ([] : List Int).length c0 0 0 Try.underlying45
      simp only [Option.isNone_none, List.length_nil] at q
      go_enter Try.func93, Try.ntmps93
      go_wp2
      go_ret
      exact ⟨_, rfl, Kd.R_nil _ _ _ _ _, Below.refl _ _⟩
    | some x0 =>
      have q := fun w' : World => Lib.run_eql_slice_nil (P := Try.prog) w' 45 5 (some x0) l0.length c0 0 0 Try.underlying45
      simp only [Option.isNone_some] at q
      obtain ⟨y5, hy5⟩ : ∃ y_ : List Int, y_ = [] := ⟨_, rfl⟩
      have Ny5 := Aside0.mk hy5
      clear hy5
      obtain ⟨y7, hy7⟩ : ∃ y_ : List Int, y_ = y5 ++ l0 := ⟨_, rfl⟩
      have Ny7 := Aside0.mk hy7
      clear hy7
      go_enter Try.func93, Try.ntmps93
      go_wp2_with (first | ((with_reducible refine gate_dst (N := 5) rfl ?_); refine Kd.R_lit (Kd.int .u8) _ 5 ?hg (N := 5) ?hd (xs := ([] : List Int)) (inner := []) (ok := fun _ => True) (okp := fun _ => True) ?hr ?hp (fun _ hk => hk) trivial (Below.refl _ _) (Nat.le_refl _) (by simp) ?_; (case hd => rfl); (case hg => rfl); (case hr => first | (go_simp; done) | (go_simp; rfl)); (case hp => exact (Reps.none _ _)); intro v5 w5 ho6 hb hg_ hnew_; clear hg_ hnew_; rw [← Ny5.out] at ho6; have n0_ := Aside0.mk (Kd.R_lower (base' := w.heap.size) ho6 (below_size (by repeat (first | (with_reducible first | exact HB.out | apply below_alloc | apply pw_below_drewN | apply below_drew1) | exact HB.out)))); have n2_ := Aside0.mk (below_step (by repeat (first | (with_reducible first | exact HB.out | apply below_alloc | apply pw_below_drewN | apply below_drew1) | exact HB.out)) hb); clear HB; have HO5 := n0_; have HB := n2_; clear n0_ n2_; clear hb ho6) | ((with_reducible refine gate_builtin (b := .append) (xs := #[.tmp 5, .tmp 6]) rfl ?_); at_builtin; refine Kd.R_append_rows (Kd.int .u8) (w0 := w) w.heap.size rfl (.tmp 5) (.tmp 6) 45 5 (.int .u8 0) 1 rfl Try.underlying45 info5 rfl (by decide) (by omega) v5 y5 l0 _ _ _ (fun _ => True) (fun _ => False) rfl rfl ?aO ?aR (fun _ _ h => h) (fun _ h => h.elim) (fun _ _ => trivial) ?aB ?aS ?aL ?_; (case aR => repeat (first | exact (Kd.C_below HR0.out HB.out) | (with_reducible refine Kd.C_alloc ?_ _) | (with_reducible refine Kd.C_drewN ?_ _) | (with_reducible refine Kd.C_drew ?_))); (case aB => exact (by repeat (first | (with_reducible first | exact HB.out | apply below_alloc | apply pw_below_drewN | apply below_drew1) | exact HB.out))); (case aO => exact (by (with_reducible repeat (first | apply Kd.R_alloc | apply Kd.R_drewN | apply Kd.R_drew)); exact HO5.out)); (case aS => exact (below_size (by repeat (first | (with_reducible first | exact HB.out | apply below_alloc | apply pw_below_drewN | apply below_drew1) | exact HB.out)))); (case aL => have := LMc3.out; rw [Ny5.out]; simp; omega); intro v7 w7 ho hb hg hat; rw [← Ny7.out] at ho; have n1_ := Aside0.mk (hb); have n2_ := Aside0.mk (ho); clear HB; clear HO5; have HB := n1_; have HO7 := n2_; clear n1_ n2_; clear ho hb hg hat))
      go_ret
      exact ⟨_, rfl, by have e7 : y7 = l0 := (by rw [Ny7.out, Ny5.out]; rfl); rw [← e7]; (with_reducible repeat (first | apply Kd.R_alloc | apply Kd.R_drewN | apply Kd.R_drew)); exact HO7.out, by repeat (first | (with_reducible first | exact HB.out | apply below_alloc | apply pw_below_drewN | apply below_drew1) | exact HB.out)⟩
  · rw [if_neg c3] at h
    cases h
end Go.Proofs.Ytkopmkinlanhoaa.PE

namespace Go.Proofs.Ytkopmkinlanhoaa.PE
open Go.RowKit Go.Proofs.YtkopmkinlanhoaaW.PrintWords Go.Proofs.YtkopmkinlanhoaaW.PrintLast Go.Proofs.YtkopmkinlanhoaaW.PrintMore
attribute [local go_sem] max2_int min2_int max_two min_two max_three min_three max_four min_four   -- for this text's walks alone
set_option linter.unusedVariables false
set_option linter.unusedSimpArgs false
def words_put.l0 : Nat → Int → List Int → Int → Option (List Int)
  | 0, _, _, _ => none
  | k + 1, x1, x7, x8 => if x8 ≥ 0 then (if 0 ≤ (wrap64 (8 * x8)) then (if x7.length < 140737488355328 then (words_put.l0 k x1 (x7 ++ [(shr .u64 x1 (wrap64 (8 * x8))) % 256]) (wrap64 (x8 - 1))) else (none)) else (none)) else (some x7)
def words_put.f (k : Nat) (l0 : List Int) (a1 : Int) (a2 : Int) : Option (List Int) := (slices_Clone_byte_byte.f l0).bind fun t411 => (words_put.l0 k a1 t411 (wrap64 (a2 - 1)))
set_option maxHeartbeats 8000000 in
set_option maxRecDepth 100000 in
theorem words_put.calls (k : Nat) (A0 : Option Addr) (c0 : Nat) (l0 : List Int) (a1 : Int) (a2 : Int) (r : List Int) (w : World) (hr0 : Kd.C (Kd.int .u8) w A0 l0.length l0) (hc0 : l0.length ≤ c0) (h : words_put.f k l0 a1 a2 = some r) :
    Calls Try.prog 76 #[.slice A0 l0.length c0, .int .u64 a1, .int .i64 a2] w fun e w' => ∃ v0_ : Value, e = .returned (v0_) ∧ Kd.R (Kd.int .u8) 5 w' w.heap.size (fun _ => True) v0_ r ∧ Below w.heap.size w w' := by
  have HR0 := Aside0.mk hr0
  have HC0 := Aside0.mk hc0
  clear hr0 hc0
  have HB := Aside0.mk (Below.refl w.heap.size w)
  have H : ((slices_Clone_byte_byte.f l0).bind fun t411 => (words_put.l0 k a1 t411 (wrap64 (a2 - 1)))) = some r := h
  clear h
  replace H := Option.bind_eq_some_iff.mp H
  obtain ⟨t411, A40, H⟩ := H
  replace H : (words_put.l0 k a1 t411 (wrap64 (a2 - 1))) = some r := H
  have A4 := Aside0.mk A40
  clear A40
  have H' := Aside0.mk H
  clear H
  go_enter Try.func76, Try.ntmps76
  go_wp2_with (first | ((with_reducible refine gate_callee (f := 93) rfl ?_); refine goesL_ (some 10) rfl rfl Try.func93 (by kernel_rfl) rfl #[.slice A0 l0.length c0] rfl (by (try simp only [List.map_toArray, List.map_cons, List.map_nil]); first | done | rfl | (simp only [List.length_drop, List.length_take]; rfl)) ?_; (with_reducible refine (slices_Clone_byte_byte.calls _ _ l0 t411 _ ?side1 ?side2 A4.out).mono ?_); (case side1 => repeat (first | exact HR0.out | (with_reducible refine Kd.C_alloc ?_ _) | (with_reducible refine Kd.C_drewN ?_ _) | (with_reducible refine Kd.C_drew ?_))); (case side2 => exact HC0.out); rintro e w5 ⟨v412, rfl, ho0, hb⟩; refine ⟨_, rfl, ?_⟩; have n0_ := Aside0.mk (Kd.R_lower ho0 (below_size (by repeat (first | (with_reducible first | exact HB.out | apply below_alloc | apply pw_below_drewN | apply below_drew1) | exact HB.out)))); have n1_ := Aside0.mk (below_step (by repeat (first | (with_reducible first | exact HB.out | apply below_alloc | apply pw_below_drewN | apply below_drew1) | exact HB.out)) hb); clear HB; have HO413 := n0_; have HB := n1_; clear n0_ n1_; (try clear hb); (try clear hb2); (try clear hk); (try clear hi); (try clear ho0)))
  go_loopg [7, 8] k (fun kq v7 v8 w' => ∃ (x7_1 : List Int) (x8_1 : Int), v8 = .int .i64 x8_1 ∧ Aside0 (words_put.l0 kq a1 x7_1 x8_1 = some r) ∧ Aside0 (kq ≤ k) ∧ Aside0 (Kd.R (Kd.int .u8) 5 w' w.heap.size (fun _ => True) v7 x7_1) ∧ Aside0 (Below w.heap.size w w'))
  case atStart => exact ⟨(t411), (wrap64 (a2 - 1)), (by first | rfl | (simp; done) | (simp [*]; done)), H', ⟨Nat.le_refl _⟩, ⟨by (with_reducible repeat (first | apply Kd.R_alloc | apply Kd.R_drewN | apply Kd.R_drew)); exact HO413.out⟩, ⟨by repeat (first | (with_reducible first | exact HB.out | apply below_alloc | apply pw_below_drewN | apply below_drew1) | exact HB.out)⟩⟩
  case round =>
    clear H'
    try clear p2
    obtain ⟨x7_1, x8_1, rfl, HA, HK1, HO_7, HB⟩ := hrel
    cases gk with
    | zero => exact absurd HA.out (by simp [words_put.l0])
    | succ k1 =>
      have H := HA.out
      clear HA
      simp only [words_put.l0] at H
      by_cases c6 : x8_1 ≥ 0
      · rw [if_pos c6] at H
        have c6b0 : decide (0 ≤ x8_1) = true := decide_eq_true c6
        clear c6
        obtain ⟨ji7, hji7⟩ : ∃ j_ : Int, (wrap64 (8 * x8_1)) = j_ := ⟨_, rfl⟩
        replace H : (if 0 ≤ (ji7) then (if x7_1.length < 140737488355328 then (words_put.l0 k1 a1 (x7_1 ++ [(shr .u64 a1 (ji7)) % 256]) (wrap64 (x8_1 - 1))) else (none)) else (none)) = some r := by first | (rw [hji7] at H; exact H) | (simp only [hji7] at H ⊢; exact H)
        have hji7w : (IntKind.i64.wrap (8 * x8_1)) = ji7 := (i64_w _).trans hji7
        by_cases c8 : 0 ≤ (ji7)
        · rw [if_pos c8] at H
          have c8b0 := eq_true c8
          have c8b1 : decide (0 ≤ (ji7)) = true := decide_eq_true c8
          clear c8
          obtain ⟨ji9, hji9⟩ : ∃ j_ : Int, (shr .u64 a1 (ji7)) = j_ := ⟨_, rfl⟩
          replace H : (if x7_1.length < 140737488355328 then (words_put.l0 k1 a1 (x7_1 ++ [(ji9) % 256]) (wrap64 (x8_1 - 1))) else (none)) = some r := by first | (rw [hji9] at H; exact H) | (simp only [hji9] at H ⊢; exact H)
          have hji9_ : (a1 / 2 ^ min (ji7).toNat 64) = ji9 := hji9
          have hji9z : (ji7) ≤ 64 → (a1 / 2 ^ (ji7).toNat) = ji9 := shr_small hji9
          by_cases c10 : x7_1.length < 140737488355328
          · rw [if_pos c10] at H
            have LMc10 := Aside0.mk c10
            clear c10
            obtain ⟨y414, hy414⟩ : ∃ y_ : List Int, y_ = (x7_1 ++ [(ji9) % 256]) := ⟨_, rfl⟩
            replace H : (words_put.l0 k1 a1 y414 (wrap64 (x8_1 - 1))) = some r := by first | (rw [hy414]; with_reducible exact H) | (have H2_ := (Option.bind_some _ _).symm.trans H; rw [hy414]; with_reducible exact H2_) | (have H2_ := (Option.bind_some _ _).symm.trans H; with_reducible exact H2_) | with_reducible exact H | (rw [hy414]; exact H) | exact H
            have Ny414 := Aside0.mk hy414
            clear hy414
            have H' := Aside0.mk H
            clear H
            go_wp2_with (first | ((with_reducible refine gate_builtin (b := .append) (xs := #[.tmp 17, .tmp 23]) rfl ?_); at_builtin; refine Kd.R_append (Kd.int .u8) (w0 := w) w.heap.size rfl (.tmp 17) (.tmp 23) 45 5 (.int .u8 0) 1 rfl Try.underlying45 info5 rfl (by decide) (by omega) u7 x7_1 ((ji9) % 256) [.int .u8 ((ji9) % 256)] (fun _ => True) (fun _ => False) rfl rfl ?aP (fun _ hk => hk.elim) ?aF ?aO ?aB ?aS ?aL ?_; (case aP => exact rfl); (case aB => exact (by repeat (first | (with_reducible first | exact HB.out | apply below_alloc | apply pw_below_drewN | apply below_drew1) | exact HB.out))); (case aF => exact (fun _ _ => trivial)); (case aO => exact (by (with_reducible repeat (first | apply Kd.R_alloc | apply Kd.R_drewN | apply Kd.R_drew)); exact HO_7.out)); (case aS => exact (below_size (by repeat (first | (with_reducible first | exact HB.out | apply below_alloc | apply pw_below_drewN | apply below_drew1) | exact HB.out)))); (case aL => have := LMc10.out; omega); intro v415 w11 ho hb hg hat; rw [← Ny414.out] at ho; have n0_ := Aside0.mk (hb); have n1_ := Aside0.mk (ho); clear HB; clear HO_7; have HB := n0_; have HO416 := n1_; clear n0_ n1_; clear ho hb hg hat))
            first | (go_roundg k1) | ((try subst hji7); (try subst hji9); go_roundg k1)
            case measure => have := HK1.out; omega
            case rel => exact ⟨(y414), (wrap64 (x8_1 - 1)), (by first | rfl | (simp; done) | (simp [*]; done)), H', ⟨by have := HK1.out; omega⟩, ⟨by (with_reducible repeat (first | apply Kd.R_alloc | apply Kd.R_drewN | apply Kd.R_drew)); exact HO416.out⟩, ⟨by repeat (first | (with_reducible first | exact HB.out | apply below_alloc | apply pw_below_drewN | apply below_drew1) | exact HB.out)⟩⟩
          · rw [if_neg c10] at H
            exact absurd H (by simp)
        · rw [if_neg c8] at H
          exact absurd H (by simp)
      · rw [if_neg c6] at H
        have c6b0 : decide (0 ≤ x8_1) = false := decide_eq_false c6
        clear c6
        obtain rfl := Option.some.inj H
        go_wp2
        go_ret
        exact ⟨_, by first | rfl | (simp [errW_none, errW_some] <;> rfl) | (simp [*, errW_none, errW_some] <;> rfl), by (with_reducible repeat (first | apply Kd.R_alloc | apply Kd.R_drewN | apply Kd.R_drew)); exact HO_7.out, by repeat (first | (with_reducible first | exact HB.out | apply below_alloc | apply pw_below_drewN | apply below_drew1) | exact HB.out)⟩
end Go.Proofs.Ytkopmkinlanhoaa.PE

namespace Go.Proofs.Ytkopmkinlanhoaa.PE
open Go.RowKit Go.Proofs.YtkopmkinlanhoaaW.PrintWords Go.Proofs.YtkopmkinlanhoaaW.PrintLast Go.Proofs.YtkopmkinlanhoaaW.PrintMore
attribute [local go_sem] max2_int min2_int max_two min_two max_three min_three max_four min_four   -- for this text's walks alone
set_option linter.unusedVariables false
set_option linter.unusedSimpArgs false
def words_Put64.f (k : Nat) (l0 : List Int) (a1 : Int) : Option (List Int) := (words_put.f k l0 a1 8).bind fun t420 => (some t420)
set_option maxHeartbeats 8000000 in
set_option maxRecDepth 100000 in
theorem words_Put64.calls (k : Nat) (A0 : Option Addr) (c0 : Nat) (l0 : List Int) (a1 : Int) (r : List Int) (w : World) (hr0 : Kd.C (Kd.int .u8) w A0 l0.length l0) (hc0 : l0.length ≤ c0) (h : words_Put64.f k l0 a1 = some r) :
    Calls Try.prog 51 #[.slice A0 l0.length c0, .int .u64 a1] w fun e w' => ∃ v0_ : Value, e = .returned (v0_) ∧ Kd.R (Kd.int .u8) 5 w' w.heap.size (fun _ => True) v0_ r ∧ Below w.heap.size w w' := by
  have HR0 := Aside0.mk hr0
  have HC0 := Aside0.mk hc0
  clear hr0 hc0
  have HB := Aside0.mk (Below.refl w.heap.size w)
  have H : ((words_put.f k l0 a1 8).bind fun t420 => (some t420)) = some r := h
  clear h
  replace H := Option.bind_eq_some_iff.mp H
  obtain ⟨t420, A30, H⟩ := H
  replace H : (some t420) = some r := H
  have A3 := Aside0.mk A30
  clear A30
  obtain rfl := Option.some.inj H
  go_enter Try.func51, Try.ntmps51
  go_wp2_with (first | ((with_reducible refine gate_callee (f := 76) rfl ?_); refine goesL_ (some 7) rfl rfl Try.func76 (by kernel_rfl) rfl #[.slice A0 l0.length c0, .int .u64 a1, .int .i64 8] rfl (by (try simp only [List.map_toArray, List.map_cons, List.map_nil]); first | done | rfl | (simp only [List.length_drop, List.length_take]; rfl)) ?_; (with_reducible refine (words_put.calls k _ _ l0 a1 8 t420 _ ?side1 ?side2 A3.out).mono ?_); (case side1 => repeat (first | exact HR0.out | (with_reducible refine Kd.C_alloc ?_ _) | (with_reducible refine Kd.C_drewN ?_ _) | (with_reducible refine Kd.C_drew ?_))); (case side2 => exact HC0.out); rintro e w4 ⟨v421, rfl, ho0, hb⟩; refine ⟨_, rfl, ?_⟩; have n0_ := Aside0.mk (Kd.R_lower ho0 (below_size (by repeat (first | (with_reducible first | exact HB.out | apply below_alloc | apply pw_below_drewN | apply below_drew1) | exact HB.out)))); have n1_ := Aside0.mk (below_step (by repeat (first | (with_reducible first | exact HB.out | apply below_alloc | apply pw_below_drewN | apply below_drew1) | exact HB.out)) hb); clear HB; have HO422 := n0_; have HB := n1_; clear n0_ n1_; (try clear hb); (try clear hb2); (try clear hk); (try clear hi); (try clear ho0)))
  go_ret
  exact ⟨_, by first | rfl | (simp [errW_none, errW_some] <;> rfl) | (simp [*, errW_none, errW_some] <;> rfl), by (with_reducible repeat (first | apply Kd.R_alloc | apply Kd.R_drewN | apply Kd.R_drew)); exact HO422.out, by repeat (first | (with_reducible first | exact HB.out | apply below_alloc | apply pw_below_drewN | apply below_drew1) | exact HB.out)⟩
end Go.Proofs.Ytkopmkinlanhoaa.PE

namespace Go.Proofs.Ytkopmkinlanhoaa.PE
open Go.RowKit Go.Proofs.YtkopmkinlanhoaaW.PrintWords Go.Proofs.YtkopmkinlanhoaaW.PrintLast Go.Proofs.YtkopmkinlanhoaaW.PrintMore
attribute [local go_sem] max2_int min2_int max_two min_two max_three min_three max_four min_four   -- for this text's walks alone
set_option linter.unusedVariables false
set_option linter.unusedSimpArgs false
def api_Reserve_50.f (l0 : List (S82)) : Option (List (S82)) := if l0.length < 8796093022208 then (some l0) else (none)
set_option maxRecDepth 100000 in
theorem api_Reserve_50.calls (A0 : Option Addr) (c0 : Nat) (l0 : List (S82)) (r : List (S82)) (w : World) (hr0 : Kd.C k82 w A0 l0.length l0) (hc0 : l0.length ≤ c0) (h : api_Reserve_50.f l0 = some r) :
    Calls Try.prog 50 #[.slice A0 l0.length c0] w fun e w' => ∃ v0_ : Value, e = .returned (v0_) ∧ Kd.R k82 82 w' w.heap.size (fun _ => True) v0_ r ∧ Below w.heap.size w w' := by
  unfold api_Reserve_50.f at h
  by_cases c3 : l0.length < 8796093022208
  · rw [if_pos c3] at h
    injection h with h
    subst h
    have HR0 := Aside0.mk hr0
    have HC0 := Aside0.mk hc0
    clear hr0 hc0
    have HB := Aside0.mk (Below.refl w.heap.size w)
    have LMc3 := Aside0.mk c3
    clear c3
    cases A0 with
    | none =>
      have hn : l0 = [] := by
        cases l0 with
        | nil => rfl
        | cons x r =>
          obtain ⟨ad, he, _⟩ := HR0.out.2.2 (by simp)
          cases he
      subst hn
      have q := fun w' : World => Lib.run_eql_slice_nil (P := Try.prog) w' 23 82 none ([] : List (S82)).length c0 0 0 Try.underlying23
      simp only [Option.isNone_none, List.length_nil] at q
      go_enter Try.func50, Try.ntmps50
      go_wp2
      go_ret
      exact ⟨_, rfl, Kd.R_nil _ _ _ _ _, Below.refl _ _⟩
    | some x0 =>
      have q := fun w' : World => Lib.run_eql_slice_nil (P := Try.prog) w' 23 82 (some x0) l0.length c0 0 0 Try.underlying23
      simp only [Option.isNone_some] at q
      obtain ⟨y5, hy5⟩ : ∃ y_ : List (S82), y_ = [] := ⟨_, rfl⟩
      have Ny5 := Aside0.mk hy5
      clear hy5
      obtain ⟨y7, hy7⟩ : ∃ y_ : List (S82), y_ = y5 ++ l0 := ⟨_, rfl⟩
      have Ny7 := Aside0.mk hy7
      clear hy7
      go_enter Try.func50, Try.ntmps50
      go_wp2_with (first | ((with_reducible refine gate_dst (N := 5) rfl ?_); refine Kd.R_lit k82 _ 82 ?hg (N := 5) ?hd (xs := ([] : List (S82))) (inner := []) (ok := fun _ => True) (okp := fun _ => True) ?hr ?hp (fun _ hk => hk) trivial (Below.refl _ _) (Nat.le_refl _) (by simp) ?_; (case hd => rfl); (case hg => rfl); (case hr => first | (go_simp; done) | (go_simp; rfl)); (case hp => exact (Reps.none _ _)); intro v5 w5 ho6 hb hg_ hnew_; clear hg_ hnew_; rw [← Ny5.out] at ho6; have n0_ := Aside0.mk (Kd.R_lower (base' := w.heap.size) ho6 (below_size (by repeat (first | (with_reducible first | exact HB.out | apply below_alloc | apply pw_below_drewN | apply below_drew1) | exact HB.out)))); have n2_ := Aside0.mk (below_step (by repeat (first | (with_reducible first | exact HB.out | apply below_alloc | apply pw_below_drewN | apply below_drew1) | exact HB.out)) hb); clear HB; have HO5 := n0_; have HB := n2_; clear n0_ n2_; clear hb ho6) | ((with_reducible refine gate_builtin (b := .append) (xs := #[.tmp 5, .tmp 6]) rfl ?_); at_builtin; refine Kd.R_append_rows k82 (w0 := w) w.heap.size rfl (.tmp 5) (.tmp 6) 23 82 (.agg #[(.int .u64 0), (.int .u64 0)]) 16 rfl Try.underlying23 info82 rfl (by decide) (by omega) v5 y5 l0 _ _ _ (fun _ => True) (fun _ => False) rfl rfl ?aO ?aR (fun _ _ h => h) (fun _ h => h.elim) (fun _ _ => trivial) ?aB ?aS ?aL ?_; (case aR => repeat (first | exact (Kd.C_below HR0.out HB.out) | (with_reducible refine Kd.C_alloc ?_ _) | (with_reducible refine Kd.C_drewN ?_ _) | (with_reducible refine Kd.C_drew ?_))); (case aB => exact (by repeat (first | (with_reducible first | exact HB.out | apply below_alloc | apply pw_below_drewN | apply below_drew1) | exact HB.out))); (case aO => exact (by (with_reducible repeat (first | apply Kd.R_alloc | apply Kd.R_drewN | apply Kd.R_drew)); exact HO5.out)); (case aS => exact (below_size (by repeat (first | (with_reducible first | exact HB.out | apply below_alloc | apply pw_below_drewN | apply below_drew1) | exact HB.out)))); (case aL => have := LMc3.out; rw [Ny5.out]; simp; omega); intro v7 w7 ho hb hg hat; rw [← Ny7.out] at ho; have n1_ := Aside0.mk (hb); have n2_ := Aside0.mk (ho); clear HB; clear HO5; have HB := n1_; have HO7 := n2_; clear n1_ n2_; clear ho hb hg hat))
      go_ret
      exact ⟨_, rfl, by have e7 : y7 = l0 := (by rw [Ny7.out, Ny5.out]; rfl); rw [← e7]; (with_reducible repeat (first | apply Kd.R_alloc | apply Kd.R_drewN | apply Kd.R_drew)); exact HO7.out, by repeat (first | (with_reducible first | exact HB.out | apply below_alloc | apply pw_below_drewN | apply below_drew1) | exact HB.out)⟩
  · rw [if_neg c3] at h
    cases h
end Go.Proofs.Ytkopmkinlanhoaa.PE

namespace Go.Proofs.Ytkopmkinlanhoaa.PE
open Go.RowKit Go.Proofs.YtkopmkinlanhoaaW.PrintWords Go.Proofs.YtkopmkinlanhoaaW.PrintLast Go.Proofs.YtkopmkinlanhoaaW.PrintMore
attribute [local go_sem] max2_int min2_int max_two min_two max_three min_three max_four min_four   -- for this text's walks alone
set_option linter.unusedVariables false
set_option linter.unusedSimpArgs false
def words_Put.f (k : Nat) (l0 : List Int) (a1 : Int) : Option (List Int) := (words_put.f k l0 (IntKind.u64.wrap (a1)) 4).bind fun t417 => (some t417)
set_option maxHeartbeats 8000000 in
set_option maxRecDepth 100000 in
theorem words_Put.calls (k : Nat) (A0 : Option Addr) (c0 : Nat) (l0 : List Int) (a1 : Int) (r : List Int) (w : World) (hr0 : Kd.C (Kd.int .u8) w A0 l0.length l0) (hc0 : l0.length ≤ c0) (h : words_Put.f k l0 a1 = some r) :
    Calls Try.prog 52 #[.slice A0 l0.length c0, .int .u32 a1] w fun e w' => ∃ v0_ : Value, e = .returned (v0_) ∧ Kd.R (Kd.int .u8) 5 w' w.heap.size (fun _ => True) v0_ r ∧ Below w.heap.size w w' := by
  have HR0 := Aside0.mk hr0
  have HC0 := Aside0.mk hc0
  clear hr0 hc0
  have HB := Aside0.mk (Below.refl w.heap.size w)
  have H : ((words_put.f k l0 (IntKind.u64.wrap (a1)) 4).bind fun t417 => (some t417)) = some r := h
  clear h
  replace H := Option.bind_eq_some_iff.mp H
  obtain ⟨t417, A30, H⟩ := H
  replace H : (some t417) = some r := H
  have A3 := Aside0.mk A30
  clear A30
  obtain rfl := Option.some.inj H
  go_enter Try.func52, Try.ntmps52
  go_wp2_with (first | ((with_reducible refine gate_callee (f := 76) rfl ?_); refine goesL_ (some 8) rfl rfl Try.func76 (by kernel_rfl) rfl #[.slice A0 l0.length c0, .int .u64 (IntKind.u64.wrap (a1)), .int .i64 4] rfl (by (try simp only [List.map_toArray, List.map_cons, List.map_nil]); first | done | rfl | (simp only [List.length_drop, List.length_take]; rfl)) ?_; (with_reducible refine (words_put.calls k _ _ l0 (IntKind.u64.wrap (a1)) 4 t417 _ ?side1 ?side2 A3.out).mono ?_); (case side1 => repeat (first | exact HR0.out | (with_reducible refine Kd.C_alloc ?_ _) | (with_reducible refine Kd.C_drewN ?_ _) | (with_reducible refine Kd.C_drew ?_))); (case side2 => exact HC0.out); rintro e w4 ⟨v418, rfl, ho0, hb⟩; refine ⟨_, rfl, ?_⟩; have n0_ := Aside0.mk (Kd.R_lower ho0 (below_size (by repeat (first | (with_reducible first | exact HB.out | apply below_alloc | apply pw_below_drewN | apply below_drew1) | exact HB.out)))); have n1_ := Aside0.mk (below_step (by repeat (first | (with_reducible first | exact HB.out | apply below_alloc | apply pw_below_drewN | apply below_drew1) | exact HB.out)) hb); clear HB; have HO419 := n0_; have HB := n1_; clear n0_ n1_; (try clear hb); (try clear hb2); (try clear hk); (try clear hi); (try clear ho0)))
  go_ret
  exact ⟨_, by first | rfl | (simp [errW_none, errW_some] <;> rfl) | (simp [*, errW_none, errW_some] <;> rfl), by (with_reducible repeat (first | apply Kd.R_alloc | apply Kd.R_drewN | apply Kd.R_drew)); exact HO419.out, by repeat (first | (with_reducible first | exact HB.out | apply below_alloc | apply pw_below_drewN | apply below_drew1) | exact HB.out)⟩
end Go.Proofs.Ytkopmkinlanhoaa.PE

namespace Go.Proofs.Ytkopmkinlanhoaa.PE
open Go.RowKit Go.Proofs.YtkopmkinlanhoaaW.PrintWords Go.Proofs.YtkopmkinlanhoaaW.PrintLast Go.Proofs.YtkopmkinlanhoaaW.PrintMore
attribute [local go_sem] max2_int min2_int max_two min_two max_three min_three max_four min_four   -- for this text's walks alone
set_option linter.unusedVariables false
set_option linter.unusedSimpArgs false
def decode_within.f (a0 : Int) (a1 : Int) (a2 : Int) : Option (Bool) := if a0 ≥ 40 then (some (decide ((IntKind.u64.wrap ((IntKind.u64.wrap (a0)) + (IntKind.u64.wrap (a1)))) ≤ (IntKind.u64.wrap (a2))))) else (some false)
set_option maxHeartbeats 8000000 in
set_option maxRecDepth 100000 in
theorem decode_within.calls (a0 : Int) (a1 : Int) (a2 : Int) (r : Bool) (w : World) (h : decode_within.f a0 a1 a2 = some r) :
    Calls Try.prog 35 #[.int .u32 a0, .int .u32 a1, .int .i64 a2] w fun e w' => e = .returned (.bool r) ∧ Drawn0 w w' := by
  have H : (if a0 ≥ 40 then (some (decide ((IntKind.u64.wrap ((IntKind.u64.wrap (a0)) + (IntKind.u64.wrap (a1)))) ≤ (IntKind.u64.wrap (a2))))) else (some false)) = some r := h
  clear h
  by_cases c4 : a0 ≥ 40
  · rw [if_pos c4] at H
    have c4b0 : decide (40 ≤ a0) = true := decide_eq_true c4
    clear c4
    obtain rfl := Option.some.inj H
    go_enter Try.func35, Try.ntmps35
    go_wp2
    go_ret
    exact ⟨by first | rfl | (simp; done) | (simp [*]; done), by repeat (first | exact Drawn0.refl _ | apply Drawn0.step)⟩
  · rw [if_neg c4] at H
    have c4b0 : decide (40 ≤ a0) = false := decide_eq_false c4
    clear c4
    obtain rfl := Option.some.inj H
    go_enter Try.func35, Try.ntmps35
    go_wp2
    go_ret
    exact ⟨by first | rfl | (simp; done) | (simp [*]; done), by repeat (first | exact Drawn0.refl _ | apply Drawn0.step)⟩
end Go.Proofs.Ytkopmkinlanhoaa.PE

namespace Go.Proofs.Ytkopmkinlanhoaa.PE
open Go.RowKit Go.Proofs.YtkopmkinlanhoaaW.PrintWords Go.Proofs.YtkopmkinlanhoaaW.PrintLast Go.Proofs.YtkopmkinlanhoaaW.PrintMore
attribute [local go_sem] max2_int min2_int max_two min_two max_three min_three max_four min_four
set_option linter.unusedVariables false
set_option linter.unusedSimpArgs false
structure Hdr where (c0 c1 c2 c3 c4 c5 c6 c7 c8 c9 : Int)
def Hdr.zero : Hdr := ⟨0, 0, 0, 0, 0, 0, 0, 0, 0, 0⟩
def Hdr.val (h : Hdr) : Value := .agg #[.int .u32 h.c0, .int .u32 h.c1, .int .u32 h.c2, .int .u32 h.c3, .int .u32 h.c4, .int .u32 h.c5, .int .u32 h.c6, .int .u32 h.c7, .int .u32 h.c8, .int .u32 h.c9]
def cellAt (l : List Int) (i : Int) : Int := ((words_Get.f l i).getD (0, false)).1
def cellOk (l : List Int) (i : Int) : Bool := ((words_Get.f l i).getD (0, false)).2
theorem get_cell (l : List Int) (i : Int) : words_Get.f l i = some (cellAt l i, cellOk l i) := by
  have h : ∃ r, words_Get.f l i = some r := by unfold words_Get.f; split <;> exact ⟨_, rfl⟩
  obtain ⟨r, h⟩ := h
  unfold cellAt cellOk
  rw [h]
  rfl
theorem cellAt_range (l : List Int) (i : Int) : 0 ≤ cellAt l i ∧ cellAt l i < 4294967296 := by
  unfold cellAt words_Get.f
  split
  · simp only [Option.getD_some]; omega
  · simp
def hdrOf (l : List Int) : Hdr := ⟨cellAt l 0, cellAt l 4, cellAt l 8, cellAt l 12, cellAt l 16, cellAt l 20, cellAt l 24, cellAt l 28, cellAt l 32, cellAt l 36⟩
def inB (a s n : Int) : Bool := if a ≥ 40 then decide ((IntKind.u64.wrap ((IntKind.u64.wrap a) + (IntKind.u64.wrap s))) ≤ (IntKind.u64.wrap n)) else false
theorem within_inB (a s n : Int) : decode_within.f a s n = some (inB a s n) := by
  unfold decode_within.f inB
  split <;> rfl
def hdrErr (h : Hdr) (n : Int) : Int :=
  if h.c0 = 3490578157 then (if h.c5 = 17 then (if h.c6 = 16 then (if h.c1 = n then (if inB h.c2 h.c9 n = true then (if inB h.c3 h.c8 n = true then (if inB h.c4 0 n = true then (if h.c4 % 8 = 0 then (if h.c2 % 4 = 0 then 0 else 4) else 4) else 4) else 4) else 4) else 4) else 3) else 3) else 2
def decode_Header.f (l : List Int) : Option (Hdr × Int) :=
  some (if l.length < 40 then (.zero, 4) else if 1048576 < l.length then (.zero, 4) else if hdrErr (hdrOf l) l.length = 0 then (hdrOf l, 0) else (.zero, hdrErr (hdrOf l) l.length))
def hcell (l : List Int) (i j : Nat) : Value := .int .u32 (if j < i then cellAt l (4 * (j : Int)) else 0)
def hcells (l : List Int) (i : Nat) : Array Value := #[hcell l i 0, hcell l i 1, hcell l i 2, hcell l i 3, hcell l i 4, hcell l i 5, hcell l i 6, hcell l i 7, hcell l i 8, hcell l i 9]
theorem hdr_next {l : List Int} {W : World} {g t : Nat} (i : Nat) (hi : i < 10) (h : W.heap[g]? = some (.cells (hcells l i) t (0, 0))) :
    (W.setCell ⟨g, i, none⟩ (.int .u32 (cellAt l (4 * (i : Int))))).heap[g]? = some (.cells (hcells l (i + 1)) t (0, 0)) := by
  refine blk_put h i _ ?_
  have : i = 0 ∨ i = 1 ∨ i = 2 ∨ i = 3 ∨ i = 4 ∨ i = 5 ∨ i = 6 ∨ i = 7 ∨ i = 8 ∨ i = 9 := by omega
  rcases this with rfl | rfl | rfl | rfl | rfl | rfl | rfl | rfl | rfl | rfl
  all_goals rfl
theorem end10 {w W : World} {t : Nat} (hb : Below w.heap.size w W) (h : W.heap[w.heap.size]? = some (.cells (hcells [] 0) t (0, 0))) (v0 v1 v2 v3 v4 v5 v6 v7 v8 v9 : Value) :
    Below w.heap.size w ((((((((((W.setCell ⟨w.heap.size, 0, none⟩ v0).setCell ⟨w.heap.size, 1, none⟩ v1).setCell ⟨w.heap.size, 2, none⟩ v2).setCell ⟨w.heap.size, 3, none⟩ v3).setCell ⟨w.heap.size, 4, none⟩ v4).setCell ⟨w.heap.size, 5, none⟩ v5).setCell ⟨w.heap.size, 6, none⟩ v6).setCell ⟨w.heap.size, 7, none⟩ v7).setCell ⟨w.heap.size, 8, none⟩ v8).setCell ⟨w.heap.size, 9, none⟩ v9) ∧ ((((((((((W.setCell ⟨w.heap.size, 0, none⟩ v0).setCell ⟨w.heap.size, 1, none⟩ v1).setCell ⟨w.heap.size, 2, none⟩ v2).setCell ⟨w.heap.size, 3, none⟩ v3).setCell ⟨w.heap.size, 4, none⟩ v4).setCell ⟨w.heap.size, 5, none⟩ v5).setCell ⟨w.heap.size, 6, none⟩ v6).setCell ⟨w.heap.size, 7, none⟩ v7).setCell ⟨w.heap.size, 8, none⟩ v8).setCell ⟨w.heap.size, 9, none⟩ v9).heap[w.heap.size]? = some (.cells #[v0, v1, v2, v3, v4, v5, v6, v7, v8, v9] t (0, 0)) := by
  refine ⟨?_, ?_⟩
  · exact ((((((((((hb.setCell (Nat.le_refl _) _).setCell (Nat.le_refl _) _).setCell (Nat.le_refl _) _).setCell (Nat.le_refl _) _).setCell (Nat.le_refl _) _).setCell (Nat.le_refl _) _).setCell (Nat.le_refl _) _).setCell (Nat.le_refl _) _).setCell (Nat.le_refl _) _).setCell (Nat.le_refl _) _)
  · have q := (blk_set (blk_set (blk_set (blk_set (blk_set (blk_set (blk_set (blk_set (blk_set (blk_set h 0 v0) 1 v1) 2 v2) 3 v3) 4 v4) 5 v5) 6 v6) 7 v7) 8 v8) 9 v9)
    simpa [hcells] using q
set_option maxRecDepth 100000 in
set_option maxHeartbeats 4000000 in
theorem decode_Header.calls (A0 : Option Addr) (c0 : Nat) (l0 : List Int) (r1 : Hdr) (r2 : Int) (w : World) (hr0 : Kd.C (Kd.int .u8) w A0 l0.length l0) (hc0 : l0.length ≤ c0) (h : decode_Header.f l0 = some (r1, r2)) :
    Calls Try.prog 17 #[.slice A0 l0.length c0] w fun e w' => e = .returned (.tuple #[r1.val, .int .i64 r2]) ∧ Below w.heap.size w w' := by
  unfold decode_Header.f at h
  replace h := Option.some.inj h
  have HB0 : ∀ cs cs', Below w.heap.size w ((w.alloc (.cells cs 43)).alloc (.cells cs' 43)) := fun cs cs' => below_alloc (below_alloc (Below.refl _ _) _) _
  have HB := Aside0.mk HB0
  clear HB0
  by_cases c1 : l0.length < 40
  · rw [if_pos c1] at h
    obtain ⟨rfl, rfl⟩ := Prod.mk.inj h
    clear h
    go_enter Try.func17, Try.ntmps17
    go_wp2
    exact bodyPost_ret (v := .tuple #[Hdr.zero.val, .int .i64 4]) (by simp [results, Try.results17, go_sem, Hdr.val, Hdr.zero]) rfl ⟨rfl, HB.out _ _⟩
  · rw [if_neg c1] at h
    have c1b : decide ((l0.length : Int) < 40) = false := decide_eq_false (by omega)
    by_cases c2 : 1048576 < l0.length
    · rw [if_pos c2] at h
      obtain ⟨rfl, rfl⟩ := Prod.mk.inj h
      clear h
      have c2b : decide (1048576 < (l0.length : Int)) = true := decide_eq_true (by omega)
      go_enter Try.func17, Try.ntmps17
      go_wp2
      exact bodyPost_ret (v := .tuple #[Hdr.zero.val, .int .i64 4]) (by simp [results, Try.results17, go_sem, Hdr.val, Hdr.zero]) rfl ⟨rfl, HB.out _ _⟩
    · rw [if_neg c2] at h
      have c2b : decide (1048576 < (l0.length : Int)) = false := decide_eq_false (by omega)
      have H := Aside0.mk h
      have HR0 := Aside0.mk hr0
      have HC0 := Aside0.mk hc0
      clear h hr0 hc0 c1 c2
      go_enter Try.func17, Try.ntmps17
      go_wp2
      go_loopg [15] 11 (fun kq v15 w' => ∃ i : Nat, v15 = .int .i64 (i : Int) ∧ Aside0 (i + kq = 11 ∧ i ≤ 10) ∧ Aside0 (Below w.heap.size w w') ∧ Aside0 (w'.heap[w.heap.size]? = some (.cells (hcells [] 0) 43 (0, 0))) ∧ Aside0 (w'.heap[w.heap.size + 1]? = some (.cells (hcells l0 i) 43 (0, 0))))
      case atStart => exact ⟨0, rfl, ⟨rfl, by decide⟩, ⟨HB.out _ _⟩, ⟨blk_alloc (blk_new w _) _⟩, ⟨(by rw [show w.heap.size + 1 = (w.alloc (.cells (hcells [] 0) 43)).heap.size from (Array.size_push ..).symm]; exact blk_new _ _)⟩⟩
      case round =>
        obtain ⟨i, rfl, HI, HB, B0, B1⟩ := hrel
        by_cases ci : i < 10
        · have HG := fun j : Int => get_cell l0 j
          have HCal := fun (j : Int) (W : World) (hC : Kd.C (Kd.int .u8) W A0 l0.length l0) => words_Get.calls A0 c0 l0 j (cellAt l0 j) (cellOk l0 j) W hC HC0.out (get_cell l0 j)
          have HCal := Aside0.mk HCal
          clear HG
          have hi := HI.out
          cases gk with
          | zero => omega
          | succ k1 =>
            have k0 : wr.cell? ⟨w.heap.size + 1, i, none⟩ = some (.int .u32 0) := by
              have : i = 0 ∨ i = 1 ∨ i = 2 ∨ i = 3 ∨ i = 4 ∨ i = 5 ∨ i = 6 ∨ i = 7 ∨ i = 8 ∨ i = 9 := by omega
              rcases this with rfl | rfl | rfl | rfl | rfl | rfl | rfl | rfl | rfl | rfl
              all_goals exact (blk_cell B1.out _).trans rfl
            have kf : wr.frozen? ⟨w.heap.size + 1, i, none⟩ = false := blk_frozen B1.out i
            have cib : decide ((i : Int) < 10) = true := decide_eq_true (by omega)
            have hw1 : (4 : Int) * (i : Int) ≤ 36 := by omega
            have hw2 : (i : Int) ≤ 9 := by omega
            have hw3 : (0 : Int) ≤ (i : Int) := Int.natCast_nonneg i
            clear hi
            go_wp2_with (go_at_call 34; refine (HCal.out _ _ (by repeat (first | exact Kd.C_below HR0.out HB.out | (with_reducible refine Kd.C_drewN ?_ _) | (with_reducible refine Kd.C_drew ?_)))).mono ?_; rintro e w' ⟨rfl, ⟨nd, rfl⟩⟩)
            go_roundg k1
            case measure => omega
            case rel => exact ⟨i + 1, by first | rfl | (simp; done) | (simp [*]; done), ⟨by have := HI.out; omega, by have := HI.out; omega⟩, ⟨(pw_below_drewN HB.out nd).setCell (by simp) _⟩, ⟨blk_far (blk_drewN B0.out nd) (by simp) _⟩, ⟨hdr_next i (by omega) (blk_drewN B1.out nd)⟩⟩
        · obtain rfl : i = 10 := by have := HI.out; omega
          obtain ⟨⟨d0, d1, d2, d3, d4, d5, d6, d7, d8, d9⟩, hd⟩ : ∃ d : Hdr, d = hdrOf l0 := ⟨_, rfl⟩
          have H1 := H.out
          rw [← hd] at H1
          have B1' : wr.heap[w.heap.size + 1]? = some (.cells #[.int .u32 d0, .int .u32 d1, .int .u32 d2, .int .u32 d3, .int .u32 d4, .int .u32 d5, .int .u32 d6, .int .u32 d7, .int .u32 d8, .int .u32 d9] 43 (0, 0)) := by
            have e := B1.out
            have e2 : hcells l0 10 = #[.int .u32 d0, .int .u32 d1, .int .u32 d2, .int .u32 d3, .int .u32 d4, .int .u32 d5, .int .u32 d6, .int .u32 d7, .int .u32 d8, .int .u32 d9] := by
              have e3 := congrArg (fun x : Hdr => #[Value.int .u32 x.c0, .int .u32 x.c1, .int .u32 x.c2, .int .u32 x.c3, .int .u32 x.c4, .int .u32 x.c5, .int .u32 x.c6, .int .u32 x.c7, .int .u32 x.c8, .int .u32 x.c9]) hd
              exact Eq.trans rfl e3.symm
            rw [e2] at e
            exact e
          have n4 : 0 ≤ d4 ∧ d4 < 4294967296 := by
            have e3 : d4 = cellAt l0 16 := congrArg Hdr.c4 hd
            have e4 := cellAt_range l0 16
            rw [e3]
            exact e4
          have n2 : 0 ≤ d2 ∧ d2 < 4294967296 := by
            have e3 : d2 = cellAt l0 8 := congrArg Hdr.c2 hd
            have e4 := cellAt_range l0 8
            rw [e3]
            exact e4
          have n1 : 0 ≤ d1 ∧ d1 < 4294967296 := by
            have e3 : d1 = cellAt l0 4 := congrArg Hdr.c1 hd
            have e4 := cellAt_range l0 4
            rw [e3]
            exact e4
          clear hd B1 H
          have B1 := Aside0.mk B1'
          clear B1'
          have H := Aside0.mk H1
          clear H1
          have m0 : wr.cell? ⟨w.heap.size + 1, 0, none⟩ = some (.int .u32 d0) := (blk_cell B1.out 0).trans rfl
          have m1 : wr.cell? ⟨w.heap.size + 1, 1, none⟩ = some (.int .u32 d1) := (blk_cell B1.out 1).trans rfl
          have m2 : wr.cell? ⟨w.heap.size + 1, 2, none⟩ = some (.int .u32 d2) := (blk_cell B1.out 2).trans rfl
          have m3 : wr.cell? ⟨w.heap.size + 1, 3, none⟩ = some (.int .u32 d3) := (blk_cell B1.out 3).trans rfl
          have m4 : wr.cell? ⟨w.heap.size + 1, 4, none⟩ = some (.int .u32 d4) := (blk_cell B1.out 4).trans rfl
          have m5 : wr.cell? ⟨w.heap.size + 1, 5, none⟩ = some (.int .u32 d5) := (blk_cell B1.out 5).trans rfl
          have m6 : wr.cell? ⟨w.heap.size + 1, 6, none⟩ = some (.int .u32 d6) := (blk_cell B1.out 6).trans rfl
          have m7 : wr.cell? ⟨w.heap.size + 1, 7, none⟩ = some (.int .u32 d7) := (blk_cell B1.out 7).trans rfl
          have m8 : wr.cell? ⟨w.heap.size + 1, 8, none⟩ = some (.int .u32 d8) := (blk_cell B1.out 8).trans rfl
          have m9 : wr.cell? ⟨w.heap.size + 1, 9, none⟩ = some (.int .u32 d9) := (blk_cell B1.out 9).trans rfl
          have z0 : wr.cell? ⟨w.heap.size, 0, none⟩ = some (.int .u32 0) := (blk_cell B0.out 0).trans rfl
          have f0 : wr.frozen? ⟨w.heap.size, 0, none⟩ = false := blk_frozen B0.out 0
          have z1 : wr.cell? ⟨w.heap.size, 1, none⟩ = some (.int .u32 0) := (blk_cell B0.out 1).trans rfl
          have f1 : wr.frozen? ⟨w.heap.size, 1, none⟩ = false := blk_frozen B0.out 1
          have z2 : wr.cell? ⟨w.heap.size, 2, none⟩ = some (.int .u32 0) := (blk_cell B0.out 2).trans rfl
          have f2 : wr.frozen? ⟨w.heap.size, 2, none⟩ = false := blk_frozen B0.out 2
          have z3 : wr.cell? ⟨w.heap.size, 3, none⟩ = some (.int .u32 0) := (blk_cell B0.out 3).trans rfl
          have f3 : wr.frozen? ⟨w.heap.size, 3, none⟩ = false := blk_frozen B0.out 3
          have z4 : wr.cell? ⟨w.heap.size, 4, none⟩ = some (.int .u32 0) := (blk_cell B0.out 4).trans rfl
          have f4 : wr.frozen? ⟨w.heap.size, 4, none⟩ = false := blk_frozen B0.out 4
          have z5 : wr.cell? ⟨w.heap.size, 5, none⟩ = some (.int .u32 0) := (blk_cell B0.out 5).trans rfl
          have f5 : wr.frozen? ⟨w.heap.size, 5, none⟩ = false := blk_frozen B0.out 5
          have z6 : wr.cell? ⟨w.heap.size, 6, none⟩ = some (.int .u32 0) := (blk_cell B0.out 6).trans rfl
          have f6 : wr.frozen? ⟨w.heap.size, 6, none⟩ = false := blk_frozen B0.out 6
          have z7 : wr.cell? ⟨w.heap.size, 7, none⟩ = some (.int .u32 0) := (blk_cell B0.out 7).trans rfl
          have f7 : wr.frozen? ⟨w.heap.size, 7, none⟩ = false := blk_frozen B0.out 7
          have z8 : wr.cell? ⟨w.heap.size, 8, none⟩ = some (.int .u32 0) := (blk_cell B0.out 8).trans rfl
          have f8 : wr.frozen? ⟨w.heap.size, 8, none⟩ = false := blk_frozen B0.out 8
          have z9 : wr.cell? ⟨w.heap.size, 9, none⟩ = some (.int .u32 0) := (blk_cell B0.out 9).trans rfl
          have f9 : wr.frozen? ⟨w.heap.size, 9, none⟩ = false := blk_frozen B0.out 9
          have hW := fun a s n W => decode_within.calls a s n (inB a s n) W (within_inB a s n)
          have HW := Aside0.mk hW
          clear hW
          simp only [hdrErr] at H
          by_cases t0 : d0 = 3490578157
          · have h := H.out
            rw [if_pos t0] at h
            clear H
            have H := Aside0.mk h
            clear h
            have t0b : (d0 != 3490578157) = false := bne_eq_false_iff_eq.mpr t0
            clear t0
            by_cases t5 : d5 = 17
            · have h := H.out
              rw [if_pos t5] at h
              clear H
              have H := Aside0.mk h
              clear h
              have t5b : (d5 != 17) = false := bne_eq_false_iff_eq.mpr t5
              clear t5
              by_cases t6 : d6 = 16
              · have h := H.out
                rw [if_pos t6] at h
                clear H
                have H := Aside0.mk h
                clear h
                have t6b : (d6 != 16) = false := bne_eq_false_iff_eq.mpr t6
                clear t6
                by_cases t1 : d1 = (l0.length : Int)
                · have h := H.out
                  rw [if_pos t1] at h
                  clear H
                  have H := Aside0.mk h
                  clear h
                  have t1b : (d1 != (l0.length : Int)) = false := bne_eq_false_iff_eq.mpr t1
                  clear t1
                  by_cases w2 : inB d2 d9 l0.length = true
                  · have h := H.out
                    rw [if_pos w2] at h
                    clear H
                    have H := Aside0.mk h
                    clear h
                    have w2b : (!inB d2 d9 l0.length) = false := by rw [w2]; rfl
                    by_cases w3 : inB d3 d8 l0.length = true
                    · have h := H.out
                      rw [if_pos w3] at h
                      clear H
                      have H := Aside0.mk h
                      clear h
                      have w3b : (!inB d3 d8 l0.length) = false := by rw [w3]; rfl
                      by_cases w4 : inB d4 0 l0.length = true
                      · have h := H.out
                        rw [if_pos w4] at h
                        clear H
                        have H := Aside0.mk h
                        clear h
                        have w4b : (!inB d4 0 l0.length) = false := by rw [w4]; rfl
                        by_cases r4 : d4 % 8 = 0
                        · have h := H.out
                          rw [if_pos r4] at h
                          clear H
                          have H := Aside0.mk h
                          clear h
                          have r4b : (d4 % 8 != 0) = false := bne_eq_false_iff_eq.mpr r4
                          clear r4
                          by_cases r2 : d2 % 4 = 0
                          · have h := H.out
                            rw [if_pos r2] at h
                            clear H
                            have H := Aside0.mk h
                            clear h
                            have r2b : (d2 % 4 != 0) = false := bne_eq_false_iff_eq.mpr r2
                            clear r2
                            have h := H.out
                            rw [if_pos rfl] at h
                            obtain ⟨rfl, rfl⟩ := Prod.mk.inj h
                            clear h
                            clear H
                            go_wp2_with (go_at_call 35; refine (HW.out _ _ _ _).mono ?_; rintro e w' ⟨rfl, ⟨nd, rfl⟩⟩)
                            exact bodyPost_ret (results_ct rfl _ _ w.heap.size 43 _ (0, 0) _ rfl (end10 (w := w) (by repeat (first | exact HB.out | apply pw_below_drewN)) (by repeat (first | exact B0.out | refine blk_drewN ?_ _)) _ _ _ _ _ _ _ _ _ _).2 Try.underlying43 rfl (by kernel_rfl)) rfl ⟨rfl, (end10 (w := w) (by repeat (first | exact HB.out | apply pw_below_drewN)) (by repeat (first | exact B0.out | refine blk_drewN ?_ _)) _ _ _ _ _ _ _ _ _ _).1⟩
                          · have h := H.out
                            rw [if_neg r2, if_neg (by decide)] at h
                            obtain ⟨rfl, rfl⟩ := Prod.mk.inj h
                            clear h
                            have r2b : (d2 % 4 != 0) = true := bne_iff_ne.mpr r2
                            clear H
                            go_wp2_with (go_at_call 35; refine (HW.out _ _ _ _).mono ?_; rintro e w' ⟨rfl, ⟨nd, rfl⟩⟩)
                            exact bodyPost_ret (results_ct rfl _ _ w.heap.size 43 _ (0, 0) _ rfl (end10 (w := w) (by repeat (first | exact HB.out | apply pw_below_drewN)) (by repeat (first | exact B0.out | refine blk_drewN ?_ _)) _ _ _ _ _ _ _ _ _ _).2 Try.underlying43 rfl (by kernel_rfl)) rfl ⟨rfl, (end10 (w := w) (by repeat (first | exact HB.out | apply pw_below_drewN)) (by repeat (first | exact B0.out | refine blk_drewN ?_ _)) _ _ _ _ _ _ _ _ _ _).1⟩
                        · have h := H.out
                          rw [if_neg r4, if_neg (by decide)] at h
                          obtain ⟨rfl, rfl⟩ := Prod.mk.inj h
                          clear h
                          have r4b : (d4 % 8 != 0) = true := bne_iff_ne.mpr r4
                          clear H
                          go_wp2_with (go_at_call 35; refine (HW.out _ _ _ _).mono ?_; rintro e w' ⟨rfl, ⟨nd, rfl⟩⟩)
                          exact bodyPost_ret (results_ct rfl _ _ w.heap.size 43 _ (0, 0) _ rfl (end10 (w := w) (by repeat (first | exact HB.out | apply pw_below_drewN)) (by repeat (first | exact B0.out | refine blk_drewN ?_ _)) _ _ _ _ _ _ _ _ _ _).2 Try.underlying43 rfl (by kernel_rfl)) rfl ⟨rfl, (end10 (w := w) (by repeat (first | exact HB.out | apply pw_below_drewN)) (by repeat (first | exact B0.out | refine blk_drewN ?_ _)) _ _ _ _ _ _ _ _ _ _).1⟩
                      · have h := H.out
                        rw [if_neg w4, if_neg (by decide)] at h
                        obtain ⟨rfl, rfl⟩ := Prod.mk.inj h
                        clear h
                        have w4f : inB d4 0 l0.length = false := by simpa using w4
                        have w4b : (!inB d4 0 l0.length) = true := by rw [w4f]; rfl
                        clear H
                        go_wp2_with (go_at_call 35; refine (HW.out _ _ _ _).mono ?_; rintro e w' ⟨rfl, ⟨nd, rfl⟩⟩)
                        exact bodyPost_ret (results_ct rfl _ _ w.heap.size 43 _ (0, 0) _ rfl (end10 (w := w) (by repeat (first | exact HB.out | apply pw_below_drewN)) (by repeat (first | exact B0.out | refine blk_drewN ?_ _)) _ _ _ _ _ _ _ _ _ _).2 Try.underlying43 rfl (by kernel_rfl)) rfl ⟨rfl, (end10 (w := w) (by repeat (first | exact HB.out | apply pw_below_drewN)) (by repeat (first | exact B0.out | refine blk_drewN ?_ _)) _ _ _ _ _ _ _ _ _ _).1⟩
                    · have h := H.out
                      rw [if_neg w3, if_neg (by decide)] at h
                      obtain ⟨rfl, rfl⟩ := Prod.mk.inj h
                      clear h
                      have w3f : inB d3 d8 l0.length = false := by simpa using w3
                      have w3b : (!inB d3 d8 l0.length) = true := by rw [w3f]; rfl
                      clear H
                      go_wp2_with (go_at_call 35; refine (HW.out _ _ _ _).mono ?_; rintro e w' ⟨rfl, ⟨nd, rfl⟩⟩)
                      exact bodyPost_ret (results_ct rfl _ _ w.heap.size 43 _ (0, 0) _ rfl (end10 (w := w) (by repeat (first | exact HB.out | apply pw_below_drewN)) (by repeat (first | exact B0.out | refine blk_drewN ?_ _)) _ _ _ _ _ _ _ _ _ _).2 Try.underlying43 rfl (by kernel_rfl)) rfl ⟨rfl, (end10 (w := w) (by repeat (first | exact HB.out | apply pw_below_drewN)) (by repeat (first | exact B0.out | refine blk_drewN ?_ _)) _ _ _ _ _ _ _ _ _ _).1⟩
                  · have h := H.out
                    rw [if_neg w2, if_neg (by decide)] at h
                    obtain ⟨rfl, rfl⟩ := Prod.mk.inj h
                    clear h
                    have w2f : inB d2 d9 l0.length = false := by simpa using w2
                    have w2b : (!inB d2 d9 l0.length) = true := by rw [w2f]; rfl
                    clear H
                    go_wp2_with (go_at_call 35; refine (HW.out _ _ _ _).mono ?_; rintro e w' ⟨rfl, ⟨nd, rfl⟩⟩)
                    exact bodyPost_ret (results_ct rfl _ _ w.heap.size 43 _ (0, 0) _ rfl (end10 (w := w) (by repeat (first | exact HB.out | apply pw_below_drewN)) (by repeat (first | exact B0.out | refine blk_drewN ?_ _)) _ _ _ _ _ _ _ _ _ _).2 Try.underlying43 rfl (by kernel_rfl)) rfl ⟨rfl, (end10 (w := w) (by repeat (first | exact HB.out | apply pw_below_drewN)) (by repeat (first | exact B0.out | refine blk_drewN ?_ _)) _ _ _ _ _ _ _ _ _ _).1⟩
                · have h := H.out
                  rw [if_neg t1, if_neg (by decide)] at h
                  obtain ⟨rfl, rfl⟩ := Prod.mk.inj h
                  clear h
                  have t1b : (d1 != (l0.length : Int)) = true := bne_iff_ne.mpr t1
                  clear H
                  go_wp2_with (go_at_call 35; refine (HW.out _ _ _ _).mono ?_; rintro e w' ⟨rfl, ⟨nd, rfl⟩⟩)
                  exact bodyPost_ret (results_ct rfl _ _ w.heap.size 43 _ (0, 0) _ rfl (end10 (w := w) (by repeat (first | exact HB.out | apply pw_below_drewN)) (by repeat (first | exact B0.out | refine blk_drewN ?_ _)) _ _ _ _ _ _ _ _ _ _).2 Try.underlying43 rfl (by kernel_rfl)) rfl ⟨rfl, (end10 (w := w) (by repeat (first | exact HB.out | apply pw_below_drewN)) (by repeat (first | exact B0.out | refine blk_drewN ?_ _)) _ _ _ _ _ _ _ _ _ _).1⟩
              · have h := H.out
                rw [if_neg t6, if_neg (by decide)] at h
                obtain ⟨rfl, rfl⟩ := Prod.mk.inj h
                clear h
                have t6b : (d6 != 16) = true := bne_iff_ne.mpr t6
                clear H
                go_wp2_with (go_at_call 35; refine (HW.out _ _ _ _).mono ?_; rintro e w' ⟨rfl, ⟨nd, rfl⟩⟩)
                exact bodyPost_ret (results_ct rfl _ _ w.heap.size 43 _ (0, 0) _ rfl (end10 (w := w) (by repeat (first | exact HB.out | apply pw_below_drewN)) (by repeat (first | exact B0.out | refine blk_drewN ?_ _)) _ _ _ _ _ _ _ _ _ _).2 Try.underlying43 rfl (by kernel_rfl)) rfl ⟨rfl, (end10 (w := w) (by repeat (first | exact HB.out | apply pw_below_drewN)) (by repeat (first | exact B0.out | refine blk_drewN ?_ _)) _ _ _ _ _ _ _ _ _ _).1⟩
            · have h := H.out
              rw [if_neg t5, if_neg (by decide)] at h
              obtain ⟨rfl, rfl⟩ := Prod.mk.inj h
              clear h
              have t5b : (d5 != 17) = true := bne_iff_ne.mpr t5
              clear H
              go_wp2_with (go_at_call 35; refine (HW.out _ _ _ _).mono ?_; rintro e w' ⟨rfl, ⟨nd, rfl⟩⟩)
              exact bodyPost_ret (results_ct rfl _ _ w.heap.size 43 _ (0, 0) _ rfl (end10 (w := w) (by repeat (first | exact HB.out | apply pw_below_drewN)) (by repeat (first | exact B0.out | refine blk_drewN ?_ _)) _ _ _ _ _ _ _ _ _ _).2 Try.underlying43 rfl (by kernel_rfl)) rfl ⟨rfl, (end10 (w := w) (by repeat (first | exact HB.out | apply pw_below_drewN)) (by repeat (first | exact B0.out | refine blk_drewN ?_ _)) _ _ _ _ _ _ _ _ _ _).1⟩
          · have h := H.out
            rw [if_neg t0, if_neg (by decide)] at h
            obtain ⟨rfl, rfl⟩ := Prod.mk.inj h
            clear h
            have t0b : (d0 != 3490578157) = true := bne_iff_ne.mpr t0
            clear H
            go_wp2_with (go_at_call 35; refine (HW.out _ _ _ _).mono ?_; rintro e w' ⟨rfl, ⟨nd, rfl⟩⟩)
            exact bodyPost_ret (results_ct rfl _ _ w.heap.size 43 _ (0, 0) _ rfl (end10 (w := w) (by repeat (first | exact HB.out | apply pw_below_drewN)) (by repeat (first | exact B0.out | refine blk_drewN ?_ _)) _ _ _ _ _ _ _ _ _ _).2 Try.underlying43 rfl (by kernel_rfl)) rfl ⟨rfl, (end10 (w := w) (by repeat (first | exact HB.out | apply pw_below_drewN)) (by repeat (first | exact B0.out | refine blk_drewN ?_ _)) _ _ _ _ _ _ _ _ _ _).1⟩
end Go.Proofs.Ytkopmkinlanhoaa.PE

namespace Go.Proofs.Ytkopmkinlanhoaa.PE
open Go.RowKit Go.Proofs.YtkopmkinlanhoaaW.PrintWords Go.Proofs.YtkopmkinlanhoaaW.PrintLast Go.Proofs.YtkopmkinlanhoaaW.PrintMore
attribute [local go_sem] max2_int min2_int max_two min_two max_three min_three max_four min_four
set_option linter.unusedVariables false
set_option linter.unusedSimpArgs false
structure RdS (w0 W : World) (g : Nat) (sb st : Value) (at_ : Int) : Prop where
  bel : Below w0.heap.size w0 W
  lo : w0.heap.size ≤ g
  blk : W.heap[g]? = some (.cells #[sb, st, .int .i64 at_] 91 (0, 0))
section
variable {w0 W W2 : World} {g : Nat} {sb st : Value} {at_ : Int}
theorem RdS.below (h : RdS w0 W g sb st at_) (hb : Below W.heap.size W W2) : RdS w0 W2 g sb st at_ := ⟨h.bel.trans (hb.mono h.bel.size), h.lo, blk_below h.blk hb⟩
theorem RdS.drewN (h : RdS w0 W g sb st at_) (n : Nat) : RdS w0 (W.drewN n) g sb st at_ := ⟨pw_below_drewN h.bel n, h.lo, h.blk⟩
theorem RdS.move (h : RdS w0 W g sb st at_) (q : Int) : RdS w0 (W.setCell ⟨g, 2, none⟩ (.int .i64 q)) g sb st q := ⟨h.bel.setCell h.lo _, h.lo, blk_put h.blk 2 _ rfl⟩
end
structure RdM (w0 W W2 : World) (g : Nat) (sb st : Value) (q : Int) : Prop where
  st : RdS w0 W2 g sb st q
  kept : Kept W W2 (fun k => k = g)
theorem RdM.then_ {w0 W W2 W3 : World} {g : Nat} {sb st : Value} {q q' : Int} (h : RdM w0 W W2 g sb st q) (k : RdM w0 W2 W3 g sb st q') : RdM w0 W W3 g sb st q' := ⟨k.st, h.kept.then_ k.kept (fun _ hk => .inl hk)⟩
theorem RdM.refl {w0 W : World} {g : Nat} {sb st : Value} {q : Int} (h : RdS w0 W g sb st q) : RdM w0 W W g sb st q := ⟨h, Kept.refl _ _⟩
def nextAt (l : List Int) (i : Int) : Int := if cellOk l i = true then i + 4 else i
theorem cellOk_range (l : List Int) (i : Int) (h : cellOk l i = true) : 0 ≤ i ∧ i + 4 ≤ l.length := by
  unfold cellOk words_Get.f at h
  split at h
  · next h0 => exact ⟨h0.1, by omega⟩
  · simp at h
set_option maxRecDepth 100000 in
set_option maxHeartbeats 1000000 in
theorem reader_cell.calls (Ab : Option Addr) (cb : Nat) (lb : List Int) (st : Value) (at_ : Int) (g : Nat) (w0 W : World) (hC : Kd.C (Kd.int .u8) w0 Ab lb.length lb) (hc : lb.length ≤ cb) (hS : RdS w0 W g (.slice Ab lb.length cb) st at_) :
    Calls Try.prog 69 #[.pointer (some ⟨g, 0, none⟩)] W fun e w' => e = .returned (.tuple #[.int .u32 (cellAt lb at_), .bool (cellOk lb at_)]) ∧ RdM w0 W w' g (.slice Ab lb.length cb) st (nextAt lb at_) := by
  have HS := Aside0.mk hS
  have HQ := Aside0.mk (fun n : Nat => words_Get.calls Ab cb lb at_ (cellAt lb at_) (cellOk lb at_) (W.drewN n) (Kd.C_drewN (Kd.C_below hC hS.bel) n) hc (get_cell lb at_))
  have k0 : W.cell? ⟨g, 0, none⟩ = some (.slice Ab lb.length cb) := (blk_cell hS.blk 0).trans rfl
  have k2 : W.cell? ⟨g, 2, none⟩ = some (.int .i64 at_) := (blk_cell hS.blk 2).trans rfl
  have kf : W.frozen? ⟨g, 2, none⟩ = false := blk_frozen hS.blk 2
  have HM := Aside0.mk hC.2.1
  have HN : Aside0 (nextAt lb at_ = if cellOk lb at_ = true then at_ + 4 else at_) := ⟨rfl⟩
  have HR := Aside0.mk (cellOk_range lb at_)
  clear hC hc hS
  obtain ⟨b, hb⟩ : ∃ b, b = cellOk lb at_ := ⟨_, rfl⟩
  obtain ⟨v, hv⟩ : ∃ v, v = cellAt lb at_ := ⟨_, rfl⟩
  rw [← hb] at HQ HN HR
  rw [← hv] at HQ
  rw [← hb, ← hv]
  clear hb hv
  cases b with
  | true =>
    replace HN : Aside0 (nextAt lb at_ = at_ + 4) := ⟨HN.out.trans (if_pos rfl)⟩
    have hr := HR.out rfl
    have hm := HM.out
    have hw : Go.RowKit.wrap64 (at_ + 4) = at_ + 4 := by unfold Go.RowKit.wrap64; omega
    have h1 := hr.1
    have h2 : at_ + 4 ≤ 9223372036854775807 := by omega
    clear hr hm
    go_enter Try.func69, Try.ntmps69
    go_wp2
    go_quiet (first | (go_at_call 34; (with_reducible refine (HQ.out _).mono ?_); rintro e w' ⟨rfl, ⟨nd, rfl⟩⟩; (try first | exact ⟨rfl, _, World.drewN_drewN _ _ _⟩ | exact ⟨rfl, _, Eq.trans (World.drewN_drewN _ _ _) (congrArg (World.drewN _) (Nat.add_assoc _ _ _))⟩)))
    go_wp2
    go_ret2
    exact ⟨rfl, ⟨by rw [HN.out]; exact (HS.out.drewN _).move _, ((Kept.refl W (fun k => k = g)).drewN _).setCell (p := ⟨g, 2, none⟩) (.inl rfl) _⟩⟩
  | false =>
    replace HN : Aside0 (nextAt lb at_ = at_) := ⟨HN.out.trans (if_neg (by decide))⟩
    go_enter Try.func69, Try.ntmps69
    go_wp2
    go_quiet (first | (go_at_call 34; (with_reducible refine (HQ.out _).mono ?_); rintro e w' ⟨rfl, ⟨nd, rfl⟩⟩; (try first | exact ⟨rfl, _, World.drewN_drewN _ _ _⟩ | exact ⟨rfl, _, Eq.trans (World.drewN_drewN _ _ _) (congrArg (World.drewN _) (Nat.add_assoc _ _ _))⟩)))
    go_wp2
    go_ret2
    exact ⟨rfl, ⟨by rw [HN.out]; exact HS.out.drewN _, (Kept.refl W _).drewN _⟩⟩
def tokF : Nat → List Int → Int → Option (Int × Bool × Int)
  | 0, _, _ => none
  | k + 1, l, i => if cellOk l i = true then (if cellAt l i = 4 then tokF k l (i + 4) else if cellAt l i = 1 then some (1, true, i + 4) else if cellAt l i = 3 then some (3, true, i + 4) else if cellAt l i = 2 then some (2, true, i + 4) else if cellAt l i = 9 then some (9, true, i + 4) else some (0, false, i + 4)) else some (0, false, i)
set_option maxRecDepth 100000 in
set_option maxHeartbeats 1000000 in
theorem reader_token.calls (k : Nat) (Ab : Option Addr) (cb : Nat) (lb : List Int) (st : Value) (at_ : Int) (g : Nat) (w0 W : World) (v : Int) (ok : Bool) (q : Int) (hC : Kd.C (Kd.int .u8) w0 Ab lb.length lb) (hc : lb.length ≤ cb) (hS : RdS w0 W g (.slice Ab lb.length cb) st at_) (h : tokF k lb at_ = some (v, ok, q)) :
    Calls Try.prog 43 #[.pointer (some ⟨g, 0, none⟩)] W fun e w' => e = .returned (.tuple #[.int .u32 v, .bool ok]) ∧ RdM w0 W w' g (.slice Ab lb.length cb) st q := by
  have H0 := Aside0.mk h
  have HC := Aside0.mk hC
  have HCC := Aside0.mk hc
  have HS := Aside0.mk hS
  clear h hC hc hS
  go_enter Try.func43, Try.ntmps43
  go_wp2
  go_loopg [4] k (fun kq v4 w' => ∃ i : Int, Aside0 (tokF kq lb i = some (v, ok, q)) ∧ Aside0 (RdM w0 W w' g (.slice Ab lb.length cb) st i))
  case atStart => exact ⟨at_, H0, ⟨RdM.refl HS.out⟩⟩
  case round =>
    clear H0
    obtain ⟨i, HT, HM⟩ := hrel
    cases gk with
    | zero => exact absurd HT.out (by simp [tokF])
    | succ k1 =>
      have hT := HT.out
      simp only [tokF] at hT
      clear HT
      have HQ := Aside0.mk (reader_cell.calls Ab cb lb st i g w0 wr HC.out HCC.out HM.out.st)
      obtain ⟨b, hb⟩ : ∃ b, b = cellOk lb i := ⟨_, rfl⟩
      obtain ⟨c, hcv⟩ : ∃ c, c = cellAt lb i := ⟨_, rfl⟩
      have HN : Aside0 (nextAt lb i = if b = true then i + 4 else i) := ⟨by rw [hb]; rfl⟩
      rw [← hb, ← hcv] at HQ hT
      clear hb hcv
      cases b with
      | false =>
        rw [if_neg (by decide)] at hT
        replace HN : Aside0 (nextAt lb i = i) := ⟨HN.out.trans (if_neg (by decide))⟩
        obtain ⟨rfl, rfl, rfl⟩ : (0 : Int) = v ∧ false = ok ∧ i = q := by simpa using hT
        clear hT
        go_wp2_with (go_at_call 69; refine HQ.out.mono ?_; rintro e w' ⟨rfl, hm⟩; have HM2 := Aside0.mk (HM.out.then_ hm); clear hm)
        go_ret2
        exact ⟨rfl, by have h2 := HM2.out; rw [HN.out] at h2; exact h2⟩
      | true =>
        rw [if_pos rfl] at hT
        replace HN : Aside0 (nextAt lb i = i + 4) := ⟨HN.out.trans (if_pos rfl)⟩
        by_cases c4 : c = 4
        · subst c4
          rw [if_pos rfl] at hT
          have HT := Aside0.mk hT
          clear hT
          go_wp2_with (go_at_call 69; refine HQ.out.mono ?_; rintro e w' ⟨rfl, hm⟩; have HM2 := Aside0.mk (HM.out.then_ hm); clear hm)
          go_roundg k1
          case measure => omega
          case rel => exact ⟨i + 4, HT, ⟨by have h2 := HM2.out; rw [HN.out] at h2; exact h2⟩⟩
        · rw [if_neg c4] at hT
          have b4 : (c == 4) = false := beq_eq_false_iff_ne.mpr c4
          by_cases c1 : c = 1
          · subst c1
            rw [if_pos rfl] at hT
            obtain ⟨rfl, rfl, rfl⟩ : (1 : Int) = v ∧ true = ok ∧ i + 4 = q := by simpa using hT
            clear hT
            go_wp2_with (go_at_call 69; refine HQ.out.mono ?_; rintro e w' ⟨rfl, hm⟩; have HM2 := Aside0.mk (HM.out.then_ hm); clear hm)
            go_ret2
            exact ⟨rfl, by have h2 := HM2.out; rw [HN.out] at h2; exact h2⟩
          · rw [if_neg c1] at hT
            have b1 : (c == 1) = false := beq_eq_false_iff_ne.mpr c1
            by_cases c3 : c = 3
            · subst c3
              rw [if_pos rfl] at hT
              obtain ⟨rfl, rfl, rfl⟩ : (3 : Int) = v ∧ true = ok ∧ i + 4 = q := by simpa using hT
              clear hT
              go_wp2_with (go_at_call 69; refine HQ.out.mono ?_; rintro e w' ⟨rfl, hm⟩; have HM2 := Aside0.mk (HM.out.then_ hm); clear hm)
              go_ret2
              exact ⟨rfl, by have h2 := HM2.out; rw [HN.out] at h2; exact h2⟩
            · rw [if_neg c3] at hT
              have b3 : (c == 3) = false := beq_eq_false_iff_ne.mpr c3
              by_cases c2 : c = 2
              · subst c2
                rw [if_pos rfl] at hT
                obtain ⟨rfl, rfl, rfl⟩ : (2 : Int) = v ∧ true = ok ∧ i + 4 = q := by simpa using hT
                clear hT
                go_wp2_with (go_at_call 69; refine HQ.out.mono ?_; rintro e w' ⟨rfl, hm⟩; have HM2 := Aside0.mk (HM.out.then_ hm); clear hm)
                go_ret2
                exact ⟨rfl, by have h2 := HM2.out; rw [HN.out] at h2; exact h2⟩
              · rw [if_neg c2] at hT
                have b2 : (c == 2) = false := beq_eq_false_iff_ne.mpr c2
                by_cases c9 : c = 9
                · subst c9
                  rw [if_pos rfl] at hT
                  obtain ⟨rfl, rfl, rfl⟩ : (9 : Int) = v ∧ true = ok ∧ i + 4 = q := by simpa using hT
                  clear hT
                  go_wp2_with (go_at_call 69; refine HQ.out.mono ?_; rintro e w' ⟨rfl, hm⟩; have HM2 := Aside0.mk (HM.out.then_ hm); clear hm)
                  go_ret2
                  exact ⟨rfl, by have h2 := HM2.out; rw [HN.out] at h2; exact h2⟩
                · rw [if_neg c9] at hT
                  have b9 : (c == 9) = false := beq_eq_false_iff_ne.mpr c9
                  obtain ⟨rfl, rfl, rfl⟩ : (0 : Int) = v ∧ false = ok ∧ i + 4 = q := by simpa using hT
                  clear hT
                  go_wp2_with (go_at_call 69; refine HQ.out.mono ?_; rintro e w' ⟨rfl, hm⟩; have HM2 := Aside0.mk (HM.out.then_ hm); clear hm)
                  go_ret2
                  exact ⟨rfl, by have h2 := HM2.out; rw [HN.out] at h2; exact h2⟩
end Go.Proofs.Ytkopmkinlanhoaa.PE

namespace Go.Proofs.Ytkopmkinlanhoaa.PE
open Go.RowKit Go.Proofs.YtkopmkinlanhoaaW.PrintWords Go.Proofs.YtkopmkinlanhoaaW.PrintLast Go.Proofs.YtkopmkinlanhoaaW.PrintMore
attribute [local go_sem] max2_int min2_int max_two min_two max_three min_three max_four min_four
set_option linter.unusedVariables false
set_option linter.unusedSimpArgs false
def padN (n : Int) : Int := (words_Pad.f n).getD 0
theorem pad_f (n : Int) : words_Pad.f n = some (padN n) := by
  unfold padN words_Pad.f
  split <;> rfl
theorem padN_eq (n : Int) (h : 0 ≤ n) : padN n = (4 - n % 4) % 4 := by
  unfold padN words_Pad.f
  rw [if_neg (by omega)]
  simp only [Option.getD_some]
  rw [Int.tmod_eq_emod_of_nonneg h]
  have : Go.RowKit.wrap64 (4 - n % 4) = 4 - n % 4 := by unfold Go.RowKit.wrap64; omega
  rw [this, Int.tmod_eq_emod_of_nonneg (by omega)]
def padOk (l : List Int) : Bool := ((Lib.countByte (Lib.bytesOf l) 0 : Int) == (l.length : Int))
def takeF (l : List Int) (i n : Int) : List Int × Bool × Int :=
  if n + padN n ≤ (l.length : Int) - i then ((l.take (i + n).toNat).drop i.toNat, padOk ((l.take (i + (n + padN n)).toNat).drop (i + n).toNat), i + (n + padN n)) else ([], false, i)
set_option maxRecDepth 100000 in
set_option maxHeartbeats 2000000 in
theorem reader_take.calls (ab : Addr) (cb : Nat) (lb : List Int) (st : Value) (at_ n : Int) (g : Nat) (w0 W : World) (hC : Kd.C (Kd.int .u8) w0 (some ab) lb.length lb) (hc : lb.length ≤ cb) (hS : RdS w0 W g (.slice (some ab) lb.length cb) st at_) (h0 : 0 ≤ at_) (h1 : at_ ≤ lb.length) (hn : 0 ≤ n) (hn1 : n ≤ 1099511627776) :
    Calls Try.prog 84 #[.pointer (some ⟨g, 0, none⟩), .int .i64 n] W fun e w' => ∃ (A : Option Addr) (c : Nat), e = .returned (.tuple #[.slice A (takeF lb at_ n).1.length c, .bool (takeF lb at_ n).2.1]) ∧ (takeF lb at_ n).1.length ≤ c ∧ Kd.C (Kd.int .u8) w0 A (takeF lb at_ n).1.length (takeF lb at_ n).1 ∧ RdM w0 W w' g (.slice (some ab) lb.length cb) st (takeF lb at_ n).2.2 := by
  have hp := padN_eq n hn
  have hm := hC.2.1
  have HPAD := Aside0.mk (fun W => words_Pad.calls n (padN n) W (pad_f n))
  obtain ⟨p, hpe⟩ : ∃ p, p = padN n := ⟨_, rfl⟩
  have hp0 : 0 ≤ p ∧ p ≤ 3 := by omega
  have k0 : W.cell? ⟨g, 0, none⟩ = some (.slice (some ab) lb.length cb) := (blk_cell hS.blk 0).trans rfl
  have k2 : W.cell? ⟨g, 2, none⟩ = some (.int .i64 at_) := (blk_cell hS.blk 2).trans rfl
  have kf : W.frozen? ⟨g, 2, none⟩ = false := blk_frozen hS.blk 2
  have fn : decide (n < 0) = false := decide_eq_false (by omega)
  have s1 : IntKind.i64.wrap (n + p) = n + p := by rw [i64_w]; unfold Go.RowKit.wrap64; omega
  by_cases c : n + p ≤ (lb.length : Int) - at_
  · have ht : takeF lb at_ n = ((lb.take (at_ + n).toNat).drop at_.toNat, padOk ((lb.take (at_ + (n + p)).toNat).drop (at_ + n).toNat), at_ + (n + p)) := by
      unfold takeF
      rw [← hpe, if_pos c]
    rw [ht]
    rw [← hpe] at HPAD
    have f2 : decide ((lb.length : Int) - at_ < n + p) = false := decide_eq_false (by omega)
    have s0 : IntKind.i64.wrap ((lb.length : Int) - at_) = (lb.length : Int) - at_ := by rw [i64_w]; unfold Go.RowKit.wrap64; omega
    have s2 : IntKind.i64.wrap (at_ + n) = at_ + n := by rw [i64_w]; unfold Go.RowKit.wrap64; omega
    have s3 : IntKind.i64.wrap (at_ + (n + p)) = at_ + (n + p) := by rw [i64_w]; unfold Go.RowKit.wrap64; omega
    obtain ⟨i0, hi0, hza, hsz, hzb⟩ := info_parts info5
    have hcut1 := cut_mid 45 5 .i64 .i64 Try.underlying45 hi0 1 hsz (some ab) lb.length cb at_ (at_ + n) h0 (by omega) (by omega) hc
    have hcut2 := cut_mid 45 5 .i64 .i64 Try.underlying45 hi0 1 hsz (some ab) lb.length cb (at_ + n) (at_ + (n + p)) (by omega) (by omega) (by omega) hc
    have C1 := Kd.C_mid (lo := at_.toNat) (hi := (at_ + n).toNat) hC (by omega) (by omega) hc
    have C2 := Kd.C_mid (lo := (at_ + n).toNat) (hi := (at_ + (n + p)).toNat) hC (by omega) (by omega) hc
    obtain ⟨A1, hA1⟩ : ∃ A1, A1 = (if cb = at_.toNat then some ab else (some ab).map (·.add (at_.toNat * 1))) := ⟨_, rfl⟩
    obtain ⟨a2, hA2⟩ : ∃ a2, some a2 = (if cb = (at_ + n).toNat then some ab else (some ab).map (·.add ((at_ + n).toNat * 1))) := by split <;> exact ⟨_, rfl⟩
    obtain ⟨y1, hy1⟩ : ∃ y, y = (lb.take (at_ + n).toNat).drop at_.toNat := ⟨_, rfl⟩
    obtain ⟨y2, hy2⟩ : ∃ y, y = (lb.take (at_ + (n + p)).toNat).drop (at_ + n).toNat := ⟨_, rfl⟩
    have l1 : (at_ + n).toNat - at_.toNat = y1.length := by rw [hy1, List.length_drop, List.length_take]; omega
    have l2 : (at_ + (n + p)).toNat - (at_ + n).toNat = y2.length := by rw [hy2, List.length_drop, List.length_take]; omega
    have q1 : y1.length ≤ cb - at_.toNat := by omega
    rw [show (Kd.int .u8).sz = 1 from rfl, ← hA1, ← hy1] at C1
    rw [show (Kd.int .u8).sz = 1 from rfl, ← hA2, ← hy2] at C2
    rw [← hA1, l1] at hcut1
    rw [← hA2, l2] at hcut2
    rw [← hy1, ← hy2]
    have HCT := Aside0.mk (fun (W2 : World) (b2 : Nat) (hb : Below w0.heap.size w0 W2) (hz : W2.cell? ⟨b2, 0, none⟩ = some (.int .u8 0)) =>
      Try.bytes_Count_one_at a2 y2.length (cb - (at_ + n).toNat) b2 0 1 y2 0 W2 rfl (by
        have hr := Kd.reads_of_C (enc := Value.int .u8) (d := (0 : Int)) (h1 := fun _ => rfl) (Kd.C_below C2 hb)
        intro i hi
        obtain ⟨ad, e, hc⟩ := hr.2.2 (by omega)
        injection e with e
        subst e
        exact hc i hi) hz)
    have HS := Aside0.mk hS
    have HC1 := Aside0.mk C1
    have HQ1 := Aside0.mk q1
    have hat1 : 0 ≤ at_ := h0
    clear C1 C2 hA1 hA2 hy1 hy2 l1 l2 q1 hp hpe hC hc hS ht hsz hi0 hm hza hzb
    show Calls Try.prog 84 #[.pointer (some ⟨g, 0, none⟩), .int .i64 n] W fun e w' => ∃ (A : Option Addr) (c : Nat), e = .returned (.tuple #[.slice A y1.length c, .bool (padOk y2)]) ∧ y1.length ≤ c ∧ Kd.C (Kd.int .u8) w0 A y1.length y1 ∧ RdM w0 W w' g (.slice (some ab) lb.length cb) st (at_ + (n + p))
    go_enter Try.func84, Try.ntmps84
    go_wp2_with (go_at_call 92; refine (HPAD.out _).mono ?_; rintro e w' ⟨rfl, ⟨nd, rfl⟩⟩)
    go_quiet (fail)
    go_wp2
    go_quiet (fail)
    go_wp2_with (go_at_call 96; refine (HCT.out _ _ ?hb ?hz).mono ?_; (case hb => exact (((HS.out.drewN _).move _).below (below_alloc (Below.refl _ _) _)).bel); (case hz => go_simp); rintro e w' ⟨rfl, rfl⟩)
    go_ret2
    exact ⟨A1, _, rfl, HQ1.out, HC1.out, ⟨((HS.out.drewN _).move _).below (below_alloc (Below.refl _ _) _), (((Kept.refl W (fun k => k = g)).drewN _).setCell (p := ⟨g, 2, none⟩) (.inl rfl) _).alloc _⟩⟩
  · have ht : takeF lb at_ n = ([], false, at_) := by
      unfold takeF
      rw [← hpe, if_neg c]
    rw [ht]
    rw [← hpe] at HPAD
    have f2 : decide ((lb.length : Int) - at_ < n + p) = true := decide_eq_true (by omega)
    have s0 : IntKind.i64.wrap ((lb.length : Int) - at_) = (lb.length : Int) - at_ := by
      rw [i64_w]; unfold Go.RowKit.wrap64; omega
    have HS := Aside0.mk hS
    have hm0 := hm
    clear hp hpe hC hc hS ht hm hm0
    show Calls Try.prog 84 #[.pointer (some ⟨g, 0, none⟩), .int .i64 n] W fun e w' => ∃ (A : Option Addr) (c : Nat), e = .returned (.tuple #[.slice A 0 c, .bool false]) ∧ 0 ≤ c ∧ Kd.C (Kd.int .u8) w0 A 0 [] ∧ RdM w0 W w' g (.slice (some ab) lb.length cb) st at_
    go_enter Try.func84, Try.ntmps84
    go_wp2_with (go_at_call 92; refine (HPAD.out _).mono ?_; rintro e w' ⟨rfl, ⟨nd, rfl⟩⟩)
    go_quiet (fail)
    go_wp2
    go_ret2
    exact ⟨none, 0, rfl, Nat.le_refl _, Kd.C_nil _ _, ⟨(HS.out.drewN _).drewN _, ((Kept.refl W (fun k => k = g)).drewN _).drewN _⟩⟩
end Go.Proofs.Ytkopmkinlanhoaa.PE

namespace Go.Proofs.Ytkopmkinlanhoaa.PE
open Go.RowKit Go.Proofs.YtkopmkinlanhoaaW.PrintWords Go.Proofs.YtkopmkinlanhoaaW.PrintLast Go.Proofs.YtkopmkinlanhoaaW.PrintMore
attribute [local go_sem] max2_int min2_int max_two min_two max_three min_three max_four min_four
set_option linter.unusedVariables false
set_option linter.unusedSimpArgs false
def knownB (hs : List ByteArray) (x : ByteArray) : Bool := decide (x.data.toList ∈ hs.map (·.data.toList))
def MapS (w : World) (b : Nat) (hs : List ByteArray) : Prop := ∃ D : DataW Unit, w.ownsMap Try.prog 9 (plainElem Try.prog 4) b hs.length D ∧ Maps.IsMap D ∧ ∀ h : ByteArray, h.size ≤ maxLen → D.atKey (.string h.data.toList) (.lit (.bool false)) = .lit (.bool (knownB hs h))
theorem plainElem_bool_inv {H : Type} {P : Program} {e : TypeId} (he : P.underlying e = some .bool) {v : Value} {z : DataW H × List MemPlace} (h : plainElem P e v = some z) : ∃ a, v = .bool a ∧ z = (.lit (.bool a), []) := by
  unfold plainElem at h
  rw [he] at h
  cases v <;> simp at h
  exact ⟨_, rfl, h.symm⟩
theorem zero_bool (w : World) : (zeroValue 4).run Try.prog w = .ok (.bool false) w := by kernel_rfl
theorem MapS.made (w : World) : MapS (w.alloc (.map #[] 0)) w.heap.size [] := ⟨.map [], World.ownsMap_made _ _ _ _, ⟨_, rfl⟩, fun h _ => by simp [DataW.atKey, knownB]⟩
theorem MapS.lt {w : World} {b : Nat} {hs : List ByteArray} (h : MapS w b hs) : b < w.heap.size := h.choose_spec.1.lt
theorem MapS.same {w w' : World} {b : Nat} {hs : List ByteArray} (h : MapS w b hs) (hk : w'.heap[b]? = w.heap[b]?) : MapS w' b hs := by
  obtain ⟨D, ⟨es, clock, hb, F, hs, hD⟩, hm, hat⟩ := h
  exact ⟨D, ⟨es, clock, hk.trans hb, F, hs, hD⟩, hm, hat⟩
theorem keyOf_string_mk {P : Program} {k : TypeId} (hk : P.underlying k = some .string) {s : ByteArray} (hs : s.size ≤ maxLen) : keyOf P k (.string s) = some (.string s.data.toList) := by
  simp [keyOf, hk, mapKey, hs]
theorem MapS.look {w : World} {b : Nat} {hs : List ByteArray} (h : MapS w b hs) (x : ByteArray) (hx : x.size ≤ maxLen) : (Instr.lookup 94 (.map (some b)) (.string x) false).run Try.prog w = .ok (.bool (knownB hs x)) w := by
  obtain ⟨D, ho, _, hat⟩ := h
  obtain ⟨v, ps, hrun, hv⟩ := ho.lookup (Maps.string_keyed Try.underlying9) Try.underlying94 (zero_bool _) (plainElem_bool Try.underlying4 false) (keyOf_string_mk Try.underlying9 hx)
  rw [hat x hx] at hv
  obtain ⟨a, rfl, hz⟩ := plainElem_bool_inv Try.underlying4 hv
  rw [hrun]
  simp only [Prod.mk.injEq, DataW.lit.injEq, Lit.bool.injEq] at hz
  rw [hz.1]
theorem ba_ext {x y : ByteArray} (h : x.data.toList = y.data.toList) : x = y := by
  obtain ⟨⟨x⟩⟩ := x
  obtain ⟨⟨y⟩⟩ := y
  simp only at h
  rw [h]
theorem MapS.put {w : World} {b : Nat} {hs : List ByteArray} (h : MapS w b hs) (hn : hs.length < maxLen) (x : ByteArray) (hx : x.size ≤ maxLen) : ∃ w', (Instr.mapUpdate 94 (.map (some b)) (.string x) (.bool true)).run Try.prog w = .ok () w' ∧ MapS w' b (hs ++ [x]) ∧ w.grownBy w' (some b) := by
  obtain ⟨D, ho, hm, hat⟩ := h
  obtain ⟨w', hrun, ho', hg⟩ := ho.update (Maps.string_keyed Try.underlying9) Try.underlying94 hn (keyOf_string_mk Try.underlying9 hx) (plainElem_bool Try.underlying4 true)
  refine ⟨w', hrun, ⟨_, by rw [List.length_append]; exact ho', ?_, fun y hy => ?_⟩, hg⟩
  · obtain ⟨es, rfl⟩ := hm
    exact ⟨_, rfl⟩
  · by_cases e : y = x
    · subst e
      rw [Maps.atKey_put_same hm (by simp [WideAt.IsKeyLit])]
      simp [knownB]
    · have e2 : ¬ y.data.toList = x.data.toList := fun h2 => e (ba_ext h2)
      rw [Maps.atKey_put_other (by simpa using e2), hat y hy]
      simp [knownB, e2]
theorem wpList_mapS {ops : Array Oper} {rest : List Oper} {o : Oper} {a : Act} {Q : Exit → Act → World → Prop} (W : World) (hg : o.guard = none) (m x v : Operand) (hop : o.op = Op.mapUpdate 94 m x v)
    (b : Nat) (hs : List ByteArray) (hm : a.eval m = .map (some b)) (h : MapS W b hs) (hn : hs.length < maxLen) (y : ByteArray) (hx : a.eval x = .string y) (hy : y.size ≤ maxLen) (hv : a.eval v = .bool true)
    (hK : ∀ w', MapS w' b (hs ++ [y]) → W.grownBy w' (some b) → wpList Try.prog ops Q rest (a.put o.dst undef) w') : wpList Try.prog ops Q (o :: rest) a W := by
  refine wpList_plain hg fun K' hK' => ?_
  obtain ⟨w', hrun, r1, r2⟩ := h.put hn y hy
  unfold Oper.wp
  simp [execOp, hop, hm, hx, hv, hrun, Result.andThen]
  exact hK' _ _ (hK w' r1 r2)
theorem MapS.below {w w' : World} {b : Nat} {hs : List ByteArray} (h : MapS w b hs) (hb : Below w.heap.size w w') : MapS w' b hs := h.same (hb.block b h.lt)
theorem MapS.kept {w w' : World} {b : Nat} {hs : List ByteArray} {S : Nat → Prop} (h : MapS w b hs) (hk : Kept w w' S) (hn : ¬ S b) : MapS w' b hs := h.same (hk.2 b h.lt hn)
end Go.Proofs.Ytkopmkinlanhoaa.PE

namespace Go.Proofs.Ytkopmkinlanhoaa.PE
open Go.RowKit Go.Proofs.YtkopmkinlanhoaaW.PrintWords Go.Proofs.YtkopmkinlanhoaaW.PrintLast Go.Proofs.YtkopmkinlanhoaaW.PrintMore
attribute [local go_sem] max2_int min2_int max_two min_two max_three min_three max_four min_four   -- for this text's walks alone
set_option linter.unusedVariables false
set_option linter.unusedSimpArgs false
def arboretref01_Bytes.l0 : Nat → Int → List Int → Int → Option (List Int)
  | 0, _, _, _ => none
  | k + 1, x0, x5, x6 => if x6 ≥ 0 then (if 0 ≤ x6 then (if x6 < (x5.length : Int) then (arboretref01_Bytes.l0 k (IntKind.u64.wrap (Int.tdiv x0 256)) (x5.set (x6 : Int).toNat ((Int.tmod x0 256) % 256)) (wrap64 (x6 - 1))) else (none)) else (none)) else (some x5)
def arboretref01_Bytes.f (k : Nat) (a0 : Int) (a1 : Int) : Option (List Int) := if 0 ≤ a1 then (if (a1 : Int).toNat ≤ 281474976710656 then (arboretref01_Bytes.l0 k a0 (List.replicate (a1 : Int).toNat 0) (wrap64 (a1 - 1))) else (none)) else (none)
end Go.Proofs.Ytkopmkinlanhoaa.PE

namespace Go.Proofs.Ytkopmkinlanhoaa.PE
open Go.RowKit Go.Proofs.YtkopmkinlanhoaaW.PrintWords Go.Proofs.YtkopmkinlanhoaaW.PrintLast Go.Proofs.YtkopmkinlanhoaaW.PrintMore
attribute [local go_sem] max2_int min2_int max_two min_two max_three min_three max_four min_four
set_option linter.unusedVariables false
set_option linter.unusedSimpArgs false
def cellB (v : Int) : List Int := [v / 16777216 % 256, v / 65536 % 256, v / 256 % 256, v % 256]
theorem cellB_length (v : Int) : (cellB v).length = 4 := rfl
theorem u64_small {x : Int} (h0 : 0 ≤ x) (h1 : x < 18446744073709551616) : IntKind.u64.wrap x = x := by
  simp only [IntKind.wrap, IntKind.bits, IntKind.signed]
  simp
  omega
theorem or_byte {x y : Int} (hx : 0 ≤ x) (hx1 : x < 72057594037927936) (hy : 0 ≤ y) (hy1 : y ≤ 255) : Go.bits .or .u64 (IntKind.u64.wrap (x * 256)) (IntKind.u64.wrap y) = x * 256 + y := by
  rw [u64_small (by omega) (by omega), u64_small hy (by omega)]
  exact Go.bits_join .u64 64 (by decide) (fun n h0 h1 => u64_small h0 (by simpa using h1)) 8 (x * 256) y (by omega) (by simp only [Int.reducePow]; omega) (by simp only [Int.reducePow]; omega) hy (by simp only [Int.reducePow]; omega) (by simp only [Int.reducePow]; omega)
theorem numb_four (a b c d : Int) (ha : 0 ≤ a ∧ a ≤ 255) (hb : 0 ≤ b ∧ b ≤ 255) (hc : 0 ≤ c ∧ c ≤ 255) (hd : 0 ≤ d ∧ d ≤ 255) : numb [a, b, c, d] = a * 16777216 + b * 65536 + c * 256 + d := by
  unfold numb
  simp only [List.foldl_cons, List.foldl_nil]
  rw [or_byte (x := 0) (by omega) (by omega) ha.1 ha.2]
  rw [or_byte (by omega) (by omega) hb.1 hb.2, or_byte (by omega) (by omega) hc.1 hc.2, or_byte (by omega) (by omega) hd.1 hd.2]
  omega
theorem numb_cellB (v : Int) (h0 : 0 ≤ v) (h1 : v < 4294967296) : numb (cellB v) = v := by
  unfold cellB
  rw [numb_four _ _ _ _ (by omega) (by omega) (by omega) (by omega)]
  omega
theorem cellAt_mid (p q : List Int) (v : Int) (h0 : 0 ≤ v) (h1 : v < 4294967296) : words_Get.f (p ++ cellB v ++ q) (p.length : Int) = some (v, true) := by
  unfold words_Get.f
  rw [if_pos ⟨Int.natCast_nonneg _, by simp only [List.length_append, cellB_length]; omega⟩]
  have e : (((p ++ cellB v ++ q).take ((p.length : Int) + 4).toNat).drop (p.length : Int).toNat) = cellB v := by
    have e1 : ((p.length : Int) + 4).toNat = (p ++ cellB v).length := by rw [List.length_append, cellB_length]; omega
    rw [e1, List.take_left, Int.toNat_natCast, List.drop_left]
  rw [e, numb_cellB v h0 h1]
  have : v % 4294967296 = v := by omega
  rw [this]
end Go.Proofs.Ytkopmkinlanhoaa.PE

namespace Go.Proofs.Ytkopmkinlanhoaa.PE
open Go.RowKit Go.Proofs.YtkopmkinlanhoaaW.PrintWords Go.Proofs.YtkopmkinlanhoaaW.PrintLast Go.Proofs.YtkopmkinlanhoaaW.PrintMore
attribute [local go_sem] max2_int min2_int max_two min_two max_three min_three max_four min_four
set_option linter.unusedVariables false
set_option linter.unusedSimpArgs false
theorem put_four (l : List Int) (v : Int) (h0 : 0 ≤ v) (h1 : v < 4294967296) (hl : l.length ≤ 1099511627776) : words_Put.f 6 l v = some (l ++ cellB v) := by
  unfold words_Put.f words_put.f slices_Clone_byte_byte.f
  rw [if_pos (by omega), u64_small h0 (by omega)]
  simp only [Option.bind_some]
  have w3 : wrap64 (4 - 1) = 3 := by unfold wrap64; omega
  have w2 : wrap64 (3 - 1) = 2 := by unfold wrap64; omega
  have w1 : wrap64 (2 - 1) = 1 := by unfold wrap64; omega
  have w0 : wrap64 (1 - 1) = 0 := by unfold wrap64; omega
  have wm : wrap64 (0 - 1) = -1 := by unfold wrap64; omega
  have s3 : wrap64 (8 * 3) = 24 := by unfold wrap64; omega
  have s2 : wrap64 (8 * 2) = 16 := by unfold wrap64; omega
  have s1 : wrap64 (8 * 1) = 8 := by unfold wrap64; omega
  have s0 : wrap64 (8 * 0) = 0 := by unfold wrap64; omega
  have t3 : shr .u64 v 24 = v / 16777216 := rfl
  have t2 : shr .u64 v 16 = v / 65536 := rfl
  have t1 : shr .u64 v 8 = v / 256 := rfl
  have t0 : shr .u64 v 0 = v := by show v / 1 = v; omega
  rw [w3]
  simp only [words_put.l0]
  rw [if_pos (by decide), s3, if_pos (by decide), if_pos (by omega), w2, t3]
  rw [if_pos (by decide), s2, if_pos (by decide), if_pos (by simp; omega), w1, t2]
  rw [if_pos (by decide), s1, if_pos (by decide), if_pos (by simp; omega), w0, t1]
  rw [if_pos (by decide), s0, if_pos (by decide), if_pos (by simp; omega), wm, t0, if_neg (by decide)]
  simp [cellB]
theorem put_eight (l : List Int) (v : Int) (hl : l.length ≤ 1099511627776) : words_Put64.f 10 l v = some (l ++ (cellB (v / 4294967296) ++ cellB v)) := by
  unfold words_Put64.f words_put.f slices_Clone_byte_byte.f
  rw [if_pos (by omega)]
  simp only [Option.bind_some]
  have w7 : wrap64 (8 - 1) = 7 := by unfold wrap64; omega
  have w6 : wrap64 (7 - 1) = 6 := by unfold wrap64; omega
  have w5 : wrap64 (6 - 1) = 5 := by unfold wrap64; omega
  have w4 : wrap64 (5 - 1) = 4 := by unfold wrap64; omega
  have w3 : wrap64 (4 - 1) = 3 := by unfold wrap64; omega
  have w2 : wrap64 (3 - 1) = 2 := by unfold wrap64; omega
  have w1 : wrap64 (2 - 1) = 1 := by unfold wrap64; omega
  have w0 : wrap64 (1 - 1) = 0 := by unfold wrap64; omega
  have wm : wrap64 (0 - 1) = -1 := by unfold wrap64; omega
  have s7 : wrap64 (8 * 7) = 56 := by unfold wrap64; omega
  have s6 : wrap64 (8 * 6) = 48 := by unfold wrap64; omega
  have s5 : wrap64 (8 * 5) = 40 := by unfold wrap64; omega
  have s4 : wrap64 (8 * 4) = 32 := by unfold wrap64; omega
  have s3 : wrap64 (8 * 3) = 24 := by unfold wrap64; omega
  have s2 : wrap64 (8 * 2) = 16 := by unfold wrap64; omega
  have s1 : wrap64 (8 * 1) = 8 := by unfold wrap64; omega
  have s0 : wrap64 (8 * 0) = 0 := by unfold wrap64; omega
  have t7 : shr .u64 v 56 = v / 4294967296 / 16777216 := by show v / 72057594037927936 = _; omega
  have t6 : shr .u64 v 48 = v / 4294967296 / 65536 := by show v / 281474976710656 = _; omega
  have t5 : shr .u64 v 40 = v / 4294967296 / 256 := by show v / 1099511627776 = _; omega
  have t4 : shr .u64 v 32 = v / 4294967296 := rfl
  have t3 : shr .u64 v 24 = v / 16777216 := rfl
  have t2 : shr .u64 v 16 = v / 65536 := rfl
  have t1 : shr .u64 v 8 = v / 256 := rfl
  have t0 : shr .u64 v 0 = v := by show v / 1 = v; omega
  rw [w7]
  simp only [words_put.l0]
  rw [if_pos (by decide), s7, if_pos (by decide), if_pos (by omega), w6, t7]
  rw [if_pos (by decide), s6, if_pos (by decide), if_pos (by simp; omega), w5, t6]
  rw [if_pos (by decide), s5, if_pos (by decide), if_pos (by simp; omega), w4, t5]
  rw [if_pos (by decide), s4, if_pos (by decide), if_pos (by simp; omega), w3, t4]
  rw [if_pos (by decide), s3, if_pos (by decide), if_pos (by simp; omega), w2, t3]
  rw [if_pos (by decide), s2, if_pos (by decide), if_pos (by simp; omega), w1, t2]
  rw [if_pos (by decide), s1, if_pos (by decide), if_pos (by simp; omega), w0, t1]
  rw [if_pos (by decide), s0, if_pos (by decide), if_pos (by simp; omega), wm, t0, if_neg (by decide)]
  simp [cellB]
def firstI : List (ByteArray × Int) → ByteArray → Option Int
  | [], _ => none
  | (y, i) :: r, x => if y.data.toList = x.data.toList then some i else firstI r x
def MapI (w : World) (b : Nat) (hs : List (ByteArray × Int)) : Prop := ∃ D : DataW Unit, w.ownsMap Try.prog 9 (plainElem Try.prog 3) b hs.length D ∧ Maps.IsMap D ∧ ∀ h : ByteArray, h.size ≤ maxLen → D.atKey (.string h.data.toList) (.lit (.int .i64 0)) = .lit (.int .i64 ((firstI hs h).getD 0)) ∧ Maps.has D (.string h.data.toList) = (firstI hs h).isSome
theorem zero_int (w : World) : (zeroValue 3).run Try.prog w = .ok (.int .i64 0) w := by kernel_rfl
theorem MapI.made (w : World) : MapI (w.alloc (.map #[] 0)) w.heap.size [] := ⟨.map [], World.ownsMap_made _ _ _ _, ⟨_, rfl⟩, fun h _ => ⟨by simp [DataW.atKey, firstI], rfl⟩⟩
theorem MapI.lt {w : World} {b : Nat} {hs : List (ByteArray × Int)} (h : MapI w b hs) : b < w.heap.size := h.choose_spec.1.lt
theorem MapI.same {w w' : World} {b : Nat} {hs : List (ByteArray × Int)} (h : MapI w b hs) (hk : w'.heap[b]? = w.heap[b]?) : MapI w' b hs := by
  obtain ⟨D, ⟨es, clock, hb, F, hs, hD⟩, hm, hat⟩ := h
  exact ⟨D, ⟨es, clock, hk.trans hb, F, hs, hD⟩, hm, hat⟩
theorem MapI.isMap {w : World} {b : Nat} {hs : List (ByteArray × Int)} (h : MapI w b hs) : ∃ es clock, w.heap[b]? = some (.map es clock) := by
  obtain ⟨D, ⟨es, clock, hb, _⟩, _⟩ := h
  exact ⟨es, clock, hb⟩
theorem MapI.look {w : World} {b : Nat} {hs : List (ByteArray × Int)} (h : MapI w b hs) (x : ByteArray) (hx : x.size ≤ maxLen) : (Instr.lookup 98 (.map (some b)) (.string x) true).run Try.prog w = .ok (.tuple #[.int .i64 ((firstI hs x).getD 0), .bool (firstI hs x).isSome]) w := by
  obtain ⟨D, ho, _, hat⟩ := h
  obtain ⟨v, ps, hrun, hv⟩ := ho.look_ok (Maps.string_keyed Try.underlying9) Try.underlying98 (zero_int _) (plainElem_int Try.underlying3 (by decide)) (keyOf_string_mk Try.underlying9 hx)
  obtain ⟨h1, h2⟩ := hat x hx
  rw [h1] at hv
  obtain ⟨c, rfl, hc, _⟩ := plainElem_int_inv Try.underlying3 hv
  rw [hrun, h2]
  simp only [Prod.mk.injEq, DataW.lit.injEq, Lit.int.injEq, true_and, and_true] at hc
  rw [hc.1]
theorem firstI_append (x : ByteArray) (i : Int) (y : ByteArray) : ∀ hs : List (ByteArray × Int), firstI (hs ++ [(x, i)]) y = match firstI hs y with | some v => some v | none => if x.data.toList = y.data.toList then some i else none
  | [] => by simp [firstI]
  | (z, j) :: r => by
    have ih := firstI_append x i y r
    by_cases c : z.data.toList = y.data.toList
    · simp [firstI, c]
    · simp only [List.cons_append, firstI, if_neg c, ih]
theorem MapI.put {w : World} {b : Nat} {hs : List (ByteArray × Int)} (h : MapI w b hs) (hn : hs.length < maxLen) (x : ByteArray) (hx : x.size ≤ maxLen) (i : Int) (hi : (Lit.int .i64 i).wf = true) (habs : firstI hs x = none) : ∃ w', (Instr.mapUpdate 98 (.map (some b)) (.string x) (.int .i64 i)).run Try.prog w = .ok () w' ∧ MapI w' b (hs ++ [(x, i)]) ∧ w.grownBy w' (some b) := by
  obtain ⟨D, ho, hm, hat⟩ := h
  obtain ⟨w', hrun, ho', hg⟩ := ho.update (Maps.string_keyed Try.underlying9) Try.underlying98 hn (keyOf_string_mk Try.underlying9 hx) (plainElem_int Try.underlying3 hi)
  refine ⟨w', hrun, ⟨_, by rw [List.length_append]; exact ho', ?_, fun y hy => ?_⟩, hg⟩
  · obtain ⟨es, rfl⟩ := hm
    exact ⟨_, rfl⟩
  · rw [firstI_append]
    by_cases e : y = x
    · subst e
      rw [Maps.atKey_put_same hm (by simp [WideAt.IsKeyLit]), Maps.has_put_same hm (by simp [WideAt.IsKeyLit]), habs]
      simp
    · have e2 : ¬ y.data.toList = x.data.toList := fun h2 => e (ba_ext h2)
      have e3 : ¬ x.data.toList = y.data.toList := fun h2 => e2 h2.symm
      rw [Maps.atKey_put_other (by simpa using e2), Maps.has_put_other (by simpa using e2), (hat y hy).1, (hat y hy).2]
      cases firstI hs y <;> simp [e3]
theorem wpList_mapI {ops : Array Oper} {rest : List Oper} {o : Oper} {a : Act} {Q : Exit → Act → World → Prop} (W : World) (hg : o.guard = none) (m x v : Operand) (hop : o.op = Op.mapUpdate 98 m x v)
    (b : Nat) (hs : List (ByteArray × Int)) (hm : a.eval m = .map (some b)) (h : MapI W b hs) (hn : hs.length < maxLen) (y : ByteArray) (hx : a.eval x = .string y) (hy : y.size ≤ maxLen) (i : Int) (hv : a.eval v = .int .i64 i) (hi : (Lit.int .i64 i).wf = true) (habs : firstI hs y = none)
    (hK : ∀ w', MapI w' b (hs ++ [(y, i)]) → W.grownBy w' (some b) → wpList Try.prog ops Q rest (a.put o.dst undef) w') : wpList Try.prog ops Q (o :: rest) a W := by
  refine wpList_plain hg fun K' hK' => ?_
  obtain ⟨w', hrun, r1, r2⟩ := h.put hn y hy i hi habs
  unfold Oper.wp
  simp [execOp, hop, hm, hx, hv, hrun, Result.andThen]
  exact hK' _ _ (hK w' r1 r2)
theorem MapI.below {w w' : World} {b : Nat} {hs : List (ByteArray × Int)} (h : MapI w b hs) (hb : Below w.heap.size w w') : MapI w' b hs := h.same (hb.block b h.lt)
structure WrS (w0 W : World) (g mb : Nat) (vb vt : Value) (B T : List Int) (hs : List (ByteArray × Int)) : Prop where
  bel : Below w0.heap.size w0 W
  lo : w0.heap.size ≤ g
  lom : w0.heap.size ≤ mb
  blk : W.heap[g]? = some (.cells #[vb, vt, .map (some mb)] 100 (0, 0))
  rb : Kd.R (Kd.int .u8) 5 W w0.heap.size (fun k => some k ≠ vt.ownBlock) vb B
  rt : Kd.R (Kd.int .u8) 5 W w0.heap.size (fun k => some k ≠ vb.ownBlock) vt T
  mp : MapI W mb hs
def KeptT (W W2 : World) : Prop := W.heap.size ≤ W2.heap.size ∧ ∀ (k : Nat) (cs : Array Value) (t : Nat), W.heap[k]? = some (Obj.cells cs t (0, 0)) → t ≠ 5 → t ≠ 100 → W2.heap[k]? = some (Obj.cells cs t (0, 0))
theorem KeptT.refl (W : World) : KeptT W W := ⟨Nat.le_refl _, fun _ _ _ h _ _ => h⟩
theorem KeptT.trans {W W2 W3 : World} (h : KeptT W W2) (k : KeptT W2 W3) : KeptT W W3 := ⟨Nat.le_trans h.1 k.1, fun i cs t hi h1 h2 => k.2 i cs t (h.2 i cs t hi h1 h2) h1 h2⟩
theorem KeptT.of_below {W W2 : World} (h : Below W.heap.size W W2) : KeptT W W2 := ⟨h.size, fun _ _ _ hi _ _ => blk_below hi h⟩
theorem KeptT.below {W W2 W3 : World} (h : KeptT W W2) (k : Below W2.heap.size W2 W3) : KeptT W W3 := h.trans (.of_below k)
theorem own_bytes {W : World} {base : Nat} {ok : Nat → Prop} {v : Value} {xs : List Int} (h : Kd.R (Kd.int .u8) 5 W base ok v xs) {k : Nat} (hk : v.ownBlock = some k) : k < W.heap.size ∧ base ≤ k ∧ ∃ cs, W.heap[k]? = some (.cells cs 5 (0, 0)) := by
  have h1 := Kd.R_bound h
  obtain ⟨_, h2, h3, q, hq, cs, h4⟩ := h1.1 k hk
  have : q = 5 := by simpa [Kd.int, Kd.scalar] using hq
  subst this
  exact ⟨h3, h2, cs, h4⟩
section
variable {w0 W W2 : World} {g mb : Nat} {vb vt : Value} {B T : List Int} {hs : List (ByteArray × Int)}
theorem WrS.below (h : WrS w0 W g mb vb vt B T hs) (hb : Below W.heap.size W W2) : WrS w0 W2 g mb vb vt B T hs := ⟨h.bel.trans (hb.mono h.bel.size), h.lo, h.lom, blk_below h.blk hb, Kd.R_below h.rb hb, Kd.R_below h.rt hb, h.mp.below hb⟩
theorem WrS.grewB (h : WrS w0 W g mb vb vt B T hs) {v1 : Value} {B1 : List Int} (hg : W.grownBy W2 vb.ownBlock) (hat : v1.ownBlock = vb.ownBlock ∨ ∃ b, v1.ownBlock = some b ∧ W.heap.size ≤ b) (hr : Kd.R (Kd.int .u8) 5 W2 w0.heap.size (fun k => some k ≠ vt.ownBlock) v1 B1) (hb : Below w0.heap.size w0 W2) :
    WrS w0 (W2.setCell ⟨g, 0, none⟩ v1) g mb v1 vt B1 T hs ∧ KeptT W (W2.setCell ⟨g, 0, none⟩ v1) := by
  have hne : ∀ {v : Value} {W' : World} {ok : Nat → Prop} {xs : List Int}, Kd.R (Kd.int .u8) 5 W' w0.heap.size ok v xs → W'.heap[g]? = some (.cells #[vb, vt, .map (some mb)] 100 (0, 0)) → some g ≠ v.ownBlock := fun h1 h2 e => by
    obtain ⟨_, _, cs, h3⟩ := own_bytes h1 e.symm
    rw [h2] at h3
    simp at h3
  have b2 : W2.heap[g]? = some (.cells #[vb, vt, .map (some mb)] 100 (0, 0)) := blk_grown h.blk hg (hne h.rb h.blk)
  have hvt : ∀ k, vt.ownBlock = some k → some k ≠ vb.ownBlock := fun k hk => h.rt.1 k hk
  have rt2 : Kd.R (Kd.int .u8) 5 W2 w0.heap.size (fun k => some k = vt.ownBlock) vt T := Kd.R_grown (Kd.R_tight rfl h.rt) hg (fun k hk e => hvt k hk.symm e)
  have mp2 : MapI W2 mb hs := by
    obtain ⟨es, ck, hm⟩ := h.mp.isMap
    refine h.mp.same (hg.block mb h.mp.lt (fun e => ?_))
    obtain ⟨_, _, cs, h3⟩ := own_bytes h.rb e.symm
    rw [hm] at h3
    simp at h3
  have hgm : mb ≠ g := fun e => by
    obtain ⟨es, ck, hm⟩ := mp2.isMap
    rw [e, b2] at hm
    simp at hm
  refine ⟨⟨hb.setCell h.lo _, h.lo, h.lom, blk_put b2 0 _ rfl, Kd.R_far (Kd.R_types hr b2 (by intro q hq; simp [Kd.int, Kd.scalar] at hq; subst hq; decide)) (fun k hk => hk.2) _ |> fun z => Kd.R_mono z (fun k hk => hk.1), ?_, ?_⟩, ?_, ?_⟩
  · have z := Kd.R_far (Kd.R_types rt2 b2 (by intro q hq; simp [Kd.int, Kd.scalar] at hq; subst hq; decide)) (p := ⟨g, 0, none⟩) (fun k hk => hk.2) v1
    refine Kd.R_mono z (fun k hk e => ?_)
    have e1 := hk.1
    exact hr.1 k e.symm e1
  · exact mp2.same (Below.heap_setCell W2 ⟨g, 0, none⟩ v1 mb hgm)
  · have : (W2.setCell ⟨g, 0, none⟩ v1).heap.size = W2.heap.size := by simp
    rw [this]
    exact hg.size
  · intro k cs t hk h1 h2
    have hkg : k ≠ g := fun e => by
      rw [e, h.blk] at hk
      simp only [Option.some.injEq, Obj.cells.injEq] at hk
      exact h2 hk.2.1.symm
    refine (Below.heap_setCell W2 ⟨g, 0, none⟩ v1 k hkg).trans ?_
    refine (hg.block k (blk_lt hk) (fun e => ?_)).trans hk
    obtain ⟨_, _, cs2, h3⟩ := own_bytes h.rb e.symm
    rw [hk] at h3
    simp only [Option.some.injEq, Obj.cells.injEq] at h3
    exact h1 h3.2.1
theorem WrS.freshB (h : WrS w0 W g mb vb vt B T hs) (k : Nat) (hk : W.heap.size ≤ k) : some k ≠ vt.ownBlock := fun e => by
  have := (own_bytes h.rt e.symm).1
  omega
theorem WrS.freshT (h : WrS w0 W g mb vb vt B T hs) (k : Nat) (hk : W.heap.size ≤ k) : some k ≠ vb.ownBlock := fun e => by
  have := (own_bytes h.rb e.symm).1
  omega
theorem WrS.neB (h : WrS w0 W g mb vb vt B T hs) : some g ≠ vb.ownBlock := fun e => by
  obtain ⟨_, _, cs, h3⟩ := own_bytes h.rb e.symm
  rw [h.blk] at h3
  simp at h3
theorem WrS.neT (h : WrS w0 W g mb vb vt B T hs) : some g ≠ vt.ownBlock := fun e => by
  obtain ⟨_, _, cs, h3⟩ := own_bytes h.rt e.symm
  rw [h.blk] at h3
  simp at h3
end
end Go.Proofs.Ytkopmkinlanhoaa.PE

namespace Go.Proofs.Ytkopmkinlanhoaa.PE
open Go.RowKit Go.Proofs.YtkopmkinlanhoaaW.PrintWords Go.Proofs.YtkopmkinlanhoaaW.PrintLast Go.Proofs.YtkopmkinlanhoaaW.PrintMore
attribute [local go_sem] max2_int min2_int max_two min_two max_three min_three max_four min_four
set_option linter.unusedVariables false
set_option linter.unusedSimpArgs false
def WrM (w0 W W2 : World) (g mb : Nat) (B T : List Int) (hs : List (ByteArray × Int)) : Prop := ∃ vb vt, WrS w0 W2 g mb vb vt B T hs ∧ KeptT W W2
set_option maxRecDepth 100000 in
set_option maxHeartbeats 2000000 in
theorem writer_cell.calls (v : Int) (g mb : Nat) (w0 W : World) (vb vt : Value) (B T : List Int) (hs : List (ByteArray × Int)) (hv0 : 0 ≤ v) (hv1 : v < 4294967296) (hS : WrS w0 W g mb vb vt B T hs) (hl : B.length ≤ 1099511627776) :
    Calls Try.prog 49 #[.pointer (some ⟨g, 0, none⟩), .int .u32 v] W fun e w' => e = .returned (.tuple #[]) ∧ WrM w0 W w' g mb (B ++ cellB v) T hs := by
  have HS := Aside0.mk hS
  have HPUT := Aside0.mk (fun W2 : World => words_Put.calls 6 none 0 [] v (cellB v) W2 (Kd.C_nil _ _) (Nat.le_refl _) (put_four [] v hv0 hv1 (by simp)))
  have k0 : W.cell? ⟨g, 0, none⟩ = some vb := (blk_cell hS.blk 0).trans rfl
  have HL := Aside0.mk hl
  clear hS hl hv0 hv1
  go_enter Try.func49, Try.ntmps49
  go_wp2
  have HS2 := Aside0.mk (HS.out.below (W2 := W.drew) (below_drew1 (Below.refl _ _)))
  have HK2 : Aside0 (KeptT W W.drew) := ⟨KeptT.of_below (below_drew1 (Below.refl _ _))⟩
  refine start_ (n := 11) (S := fun w' => w'.cell? ⟨g, 0, none⟩ = some vb) (ds := [10]) #[false, false, false, false, false, false, false, false, false, false, false] (by kernel_rfl) rfl rfl (((blk_cell HS2.out.blk 0).trans rfl)) (fun hHeld => ?_)
  refine pure_ (i := 0) (N := some 4) (v := ?_) (a' := ?_) #[true, false, false, false, false, false, false, false, false, false, false] rfl rfl (by kernel_rfl) (fun _ _ _ h => h) (Or.inl ⟨by rfl, ?_⟩) ?_ ?_
  rotate_left
  · intro w'
    go_simp
    with_reducible rfl
  rotate_left
  · simp only [Act.put, List.setIfInBounds_toArray, List.set_cons_zero, List.set_cons_succ, i64_w, i32_w]
    rfl
  refine pure_ (i := 1) (N := some 5) (v := ?_) (a' := ?_) #[true, true, false, false, false, false, false, false, false, false, false] rfl rfl (by kernel_rfl) (fun _ _ _ h => h) (Or.inl ⟨by rfl, ?_⟩) ?_ ?_
  rotate_left
  · intro w'
    go_simp
    with_reducible rfl
  rotate_left
  · simp only [Act.put, List.setIfInBounds_toArray, List.set_cons_zero, List.set_cons_succ, i64_w, i32_w]
    rfl
  refine pure_ (i := 2) (N := some 6) (v := ?_) (a' := ?_) #[true, true, true, false, false, false, false, false, false, false, false] rfl rfl (by kernel_rfl) (fun _ _ _ h => h) (Or.inl ⟨by rfl, ?_⟩) ?_ ?_
  rotate_left
  · intro w'
    go_simp
    with_reducible rfl
  rotate_left
  · simp only [Act.put, List.setIfInBounds_toArray, List.set_cons_zero, List.set_cons_succ, i64_w, i32_w]
    rfl
  refine pure_ (i := 3) (N := some 7) (v := ?_) (a' := ?_) #[true, true, true, true, false, false, false, false, false, false, false] rfl rfl (by kernel_rfl) (fun _ _ _ h => h) (Or.inl ⟨by rfl, ?_⟩) ?_ ?_
  rotate_left
  · intro w'
    go_simp
    with_reducible rfl
  rotate_left
  · simp only [Act.put, List.setIfInBounds_toArray, List.set_cons_zero, List.set_cons_succ, i64_w, i32_w]
    rfl
  refine pure_ (i := 5) (N := some 9) (v := ?_) (a' := ?_) #[true, true, true, true, false, true, false, false, false, false, false] rfl rfl (by kernel_rfl) (fun _ _ _ h => h) (Or.inl ⟨by rfl, ?_⟩) ?_ ?_
  rotate_left
  · intro w'
    go_simp
    with_reducible rfl
  rotate_left
  · simp only [Act.put, List.setIfInBounds_toArray, List.set_cons_zero, List.set_cons_succ, i64_w, i32_w]
    rfl
  refine take_ (i := 4) (N := some 8) (v := ?_) (a' := ?_) #[true, true, true, true, true, true, false, false, false, false, false] rfl rfl (by kernel_rfl) (fun _ _ _ h => h) (Or.inl ⟨by rfl, ?_⟩) hHeld ?_ ?_
  rotate_left
  · intro w' s0
    go_simp
    with_reducible rfl
  rotate_left
  · simp only [Act.put, List.setIfInBounds_toArray, List.set_cons_zero, List.set_cons_succ, i64_w, i32_w]
    rfl
  refine one_ (i := 6) (N := some 10) #[true, true, true, true, true, true, true, false, false, false, false] rfl rfl (by kernel_rfl) (by decide) (fun K hK => ?_)
  refine goes_ Try.func52 (by kernel_rfl) rfl #[.slice none 0 0, .int .u32 v] (by rfl) rfl rfl (by simp only [List.map_toArray, List.map_cons, List.map_nil]; rfl) ?_
  refine (HPUT.out _).mono ?_
  rintro e w' ⟨v0, rfl, hr, hb⟩
  obtain ⟨Av, cv, rfl, hcv, hC⟩ := Kd.R_reads hr
  have HC1 := Aside0.mk hC
  have HS3 := Aside0.mk (HS2.out.below hb)
  have HK3 := Aside0.mk (HK2.out.below hb)
  clear hC hb hr
  refine ⟨_, rfl, ?_⟩
  refine hK.out _ _ (((blk_cell HS3.out.blk 0).trans rfl)) (fun hHeld => ?_)
  clear hK K
  refine norm_ (a' := ?_) ?_ ?_
  rotate_left
  · show Act.put _ (some 10) _ = _
    simp only [Act.put, List.setIfInBounds_toArray, List.set_cons_zero, List.set_cons_succ, i64_w, i32_w]
    rfl
  refine one_ (i := 7) (N := some 11) #[true, true, true, true, true, true, true, true, false, false, false] rfl rfl (by kernel_rfl) (by decide) (fun K hK => ?_)
  refine Kd.R_append_rows_step (Kd.int .u8) (w0 := w0) w0.heap.size (by rfl) (.tmp 8) (.tmp 10) 45 5 (.int .u8 0) 1 rfl Try.underlying45 info5 rfl (by decide) (by omega) vb B (cellB v) _ _ _ (fun k => some k ≠ vt.ownBlock) (fun _ => False) rfl rfl HS3.out.rb ?aR (fun _ _ h => h) (fun _ h => h.elim) HS3.out.freshB HS3.out.bel HS3.out.bel.size ?aL ?_
  case aR => exact HC1.out
  case aL => have := HL.out; have := cellB_length v; omega
  intro v1 w1 ho hb hg hat
  obtain ⟨B1, hB1⟩ : ∃ B1, B1 = B ++ cellB v := ⟨_, rfl⟩
  rw [← hB1] at ho
  obtain ⟨A1, c1, rfl⟩ := Kd.R_slice ho
  have HG := Aside0.mk (HS3.out.grewB hg hat ho hb)
  have kb := blk_grown HS3.out.blk hg HS3.out.neB
  have kf : w1.frozen? ⟨g, 0, none⟩ = false := blk_frozen kb 0
  have kc : w1.cell? ⟨g, 0, none⟩ = some vb := (blk_cell kb 0).trans rfl
  have HB1 := Aside0.mk hB1
  clear hg hat ho hb kb hB1
  refine hK.out _ _ (kc) (fun hHeld => ?_)
  clear hK K
  refine norm_ (a' := ?_) ?_ ?_
  rotate_left
  · show Act.put _ (some 11) _ = _
    simp only [Act.put, List.setIfInBounds_toArray, List.set_cons_zero, List.set_cons_succ, i64_w, i32_w]
    rfl
  refine pure_ (i := 8) (N := some 12) (v := ?_) (a' := ?_) #[true, true, true, true, true, true, true, true, true, false, false] rfl rfl (by kernel_rfl) (fun _ _ _ h => h) (Or.inl ⟨by rfl, ?_⟩) ?_ ?_
  rotate_left
  · intro w'
    go_simp
    with_reducible rfl
  rotate_left
  · simp only [Act.put, List.setIfInBounds_toArray, List.set_cons_zero, List.set_cons_succ, i64_w, i32_w]
    rfl
  refine pure_ (i := 9) (N := some 13) (v := ?_) (a' := ?_) #[true, true, true, true, true, true, true, true, true, true, false] rfl rfl (by kernel_rfl) (fun _ _ _ h => h) (Or.inl ⟨by rfl, ?_⟩) ?_ ?_
  rotate_left
  · intro w'
    go_simp
    with_reducible rfl
  rotate_left
  · simp only [Act.put, List.setIfInBounds_toArray, List.set_cons_zero, List.set_cons_succ, i64_w, i32_w]
    rfl
  refine last_ (i := 10) (N := none) #[true, true, true, true, true, true, true, true, true, true, true] rfl rfl (by kernel_rfl) (by decide) (fun K hK => ?_)
  refine skip_ (w1 := ?_) (by rfl) rfl ?_ ?_
  rotate_left
  · go_simp
    rfl
  refine hK.out _ _ ?_
  clear hK K
  refine done_ (by kernel_rfl) ?_
  go_wp2
  first | go_end0 | ((try simp only [Exit.inBlock, Exit.then]); refine bodyPost_ret (results_none rfl _ _ _) rfl ?_)
  rw [← HB1.out]
  exact ⟨rfl, _, _, HG.out.1, HK3.out.trans HG.out.2⟩
end Go.Proofs.Ytkopmkinlanhoaa.PE

namespace Go.Proofs.Ytkopmkinlanhoaa.PE
open Go.RowKit Go.Proofs.YtkopmkinlanhoaaW.PrintWords Go.Proofs.YtkopmkinlanhoaaW.PrintLast Go.Proofs.YtkopmkinlanhoaaW.PrintMore
attribute [local go_sem] max2_int min2_int max_two min_two max_three min_three max_four min_four
set_option linter.unusedVariables false
set_option linter.unusedSimpArgs false
def padW (l : List Int) : List Int := List.replicate (padN l.length).toNat 0
set_option maxRecDepth 100000 in
set_option maxHeartbeats 2000000 in
theorem writer_bytes.calls (A : Option Addr) (c : Nat) (l : List Int) (g mb : Nat) (w0 W : World) (vb vt : Value) (B T : List Int) (hs : List (ByteArray × Int)) (hC : Kd.C (Kd.int .u8) W A l.length l) (hS : WrS w0 W g mb vb vt B T hs) (hl : B.length + l.length ≤ 1099511627776) :
    Calls Try.prog 74 #[.pointer (some ⟨g, 0, none⟩), .slice A l.length c] W fun e w' => e = .returned (.tuple #[]) ∧ WrM w0 W w' g mb (B ++ l ++ padW l) T hs := by
  have HS1 := Aside0.mk hS
  have HC := Aside0.mk hC
  have HL0 := Aside0.mk hl
  have k0 : W.cell? ⟨g, 0, none⟩ = some vb := (blk_cell hS.blk 0).trans rfl
  have hn0 : (0 : Int) ≤ (l.length : Int) := by omega
  obtain ⟨p, hp⟩ : ∃ p, p = padN (l.length : Int) := ⟨_, rfl⟩
  have HPAD := Aside0.mk (fun W => words_Pad.calls (l.length : Int) p W (by rw [hp]; exact pad_f _))
  have HPP : Aside0 (padW l = List.replicate p.toNat 0) := ⟨by unfold padW; rw [hp]⟩
  have hp2 := padN_eq (l.length : Int) hn0
  have HP0 : Aside0 (0 ≤ p) := ⟨by omega⟩
  have HP1 : Aside0 (p ≤ 3) := ⟨by omega⟩
  clear hp hp2 hn0 hS hC hl
  go_enter Try.func74, Try.ntmps74
  go_wp2_with ((with_reducible refine gate_builtin (b := .append) (xs := #[.tmp 8, .tmp 9]) rfl ?_); at_builtin; refine Kd.R_append_rows (Kd.int .u8) (w0 := w0) w0.heap.size rfl (.tmp 8) (.tmp 9) 45 5 (.int .u8 0) 1 rfl Try.underlying45 info5 rfl (by decide) (by omega) vb B l _ _ _ (fun k => some k ≠ vt.ownBlock) (fun _ => False) rfl rfl HS1.out.rb ?aR (fun _ _ h => h) (fun _ h => h.elim) HS1.out.freshB HS1.out.bel HS1.out.bel.size ?aL ?_; (case aR => exact HC.out); (case aL => have := HL0.out; omega); intro v1 w1 ho hb hg hat; obtain ⟨B1, hB1⟩ : ∃ B1, B1 = B ++ l := ⟨_, rfl⟩; rw [← hB1] at ho; obtain ⟨A1, c1, rfl⟩ := Kd.R_slice ho; have HG := Aside0.mk (HS1.out.grewB hg hat ho hb); have kb := blk_grown HS1.out.blk hg HS1.out.neB; have kf : w1.frozen? ⟨g, 0, none⟩ = false := blk_frozen kb 0; have kc : w1.cell? ⟨g, 0, none⟩ = some vb := (blk_cell kb 0).trans rfl; have HB0 := Aside0.mk hB1; clear hg hat ho hb kb hB1)
  have HL : Aside0 (B1.length ≤ 1099511627776) := ⟨by rw [HB0.out, List.length_append]; exact HL0.out⟩
  have HW1 := Aside0.mk HG.out.1
  have HKa := Aside0.mk HG.out.2
  clear HG HS1 k0 kf kc HC
  generalize hvx : Value.slice A1 B1.length c1 = vx at HW1 HKa ⊢
  generalize w1.setCell ⟨g, 0, none⟩ vx = w2 at HW1 HKa ⊢
  clear hvx
  have HS2 := Aside0.mk (HW1.out.below (W2 := w2.drew) (below_drew1 (Below.refl _ _)))
  have HK2 : Aside0 (KeptT W w2.drew) := ⟨HKa.out.trans (KeptT.of_below (below_drew1 (Below.refl _ _)))⟩
  clear HW1 HKa
  have k0 : w2.drew.cell? ⟨g, 0, none⟩ = some vx := (blk_cell HS2.out.blk 0).trans rfl
  refine start_ (n := 12) (S := fun w' => w'.cell? ⟨g, 0, none⟩ = some vx) (ds := [11]) #[false, false, false, false, false, false, false, false, false, false, false, false] (by kernel_rfl) rfl rfl (((blk_cell HS2.out.blk 0).trans rfl)) (fun hHeld => ?_)
  refine pure_ (i := 0) (N := some 13) (v := ?_) (a' := ?_) #[true, false, false, false, false, false, false, false, false, false, false, false] rfl rfl (by kernel_rfl) (fun _ _ _ h => h) (Or.inl ⟨by rfl, ?_⟩) ?_ ?_
  rotate_left
  · intro w'
    go_simp
    with_reducible rfl
  rotate_left
  · simp only [Act.put, List.setIfInBounds_toArray, List.set_cons_zero, List.set_cons_succ, i64_w, i32_w]
    rfl
  refine pure_ (i := 1) (N := some 14) (v := ?_) (a' := ?_) #[true, true, false, false, false, false, false, false, false, false, false, false] rfl rfl (by kernel_rfl) (fun _ _ _ h => h) (Or.inl ⟨by rfl, ?_⟩) ?_ ?_
  rotate_left
  · intro w'
    go_simp
    with_reducible rfl
  rotate_left
  · simp only [Act.put, List.setIfInBounds_toArray, List.set_cons_zero, List.set_cons_succ, i64_w, i32_w]
    rfl
  refine pure_ (i := 2) (N := some 15) (v := ?_) (a' := ?_) #[true, true, true, false, false, false, false, false, false, false, false, false] rfl rfl (by kernel_rfl) (fun _ _ _ h => h) (Or.inl ⟨by rfl, ?_⟩) ?_ ?_
  rotate_left
  · intro w'
    go_simp
    with_reducible rfl
  rotate_left
  · simp only [Act.put, List.setIfInBounds_toArray, List.set_cons_zero, List.set_cons_succ, i64_w, i32_w]
    rfl
  refine pure_ (i := 3) (N := some 16) (v := ?_) (a' := ?_) #[true, true, true, true, false, false, false, false, false, false, false, false] rfl rfl (by kernel_rfl) (fun _ _ _ h => h) (Or.inl ⟨by rfl, ?_⟩) ?_ ?_
  rotate_left
  · intro w'
    go_simp
    with_reducible rfl
  rotate_left
  · simp only [Act.put, List.setIfInBounds_toArray, List.set_cons_zero, List.set_cons_succ, i64_w, i32_w]
    rfl
  refine pure_ (i := 5) (N := some 18) (v := ?_) (a' := ?_) #[true, true, true, true, false, true, false, false, false, false, false, false] rfl rfl (by kernel_rfl) (fun _ _ _ h => h) (Or.inl ⟨by rfl, ?_⟩) ?_ ?_
  rotate_left
  · intro w'
    go_simp
    with_reducible rfl
  rotate_left
  · simp only [Act.put, List.setIfInBounds_toArray, List.set_cons_zero, List.set_cons_succ, i64_w, i32_w]
    rfl
  refine pure_ (i := 6) (N := some 19) (v := ?_) (a' := ?_) #[true, true, true, true, false, true, true, false, false, false, false, false] rfl rfl (by kernel_rfl) (fun _ _ _ h => h) (Or.inl ⟨by rfl, ?_⟩) ?_ ?_
  rotate_left
  · intro w'
    go_simp
    with_reducible rfl
  rotate_left
  · simp only [Act.put, List.setIfInBounds_toArray, List.set_cons_zero, List.set_cons_succ, i64_w, i32_w]
    rfl
  refine take_ (i := 4) (N := some 17) (v := ?_) (a' := ?_) #[true, true, true, true, true, true, true, false, false, false, false, false] rfl rfl (by kernel_rfl) (fun _ _ _ h => h) (Or.inl ⟨by rfl, ?_⟩) hHeld ?_ ?_
  rotate_left
  · intro w' s0
    go_simp
    with_reducible rfl
  rotate_left
  · simp only [Act.put, List.setIfInBounds_toArray, List.set_cons_zero, List.set_cons_succ, i64_w, i32_w]
    rfl
  refine one_ (i := 7) (N := some 20) #[true, true, true, true, true, true, true, true, false, false, false, false] rfl rfl (by kernel_rfl) (by decide) (fun K hK => ?_)
  refine goes_ Try.func92 (by kernel_rfl) rfl #[.int .i64 (l.length : Int)] (by rfl) rfl rfl (by simp only [List.map_toArray, List.map_cons, List.map_nil]; rfl) ?_
  refine (HPAD.out _).mono ?_
  rintro e w' ⟨rfl, ⟨nd, rfl⟩⟩
  have HS3 := Aside0.mk (HS2.out.below (pw_below_drewN (Below.refl _ _) nd))
  have HK3 := Aside0.mk (HK2.out.below (pw_below_drewN (Below.refl _ _) nd))
  refine ⟨_, rfl, ?_⟩
  refine hK.out _ _ (((blk_cell HS3.out.blk 0).trans rfl)) (fun hHeld => ?_)
  clear hK K
  refine norm_ (a' := ?_) ?_ ?_
  rotate_left
  · show Act.put _ (some 20) _ = _
    simp only [Act.put, List.setIfInBounds_toArray, List.set_cons_zero, List.set_cons_succ, i64_w, i32_w]
    rfl
  refine one_ (i := 8) (N := some 21) #[true, true, true, true, true, true, true, true, true, false, false, false] rfl rfl (by kernel_rfl) (by decide) (fun K hK => ?_)
  refine Kd.R_append_zeros_step (Kd.int .u8) (w0 := w0) w0.heap.size (by rfl) (.tmp 17) (.tmp 20) 45 3 5 (.int .u8 0) 1 rfl Try.underlying45 Try.underlying3 info5 rfl (by decide) (by omega) vx B1 0 p (fun k => some k ≠ vt.ownBlock) rfl rfl ?aZ HS3.out.freshB HS3.out.rb HP0.out HS3.out.bel HS3.out.bel.size ?aL ?_
  case aZ => first | exact rfl | simp [Kd.int, Kd.scalar]
  case aL => have := HL.out; have := HP1.out; omega
  intro v1 w1 ho hb hg hat
  obtain ⟨B2, hB2⟩ : ∃ B2, B2 = B1 ++ List.replicate p.toNat 0 := ⟨_, rfl⟩
  rw [← hB2] at ho
  obtain ⟨A2, c2, rfl⟩ := Kd.R_slice ho
  have HG := Aside0.mk (HS3.out.grewB hg hat ho hb)
  have kb := blk_grown HS3.out.blk hg HS3.out.neB
  have kf : w1.frozen? ⟨g, 0, none⟩ = false := blk_frozen kb 0
  have kc : w1.cell? ⟨g, 0, none⟩ = some vx := (blk_cell kb 0).trans rfl
  have HB2 := Aside0.mk hB2
  clear hg hat ho hb kb hB2
  refine hK.out _ _ (kc) (fun hHeld => ?_)
  clear hK K
  refine norm_ (a' := ?_) ?_ ?_
  rotate_left
  · show Act.put _ (some 21) _ = _
    simp only [Act.put, List.setIfInBounds_toArray, List.set_cons_zero, List.set_cons_succ, i64_w, i32_w]
    rfl
  refine pure_ (i := 9) (N := some 22) (v := ?_) (a' := ?_) #[true, true, true, true, true, true, true, true, true, true, false, false] rfl rfl (by kernel_rfl) (fun _ _ _ h => h) (Or.inl ⟨by rfl, ?_⟩) ?_ ?_
  rotate_left
  · intro w'
    go_simp
    with_reducible rfl
  rotate_left
  · simp only [Act.put, List.setIfInBounds_toArray, List.set_cons_zero, List.set_cons_succ, i64_w, i32_w]
    rfl
  refine pure_ (i := 10) (N := some 23) (v := ?_) (a' := ?_) #[true, true, true, true, true, true, true, true, true, true, true, false] rfl rfl (by kernel_rfl) (fun _ _ _ h => h) (Or.inl ⟨by rfl, ?_⟩) ?_ ?_
  rotate_left
  · intro w'
    go_simp
    with_reducible rfl
  rotate_left
  · simp only [Act.put, List.setIfInBounds_toArray, List.set_cons_zero, List.set_cons_succ, i64_w, i32_w]
    rfl
  refine last_ (i := 11) (N := none) #[true, true, true, true, true, true, true, true, true, true, true, true] rfl rfl (by kernel_rfl) (by decide) (fun K hK => ?_)
  refine skip_ (w1 := ?_) (by rfl) rfl ?_ ?_
  rotate_left
  · go_simp
    rfl
  refine hK.out _ _ ?_
  clear hK K
  refine done_ (by kernel_rfl) ?_
  go_wp2
  first | go_end0 | ((try simp only [Exit.inBlock, Exit.then]); refine bodyPost_ret (results_none rfl _ _ _) rfl ?_)
  rw [HPP.out, ← HB0.out, ← HB2.out]
  exact ⟨rfl, _, _, HG.out.1, HK3.out.trans HG.out.2⟩
end Go.Proofs.Ytkopmkinlanhoaa.PE
