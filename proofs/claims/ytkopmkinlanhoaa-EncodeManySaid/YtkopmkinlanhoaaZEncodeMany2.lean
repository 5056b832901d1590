/- EncodeMany: texts of this session's, and what the kit's print laid for this seat, as far as the law's row uses them (PEx_encode_most, PEx_api_Reserve_50, PEx_words_Put, PEx_words_part, PEx_words_number, PEx_words_Get, PEx_decode_within, EHeader, EDec1, EDec2, EDec3, PEx_arboretref01_Bytes, EBytes, Enc1, Enc2, Enc3, Enc4, Enc5, Enc6, Enc7, Enc8, Enc9, Enc10, PEx_words_Get64, PEx_decode_reserves, PEx_bytes_IndexByte, PEx_words_Text, PEx_bytes_Clone). -/
import Derived.Lib.EndianBits
import Derived.StillTailTactics
import Derived.Test.YtkopmkinlanhoaaZEncodeMany1
set_option linter.unusedVariables false
set_option linter.unusedSimpArgs false
namespace Go.Proofs.Ytkopmkinlanhoaa.PE
open Go.RowKit Go.Proofs.YtkopmkinlanhoaaW.PrintWords Go.Proofs.YtkopmkinlanhoaaW.PrintLast Go.Proofs.YtkopmkinlanhoaaW.PrintMore
attribute [local go_sem] max2_int min2_int max_two min_two max_three min_three max_four min_four   -- for this text's walks alone
set_option linter.unusedVariables false
set_option linter.unusedSimpArgs false
mutual
def encode_most.l0 : Nat → Int → List (S63) → Int → Int → ByteArray → List (S63) → List (S27) → Option (Int × Bool)
  | 0, _, _, _, _, _, _, _ => none
  | k + 1, x1, x12, x13, x14, x405000, x405001, x405002 => if x14 < x13 then (if 0 ≤ x14 then (if x14 < (x12.length : Int) then (if (wrap64 (x1 + (((rd_T63 x12 x14).f1).length : Int))) > 1048576 then (some (wrap64 (x1 + (((rd_T63 x12 x14).f1).length : Int)), true)) else (encode_most.l0 k (wrap64 (x1 + (((rd_T63 x12 x14).f1).length : Int))) x12 x13 (wrap64 (x14 + 1)) x405000 x405001 x405002)) else (none)) else (none)) else (encode_most.l1 k x1 x405002 (x405002.length : Int) 0)
def encode_most.l1 : Nat → Int → List (S27) → Int → Int → Option (Int × Bool)
  | 0, _, _, _, _ => none
  | k + 1, x1, x28, x29, x30 => if x30 < x29 then (if 0 ≤ x30 then (if x30 < (x28.length : Int) then ((encode_most.f k ((rd_T27 x28 x30).f0) ((rd_T27 x28 x30).f1) ((rd_T27 x28 x30).f2) x1).bind fun bt409 => (if bt409.2 = true then (some (bt409.1, true)) else (encode_most.l1 k bt409.1 x28 x29 (wrap64 (x30 + 1))))) else (none)) else (none)) else (some (x1, false))
def encode_most.f : Nat → ByteArray → List (S63) → List (S27) → Int → Option (Int × Bool)
  | 0, _, _, _, _ => none
  | k + 1, a0_0, l0_1, l0_2, a1 => encode_most.l0 k a1 l0_1 (l0_1.length : Int) 0 a0_0 l0_1 l0_2
end
set_option maxHeartbeats 8000000 in
set_option maxRecDepth 100000 in
theorem encode_most.calls (k : Nat) : ∀ (a0_0 : ByteArray) (A0_1 : Option Addr) (c0_1 : Nat) (l0_1 : List (S63)) (A0_2 : Option Addr) (c0_2 : Nat) (l0_2 : List (S27)) (a1 : Int) (r1 : Int) (r2 : Bool) (w : World) (hr0_1 : Kd.C k63 w A0_1 l0_1.length l0_1) (hc0_1 : l0_1.length ≤ c0_1) (hr0_2 : Kd.C k27 w A0_2 l0_2.length l0_2) (hc0_2 : l0_2.length ≤ c0_2) (h : encode_most.f k a0_0 l0_1 l0_2 a1 = some (r1, r2)),
    Calls Try.prog 47 #[.agg #[.string a0_0, .slice A0_1 l0_1.length c0_1, .slice A0_2 l0_2.length c0_2], .int .i64 a1] w fun e w' => e = .returned (.tuple #[.int .i64 r1, .bool r2]) ∧ Below w.heap.size w w' := by
  induction k using Nat.strongRecOn with
  | _ k ih =>
  intro a0_0 A0_1 c0_1 l0_1 A0_2 c0_2 l0_2 a1 r1 r2 w hr0_1 hc0_1 hr0_2 hc0_2 h
  cases k with
  | zero => exact absurd h (by simp [encode_most.f])
  | succ k =>
  simp only [encode_most.f] at h
  have hu27 := Try.underlying27
  have hu63 := Try.underlying63
  have HR0_1 := Aside0.mk hr0_1
  have HC0_1 := Aside0.mk hc0_1
  clear hr0_1 hc0_1
  have HR0_2 := Aside0.mk hr0_2
  have HC0_2 := Aside0.mk hc0_2
  clear hr0_2 hc0_2
  have HB := Aside0.mk (Below.refl w.heap.size w)
  have H : (encode_most.l0 k a1 l0_1 (l0_1.length : Int) 0 a0_0 l0_1 l0_2) = some (r1, r2) := h
  clear h
  have H' := Aside0.mk H
  clear H
  go_enter Try.func47, Try.ntmps47
  go_wp2_with (first | ((with_reducible refine gate_dst (N := 2) rfl ?_); refine box_event ?hg (N := 2) ?hd (cs := #[.string a0_0, .slice A0_1 l0_1.length c0_1, .slice A0_2 l0_2.length c0_2]) (t := 27) ?hr ?_; (case hd => rfl); (case hg => rfl); (case hr => first | (go_simp; done) | (go_simp; rfl)); intro gb404 hg w3 hbox hb; have n0_ := Aside0.mk (below_step (by repeat (first | (with_reducible first | exact HB.out | apply below_alloc | apply pw_below_drewN | apply below_drew1) | exact HB.out)) hb); have n1_ := Aside0.mk (hbox); have n2_ := Aside0.mk ((by rw [hg]; exact (below_size (by repeat (first | (with_reducible first | exact HB.out | apply below_alloc | apply pw_below_drewN | apply below_drew1) | exact HB.out))) : w.heap.size ≤ gb404)); have n3_ := Aside0.mk ((by rw [hg]; exact (below_size (by repeat (first | (with_reducible first | exact HB.out | apply below_alloc | apply pw_below_drewN | apply below_drew1) | exact HB.out))) : w.heap.size ≤ gb404)); clear HB; have HB := n0_; have BK404 := n1_; have GW404 := n2_; have GE404 := n3_; clear n0_ n1_ n2_ n3_; clear hb hbox hg; have hcz4_0 : w3.cell? ⟨gb404, 0, none⟩ = some (.string a0_0) := (blk_cell BK404.out 0).trans rfl; have hcz4_1 : w3.cell? ⟨gb404, 1, none⟩ = some (.slice A0_1 l0_1.length c0_1) := (blk_cell BK404.out 1).trans rfl; have hcz4_2 : w3.cell? ⟨gb404, 2, none⟩ = some (.slice A0_2 l0_2.length c0_2) := (blk_cell BK404.out 2).trans rfl; have hfz4_0 := blk_frozen BK404.out 0; have hfz4_1 := blk_frozen BK404.out 1; have hfz4_2 := blk_frozen BK404.out 2))
  go_loopg [1, 14] k (fun kq v1 v14 w' => ∃ (x1_1 : Int) (x14_1 : Int), v1 = .int .i64 x1_1 ∧ v14 = .int .i64 x14_1 ∧ Aside0 (encode_most.l0 kq x1_1 l0_1 (l0_1.length : Int) x14_1 a0_0 l0_1 l0_2 = some (r1, r2)) ∧ Aside0 (kq ≤ k) ∧ Aside0 (w'.heap[gb404]? = some (.cells #[.string a0_0, (.slice A0_1 l0_1.length c0_1), (.slice A0_2 l0_2.length c0_2)] 27 (0, 0))) ∧ Aside0 (Below w.heap.size w w'))
  case atStart => exact ⟨(a1), (0), (by first | rfl | (simp; done) | (simp [*]; done)), (by first | rfl | (simp; done) | (simp [*]; done)), H', ⟨Nat.le_refl _⟩, ⟨by (with_reducible repeat (first | refine blk_drewN ?_ _ | refine blk_drew ?_ | refine blk_alloc ?_ _)); exact BK404.out⟩, ⟨by repeat (first | (with_reducible first | exact HB.out | apply below_alloc | apply pw_below_drewN | apply below_drew1 | refine below_set ?_ GE404.out) | exact HB.out)⟩⟩
  case round =>
    clear H'
    try clear p2
    try clear c4
    try clear hcz4_0
    try clear hcz4_1
    try clear hcz4_2
    try clear hfz4_0
    try clear hfz4_1
    try clear hfz4_2
    obtain ⟨x1_1, x14_1, rfl, rfl, HA, HK1, BK404, HB⟩ := hrel
    cases gk with
    | zero => exact absurd HA.out (by simp [encode_most.l0])
    | succ k1 =>
      have H := HA.out
      clear HA
      simp only [encode_most.l0] at H
      by_cases c5 : x14_1 < (l0_1.length : Int)
      · rw [if_pos c5] at H
        have c5b0 : decide (x14_1 < (l0_1.length : Int)) = true := decide_eq_true c5
        clear c5
        by_cases c6 : 0 ≤ x14_1
        · rw [if_pos c6] at H
          have c6b0 : decide (0 ≤ x14_1) = true := decide_eq_true c6
          clear c6
          by_cases c7 : x14_1 < (l0_1.length : Int)
          · rw [if_pos c7] at H
            have c7b0 : decide (x14_1 < (l0_1.length : Int)) = true := decide_eq_true c7
            clear c7
            by_cases c8 : (wrap64 (x1_1 + (((rd_T63 l0_1 x14_1).f1).length : Int))) > 1048576
            · rw [if_pos c8] at H
              have c8b0 : decide (1048576 < (wrap64 (x1_1 + (((rd_T63 l0_1 x14_1).f1).length : Int)))) = true := decide_eq_true c8
              clear c8
              simp only [Option.some.injEq, Prod.mk.injEq] at H
              obtain ⟨rfl, rfl⟩ := H
              have p405 : 0 ≤ (x14_1 : Int) := of_decide_eq_true (by first | (with_reducible assumption) | assumption)
              have q405 : x14_1 < (l0_1.length : Int) := of_decide_eq_true (by first | (with_reducible assumption) | assumption)
              obtain ⟨ad405, A405_1, c405_1, e405, hx405_0, hx405_1, hl405_1, hi405_1⟩ := at_T63 HR0_1.out x14_1 p405 q405
              cases e405
              replace hx405_0 := (HB.out.cell (World.block_lt_of_cell? w _ hx405_0)).trans hx405_0
              replace hx405_1 := (HB.out.cell (World.block_lt_of_cell? w _ hx405_1)).trans hx405_1
              have HR405_1 := Aside0.mk hi405_1
              have HC405_1 := Aside0.mk hl405_1
              clear hi405_1 hl405_1
              replace p405 := eq_true p405
              replace q405 := eq_true q405
              go_wp2_with (first | ((with_reducible refine gate_dst (N := 7) rfl ?_); refine box_event ?hg (N := 7) ?hd (cs := #[.string (⟨#[]⟩ : ByteArray), .slice none 0 0]) (t := 63) ?hr ?_; (case hd => rfl); (case hg => rfl); (case hr => first | (go_simp; done) | (go_simp; rfl)); intro gb406 hg w9 hbox hb; have n0_ := Aside0.mk (blk_below (g := gb404) (o := .cells #[.string a0_0, .slice (some ad405) l0_1.length c0_1, .slice A0_2 l0_2.length c0_2] 27 (0, 0)) (by (with_reducible repeat (first | refine blk_drewN ?_ _ | refine blk_drew ?_ | refine blk_alloc ?_ _)); exact BK404.out) hb); have n1_ := Aside0.mk (below_step (by repeat (first | (with_reducible first | exact HB.out | apply below_alloc | apply pw_below_drewN | apply below_drew1 | refine below_set ?_ GE404.out) | exact HB.out)) hb); have n2_ := Aside0.mk (hbox); have n3_ := Aside0.mk ((by rw [hg]; exact (below_size (by repeat (first | (with_reducible first | exact HB.out | apply below_alloc | apply pw_below_drewN | apply below_drew1 | refine below_set ?_ GE404.out) | exact HB.out))) : w.heap.size ≤ gb406)); have n4_ := Aside0.mk ((by rw [hg]; exact (below_size (by repeat (first | (with_reducible first | exact HB.out | apply below_alloc | apply pw_below_drewN | apply below_drew1 | refine below_set ?_ GE404.out) | exact HB.out))) : w.heap.size ≤ gb406)); have n5_ := Aside0.mk ((by rw [hg]; exact Nat.ne_of_lt (blk_lt (g := gb404) (o := .cells #[.string a0_0, .slice (some ad405) l0_1.length c0_1, .slice A0_2 l0_2.length c0_2] 27 (0, 0)) (by (with_reducible repeat (first | refine blk_drewN ?_ _ | refine blk_drew ?_ | refine blk_alloc ?_ _)); exact BK404.out)) : gb404 ≠ gb406)); have n6_ := Aside0.mk ((by rw [hg]; exact Nat.ne_of_gt (blk_lt (g := gb404) (o := .cells #[.string a0_0, .slice (some ad405) l0_1.length c0_1, .slice A0_2 l0_2.length c0_2] 27 (0, 0)) (by (with_reducible repeat (first | refine blk_drewN ?_ _ | refine blk_drew ?_ | refine blk_alloc ?_ _)); exact BK404.out)) : gb406 ≠ gb404)); clear BK404; clear HB; have BK404 := n0_; have HB := n1_; have BK406 := n2_; have GW406 := n3_; have GE406 := n4_; have NB404_406 := n5_; have NB406_404 := n6_; clear n0_ n1_ n2_ n3_ n4_ n5_ n6_; clear hb hbox hg; have hnb10 := NB406_404.out; have hnc10 := NB404_406.out; have hcz11_0 : w9.cell? ⟨gb406, 0, none⟩ = some (.string (⟨#[]⟩ : ByteArray)) := (blk_cell BK406.out 0).trans rfl; have hcz11_1 : w9.cell? ⟨gb406, 1, none⟩ = some (.slice none 0 0) := (blk_cell BK406.out 1).trans rfl; have hfz11_0 := blk_frozen BK406.out 0; have hfz11_1 := blk_frozen BK406.out 1))
              go_ret2
              exact ⟨by first | rfl | (simp [errW_none, errW_some] <;> rfl) | (simp [*, errW_none, errW_some] <;> rfl), by repeat (first | (with_reducible first | exact HB.out | apply below_alloc | apply pw_below_drewN | apply below_drew1 | refine below_set ?_ GE404.out | refine below_set ?_ GE406.out) | exact HB.out)⟩
            · rw [if_neg c8] at H
              have c8b0 : decide (1048576 < (wrap64 (x1_1 + (((rd_T63 l0_1 x14_1).f1).length : Int)))) = false := decide_eq_false c8
              clear c8
              have H' := Aside0.mk H
              clear H
              have p405 : 0 ≤ (x14_1 : Int) := of_decide_eq_true (by first | (with_reducible assumption) | assumption)
              have q405 : x14_1 < (l0_1.length : Int) := of_decide_eq_true (by first | (with_reducible assumption) | assumption)
              obtain ⟨ad405, A405_1, c405_1, e405, hx405_0, hx405_1, hl405_1, hi405_1⟩ := at_T63 HR0_1.out x14_1 p405 q405
              cases e405
              replace hx405_0 := (HB.out.cell (World.block_lt_of_cell? w _ hx405_0)).trans hx405_0
              replace hx405_1 := (HB.out.cell (World.block_lt_of_cell? w _ hx405_1)).trans hx405_1
              have HR405_1 := Aside0.mk hi405_1
              have HC405_1 := Aside0.mk hl405_1
              clear hi405_1 hl405_1
              replace p405 := eq_true p405
              replace q405 := eq_true q405
              go_wp2_with (first | ((with_reducible refine gate_dst (N := 7) rfl ?_); refine box_event ?hg (N := 7) ?hd (cs := #[.string (⟨#[]⟩ : ByteArray), .slice none 0 0]) (t := 63) ?hr ?_; (case hd => rfl); (case hg => rfl); (case hr => first | (go_simp; done) | (go_simp; rfl)); intro gb406 hg w12 hbox hb; have n0_ := Aside0.mk (blk_below (g := gb404) (o := .cells #[.string a0_0, .slice (some ad405) l0_1.length c0_1, .slice A0_2 l0_2.length c0_2] 27 (0, 0)) (by (with_reducible repeat (first | refine blk_drewN ?_ _ | refine blk_drew ?_ | refine blk_alloc ?_ _)); exact BK404.out) hb); have n1_ := Aside0.mk (below_step (by repeat (first | (with_reducible first | exact HB.out | apply below_alloc | apply pw_below_drewN | apply below_drew1 | refine below_set ?_ GE404.out) | exact HB.out)) hb); have n2_ := Aside0.mk (hbox); have n3_ := Aside0.mk ((by rw [hg]; exact (below_size (by repeat (first | (with_reducible first | exact HB.out | apply below_alloc | apply pw_below_drewN | apply below_drew1 | refine below_set ?_ GE404.out) | exact HB.out))) : w.heap.size ≤ gb406)); have n4_ := Aside0.mk ((by rw [hg]; exact (below_size (by repeat (first | (with_reducible first | exact HB.out | apply below_alloc | apply pw_below_drewN | apply below_drew1 | refine below_set ?_ GE404.out) | exact HB.out))) : w.heap.size ≤ gb406)); have n5_ := Aside0.mk ((by rw [hg]; exact Nat.ne_of_lt (blk_lt (g := gb404) (o := .cells #[.string a0_0, .slice (some ad405) l0_1.length c0_1, .slice A0_2 l0_2.length c0_2] 27 (0, 0)) (by (with_reducible repeat (first | refine blk_drewN ?_ _ | refine blk_drew ?_ | refine blk_alloc ?_ _)); exact BK404.out)) : gb404 ≠ gb406)); have n6_ := Aside0.mk ((by rw [hg]; exact Nat.ne_of_gt (blk_lt (g := gb404) (o := .cells #[.string a0_0, .slice (some ad405) l0_1.length c0_1, .slice A0_2 l0_2.length c0_2] 27 (0, 0)) (by (with_reducible repeat (first | refine blk_drewN ?_ _ | refine blk_drew ?_ | refine blk_alloc ?_ _)); exact BK404.out)) : gb406 ≠ gb404)); clear BK404; clear HB; have BK404 := n0_; have HB := n1_; have BK406 := n2_; have GW406 := n3_; have GE406 := n4_; have NB404_406 := n5_; have NB406_404 := n6_; clear n0_ n1_ n2_ n3_ n4_ n5_ n6_; clear hb hbox hg; have hnb13 := NB406_404.out; have hnc13 := NB404_406.out; have hcz14_0 : w12.cell? ⟨gb406, 0, none⟩ = some (.string (⟨#[]⟩ : ByteArray)) := (blk_cell BK406.out 0).trans rfl; have hcz14_1 : w12.cell? ⟨gb406, 1, none⟩ = some (.slice none 0 0) := (blk_cell BK406.out 1).trans rfl; have hfz14_0 := blk_frozen BK406.out 0; have hfz14_1 := blk_frozen BK406.out 1))
              go_roundg k1
              case measure => have := HK1.out; omega
              case rel => exact ⟨(wrap64 (x1_1 + (((rd_T63 l0_1 x14_1).f1).length : Int))), (wrap64 (x14_1 + 1)), (by first | rfl | (simp; done) | (simp [*]; done)), (by first | rfl | (simp; done) | (simp [*]; done)), H', ⟨by have := HK1.out; omega⟩, ⟨by (with_reducible repeat (first | refine blk_drewN ?_ _ | refine blk_drew ?_ | refine blk_alloc ?_ _)); refine blk_far ?_ NB404_406.out _; (with_reducible repeat (first | refine blk_drewN ?_ _ | refine blk_drew ?_ | refine blk_alloc ?_ _)); refine blk_far ?_ NB404_406.out _; (with_reducible repeat (first | refine blk_drewN ?_ _ | refine blk_drew ?_ | refine blk_alloc ?_ _)); exact BK404.out⟩, ⟨by repeat (first | (with_reducible first | exact HB.out | apply below_alloc | apply pw_below_drewN | apply below_drew1 | refine below_set ?_ GE404.out | refine below_set ?_ GE406.out) | exact HB.out)⟩⟩
          · rw [if_neg c7] at H
            exact absurd H (by simp)
        · rw [if_neg c6] at H
          exact absurd H (by simp)
      · rw [if_neg c5] at H
        have c5b0 : decide (x14_1 < (l0_1.length : Int)) = false := decide_eq_false c5
        clear c5
        have H' := Aside0.mk H
        clear H
        have hcz15_0 : wr.cell? ⟨gb404, 0, none⟩ = some (.string a0_0) := (blk_cell BK404.out 0).trans rfl
        have hcz15_1 : wr.cell? ⟨gb404, 1, none⟩ = some (.slice A0_1 l0_1.length c0_1) := (blk_cell BK404.out 1).trans rfl
        have hcz15_2 : wr.cell? ⟨gb404, 2, none⟩ = some (.slice A0_2 l0_2.length c0_2) := (blk_cell BK404.out 2).trans rfl
        have hfz15_0 := blk_frozen BK404.out 0
        have hfz15_1 := blk_frozen BK404.out 1
        have hfz15_2 := blk_frozen BK404.out 2
        go_wp2
        go_loopg [1, 30] k1 (fun kq v1 v30 w' => ∃ (x1_2 : Int) (x30_2 : Int), v1 = .int .i64 x1_2 ∧ v30 = .int .i64 x30_2 ∧ Aside0 (encode_most.l1 kq x1_2 l0_2 (l0_2.length : Int) x30_2 = some (r1, r2)) ∧ Aside0 (kq ≤ k1) ∧ Aside0 (w'.heap[gb404]? = some (.cells #[.string a0_0, (.slice A0_1 l0_1.length c0_1), (.slice A0_2 l0_2.length c0_2)] 27 (0, 0))) ∧ Aside0 (Below w.heap.size w w'))
        case atStart => exact ⟨(x1_1), (0), (by first | rfl | (simp; done) | (simp [*]; done)), (by first | rfl | (simp; done) | (simp [*]; done)), H', ⟨Nat.le_refl _⟩, ⟨by (with_reducible repeat (first | refine blk_drewN ?_ _ | refine blk_drew ?_ | refine blk_alloc ?_ _)); exact BK404.out⟩, ⟨by repeat (first | (with_reducible first | exact HB.out | apply below_alloc | apply pw_below_drewN | apply below_drew1 | refine below_set ?_ GE404.out) | exact HB.out)⟩⟩
        case round =>
          clear H'
          try clear c1
          try clear p2
          try clear c4
          try clear p4
          try clear q4
          try clear hx4
          try clear c5
          try clear c5b0
          try clear c6
          try clear c6b0
          try clear p6
          try clear c7
          try clear c7b0
          try clear c8
          try clear c8b0
          try clear c10
          try clear c13
          try clear hcz11_0
          try clear hcz11_1
          try clear hcz14_0
          try clear hcz14_1
          try clear hcz15_0
          try clear hcz15_1
          try clear hcz15_2
          try clear hcz4_0
          try clear hcz4_1
          try clear hcz4_2
          try clear hfz11_0
          try clear hfz11_1
          try clear hfz14_0
          try clear hfz14_1
          try clear hfz15_0
          try clear hfz15_1
          try clear hfz15_2
          try clear hfz4_0
          try clear hfz4_1
          try clear hfz4_2
          try clear hx405_0
          try clear hx405_1
          try clear p2
          try clear p405
          try clear q405
          obtain ⟨x1_2, x30_2, rfl, rfl, HA, HK2, BK404, HB⟩ := hrel
          cases gk with
          | zero => exact absurd HA.out (by simp [encode_most.l1])
          | succ k2 =>
            have H := HA.out
            clear HA
            simp only [encode_most.l1] at H
            by_cases c16 : x30_2 < (l0_2.length : Int)
            · rw [if_pos c16] at H
              have c16b0 : decide (x30_2 < (l0_2.length : Int)) = true := decide_eq_true c16
              clear c16
              by_cases c17 : 0 ≤ x30_2
              · rw [if_pos c17] at H
                have c17b0 : decide (0 ≤ x30_2) = true := decide_eq_true c17
                clear c17
                by_cases c18 : x30_2 < (l0_2.length : Int)
                · rw [if_pos c18] at H
                  have c18b0 : decide (x30_2 < (l0_2.length : Int)) = true := decide_eq_true c18
                  clear c18
                  replace H := Option.bind_eq_some_iff.mp H
                  obtain ⟨⟨t409, t410⟩, A190, H⟩ := H
                  replace H : (if t410 = true then (some (t409, true)) else (encode_most.l1 k2 t409 l0_2 (l0_2.length : Int) (wrap64 (x30_2 + 1)))) = some (r1, r2) := H
                  have A19 := Aside0.mk A190
                  clear A190
                  by_cases c20 : t410 = true
                  · subst c20
                    have H1 : (some (t409, true)) = some (r1, r2) := by rw [if_pos rfl] at H; exact H
                    clear H
                    have H := H1
                    clear H1
                    simp only [Option.some.injEq, Prod.mk.injEq] at H
                    obtain ⟨rfl, rfl⟩ := H
                    have p407 : 0 ≤ (x30_2 : Int) := of_decide_eq_true (by first | (with_reducible assumption) | assumption)
                    have q407 : x30_2 < (l0_2.length : Int) := of_decide_eq_true (by first | (with_reducible assumption) | assumption)
                    obtain ⟨ad407, A407_1, c407_1, A407_2, c407_2, e407, hx407_0, hx407_1, hx407_2, hl407_1, hi407_1, hl407_2, hi407_2⟩ := at_T27 HR0_2.out x30_2 p407 q407
                    cases e407
                    replace hx407_0 := (HB.out.cell (World.block_lt_of_cell? w _ hx407_0)).trans hx407_0
                    replace hx407_1 := (HB.out.cell (World.block_lt_of_cell? w _ hx407_1)).trans hx407_1
                    replace hx407_2 := (HB.out.cell (World.block_lt_of_cell? w _ hx407_2)).trans hx407_2
                    have HR407_1 := Aside0.mk hi407_1
                    have HC407_1 := Aside0.mk hl407_1
                    clear hi407_1 hl407_1
                    have HR407_2 := Aside0.mk hi407_2
                    have HC407_2 := Aside0.mk hl407_2
                    clear hi407_2 hl407_2
                    replace p407 := eq_true p407
                    replace q407 := eq_true q407
                    go_wp2_with (first | ((with_reducible refine gate_dst (N := 9) rfl ?_); refine box_event ?hg (N := 9) ?hd (cs := #[.string (⟨#[]⟩ : ByteArray), .slice none 0 0, .slice none 0 0]) (t := 27) ?hr ?_; (case hd => rfl); (case hg => rfl); (case hr => first | (go_simp; done) | (go_simp; rfl)); intro gb408 hg w21 hbox hb; have n0_ := Aside0.mk (blk_below (g := gb404) (o := .cells #[.string a0_0, .slice A0_1 l0_1.length c0_1, .slice (some ad407) l0_2.length c0_2] 27 (0, 0)) (by (with_reducible repeat (first | refine blk_drewN ?_ _ | refine blk_drew ?_ | refine blk_alloc ?_ _)); exact BK404.out) hb); have n1_ := Aside0.mk (below_step (by repeat (first | (with_reducible first | exact HB.out | apply below_alloc | apply pw_below_drewN | apply below_drew1 | refine below_set ?_ GE404.out) | exact HB.out)) hb); have n2_ := Aside0.mk (hbox); have n3_ := Aside0.mk ((by rw [hg]; exact (below_size (by repeat (first | (with_reducible first | exact HB.out | apply below_alloc | apply pw_below_drewN | apply below_drew1 | refine below_set ?_ GE404.out) | exact HB.out))) : w.heap.size ≤ gb408)); have n4_ := Aside0.mk ((by rw [hg]; exact (below_size (by repeat (first | (with_reducible first | exact HB.out | apply below_alloc | apply pw_below_drewN | apply below_drew1 | refine below_set ?_ GE404.out) | exact HB.out))) : w.heap.size ≤ gb408)); have n5_ := Aside0.mk ((by rw [hg]; exact Nat.ne_of_lt (blk_lt (g := gb404) (o := .cells #[.string a0_0, .slice A0_1 l0_1.length c0_1, .slice (some ad407) l0_2.length c0_2] 27 (0, 0)) (by (with_reducible repeat (first | refine blk_drewN ?_ _ | refine blk_drew ?_ | refine blk_alloc ?_ _)); exact BK404.out)) : gb404 ≠ gb408)); have n6_ := Aside0.mk ((by rw [hg]; exact Nat.ne_of_gt (blk_lt (g := gb404) (o := .cells #[.string a0_0, .slice A0_1 l0_1.length c0_1, .slice (some ad407) l0_2.length c0_2] 27 (0, 0)) (by (with_reducible repeat (first | refine blk_drewN ?_ _ | refine blk_drew ?_ | refine blk_alloc ?_ _)); exact BK404.out)) : gb408 ≠ gb404)); clear BK404; clear HB; have BK404 := n0_; have HB := n1_; have BK408 := n2_; have GW408 := n3_; have GE408 := n4_; have NB404_408 := n5_; have NB408_404 := n6_; clear n0_ n1_ n2_ n3_ n4_ n5_ n6_; clear hb hbox hg; have hnb22 := NB408_404.out; have hnc22 := NB404_408.out; have hcz23_0 : w21.cell? ⟨gb408, 0, none⟩ = some (.string (⟨#[]⟩ : ByteArray)) := (blk_cell BK408.out 0).trans rfl; have hcz23_1 : w21.cell? ⟨gb408, 1, none⟩ = some (.slice none 0 0) := (blk_cell BK408.out 1).trans rfl; have hcz23_2 : w21.cell? ⟨gb408, 2, none⟩ = some (.slice none 0 0) := (blk_cell BK408.out 2).trans rfl; have hfz23_0 := blk_frozen BK408.out 0; have hfz23_1 := blk_frozen BK408.out 1; have hfz23_2 := blk_frozen BK408.out 2) | ((with_reducible refine gate_callee (f := 47) rfl ?_); refine goesL_ (some 37) rfl rfl Try.func47 (by kernel_rfl) rfl #[.agg #[.string ((rd_T27 l0_2 x30_2).f0), .slice A407_1 ((rd_T27 l0_2 x30_2).f1).length c407_1, .slice A407_2 ((rd_T27 l0_2 x30_2).f2).length c407_2], .int .i64 x1_2] rfl (by (try simp only [List.map_toArray, List.map_cons, List.map_nil]); first | done | rfl | (simp only [List.length_drop, List.length_take]; rfl)) ?_; (with_reducible refine (ih k2 (by have := HK1.out; have := HK2.out; omega) ((rd_T27 l0_2 x30_2).f0) _ _ ((rd_T27 l0_2 x30_2).f1) _ _ ((rd_T27 l0_2 x30_2).f2) x1_2 t409 true _ ?side1 ?side2 ?side3 ?side4 A19.out).mono ?_); (case side1 => exact Kd.C_below HR407_1.out (by repeat (first | (with_reducible first | exact HB.out | apply below_alloc | apply pw_below_drewN | apply below_drew1 | refine below_set ?_ GE404.out | refine below_set ?_ GE408.out) | exact HB.out))); (case side2 => exact HC407_1.out); (case side3 => exact Kd.C_below HR407_2.out (by repeat (first | (with_reducible first | exact HB.out | apply below_alloc | apply pw_below_drewN | apply below_drew1 | refine below_set ?_ GE404.out | refine below_set ?_ GE408.out) | exact HB.out))); (case side4 => exact HC407_2.out); rintro e w24 ⟨rfl, hb⟩; refine ⟨_, rfl, ?_⟩; have n0_ := Aside0.mk (blk_below (g := gb404) (o := .cells #[.string a0_0, .slice A0_1 l0_1.length c0_1, .slice (some ad407) l0_2.length c0_2] 27 (0, 0)) (by (with_reducible repeat (first | refine blk_drewN ?_ _ | refine blk_drew ?_ | refine blk_alloc ?_ _)); refine blk_far ?_ NB404_408.out _; (with_reducible repeat (first | refine blk_drewN ?_ _ | refine blk_drew ?_ | refine blk_alloc ?_ _)); refine blk_far ?_ NB404_408.out _; (with_reducible repeat (first | refine blk_drewN ?_ _ | refine blk_drew ?_ | refine blk_alloc ?_ _)); refine blk_far ?_ NB404_408.out _; (with_reducible repeat (first | refine blk_drewN ?_ _ | refine blk_drew ?_ | refine blk_alloc ?_ _)); exact BK404.out) hb); have n1_ := Aside0.mk (blk_below (g := gb408) (o := .cells #[.string ((rd_T27 l0_2 x30_2).f0), .slice A407_1 ((rd_T27 l0_2 x30_2).f1).length c407_1, .slice A407_2 ((rd_T27 l0_2 x30_2).f2).length c407_2] 27 (0, 0)) (by (with_reducible repeat (first | refine blk_drewN ?_ _ | refine blk_drew ?_ | refine blk_alloc ?_ _)); refine blk_put (cs := #[.string ((rd_T27 l0_2 x30_2).f0), .slice A407_1 ((rd_T27 l0_2 x30_2).f1).length c407_1, .slice none 0 0]) ?_ 2 _ rfl; (with_reducible repeat (first | refine blk_drewN ?_ _ | refine blk_drew ?_ | refine blk_alloc ?_ _)); refine blk_put (cs := #[.string ((rd_T27 l0_2 x30_2).f0), .slice none 0 0, .slice none 0 0]) ?_ 1 _ rfl; (with_reducible repeat (first | refine blk_drewN ?_ _ | refine blk_drew ?_ | refine blk_alloc ?_ _)); refine blk_put (cs := #[.string (⟨#[]⟩ : ByteArray), .slice none 0 0, .slice none 0 0]) ?_ 0 _ rfl; (with_reducible repeat (first | refine blk_drewN ?_ _ | refine blk_drew ?_ | refine blk_alloc ?_ _)); exact BK408.out) hb); have n2_ := Aside0.mk (below_step (by repeat (first | (with_reducible first | exact HB.out | apply below_alloc | apply pw_below_drewN | apply below_drew1 | refine below_set ?_ GE404.out | refine below_set ?_ GE408.out) | exact HB.out)) hb); clear BK404; clear BK408; clear HB; have BK404 := n0_; have BK408 := n1_; have HB := n2_; clear n0_ n1_ n2_; (try clear hb); (try clear hb2); (try clear hk); (try clear hi)))
                    go_ret2
                    exact ⟨by first | rfl | (simp [errW_none, errW_some] <;> rfl) | (simp [*, errW_none, errW_some] <;> rfl), by repeat (first | (with_reducible first | exact HB.out | apply below_alloc | apply pw_below_drewN | apply below_drew1 | refine below_set ?_ GE404.out | refine below_set ?_ GE408.out) | exact HB.out)⟩
                  · replace c20 := Bool.eq_false_iff.mpr c20
                    subst c20
                    have H1 : (encode_most.l1 k2 t409 l0_2 (l0_2.length : Int) (wrap64 (x30_2 + 1))) = some (r1, r2) := by rw [if_neg (show ¬ (false = true) by decide)] at H; exact H
                    clear H
                    have H := H1
                    clear H1
                    have H' := Aside0.mk H
                    clear H
                    have p407 : 0 ≤ (x30_2 : Int) := of_decide_eq_true (by first | (with_reducible assumption) | assumption)
                    have q407 : x30_2 < (l0_2.length : Int) := of_decide_eq_true (by first | (with_reducible assumption) | assumption)
                    obtain ⟨ad407, A407_1, c407_1, A407_2, c407_2, e407, hx407_0, hx407_1, hx407_2, hl407_1, hi407_1, hl407_2, hi407_2⟩ := at_T27 HR0_2.out x30_2 p407 q407
                    cases e407
                    replace hx407_0 := (HB.out.cell (World.block_lt_of_cell? w _ hx407_0)).trans hx407_0
                    replace hx407_1 := (HB.out.cell (World.block_lt_of_cell? w _ hx407_1)).trans hx407_1
                    replace hx407_2 := (HB.out.cell (World.block_lt_of_cell? w _ hx407_2)).trans hx407_2
                    have HR407_1 := Aside0.mk hi407_1
                    have HC407_1 := Aside0.mk hl407_1
                    clear hi407_1 hl407_1
                    have HR407_2 := Aside0.mk hi407_2
                    have HC407_2 := Aside0.mk hl407_2
                    clear hi407_2 hl407_2
                    replace p407 := eq_true p407
                    replace q407 := eq_true q407
                    go_wp2_with (first | ((with_reducible refine gate_dst (N := 9) rfl ?_); refine box_event ?hg (N := 9) ?hd (cs := #[.string (⟨#[]⟩ : ByteArray), .slice none 0 0, .slice none 0 0]) (t := 27) ?hr ?_; (case hd => rfl); (case hg => rfl); (case hr => first | (go_simp; done) | (go_simp; rfl)); intro gb408 hg w25 hbox hb; have n0_ := Aside0.mk (blk_below (g := gb404) (o := .cells #[.string a0_0, .slice A0_1 l0_1.length c0_1, .slice (some ad407) l0_2.length c0_2] 27 (0, 0)) (by (with_reducible repeat (first | refine blk_drewN ?_ _ | refine blk_drew ?_ | refine blk_alloc ?_ _)); exact BK404.out) hb); have n1_ := Aside0.mk (below_step (by repeat (first | (with_reducible first | exact HB.out | apply below_alloc | apply pw_below_drewN | apply below_drew1 | refine below_set ?_ GE404.out) | exact HB.out)) hb); have n2_ := Aside0.mk (hbox); have n3_ := Aside0.mk ((by rw [hg]; exact (below_size (by repeat (first | (with_reducible first | exact HB.out | apply below_alloc | apply pw_below_drewN | apply below_drew1 | refine below_set ?_ GE404.out) | exact HB.out))) : w.heap.size ≤ gb408)); have n4_ := Aside0.mk ((by rw [hg]; exact (below_size (by repeat (first | (with_reducible first | exact HB.out | apply below_alloc | apply pw_below_drewN | apply below_drew1 | refine below_set ?_ GE404.out) | exact HB.out))) : w.heap.size ≤ gb408)); have n5_ := Aside0.mk ((by rw [hg]; exact Nat.ne_of_lt (blk_lt (g := gb404) (o := .cells #[.string a0_0, .slice A0_1 l0_1.length c0_1, .slice (some ad407) l0_2.length c0_2] 27 (0, 0)) (by (with_reducible repeat (first | refine blk_drewN ?_ _ | refine blk_drew ?_ | refine blk_alloc ?_ _)); exact BK404.out)) : gb404 ≠ gb408)); have n6_ := Aside0.mk ((by rw [hg]; exact Nat.ne_of_gt (blk_lt (g := gb404) (o := .cells #[.string a0_0, .slice A0_1 l0_1.length c0_1, .slice (some ad407) l0_2.length c0_2] 27 (0, 0)) (by (with_reducible repeat (first | refine blk_drewN ?_ _ | refine blk_drew ?_ | refine blk_alloc ?_ _)); exact BK404.out)) : gb408 ≠ gb404)); clear BK404; clear HB; have BK404 := n0_; have HB := n1_; have BK408 := n2_; have GW408 := n3_; have GE408 := n4_; have NB404_408 := n5_; have NB408_404 := n6_; clear n0_ n1_ n2_ n3_ n4_ n5_ n6_; clear hb hbox hg; have hnb26 := NB408_404.out; have hnc26 := NB404_408.out; have hcz27_0 : w25.cell? ⟨gb408, 0, none⟩ = some (.string (⟨#[]⟩ : ByteArray)) := (blk_cell BK408.out 0).trans rfl; have hcz27_1 : w25.cell? ⟨gb408, 1, none⟩ = some (.slice none 0 0) := (blk_cell BK408.out 1).trans rfl; have hcz27_2 : w25.cell? ⟨gb408, 2, none⟩ = some (.slice none 0 0) := (blk_cell BK408.out 2).trans rfl; have hfz27_0 := blk_frozen BK408.out 0; have hfz27_1 := blk_frozen BK408.out 1; have hfz27_2 := blk_frozen BK408.out 2) | ((with_reducible refine gate_callee (f := 47) rfl ?_); refine goesL_ (some 37) rfl rfl Try.func47 (by kernel_rfl) rfl #[.agg #[.string ((rd_T27 l0_2 x30_2).f0), .slice A407_1 ((rd_T27 l0_2 x30_2).f1).length c407_1, .slice A407_2 ((rd_T27 l0_2 x30_2).f2).length c407_2], .int .i64 x1_2] rfl (by (try simp only [List.map_toArray, List.map_cons, List.map_nil]); first | done | rfl | (simp only [List.length_drop, List.length_take]; rfl)) ?_; (with_reducible refine (ih k2 (by have := HK1.out; have := HK2.out; omega) ((rd_T27 l0_2 x30_2).f0) _ _ ((rd_T27 l0_2 x30_2).f1) _ _ ((rd_T27 l0_2 x30_2).f2) x1_2 t409 false _ ?side1 ?side2 ?side3 ?side4 A19.out).mono ?_); (case side1 => exact Kd.C_below HR407_1.out (by repeat (first | (with_reducible first | exact HB.out | apply below_alloc | apply pw_below_drewN | apply below_drew1 | refine below_set ?_ GE404.out | refine below_set ?_ GE408.out) | exact HB.out))); (case side2 => exact HC407_1.out); (case side3 => exact Kd.C_below HR407_2.out (by repeat (first | (with_reducible first | exact HB.out | apply below_alloc | apply pw_below_drewN | apply below_drew1 | refine below_set ?_ GE404.out | refine below_set ?_ GE408.out) | exact HB.out))); (case side4 => exact HC407_2.out); rintro e w28 ⟨rfl, hb⟩; refine ⟨_, rfl, ?_⟩; have n0_ := Aside0.mk (blk_below (g := gb404) (o := .cells #[.string a0_0, .slice A0_1 l0_1.length c0_1, .slice (some ad407) l0_2.length c0_2] 27 (0, 0)) (by (with_reducible repeat (first | refine blk_drewN ?_ _ | refine blk_drew ?_ | refine blk_alloc ?_ _)); refine blk_far ?_ NB404_408.out _; (with_reducible repeat (first | refine blk_drewN ?_ _ | refine blk_drew ?_ | refine blk_alloc ?_ _)); refine blk_far ?_ NB404_408.out _; (with_reducible repeat (first | refine blk_drewN ?_ _ | refine blk_drew ?_ | refine blk_alloc ?_ _)); refine blk_far ?_ NB404_408.out _; (with_reducible repeat (first | refine blk_drewN ?_ _ | refine blk_drew ?_ | refine blk_alloc ?_ _)); exact BK404.out) hb); have n1_ := Aside0.mk (blk_below (g := gb408) (o := .cells #[.string ((rd_T27 l0_2 x30_2).f0), .slice A407_1 ((rd_T27 l0_2 x30_2).f1).length c407_1, .slice A407_2 ((rd_T27 l0_2 x30_2).f2).length c407_2] 27 (0, 0)) (by (with_reducible repeat (first | refine blk_drewN ?_ _ | refine blk_drew ?_ | refine blk_alloc ?_ _)); refine blk_put (cs := #[.string ((rd_T27 l0_2 x30_2).f0), .slice A407_1 ((rd_T27 l0_2 x30_2).f1).length c407_1, .slice none 0 0]) ?_ 2 _ rfl; (with_reducible repeat (first | refine blk_drewN ?_ _ | refine blk_drew ?_ | refine blk_alloc ?_ _)); refine blk_put (cs := #[.string ((rd_T27 l0_2 x30_2).f0), .slice none 0 0, .slice none 0 0]) ?_ 1 _ rfl; (with_reducible repeat (first | refine blk_drewN ?_ _ | refine blk_drew ?_ | refine blk_alloc ?_ _)); refine blk_put (cs := #[.string (⟨#[]⟩ : ByteArray), .slice none 0 0, .slice none 0 0]) ?_ 0 _ rfl; (with_reducible repeat (first | refine blk_drewN ?_ _ | refine blk_drew ?_ | refine blk_alloc ?_ _)); exact BK408.out) hb); have n2_ := Aside0.mk (below_step (by repeat (first | (with_reducible first | exact HB.out | apply below_alloc | apply pw_below_drewN | apply below_drew1 | refine below_set ?_ GE404.out | refine below_set ?_ GE408.out) | exact HB.out)) hb); clear BK404; clear BK408; clear HB; have BK404 := n0_; have BK408 := n1_; have HB := n2_; clear n0_ n1_ n2_; (try clear hb); (try clear hb2); (try clear hk); (try clear hi)))
                    go_roundg k2
                    case measure => have := HK1.out; have := HK2.out; omega
                    case rel => exact ⟨(t409), (wrap64 (x30_2 + 1)), (by first | rfl | (simp; done) | (simp [*]; done)), (by first | rfl | (simp; done) | (simp [*]; done)), H', ⟨by have := HK1.out; have := HK2.out; omega⟩, ⟨by (with_reducible repeat (first | refine blk_drewN ?_ _ | refine blk_drew ?_ | refine blk_alloc ?_ _)); exact BK404.out⟩, ⟨by repeat (first | (with_reducible first | exact HB.out | apply below_alloc | apply pw_below_drewN | apply below_drew1 | refine below_set ?_ GE404.out | refine below_set ?_ GE408.out) | exact HB.out)⟩⟩
                · rw [if_neg c18] at H
                  exact absurd H (by simp)
              · rw [if_neg c17] at H
                exact absurd H (by simp)
            · rw [if_neg c16] at H
              have c16b0 : decide (x30_2 < (l0_2.length : Int)) = false := decide_eq_false c16
              clear c16
              simp only [Option.some.injEq, Prod.mk.injEq] at H
              obtain ⟨rfl, rfl⟩ := H
              go_wp2
              go_ret2
              exact ⟨by first | rfl | (simp [errW_none, errW_some] <;> rfl) | (simp [*, errW_none, errW_some] <;> rfl), by repeat (first | (with_reducible first | exact HB.out | apply below_alloc | apply pw_below_drewN | apply below_drew1 | refine below_set ?_ GE404.out) | exact HB.out)⟩
end Go.Proofs.Ytkopmkinlanhoaa.PE

namespace Go.Proofs.Ytkopmkinlanhoaa.PE
open Go.RowKit Go.Proofs.YtkopmkinlanhoaaW.PrintWords Go.Proofs.YtkopmkinlanhoaaW.PrintLast Go.Proofs.YtkopmkinlanhoaaW.PrintMore
attribute [local go_sem] max2_int min2_int max_two min_two max_three min_three max_four min_four   -- for this text's walks alone
set_option linter.unusedVariables false
set_option linter.unusedSimpArgs false
def api_Reserve_50.f (l0 : List (S82)) : Option (List (S82)) := if l0.length < 8796093022208 then (some l0) else (none)
set_option maxRecDepth 100000 in
theorem api_Reserve_50.calls (A0 : Option Addr) (c0 : Nat) (l0 : List (S82)) (r : List (S82)) (w : World) (hr0 : Kd.C k82 w A0 l0.length l0) (hc0 : l0.length ≤ c0) (h : api_Reserve_50.f l0 = some r) :
    Calls Try.prog 50 #[.slice A0 l0.length c0] w fun e w' => ∃ v0_ : Value, e = .returned (v0_) ∧ Kd.R k82 82 w' w.heap.size (fun _ => True) v0_ r ∧ Below w.heap.size w w' := by
  unfold api_Reserve_50.f at h
  by_cases c3 : l0.length < 8796093022208
  · rw [if_pos c3] at h
    injection h with h
    subst h
    have HR0 := Aside0.mk hr0
    have HC0 := Aside0.mk hc0
    clear hr0 hc0
    have HB := Aside0.mk (Below.refl w.heap.size w)
    have LMc3 := Aside0.mk c3
    clear c3
    cases A0 with
    | none =>
      have hn : l0 = [] := by
        cases l0 with
        | nil => rfl
        | cons x r =>
          obtain ⟨ad, he, _⟩ := HR0.out.2.2 (by simp)
          cases he
      subst hn
      have q := fun w' : World => Lib.run_eql_slice_nil (P := Try.prog) w' 23 82 none ([] : List (S82)).length c0 0 0 Try.underlying23
      simp only [Option.isNone_none, List.length_nil] at q
      go_enter Try.func50, Try.ntmps50
      go_wp2
      go_ret
      exact ⟨_, rfl, Kd.R_nil _ _ _ _ _, Below.refl _ _⟩
    | some x0 =>
      have q := fun w' : World => Lib.run_eql_slice_nil (P := Try.prog) w' 23 82 (some x0) l0.length c0 0 0 Try.underlying23
      simp only [Option.isNone_some] at q
      obtain ⟨y5, hy5⟩ : ∃ y_ : List (S82), y_ = [] := ⟨_, rfl⟩
      have Ny5 := Aside0.mk hy5
      clear hy5
      obtain ⟨y7, hy7⟩ : ∃ y_ : List (S82), y_ = y5 ++ l0 := ⟨_, rfl⟩
      have Ny7 := Aside0.mk hy7
      clear hy7
      go_enter Try.func50, Try.ntmps50
      go_wp2_with (first | ((with_reducible refine gate_dst (N := 5) rfl ?_); refine Kd.R_lit k82 _ 82 ?hg (N := 5) ?hd (xs := ([] : List (S82))) (inner := []) (ok := fun _ => True) (okp := fun _ => True) ?hr ?hp (fun _ hk => hk) trivial (Below.refl _ _) (Nat.le_refl _) (by simp) ?_; (case hd => rfl); (case hg => rfl); (case hr => first | (go_simp; done) | (go_simp; rfl)); (case hp => exact (Reps.none _ _)); intro v5 w5 ho6 hb hg_ hnew_; clear hg_ hnew_; rw [← Ny5.out] at ho6; have n0_ := Aside0.mk (Kd.R_lower (base' := w.heap.size) ho6 (below_size (by repeat (first | (with_reducible first | exact HB.out | apply below_alloc | apply pw_below_drewN | apply below_drew1) | exact HB.out)))); have n2_ := Aside0.mk (below_step (by repeat (first | (with_reducible first | exact HB.out | apply below_alloc | apply pw_below_drewN | apply below_drew1) | exact HB.out)) hb); clear HB; have HO5 := n0_; have HB := n2_; clear n0_ n2_; clear hb ho6) | ((with_reducible refine gate_builtin (b := .append) (xs := #[.tmp 5, .tmp 6]) rfl ?_); at_builtin; refine Kd.R_append_rows k82 (w0 := w) w.heap.size rfl (.tmp 5) (.tmp 6) 23 82 (.agg #[(.int .u64 0), (.int .u64 0)]) 16 rfl Try.underlying23 info82 rfl (by decide) (by omega) v5 y5 l0 _ _ _ (fun _ => True) (fun _ => False) rfl rfl ?aO ?aR (fun _ _ h => h) (fun _ h => h.elim) (fun _ _ => trivial) ?aB ?aS ?aL ?_; (case aR => repeat (first | exact (Kd.C_below HR0.out HB.out) | (with_reducible refine Kd.C_alloc ?_ _) | (with_reducible refine Kd.C_drewN ?_ _) | (with_reducible refine Kd.C_drew ?_))); (case aB => exact (by repeat (first | (with_reducible first | exact HB.out | apply below_alloc | apply pw_below_drewN | apply below_drew1) | exact HB.out))); (case aO => exact (by (with_reducible repeat (first | apply Kd.R_alloc | apply Kd.R_drewN | apply Kd.R_drew)); exact HO5.out)); (case aS => exact (below_size (by repeat (first | (with_reducible first | exact HB.out | apply below_alloc | apply pw_below_drewN | apply below_drew1) | exact HB.out)))); (case aL => have := LMc3.out; rw [Ny5.out]; simp; omega); intro v7 w7 ho hb hg hat; rw [← Ny7.out] at ho; have n1_ := Aside0.mk (hb); have n2_ := Aside0.mk (ho); clear HB; clear HO5; have HB := n1_; have HO7 := n2_; clear n1_ n2_; clear ho hb hg hat))
      go_ret
      exact ⟨_, rfl, by have e7 : y7 = l0 := (by rw [Ny7.out, Ny5.out]; rfl); rw [← e7]; (with_reducible repeat (first | apply Kd.R_alloc | apply Kd.R_drewN | apply Kd.R_drew)); exact HO7.out, by repeat (first | (with_reducible first | exact HB.out | apply below_alloc | apply pw_below_drewN | apply below_drew1) | exact HB.out)⟩
  · rw [if_neg c3] at h
    cases h
end Go.Proofs.Ytkopmkinlanhoaa.PE

namespace Go.Proofs.Ytkopmkinlanhoaa.PE
open Go.RowKit Go.Proofs.YtkopmkinlanhoaaW.PrintWords Go.Proofs.YtkopmkinlanhoaaW.PrintLast Go.Proofs.YtkopmkinlanhoaaW.PrintMore
attribute [local go_sem] max2_int min2_int max_two min_two max_three min_three max_four min_four   -- for this text's walks alone
set_option linter.unusedVariables false
set_option linter.unusedSimpArgs false
def words_Put.f (k : Nat) (l0 : List Int) (a1 : Int) : Option (List Int) := (words_put.f k l0 (IntKind.u64.wrap (a1)) 4).bind fun t417 => (some t417)
set_option maxHeartbeats 8000000 in
set_option maxRecDepth 100000 in
theorem words_Put.calls (k : Nat) (A0 : Option Addr) (c0 : Nat) (l0 : List Int) (a1 : Int) (r : List Int) (w : World) (hr0 : Kd.C (Kd.int .u8) w A0 l0.length l0) (hc0 : l0.length ≤ c0) (h : words_Put.f k l0 a1 = some r) :
    Calls Try.prog 52 #[.slice A0 l0.length c0, .int .u32 a1] w fun e w' => ∃ v0_ : Value, e = .returned (v0_) ∧ Kd.R (Kd.int .u8) 5 w' w.heap.size (fun _ => True) v0_ r ∧ Below w.heap.size w w' := by
  have HR0 := Aside0.mk hr0
  have HC0 := Aside0.mk hc0
  clear hr0 hc0
  have HB := Aside0.mk (Below.refl w.heap.size w)
  have H : ((words_put.f k l0 (IntKind.u64.wrap (a1)) 4).bind fun t417 => (some t417)) = some r := h
  clear h
  replace H := Option.bind_eq_some_iff.mp H
  obtain ⟨t417, A30, H⟩ := H
  replace H : (some t417) = some r := H
  have A3 := Aside0.mk A30
  clear A30
  obtain rfl := Option.some.inj H
  go_enter Try.func52, Try.ntmps52
  go_wp2_with (first | ((with_reducible refine gate_callee (f := 76) rfl ?_); refine goesL_ (some 8) rfl rfl Try.func76 (by kernel_rfl) rfl #[.slice A0 l0.length c0, .int .u64 (IntKind.u64.wrap (a1)), .int .i64 4] rfl (by (try simp only [List.map_toArray, List.map_cons, List.map_nil]); first | done | rfl | (simp only [List.length_drop, List.length_take]; rfl)) ?_; (with_reducible refine (words_put.calls k _ _ l0 (IntKind.u64.wrap (a1)) 4 t417 _ ?side1 ?side2 A3.out).mono ?_); (case side1 => repeat (first | exact HR0.out | (with_reducible refine Kd.C_alloc ?_ _) | (with_reducible refine Kd.C_drewN ?_ _) | (with_reducible refine Kd.C_drew ?_))); (case side2 => exact HC0.out); rintro e w4 ⟨v418, rfl, ho0, hb⟩; refine ⟨_, rfl, ?_⟩; have n0_ := Aside0.mk (Kd.R_lower ho0 (below_size (by repeat (first | (with_reducible first | exact HB.out | apply below_alloc | apply pw_below_drewN | apply below_drew1) | exact HB.out)))); have n1_ := Aside0.mk (below_step (by repeat (first | (with_reducible first | exact HB.out | apply below_alloc | apply pw_below_drewN | apply below_drew1) | exact HB.out)) hb); clear HB; have HO419 := n0_; have HB := n1_; clear n0_ n1_; (try clear hb); (try clear hb2); (try clear hk); (try clear hi); (try clear ho0)))
  go_ret
  exact ⟨_, by first | rfl | (simp [errW_none, errW_some] <;> rfl) | (simp [*, errW_none, errW_some] <;> rfl), by (with_reducible repeat (first | apply Kd.R_alloc | apply Kd.R_drewN | apply Kd.R_drew)); exact HO419.out, by repeat (first | (with_reducible first | exact HB.out | apply below_alloc | apply pw_below_drewN | apply below_drew1) | exact HB.out)⟩
end Go.Proofs.Ytkopmkinlanhoaa.PE

namespace Go.Proofs.Ytkopmkinlanhoaa.PE
open Go.RowKit Go.Proofs.YtkopmkinlanhoaaW.PrintWords Go.Proofs.YtkopmkinlanhoaaW.PrintLast Go.Proofs.YtkopmkinlanhoaaW.PrintMore
attribute [local go_sem] max2_int min2_int max_two min_two max_three min_three max_four min_four   -- for this text's walks alone
set_option linter.unusedVariables false
set_option linter.unusedSimpArgs false
set_option maxRecDepth 100000 in
theorem words_part.yes (ad : Addr) (m c : Nat) (i q : Int) (w : World) (h0 : 0 ≤ i) (h1 : i ≤ (m : Int)) (h2 : q ≤ (m : Int) - i) (hq : 0 < q) (hc : m ≤ c) (hm : m ≤ 9223372036854775807) :
    Calls Try.prog 62 #[.slice (some ad) m c, .int .i64 i, .int .i64 q] w fun e w' => e = .returned (.slice (if c = i.toNat then some ad else (some ad).map (·.add (i.toNat * 1))) ((i + q).toNat - i.toNat) (c - i.toNat)) ∧ w' = w := by
  have f1 : decide (i < 0) = false := by simp; omega
  have f2 : decide ((m : Int) < i) = false := by simp; omega
  have f3 : decide ((m : Int) - i < q) = false := by simp; omega
  obtain ⟨i0, hi0, _, hsz, _⟩ := info_parts info5
  have hcut := cut_mid 45 5 .i64 .i64 Try.underlying45 hi0 1 hsz (some ad) m c i (i + q) h0 (by omega) (by omega) hc
  go_enter Try.func62, Try.ntmps62
  go_wp2
  go_ret
  exact ⟨rfl, rfl⟩
set_option maxRecDepth 100000 in
theorem words_part.no (B : Option Addr) (m c : Nat) (i q : Int) (w : World) (h : i < 0 ∨ (m : Int) < i ∨ (m : Int) - i < q) (hq : 0 < q) (hq1 : q ≤ 100) (hm : m ≤ 9223372036854775807) :
    Calls Try.prog 62 #[.slice B m c, .int .i64 i, .int .i64 q] w fun e w' => e = .returned (.slice none 0 0) ∧ w' = w := by
  by_cases a1 : i < 0
  · have f1 : decide (i < 0) = true := by simp; omega
    clear h
    go_enter Try.func62, Try.ntmps62
    go_wp2
    go_ret
    exact ⟨rfl, rfl⟩
  · have f1 : decide (i < 0) = false := by simp; omega
    by_cases a2 : (m : Int) < i
    · have f2 : decide ((m : Int) < i) = true := by simp; omega
      clear h
      go_enter Try.func62, Try.ntmps62
      go_wp2
      go_ret
      exact ⟨rfl, rfl⟩
    · have f2 : decide ((m : Int) < i) = false := by simp; omega
      have f3 : decide ((m : Int) - i < q) = true := by simp; omega
      clear h
      go_enter Try.func62, Try.ntmps62
      go_wp2
      go_ret
      exact ⟨rfl, rfl⟩
end Go.Proofs.Ytkopmkinlanhoaa.PE

namespace Go.Proofs.Ytkopmkinlanhoaa.PE
open Go.RowKit Go.Proofs.YtkopmkinlanhoaaW.PrintWords Go.Proofs.YtkopmkinlanhoaaW.PrintLast Go.Proofs.YtkopmkinlanhoaaW.PrintMore
attribute [local go_sem] max2_int min2_int max_two min_two max_three min_three max_four min_four   -- for this text's walks alone
set_option linter.unusedVariables false
set_option linter.unusedSimpArgs false
def words_number.l0 : Nat → Int → List Int → Int → Int → Option (Int)
  | 0, _, _, _, _ => none
  | k + 1, x3, x6, x7, x8 => if x8 < x7 then (if 0 ≤ x8 then (if x8 < (x6.length : Int) then (words_number.l0 k (Go.bits .or .u64 (IntKind.u64.wrap (x3 * 256)) (IntKind.u64.wrap (rd x6 x8))) x6 x7 (wrap64 (x8 + 1))) else (none)) else (none)) else (some x3)
def words_number.f (k : Nat) (l0 : List Int) : Option (Int) := words_number.l0 k 0 l0 (l0.length : Int) 0
set_option maxHeartbeats 8000000 in
set_option maxRecDepth 100000 in
theorem words_number.calls (k : Nat) (A0 : Option Addr) (c0 : Nat) (l0 : List Int) (r : Int) (w : World) (hr0 : Kd.C (Kd.int .u8) w A0 l0.length l0) (hc0 : l0.length ≤ c0) (h : words_number.f k l0 = some r) :
    Calls Try.prog 63 #[.slice A0 l0.length c0] w fun e w' => e = .returned (.int .u64 r) ∧ Drawn0 w w' := by
  have HR0 := Aside0.mk hr0
  have HC0 := Aside0.mk hc0
  clear hr0 hc0
  have H : (words_number.l0 k 0 l0 (l0.length : Int) 0) = some r := h
  clear h
  have H' := Aside0.mk H
  clear H
  go_enter Try.func63, Try.ntmps63
  go_wp2
  go_loopg [3, 8] k (fun kq v3 v8 w' => ∃ (x3_1 : Int) (x8_1 : Int), v3 = .int .u64 x3_1 ∧ v8 = .int .i64 x8_1 ∧ Aside0 (words_number.l0 kq x3_1 l0 (l0.length : Int) x8_1 = some r) ∧ Aside0 (kq ≤ k) ∧ Drawn0 w w')
  case atStart => exact ⟨(0), (0), (by first | rfl | (simp; done) | (simp [*]; done)), (by first | rfl | (simp; done) | (simp [*]; done)), H', ⟨Nat.le_refl _⟩, by repeat (first | exact Drawn0.refl _ | apply Drawn0.step)⟩
  case round =>
    clear H'
    obtain ⟨x3_1, x8_1, rfl, rfl, HA, HK1, ⟨m1, rfl⟩⟩ := hrel
    cases gk with
    | zero => exact absurd HA.out (by simp [words_number.l0])
    | succ k1 =>
      have H := HA.out
      clear HA
      simp only [words_number.l0] at H
      by_cases c2 : x8_1 < (l0.length : Int)
      · rw [if_pos c2] at H
        have c2b0 : decide (x8_1 < (l0.length : Int)) = true := decide_eq_true c2
        clear c2
        by_cases c3 : 0 ≤ x8_1
        · rw [if_pos c3] at H
          have c3b0 : decide (0 ≤ x8_1) = true := decide_eq_true c3
          clear c3
          by_cases c4 : x8_1 < (l0.length : Int)
          · rw [if_pos c4] at H
            have c4b0 : decide (x8_1 < (l0.length : Int)) = true := decide_eq_true c4
            clear c4
            have H' := Aside0.mk H
            clear H
            have p107 : 0 ≤ (x8_1 : Int) := of_decide_eq_true (by first | (with_reducible assumption) | assumption)
            have q107 : x8_1 < (l0.length : Int) := of_decide_eq_true (by first | (with_reducible assumption) | assumption)
            obtain ⟨ad107, e107, hx107_0⟩ := Kd.at_int HR0.out x8_1 p107 q107
            cases e107
            replace p107 := eq_true p107
            replace q107 := eq_true q107
            go_wp2
            go_roundg k1
            case measure => have := HK1.out; omega
            case rel => exact ⟨(Go.bits .or .u64 (IntKind.u64.wrap (x3_1 * 256)) (IntKind.u64.wrap (rd l0 x8_1))), (wrap64 (x8_1 + 1)), (by first | rfl | (simp; done) | (simp [*]; done)), (by first | rfl | (simp; done) | (simp [*]; done)), H', ⟨by have := HK1.out; omega⟩, by repeat (first | exact Drawn0.refl _ | apply Drawn0.step)⟩
          · rw [if_neg c4] at H
            exact absurd H (by simp)
        · rw [if_neg c3] at H
          exact absurd H (by simp)
      · rw [if_neg c2] at H
        have c2b0 : decide (x8_1 < (l0.length : Int)) = false := decide_eq_false c2
        clear c2
        obtain rfl := Option.some.inj H
        go_wp2
        go_ret
        exact ⟨by first | rfl | (simp; done) | (simp [*]; done), by repeat (first | exact Drawn0.refl _ | apply Drawn0.step)⟩
end Go.Proofs.Ytkopmkinlanhoaa.PE

namespace Go.Proofs.Ytkopmkinlanhoaa.PE
open Go.RowKit Go.Proofs.YtkopmkinlanhoaaW.PrintWords Go.Proofs.YtkopmkinlanhoaaW.PrintLast Go.Proofs.YtkopmkinlanhoaaW.PrintMore
attribute [local go_sem] max2_int min2_int max_two min_two max_three min_three max_four min_four   -- for this text's walks alone
set_option linter.unusedVariables false
set_option linter.unusedSimpArgs false
def numb (l : List Int) : Int := l.foldl (fun v c => Go.bits .or .u64 (IntKind.u64.wrap (v * 256)) (IntKind.u64.wrap c)) 0
theorem numb_loop (l : List Int) (hl : l.length ≤ 9223372036854775806) (d : Nat) : ∀ (k : Nat) (v : Int) (i : Nat), i + d = l.length → d < k →
    words_number.l0 k v l (l.length : Int) (i : Int) = some ((l.drop i).foldl (fun v c => Go.bits .or .u64 (IntKind.u64.wrap (v * 256)) (IntKind.u64.wrap c)) v) := by
  induction d with
  | zero =>
    intro k v i hi hk
    obtain ⟨k, rfl⟩ : ∃ m, k = m + 1 := ⟨k - 1, by omega⟩
    simp only [words_number.l0]
    rw [if_neg (by omega), List.drop_of_length_le (by omega)]
    rfl
  | succ d ih =>
    intro k v i hi hk
    obtain ⟨k, rfl⟩ : ∃ m, k = m + 1 := ⟨k - 1, by omega⟩
    simp only [words_number.l0]
    have hw : wrap64 ((i : Int) + 1) = ((i + 1 : Nat) : Int) := by unfold wrap64; omega
    rw [if_pos (by omega), if_pos (by omega), if_pos (by omega), hw, ih k _ (i + 1) (by omega) (by omega), List.drop_eq_getElem_cons (by omega : i < l.length), List.foldl_cons]
    simp [rd, List.getD_eq_getElem?_getD, List.getElem?_eq_getElem (by omega : i < l.length)]
theorem numb_f (l : List Int) (hl : l.length ≤ 9223372036854775806) : words_number.f (l.length + 1) l = some (numb l) := by
  have h := numb_loop l hl l.length (l.length + 1) 0 0 (by omega) (by omega)
  simpa [words_number.f, numb] using h
def words_Get.f (l0 : List Int) (a1 : Int) : Option (Int × Bool) := if 0 ≤ a1 ∧ 4 ≤ (l0.length : Int) - a1 then (some (numb ((l0.take (a1 + 4).toNat).drop a1.toNat) % 4294967296, true)) else (some (0, false))
set_option maxRecDepth 100000 in
theorem words_Get.calls (A0 : Option Addr) (c0 : Nat) (l0 : List Int) (a1 : Int) (r1 : Int) (r2 : Bool) (w : World) (hr0 : Kd.C (Kd.int .u8) w A0 l0.length l0) (hc0 : l0.length ≤ c0) (h : words_Get.f l0 a1 = some (r1, r2)) :
    Calls Try.prog 34 #[.slice A0 l0.length c0, .int .i64 a1] w fun e w' => e = .returned (.tuple #[.int .u32 r1, .bool r2]) ∧ Drawn0 w w' := by
  have hm : l0.length ≤ 9223372036854775807 := hr0.2.1
  unfold words_Get.f at h
  by_cases c : 0 ≤ a1 ∧ 4 ≤ (l0.length : Int) - a1
  · rw [if_pos c] at h
    simp only [Option.some.injEq, Prod.mk.injEq] at h
    obtain ⟨rfl, rfl⟩ := h
    obtain ⟨ad, rfl, _⟩ := hr0.2.2 (by omega)
    have hmid := Kd.C_mid (lo := a1.toNat) (hi := (a1 + 4).toNat) hr0 (by omega) (by omega) hc0
    have hlen : ((l0.take (a1 + 4).toNat).drop a1.toNat).length = 4 := by simp; omega
    obtain ⟨y, hy⟩ : ∃ y, y = (l0.take (a1 + 4).toNat).drop a1.toNat := ⟨_, rfl⟩
    rw [← hy] at hmid hlen
    have hsub : (a1 + 4).toNat - a1.toNat = y.length := by rw [hlen]; omega
    have h0 := c.1
    have h1 := c.2
    have hno : c0 ≠ a1.toNat := by omega
    have Hp := words_part.yes ad l0.length c0 a1 4 w h0 (by omega) h1 (by decide) hc0 hm
    rw [if_neg hno, hsub] at Hp
    rw [if_neg hno] at hmid
    have hq : y.length ≤ c0 - a1.toNat := by rw [hlen]; omega
    have Hn := words_number.calls (y.length + 1) ((some ad).map (·.add (a1.toNat * 1))) (c0 - a1.toNat) y (numb y) w hmid hq (numb_f y (by rw [hlen]; decide))
    have Hy := Aside0.mk hy
    clear hy c h0 h1 hno hmid hq hr0 hsub hlen
    obtain ⟨B, hB⟩ : ∃ B, B = ad.add (a1.toNat * 1) := ⟨_, rfl⟩
    simp only [Option.map_some] at Hp Hn
    rw [← hB] at Hp Hn
    clear hB
    have q := fun w' : World => run_neq_slice_nil_any (P := Try.prog) w' 45 5 (some B) y.length (c0 - a1.toNat) 0 0 Try.underlying45
    simp only [Option.isNone_some, Bool.not_false] at q
    go_enter Try.func34, Try.ntmps34
    go_wp2_with (first | (go_at_call 62; refine Hp.mono ?_; rintro e w' ⟨rfl, rfl⟩) | (go_at_call 63; refine Hn.mono ?_; rintro e w' ⟨rfl, ⟨nd, rfl⟩⟩))
    go_ret2
    exact ⟨by rw [Hy.out]; rfl, ⟨⟨_, rfl⟩⟩⟩
  · rw [if_neg c] at h
    simp only [Option.some.injEq, Prod.mk.injEq] at h
    obtain ⟨rfl, rfl⟩ := h
    have Hn := words_number.calls 1 none 0 [] 0 w ⟨rfl, by decide, fun h0 => absurd h0 (by decide)⟩ (Nat.le_refl 0) (by decide)
    have q := fun w' : World => run_neq_slice_nil_any (P := Try.prog) w' 45 5 none 0 0 0 0 Try.underlying45
    simp only [Option.isNone_none, Bool.not_true] at q
    simp only [List.length_nil] at Hn
    have Hp := words_part.no A0 l0.length c0 a1 4 w (by omega) (by decide) (by decide) hm
    clear c hr0
    go_enter Try.func34, Try.ntmps34
    go_wp2_with (first | (go_at_call 62; refine Hp.mono ?_; rintro e w' ⟨rfl, rfl⟩) | (go_at_call 63; refine Hn.mono ?_; rintro e w' ⟨rfl, ⟨nd, rfl⟩⟩))
    go_ret2
    exact ⟨rfl, ⟨⟨_, rfl⟩⟩⟩
end Go.Proofs.Ytkopmkinlanhoaa.PE

namespace Go.Proofs.Ytkopmkinlanhoaa.PE
open Go.RowKit Go.Proofs.YtkopmkinlanhoaaW.PrintWords Go.Proofs.YtkopmkinlanhoaaW.PrintLast Go.Proofs.YtkopmkinlanhoaaW.PrintMore
attribute [local go_sem] max2_int min2_int max_two min_two max_three min_three max_four min_four   -- for this text's walks alone
set_option linter.unusedVariables false
set_option linter.unusedSimpArgs false
def decode_within.f (a0 : Int) (a1 : Int) (a2 : Int) : Option (Bool) := if a0 ≥ 40 then (some (decide ((IntKind.u64.wrap ((IntKind.u64.wrap (a0)) + (IntKind.u64.wrap (a1)))) ≤ (IntKind.u64.wrap (a2))))) else (some false)
set_option maxHeartbeats 8000000 in
set_option maxRecDepth 100000 in
theorem decode_within.calls (a0 : Int) (a1 : Int) (a2 : Int) (r : Bool) (w : World) (h : decode_within.f a0 a1 a2 = some r) :
    Calls Try.prog 35 #[.int .u32 a0, .int .u32 a1, .int .i64 a2] w fun e w' => e = .returned (.bool r) ∧ Drawn0 w w' := by
  have H : (if a0 ≥ 40 then (some (decide ((IntKind.u64.wrap ((IntKind.u64.wrap (a0)) + (IntKind.u64.wrap (a1)))) ≤ (IntKind.u64.wrap (a2))))) else (some false)) = some r := h
  clear h
  by_cases c4 : a0 ≥ 40
  · rw [if_pos c4] at H
    have c4b0 : decide (40 ≤ a0) = true := decide_eq_true c4
    clear c4
    obtain rfl := Option.some.inj H
    go_enter Try.func35, Try.ntmps35
    go_wp2
    go_ret
    exact ⟨by first | rfl | (simp; done) | (simp [*]; done), by repeat (first | exact Drawn0.refl _ | apply Drawn0.step)⟩
  · rw [if_neg c4] at H
    have c4b0 : decide (40 ≤ a0) = false := decide_eq_false c4
    clear c4
    obtain rfl := Option.some.inj H
    go_enter Try.func35, Try.ntmps35
    go_wp2
    go_ret
    exact ⟨by first | rfl | (simp; done) | (simp [*]; done), by repeat (first | exact Drawn0.refl _ | apply Drawn0.step)⟩
end Go.Proofs.Ytkopmkinlanhoaa.PE

namespace Go.Proofs.Ytkopmkinlanhoaa.PE
open Go.RowKit Go.Proofs.YtkopmkinlanhoaaW.PrintWords Go.Proofs.YtkopmkinlanhoaaW.PrintLast Go.Proofs.YtkopmkinlanhoaaW.PrintMore
attribute [local go_sem] max2_int min2_int max_two min_two max_three min_three max_four min_four
set_option linter.unusedVariables false
set_option linter.unusedSimpArgs false
structure Hdr where (c0 c1 c2 c3 c4 c5 c6 c7 c8 c9 : Int)
def Hdr.zero : Hdr := ⟨0, 0, 0, 0, 0, 0, 0, 0, 0, 0⟩
def Hdr.val (h : Hdr) : Value := .agg #[.int .u32 h.c0, .int .u32 h.c1, .int .u32 h.c2, .int .u32 h.c3, .int .u32 h.c4, .int .u32 h.c5, .int .u32 h.c6, .int .u32 h.c7, .int .u32 h.c8, .int .u32 h.c9]
def cellAt (l : List Int) (i : Int) : Int := ((words_Get.f l i).getD (0, false)).1
def cellOk (l : List Int) (i : Int) : Bool := ((words_Get.f l i).getD (0, false)).2
theorem get_cell (l : List Int) (i : Int) : words_Get.f l i = some (cellAt l i, cellOk l i) := by
  have h : ∃ r, words_Get.f l i = some r := by unfold words_Get.f; split <;> exact ⟨_, rfl⟩
  obtain ⟨r, h⟩ := h
  unfold cellAt cellOk
  rw [h]
  rfl
theorem cellAt_range (l : List Int) (i : Int) : 0 ≤ cellAt l i ∧ cellAt l i < 4294967296 := by
  unfold cellAt words_Get.f
  split
  · simp only [Option.getD_some]; omega
  · simp
def hdrOf (l : List Int) : Hdr := ⟨cellAt l 0, cellAt l 4, cellAt l 8, cellAt l 12, cellAt l 16, cellAt l 20, cellAt l 24, cellAt l 28, cellAt l 32, cellAt l 36⟩
def inB (a s n : Int) : Bool := if a ≥ 40 then decide ((IntKind.u64.wrap ((IntKind.u64.wrap a) + (IntKind.u64.wrap s))) ≤ (IntKind.u64.wrap n)) else false
theorem within_inB (a s n : Int) : decode_within.f a s n = some (inB a s n) := by
  unfold decode_within.f inB
  split <;> rfl
def hdrErr (h : Hdr) (n : Int) : Int :=
  if h.c0 = 3490578157 then (if h.c5 = 17 then (if h.c6 = 16 then (if h.c1 = n then (if inB h.c2 h.c9 n = true then (if inB h.c3 h.c8 n = true then (if inB h.c4 0 n = true then (if h.c4 % 8 = 0 then (if h.c2 % 4 = 0 then 0 else 4) else 4) else 4) else 4) else 4) else 4) else 3) else 3) else 2
def decode_Header.f (l : List Int) : Option (Hdr × Int) :=
  some (if l.length < 40 then (.zero, 4) else if 1048576 < l.length then (.zero, 4) else if hdrErr (hdrOf l) l.length = 0 then (hdrOf l, 0) else (.zero, hdrErr (hdrOf l) l.length))
def hcell (l : List Int) (i j : Nat) : Value := .int .u32 (if j < i then cellAt l (4 * (j : Int)) else 0)
def hcells (l : List Int) (i : Nat) : Array Value := #[hcell l i 0, hcell l i 1, hcell l i 2, hcell l i 3, hcell l i 4, hcell l i 5, hcell l i 6, hcell l i 7, hcell l i 8, hcell l i 9]
theorem hdr_next {l : List Int} {W : World} {g t : Nat} (i : Nat) (hi : i < 10) (h : W.heap[g]? = some (.cells (hcells l i) t (0, 0))) :
    (W.setCell ⟨g, i, none⟩ (.int .u32 (cellAt l (4 * (i : Int))))).heap[g]? = some (.cells (hcells l (i + 1)) t (0, 0)) := by
  refine blk_put h i _ ?_
  have : i = 0 ∨ i = 1 ∨ i = 2 ∨ i = 3 ∨ i = 4 ∨ i = 5 ∨ i = 6 ∨ i = 7 ∨ i = 8 ∨ i = 9 := by omega
  rcases this with rfl | rfl | rfl | rfl | rfl | rfl | rfl | rfl | rfl | rfl
  all_goals rfl
theorem end10 {w W : World} {t : Nat} (hb : Below w.heap.size w W) (h : W.heap[w.heap.size]? = some (.cells (hcells [] 0) t (0, 0))) (v0 v1 v2 v3 v4 v5 v6 v7 v8 v9 : Value) :
    Below w.heap.size w ((((((((((W.setCell ⟨w.heap.size, 0, none⟩ v0).setCell ⟨w.heap.size, 1, none⟩ v1).setCell ⟨w.heap.size, 2, none⟩ v2).setCell ⟨w.heap.size, 3, none⟩ v3).setCell ⟨w.heap.size, 4, none⟩ v4).setCell ⟨w.heap.size, 5, none⟩ v5).setCell ⟨w.heap.size, 6, none⟩ v6).setCell ⟨w.heap.size, 7, none⟩ v7).setCell ⟨w.heap.size, 8, none⟩ v8).setCell ⟨w.heap.size, 9, none⟩ v9) ∧ ((((((((((W.setCell ⟨w.heap.size, 0, none⟩ v0).setCell ⟨w.heap.size, 1, none⟩ v1).setCell ⟨w.heap.size, 2, none⟩ v2).setCell ⟨w.heap.size, 3, none⟩ v3).setCell ⟨w.heap.size, 4, none⟩ v4).setCell ⟨w.heap.size, 5, none⟩ v5).setCell ⟨w.heap.size, 6, none⟩ v6).setCell ⟨w.heap.size, 7, none⟩ v7).setCell ⟨w.heap.size, 8, none⟩ v8).setCell ⟨w.heap.size, 9, none⟩ v9).heap[w.heap.size]? = some (.cells #[v0, v1, v2, v3, v4, v5, v6, v7, v8, v9] t (0, 0)) := by
  refine ⟨?_, ?_⟩
  · exact ((((((((((hb.setCell (Nat.le_refl _) _).setCell (Nat.le_refl _) _).setCell (Nat.le_refl _) _).setCell (Nat.le_refl _) _).setCell (Nat.le_refl _) _).setCell (Nat.le_refl _) _).setCell (Nat.le_refl _) _).setCell (Nat.le_refl _) _).setCell (Nat.le_refl _) _).setCell (Nat.le_refl _) _)
  · have q := (blk_set (blk_set (blk_set (blk_set (blk_set (blk_set (blk_set (blk_set (blk_set (blk_set h 0 v0) 1 v1) 2 v2) 3 v3) 4 v4) 5 v5) 6 v6) 7 v7) 8 v8) 9 v9)
    simpa [hcells] using q
set_option maxRecDepth 100000 in
set_option maxHeartbeats 4000000 in
theorem decode_Header.calls (A0 : Option Addr) (c0 : Nat) (l0 : List Int) (r1 : Hdr) (r2 : Int) (w : World) (hr0 : Kd.C (Kd.int .u8) w A0 l0.length l0) (hc0 : l0.length ≤ c0) (h : decode_Header.f l0 = some (r1, r2)) :
    Calls Try.prog 17 #[.slice A0 l0.length c0] w fun e w' => e = .returned (.tuple #[r1.val, .int .i64 r2]) ∧ Below w.heap.size w w' := by
  unfold decode_Header.f at h
  replace h := Option.some.inj h
  have HB0 : ∀ cs cs', Below w.heap.size w ((w.alloc (.cells cs 43)).alloc (.cells cs' 43)) := fun cs cs' => below_alloc (below_alloc (Below.refl _ _) _) _
  have HB := Aside0.mk HB0
  clear HB0
  by_cases c1 : l0.length < 40
  · rw [if_pos c1] at h
    obtain ⟨rfl, rfl⟩ := Prod.mk.inj h
    clear h
    go_enter Try.func17, Try.ntmps17
    go_wp2
    exact bodyPost_ret (v := .tuple #[Hdr.zero.val, .int .i64 4]) (by simp [results, Try.results17, go_sem, Hdr.val, Hdr.zero]) rfl ⟨rfl, HB.out _ _⟩
  · rw [if_neg c1] at h
    have c1b : decide ((l0.length : Int) < 40) = false := decide_eq_false (by omega)
    by_cases c2 : 1048576 < l0.length
    · rw [if_pos c2] at h
      obtain ⟨rfl, rfl⟩ := Prod.mk.inj h
      clear h
      have c2b : decide (1048576 < (l0.length : Int)) = true := decide_eq_true (by omega)
      go_enter Try.func17, Try.ntmps17
      go_wp2
      exact bodyPost_ret (v := .tuple #[Hdr.zero.val, .int .i64 4]) (by simp [results, Try.results17, go_sem, Hdr.val, Hdr.zero]) rfl ⟨rfl, HB.out _ _⟩
    · rw [if_neg c2] at h
      have c2b : decide (1048576 < (l0.length : Int)) = false := decide_eq_false (by omega)
      have H := Aside0.mk h
      have HR0 := Aside0.mk hr0
      have HC0 := Aside0.mk hc0
      clear h hr0 hc0 c1 c2
      go_enter Try.func17, Try.ntmps17
      go_wp2
      go_loopg [15] 11 (fun kq v15 w' => ∃ i : Nat, v15 = .int .i64 (i : Int) ∧ Aside0 (i + kq = 11 ∧ i ≤ 10) ∧ Aside0 (Below w.heap.size w w') ∧ Aside0 (w'.heap[w.heap.size]? = some (.cells (hcells [] 0) 43 (0, 0))) ∧ Aside0 (w'.heap[w.heap.size + 1]? = some (.cells (hcells l0 i) 43 (0, 0))))
      case atStart => exact ⟨0, rfl, ⟨rfl, by decide⟩, ⟨HB.out _ _⟩, ⟨blk_alloc (blk_new w _) _⟩, ⟨(by rw [show w.heap.size + 1 = (w.alloc (.cells (hcells [] 0) 43)).heap.size from (Array.size_push ..).symm]; exact blk_new _ _)⟩⟩
      case round =>
        obtain ⟨i, rfl, HI, HB, B0, B1⟩ := hrel
        by_cases ci : i < 10
        · have HG := fun j : Int => get_cell l0 j
          have HCal := fun (j : Int) (W : World) (hC : Kd.C (Kd.int .u8) W A0 l0.length l0) => words_Get.calls A0 c0 l0 j (cellAt l0 j) (cellOk l0 j) W hC HC0.out (get_cell l0 j)
          have HCal := Aside0.mk HCal
          clear HG
          have hi := HI.out
          cases gk with
          | zero => omega
          | succ k1 =>
            have k0 : wr.cell? ⟨w.heap.size + 1, i, none⟩ = some (.int .u32 0) := by
              have : i = 0 ∨ i = 1 ∨ i = 2 ∨ i = 3 ∨ i = 4 ∨ i = 5 ∨ i = 6 ∨ i = 7 ∨ i = 8 ∨ i = 9 := by omega
              rcases this with rfl | rfl | rfl | rfl | rfl | rfl | rfl | rfl | rfl | rfl
              all_goals exact (blk_cell B1.out _).trans rfl
            have kf : wr.frozen? ⟨w.heap.size + 1, i, none⟩ = false := blk_frozen B1.out i
            have cib : decide ((i : Int) < 10) = true := decide_eq_true (by omega)
            have hw1 : (4 : Int) * (i : Int) ≤ 36 := by omega
            have hw2 : (i : Int) ≤ 9 := by omega
            have hw3 : (0 : Int) ≤ (i : Int) := Int.natCast_nonneg i
            clear hi
            go_wp2_with (go_at_call 34; refine (HCal.out _ _ (by repeat (first | exact Kd.C_below HR0.out HB.out | (with_reducible refine Kd.C_drewN ?_ _) | (with_reducible refine Kd.C_drew ?_)))).mono ?_; rintro e w' ⟨rfl, ⟨nd, rfl⟩⟩)
            go_roundg k1
            case measure => omega
            case rel => exact ⟨i + 1, by first | rfl | (simp; done) | (simp [*]; done), ⟨by have := HI.out; omega, by have := HI.out; omega⟩, ⟨(pw_below_drewN HB.out nd).setCell (by simp) _⟩, ⟨blk_far (blk_drewN B0.out nd) (by simp) _⟩, ⟨hdr_next i (by omega) (blk_drewN B1.out nd)⟩⟩
        · obtain rfl : i = 10 := by have := HI.out; omega
          obtain ⟨⟨d0, d1, d2, d3, d4, d5, d6, d7, d8, d9⟩, hd⟩ : ∃ d : Hdr, d = hdrOf l0 := ⟨_, rfl⟩
          have H1 := H.out
          rw [← hd] at H1
          have B1' : wr.heap[w.heap.size + 1]? = some (.cells #[.int .u32 d0, .int .u32 d1, .int .u32 d2, .int .u32 d3, .int .u32 d4, .int .u32 d5, .int .u32 d6, .int .u32 d7, .int .u32 d8, .int .u32 d9] 43 (0, 0)) := by
            have e := B1.out
            have e2 : hcells l0 10 = #[.int .u32 d0, .int .u32 d1, .int .u32 d2, .int .u32 d3, .int .u32 d4, .int .u32 d5, .int .u32 d6, .int .u32 d7, .int .u32 d8, .int .u32 d9] := by
              have e3 := congrArg (fun x : Hdr => #[Value.int .u32 x.c0, .int .u32 x.c1, .int .u32 x.c2, .int .u32 x.c3, .int .u32 x.c4, .int .u32 x.c5, .int .u32 x.c6, .int .u32 x.c7, .int .u32 x.c8, .int .u32 x.c9]) hd
              exact Eq.trans rfl e3.symm
            rw [e2] at e
            exact e
          have n4 : 0 ≤ d4 ∧ d4 < 4294967296 := by
            have e3 : d4 = cellAt l0 16 := congrArg Hdr.c4 hd
            have e4 := cellAt_range l0 16
            rw [e3]
            exact e4
          have n2 : 0 ≤ d2 ∧ d2 < 4294967296 := by
            have e3 : d2 = cellAt l0 8 := congrArg Hdr.c2 hd
            have e4 := cellAt_range l0 8
            rw [e3]
            exact e4
          have n1 : 0 ≤ d1 ∧ d1 < 4294967296 := by
            have e3 : d1 = cellAt l0 4 := congrArg Hdr.c1 hd
            have e4 := cellAt_range l0 4
            rw [e3]
            exact e4
          clear hd B1 H
          have B1 := Aside0.mk B1'
          clear B1'
          have H := Aside0.mk H1
          clear H1
          have m0 : wr.cell? ⟨w.heap.size + 1, 0, none⟩ = some (.int .u32 d0) := (blk_cell B1.out 0).trans rfl
          have m1 : wr.cell? ⟨w.heap.size + 1, 1, none⟩ = some (.int .u32 d1) := (blk_cell B1.out 1).trans rfl
          have m2 : wr.cell? ⟨w.heap.size + 1, 2, none⟩ = some (.int .u32 d2) := (blk_cell B1.out 2).trans rfl
          have m3 : wr.cell? ⟨w.heap.size + 1, 3, none⟩ = some (.int .u32 d3) := (blk_cell B1.out 3).trans rfl
          have m4 : wr.cell? ⟨w.heap.size + 1, 4, none⟩ = some (.int .u32 d4) := (blk_cell B1.out 4).trans rfl
          have m5 : wr.cell? ⟨w.heap.size + 1, 5, none⟩ = some (.int .u32 d5) := (blk_cell B1.out 5).trans rfl
          have m6 : wr.cell? ⟨w.heap.size + 1, 6, none⟩ = some (.int .u32 d6) := (blk_cell B1.out 6).trans rfl
          have m7 : wr.cell? ⟨w.heap.size + 1, 7, none⟩ = some (.int .u32 d7) := (blk_cell B1.out 7).trans rfl
          have m8 : wr.cell? ⟨w.heap.size + 1, 8, none⟩ = some (.int .u32 d8) := (blk_cell B1.out 8).trans rfl
          have m9 : wr.cell? ⟨w.heap.size + 1, 9, none⟩ = some (.int .u32 d9) := (blk_cell B1.out 9).trans rfl
          have z0 : wr.cell? ⟨w.heap.size, 0, none⟩ = some (.int .u32 0) := (blk_cell B0.out 0).trans rfl
          have f0 : wr.frozen? ⟨w.heap.size, 0, none⟩ = false := blk_frozen B0.out 0
          have z1 : wr.cell? ⟨w.heap.size, 1, none⟩ = some (.int .u32 0) := (blk_cell B0.out 1).trans rfl
          have f1 : wr.frozen? ⟨w.heap.size, 1, none⟩ = false := blk_frozen B0.out 1
          have z2 : wr.cell? ⟨w.heap.size, 2, none⟩ = some (.int .u32 0) := (blk_cell B0.out 2).trans rfl
          have f2 : wr.frozen? ⟨w.heap.size, 2, none⟩ = false := blk_frozen B0.out 2
          have z3 : wr.cell? ⟨w.heap.size, 3, none⟩ = some (.int .u32 0) := (blk_cell B0.out 3).trans rfl
          have f3 : wr.frozen? ⟨w.heap.size, 3, none⟩ = false := blk_frozen B0.out 3
          have z4 : wr.cell? ⟨w.heap.size, 4, none⟩ = some (.int .u32 0) := (blk_cell B0.out 4).trans rfl
          have f4 : wr.frozen? ⟨w.heap.size, 4, none⟩ = false := blk_frozen B0.out 4
          have z5 : wr.cell? ⟨w.heap.size, 5, none⟩ = some (.int .u32 0) := (blk_cell B0.out 5).trans rfl
          have f5 : wr.frozen? ⟨w.heap.size, 5, none⟩ = false := blk_frozen B0.out 5
          have z6 : wr.cell? ⟨w.heap.size, 6, none⟩ = some (.int .u32 0) := (blk_cell B0.out 6).trans rfl
          have f6 : wr.frozen? ⟨w.heap.size, 6, none⟩ = false := blk_frozen B0.out 6
          have z7 : wr.cell? ⟨w.heap.size, 7, none⟩ = some (.int .u32 0) := (blk_cell B0.out 7).trans rfl
          have f7 : wr.frozen? ⟨w.heap.size, 7, none⟩ = false := blk_frozen B0.out 7
          have z8 : wr.cell? ⟨w.heap.size, 8, none⟩ = some (.int .u32 0) := (blk_cell B0.out 8).trans rfl
          have f8 : wr.frozen? ⟨w.heap.size, 8, none⟩ = false := blk_frozen B0.out 8
          have z9 : wr.cell? ⟨w.heap.size, 9, none⟩ = some (.int .u32 0) := (blk_cell B0.out 9).trans rfl
          have f9 : wr.frozen? ⟨w.heap.size, 9, none⟩ = false := blk_frozen B0.out 9
          have hW := fun a s n W => decode_within.calls a s n (inB a s n) W (within_inB a s n)
          have HW := Aside0.mk hW
          clear hW
          simp only [hdrErr] at H
          by_cases t0 : d0 = 3490578157
          · have h := H.out
            rw [if_pos t0] at h
            clear H
            have H := Aside0.mk h
            clear h
            have t0b : (d0 != 3490578157) = false := bne_eq_false_iff_eq.mpr t0
            clear t0
            by_cases t5 : d5 = 17
            · have h := H.out
              rw [if_pos t5] at h
              clear H
              have H := Aside0.mk h
              clear h
              have t5b : (d5 != 17) = false := bne_eq_false_iff_eq.mpr t5
              clear t5
              by_cases t6 : d6 = 16
              · have h := H.out
                rw [if_pos t6] at h
                clear H
                have H := Aside0.mk h
                clear h
                have t6b : (d6 != 16) = false := bne_eq_false_iff_eq.mpr t6
                clear t6
                by_cases t1 : d1 = (l0.length : Int)
                · have h := H.out
                  rw [if_pos t1] at h
                  clear H
                  have H := Aside0.mk h
                  clear h
                  have t1b : (d1 != (l0.length : Int)) = false := bne_eq_false_iff_eq.mpr t1
                  clear t1
                  by_cases w2 : inB d2 d9 l0.length = true
                  · have h := H.out
                    rw [if_pos w2] at h
                    clear H
                    have H := Aside0.mk h
                    clear h
                    have w2b : (!inB d2 d9 l0.length) = false := by rw [w2]; rfl
                    by_cases w3 : inB d3 d8 l0.length = true
                    · have h := H.out
                      rw [if_pos w3] at h
                      clear H
                      have H := Aside0.mk h
                      clear h
                      have w3b : (!inB d3 d8 l0.length) = false := by rw [w3]; rfl
                      by_cases w4 : inB d4 0 l0.length = true
                      · have h := H.out
                        rw [if_pos w4] at h
                        clear H
                        have H := Aside0.mk h
                        clear h
                        have w4b : (!inB d4 0 l0.length) = false := by rw [w4]; rfl
                        by_cases r4 : d4 % 8 = 0
                        · have h := H.out
                          rw [if_pos r4] at h
                          clear H
                          have H := Aside0.mk h
                          clear h
                          have r4b : (d4 % 8 != 0) = false := bne_eq_false_iff_eq.mpr r4
                          clear r4
                          by_cases r2 : d2 % 4 = 0
                          · have h := H.out
                            rw [if_pos r2] at h
                            clear H
                            have H := Aside0.mk h
                            clear h
                            have r2b : (d2 % 4 != 0) = false := bne_eq_false_iff_eq.mpr r2
                            clear r2
                            have h := H.out
                            rw [if_pos rfl] at h
                            obtain ⟨rfl, rfl⟩ := Prod.mk.inj h
                            clear h
                            clear H
                            go_wp2_with (go_at_call 35; refine (HW.out _ _ _ _).mono ?_; rintro e w' ⟨rfl, ⟨nd, rfl⟩⟩)
                            exact bodyPost_ret (results_ct rfl _ _ w.heap.size 43 _ (0, 0) _ rfl (end10 (w := w) (by repeat (first | exact HB.out | apply pw_below_drewN)) (by repeat (first | exact B0.out | refine blk_drewN ?_ _)) _ _ _ _ _ _ _ _ _ _).2 Try.underlying43 rfl (by kernel_rfl)) rfl ⟨rfl, (end10 (w := w) (by repeat (first | exact HB.out | apply pw_below_drewN)) (by repeat (first | exact B0.out | refine blk_drewN ?_ _)) _ _ _ _ _ _ _ _ _ _).1⟩
                          · have h := H.out
                            rw [if_neg r2, if_neg (by decide)] at h
                            obtain ⟨rfl, rfl⟩ := Prod.mk.inj h
                            clear h
                            have r2b : (d2 % 4 != 0) = true := bne_iff_ne.mpr r2
                            clear H
                            go_wp2_with (go_at_call 35; refine (HW.out _ _ _ _).mono ?_; rintro e w' ⟨rfl, ⟨nd, rfl⟩⟩)
                            exact bodyPost_ret (results_ct rfl _ _ w.heap.size 43 _ (0, 0) _ rfl (end10 (w := w) (by repeat (first | exact HB.out | apply pw_below_drewN)) (by repeat (first | exact B0.out | refine blk_drewN ?_ _)) _ _ _ _ _ _ _ _ _ _).2 Try.underlying43 rfl (by kernel_rfl)) rfl ⟨rfl, (end10 (w := w) (by repeat (first | exact HB.out | apply pw_below_drewN)) (by repeat (first | exact B0.out | refine blk_drewN ?_ _)) _ _ _ _ _ _ _ _ _ _).1⟩
                        · have h := H.out
                          rw [if_neg r4, if_neg (by decide)] at h
                          obtain ⟨rfl, rfl⟩ := Prod.mk.inj h
                          clear h
                          have r4b : (d4 % 8 != 0) = true := bne_iff_ne.mpr r4
                          clear H
                          go_wp2_with (go_at_call 35; refine (HW.out _ _ _ _).mono ?_; rintro e w' ⟨rfl, ⟨nd, rfl⟩⟩)
                          exact bodyPost_ret (results_ct rfl _ _ w.heap.size 43 _ (0, 0) _ rfl (end10 (w := w) (by repeat (first | exact HB.out | apply pw_below_drewN)) (by repeat (first | exact B0.out | refine blk_drewN ?_ _)) _ _ _ _ _ _ _ _ _ _).2 Try.underlying43 rfl (by kernel_rfl)) rfl ⟨rfl, (end10 (w := w) (by repeat (first | exact HB.out | apply pw_below_drewN)) (by repeat (first | exact B0.out | refine blk_drewN ?_ _)) _ _ _ _ _ _ _ _ _ _).1⟩
                      · have h := H.out
                        rw [if_neg w4, if_neg (by decide)] at h
                        obtain ⟨rfl, rfl⟩ := Prod.mk.inj h
                        clear h
                        have w4f : inB d4 0 l0.length = false := by simpa using w4
                        have w4b : (!inB d4 0 l0.length) = true := by rw [w4f]; rfl
                        clear H
                        go_wp2_with (go_at_call 35; refine (HW.out _ _ _ _).mono ?_; rintro e w' ⟨rfl, ⟨nd, rfl⟩⟩)
                        exact bodyPost_ret (results_ct rfl _ _ w.heap.size 43 _ (0, 0) _ rfl (end10 (w := w) (by repeat (first | exact HB.out | apply pw_below_drewN)) (by repeat (first | exact B0.out | refine blk_drewN ?_ _)) _ _ _ _ _ _ _ _ _ _).2 Try.underlying43 rfl (by kernel_rfl)) rfl ⟨rfl, (end10 (w := w) (by repeat (first | exact HB.out | apply pw_below_drewN)) (by repeat (first | exact B0.out | refine blk_drewN ?_ _)) _ _ _ _ _ _ _ _ _ _).1⟩
                    · have h := H.out
                      rw [if_neg w3, if_neg (by decide)] at h
                      obtain ⟨rfl, rfl⟩ := Prod.mk.inj h
                      clear h
                      have w3f : inB d3 d8 l0.length = false := by simpa using w3
                      have w3b : (!inB d3 d8 l0.length) = true := by rw [w3f]; rfl
                      clear H
                      go_wp2_with (go_at_call 35; refine (HW.out _ _ _ _).mono ?_; rintro e w' ⟨rfl, ⟨nd, rfl⟩⟩)
                      exact bodyPost_ret (results_ct rfl _ _ w.heap.size 43 _ (0, 0) _ rfl (end10 (w := w) (by repeat (first | exact HB.out | apply pw_below_drewN)) (by repeat (first | exact B0.out | refine blk_drewN ?_ _)) _ _ _ _ _ _ _ _ _ _).2 Try.underlying43 rfl (by kernel_rfl)) rfl ⟨rfl, (end10 (w := w) (by repeat (first | exact HB.out | apply pw_below_drewN)) (by repeat (first | exact B0.out | refine blk_drewN ?_ _)) _ _ _ _ _ _ _ _ _ _).1⟩
                  · have h := H.out
                    rw [if_neg w2, if_neg (by decide)] at h
                    obtain ⟨rfl, rfl⟩ := Prod.mk.inj h
                    clear h
                    have w2f : inB d2 d9 l0.length = false := by simpa using w2
                    have w2b : (!inB d2 d9 l0.length) = true := by rw [w2f]; rfl
                    clear H
                    go_wp2_with (go_at_call 35; refine (HW.out _ _ _ _).mono ?_; rintro e w' ⟨rfl, ⟨nd, rfl⟩⟩)
                    exact bodyPost_ret (results_ct rfl _ _ w.heap.size 43 _ (0, 0) _ rfl (end10 (w := w) (by repeat (first | exact HB.out | apply pw_below_drewN)) (by repeat (first | exact B0.out | refine blk_drewN ?_ _)) _ _ _ _ _ _ _ _ _ _).2 Try.underlying43 rfl (by kernel_rfl)) rfl ⟨rfl, (end10 (w := w) (by repeat (first | exact HB.out | apply pw_below_drewN)) (by repeat (first | exact B0.out | refine blk_drewN ?_ _)) _ _ _ _ _ _ _ _ _ _).1⟩
                · have h := H.out
                  rw [if_neg t1, if_neg (by decide)] at h
                  obtain ⟨rfl, rfl⟩ := Prod.mk.inj h
                  clear h
                  have t1b : (d1 != (l0.length : Int)) = true := bne_iff_ne.mpr t1
                  clear H
                  go_wp2_with (go_at_call 35; refine (HW.out _ _ _ _).mono ?_; rintro e w' ⟨rfl, ⟨nd, rfl⟩⟩)
                  exact bodyPost_ret (results_ct rfl _ _ w.heap.size 43 _ (0, 0) _ rfl (end10 (w := w) (by repeat (first | exact HB.out | apply pw_below_drewN)) (by repeat (first | exact B0.out | refine blk_drewN ?_ _)) _ _ _ _ _ _ _ _ _ _).2 Try.underlying43 rfl (by kernel_rfl)) rfl ⟨rfl, (end10 (w := w) (by repeat (first | exact HB.out | apply pw_below_drewN)) (by repeat (first | exact B0.out | refine blk_drewN ?_ _)) _ _ _ _ _ _ _ _ _ _).1⟩
              · have h := H.out
                rw [if_neg t6, if_neg (by decide)] at h
                obtain ⟨rfl, rfl⟩ := Prod.mk.inj h
                clear h
                have t6b : (d6 != 16) = true := bne_iff_ne.mpr t6
                clear H
                go_wp2_with (go_at_call 35; refine (HW.out _ _ _ _).mono ?_; rintro e w' ⟨rfl, ⟨nd, rfl⟩⟩)
                exact bodyPost_ret (results_ct rfl _ _ w.heap.size 43 _ (0, 0) _ rfl (end10 (w := w) (by repeat (first | exact HB.out | apply pw_below_drewN)) (by repeat (first | exact B0.out | refine blk_drewN ?_ _)) _ _ _ _ _ _ _ _ _ _).2 Try.underlying43 rfl (by kernel_rfl)) rfl ⟨rfl, (end10 (w := w) (by repeat (first | exact HB.out | apply pw_below_drewN)) (by repeat (first | exact B0.out | refine blk_drewN ?_ _)) _ _ _ _ _ _ _ _ _ _).1⟩
            · have h := H.out
              rw [if_neg t5, if_neg (by decide)] at h
              obtain ⟨rfl, rfl⟩ := Prod.mk.inj h
              clear h
              have t5b : (d5 != 17) = true := bne_iff_ne.mpr t5
              clear H
              go_wp2_with (go_at_call 35; refine (HW.out _ _ _ _).mono ?_; rintro e w' ⟨rfl, ⟨nd, rfl⟩⟩)
              exact bodyPost_ret (results_ct rfl _ _ w.heap.size 43 _ (0, 0) _ rfl (end10 (w := w) (by repeat (first | exact HB.out | apply pw_below_drewN)) (by repeat (first | exact B0.out | refine blk_drewN ?_ _)) _ _ _ _ _ _ _ _ _ _).2 Try.underlying43 rfl (by kernel_rfl)) rfl ⟨rfl, (end10 (w := w) (by repeat (first | exact HB.out | apply pw_below_drewN)) (by repeat (first | exact B0.out | refine blk_drewN ?_ _)) _ _ _ _ _ _ _ _ _ _).1⟩
          · have h := H.out
            rw [if_neg t0, if_neg (by decide)] at h
            obtain ⟨rfl, rfl⟩ := Prod.mk.inj h
            clear h
            have t0b : (d0 != 3490578157) = true := bne_iff_ne.mpr t0
            clear H
            go_wp2_with (go_at_call 35; refine (HW.out _ _ _ _).mono ?_; rintro e w' ⟨rfl, ⟨nd, rfl⟩⟩)
            exact bodyPost_ret (results_ct rfl _ _ w.heap.size 43 _ (0, 0) _ rfl (end10 (w := w) (by repeat (first | exact HB.out | apply pw_below_drewN)) (by repeat (first | exact B0.out | refine blk_drewN ?_ _)) _ _ _ _ _ _ _ _ _ _).2 Try.underlying43 rfl (by kernel_rfl)) rfl ⟨rfl, (end10 (w := w) (by repeat (first | exact HB.out | apply pw_below_drewN)) (by repeat (first | exact B0.out | refine blk_drewN ?_ _)) _ _ _ _ _ _ _ _ _ _).1⟩
end Go.Proofs.Ytkopmkinlanhoaa.PE

namespace Go.Proofs.Ytkopmkinlanhoaa.PE
open Go.RowKit Go.Proofs.YtkopmkinlanhoaaW.PrintWords Go.Proofs.YtkopmkinlanhoaaW.PrintLast Go.Proofs.YtkopmkinlanhoaaW.PrintMore
attribute [local go_sem] max2_int min2_int max_two min_two max_three min_three max_four min_four
set_option linter.unusedVariables false
set_option linter.unusedSimpArgs false
structure RdS (w0 W : World) (g : Nat) (sb st : Value) (at_ : Int) : Prop where
  bel : Below w0.heap.size w0 W
  lo : w0.heap.size ≤ g
  blk : W.heap[g]? = some (.cells #[sb, st, .int .i64 at_] 91 (0, 0))
section
variable {w0 W W2 : World} {g : Nat} {sb st : Value} {at_ : Int}
theorem RdS.below (h : RdS w0 W g sb st at_) (hb : Below W.heap.size W W2) : RdS w0 W2 g sb st at_ := ⟨h.bel.trans (hb.mono h.bel.size), h.lo, blk_below h.blk hb⟩
theorem RdS.drewN (h : RdS w0 W g sb st at_) (n : Nat) : RdS w0 (W.drewN n) g sb st at_ := ⟨pw_below_drewN h.bel n, h.lo, h.blk⟩
theorem RdS.move (h : RdS w0 W g sb st at_) (q : Int) : RdS w0 (W.setCell ⟨g, 2, none⟩ (.int .i64 q)) g sb st q := ⟨h.bel.setCell h.lo _, h.lo, blk_put h.blk 2 _ rfl⟩
end
structure RdM (w0 W W2 : World) (g : Nat) (sb st : Value) (q : Int) : Prop where
  st : RdS w0 W2 g sb st q
  kept : Kept W W2 (fun k => k = g)
theorem RdM.then_ {w0 W W2 W3 : World} {g : Nat} {sb st : Value} {q q' : Int} (h : RdM w0 W W2 g sb st q) (k : RdM w0 W2 W3 g sb st q') : RdM w0 W W3 g sb st q' := ⟨k.st, h.kept.then_ k.kept (fun _ hk => .inl hk)⟩
theorem RdM.refl {w0 W : World} {g : Nat} {sb st : Value} {q : Int} (h : RdS w0 W g sb st q) : RdM w0 W W g sb st q := ⟨h, Kept.refl _ _⟩
def nextAt (l : List Int) (i : Int) : Int := if cellOk l i = true then i + 4 else i
theorem cellOk_range (l : List Int) (i : Int) (h : cellOk l i = true) : 0 ≤ i ∧ i + 4 ≤ l.length := by
  unfold cellOk words_Get.f at h
  split at h
  · next h0 => exact ⟨h0.1, by omega⟩
  · simp at h
set_option maxRecDepth 100000 in
set_option maxHeartbeats 1000000 in
theorem reader_cell.calls (Ab : Option Addr) (cb : Nat) (lb : List Int) (st : Value) (at_ : Int) (g : Nat) (w0 W : World) (hC : Kd.C (Kd.int .u8) w0 Ab lb.length lb) (hc : lb.length ≤ cb) (hS : RdS w0 W g (.slice Ab lb.length cb) st at_) :
    Calls Try.prog 69 #[.pointer (some ⟨g, 0, none⟩)] W fun e w' => e = .returned (.tuple #[.int .u32 (cellAt lb at_), .bool (cellOk lb at_)]) ∧ RdM w0 W w' g (.slice Ab lb.length cb) st (nextAt lb at_) := by
  have HS := Aside0.mk hS
  have HQ := Aside0.mk (fun n : Nat => words_Get.calls Ab cb lb at_ (cellAt lb at_) (cellOk lb at_) (W.drewN n) (Kd.C_drewN (Kd.C_below hC hS.bel) n) hc (get_cell lb at_))
  have k0 : W.cell? ⟨g, 0, none⟩ = some (.slice Ab lb.length cb) := (blk_cell hS.blk 0).trans rfl
  have k2 : W.cell? ⟨g, 2, none⟩ = some (.int .i64 at_) := (blk_cell hS.blk 2).trans rfl
  have kf : W.frozen? ⟨g, 2, none⟩ = false := blk_frozen hS.blk 2
  have HM := Aside0.mk hC.2.1
  have HN : Aside0 (nextAt lb at_ = if cellOk lb at_ = true then at_ + 4 else at_) := ⟨rfl⟩
  have HR := Aside0.mk (cellOk_range lb at_)
  clear hC hc hS
  obtain ⟨b, hb⟩ : ∃ b, b = cellOk lb at_ := ⟨_, rfl⟩
  obtain ⟨v, hv⟩ : ∃ v, v = cellAt lb at_ := ⟨_, rfl⟩
  rw [← hb] at HQ HN HR
  rw [← hv] at HQ
  rw [← hb, ← hv]
  clear hb hv
  cases b with
  | true =>
    replace HN : Aside0 (nextAt lb at_ = at_ + 4) := ⟨HN.out.trans (if_pos rfl)⟩
    have hr := HR.out rfl
    have hm := HM.out
    have hw : Go.RowKit.wrap64 (at_ + 4) = at_ + 4 := by unfold Go.RowKit.wrap64; omega
    have h1 := hr.1
    have h2 : at_ + 4 ≤ 9223372036854775807 := by omega
    clear hr hm
    go_enter Try.func69, Try.ntmps69
    go_wp2
    go_quiet (first | (go_at_call 34; (with_reducible refine (HQ.out _).mono ?_); rintro e w' ⟨rfl, ⟨nd, rfl⟩⟩; (try first | exact ⟨rfl, _, World.drewN_drewN _ _ _⟩ | exact ⟨rfl, _, Eq.trans (World.drewN_drewN _ _ _) (congrArg (World.drewN _) (Nat.add_assoc _ _ _))⟩)))
    go_wp2
    go_ret2
    exact ⟨rfl, ⟨by rw [HN.out]; exact (HS.out.drewN _).move _, ((Kept.refl W (fun k => k = g)).drewN _).setCell (p := ⟨g, 2, none⟩) (.inl rfl) _⟩⟩
  | false =>
    replace HN : Aside0 (nextAt lb at_ = at_) := ⟨HN.out.trans (if_neg (by decide))⟩
    go_enter Try.func69, Try.ntmps69
    go_wp2
    go_quiet (first | (go_at_call 34; (with_reducible refine (HQ.out _).mono ?_); rintro e w' ⟨rfl, ⟨nd, rfl⟩⟩; (try first | exact ⟨rfl, _, World.drewN_drewN _ _ _⟩ | exact ⟨rfl, _, Eq.trans (World.drewN_drewN _ _ _) (congrArg (World.drewN _) (Nat.add_assoc _ _ _))⟩)))
    go_wp2
    go_ret2
    exact ⟨rfl, ⟨by rw [HN.out]; exact HS.out.drewN _, (Kept.refl W _).drewN _⟩⟩
def tokF : Nat → List Int → Int → Option (Int × Bool × Int)
  | 0, _, _ => none
  | k + 1, l, i => if cellOk l i = true then (if cellAt l i = 4 then tokF k l (i + 4) else if cellAt l i = 1 then some (1, true, i + 4) else if cellAt l i = 3 then some (3, true, i + 4) else if cellAt l i = 2 then some (2, true, i + 4) else if cellAt l i = 9 then some (9, true, i + 4) else some (0, false, i + 4)) else some (0, false, i)
set_option maxRecDepth 100000 in
set_option maxHeartbeats 1000000 in
theorem reader_token.calls (k : Nat) (Ab : Option Addr) (cb : Nat) (lb : List Int) (st : Value) (at_ : Int) (g : Nat) (w0 W : World) (v : Int) (ok : Bool) (q : Int) (hC : Kd.C (Kd.int .u8) w0 Ab lb.length lb) (hc : lb.length ≤ cb) (hS : RdS w0 W g (.slice Ab lb.length cb) st at_) (h : tokF k lb at_ = some (v, ok, q)) :
    Calls Try.prog 43 #[.pointer (some ⟨g, 0, none⟩)] W fun e w' => e = .returned (.tuple #[.int .u32 v, .bool ok]) ∧ RdM w0 W w' g (.slice Ab lb.length cb) st q := by
  have H0 := Aside0.mk h
  have HC := Aside0.mk hC
  have HCC := Aside0.mk hc
  have HS := Aside0.mk hS
  clear h hC hc hS
  go_enter Try.func43, Try.ntmps43
  go_wp2
  go_loopg [4] k (fun kq v4 w' => ∃ i : Int, Aside0 (tokF kq lb i = some (v, ok, q)) ∧ Aside0 (RdM w0 W w' g (.slice Ab lb.length cb) st i))
  case atStart => exact ⟨at_, H0, ⟨RdM.refl HS.out⟩⟩
  case round =>
    clear H0
    obtain ⟨i, HT, HM⟩ := hrel
    cases gk with
    | zero => exact absurd HT.out (by simp [tokF])
    | succ k1 =>
      have hT := HT.out
      simp only [tokF] at hT
      clear HT
      have HQ := Aside0.mk (reader_cell.calls Ab cb lb st i g w0 wr HC.out HCC.out HM.out.st)
      obtain ⟨b, hb⟩ : ∃ b, b = cellOk lb i := ⟨_, rfl⟩
      obtain ⟨c, hcv⟩ : ∃ c, c = cellAt lb i := ⟨_, rfl⟩
      have HN : Aside0 (nextAt lb i = if b = true then i + 4 else i) := ⟨by rw [hb]; rfl⟩
      rw [← hb, ← hcv] at HQ hT
      clear hb hcv
      cases b with
      | false =>
        rw [if_neg (by decide)] at hT
        replace HN : Aside0 (nextAt lb i = i) := ⟨HN.out.trans (if_neg (by decide))⟩
        obtain ⟨rfl, rfl, rfl⟩ : (0 : Int) = v ∧ false = ok ∧ i = q := by simpa using hT
        clear hT
        go_wp2_with (go_at_call 69; refine HQ.out.mono ?_; rintro e w' ⟨rfl, hm⟩; have HM2 := Aside0.mk (HM.out.then_ hm); clear hm)
        go_ret2
        exact ⟨rfl, by have h2 := HM2.out; rw [HN.out] at h2; exact h2⟩
      | true =>
        rw [if_pos rfl] at hT
        replace HN : Aside0 (nextAt lb i = i + 4) := ⟨HN.out.trans (if_pos rfl)⟩
        by_cases c4 : c = 4
        · subst c4
          rw [if_pos rfl] at hT
          have HT := Aside0.mk hT
          clear hT
          go_wp2_with (go_at_call 69; refine HQ.out.mono ?_; rintro e w' ⟨rfl, hm⟩; have HM2 := Aside0.mk (HM.out.then_ hm); clear hm)
          go_roundg k1
          case measure => omega
          case rel => exact ⟨i + 4, HT, ⟨by have h2 := HM2.out; rw [HN.out] at h2; exact h2⟩⟩
        · rw [if_neg c4] at hT
          have b4 : (c == 4) = false := beq_eq_false_iff_ne.mpr c4
          by_cases c1 : c = 1
          · subst c1
            rw [if_pos rfl] at hT
            obtain ⟨rfl, rfl, rfl⟩ : (1 : Int) = v ∧ true = ok ∧ i + 4 = q := by simpa using hT
            clear hT
            go_wp2_with (go_at_call 69; refine HQ.out.mono ?_; rintro e w' ⟨rfl, hm⟩; have HM2 := Aside0.mk (HM.out.then_ hm); clear hm)
            go_ret2
            exact ⟨rfl, by have h2 := HM2.out; rw [HN.out] at h2; exact h2⟩
          · rw [if_neg c1] at hT
            have b1 : (c == 1) = false := beq_eq_false_iff_ne.mpr c1
            by_cases c3 : c = 3
            · subst c3
              rw [if_pos rfl] at hT
              obtain ⟨rfl, rfl, rfl⟩ : (3 : Int) = v ∧ true = ok ∧ i + 4 = q := by simpa using hT
              clear hT
              go_wp2_with (go_at_call 69; refine HQ.out.mono ?_; rintro e w' ⟨rfl, hm⟩; have HM2 := Aside0.mk (HM.out.then_ hm); clear hm)
              go_ret2
              exact ⟨rfl, by have h2 := HM2.out; rw [HN.out] at h2; exact h2⟩
            · rw [if_neg c3] at hT
              have b3 : (c == 3) = false := beq_eq_false_iff_ne.mpr c3
              by_cases c2 : c = 2
              · subst c2
                rw [if_pos rfl] at hT
                obtain ⟨rfl, rfl, rfl⟩ : (2 : Int) = v ∧ true = ok ∧ i + 4 = q := by simpa using hT
                clear hT
                go_wp2_with (go_at_call 69; refine HQ.out.mono ?_; rintro e w' ⟨rfl, hm⟩; have HM2 := Aside0.mk (HM.out.then_ hm); clear hm)
                go_ret2
                exact ⟨rfl, by have h2 := HM2.out; rw [HN.out] at h2; exact h2⟩
              · rw [if_neg c2] at hT
                have b2 : (c == 2) = false := beq_eq_false_iff_ne.mpr c2
                by_cases c9 : c = 9
                · subst c9
                  rw [if_pos rfl] at hT
                  obtain ⟨rfl, rfl, rfl⟩ : (9 : Int) = v ∧ true = ok ∧ i + 4 = q := by simpa using hT
                  clear hT
                  go_wp2_with (go_at_call 69; refine HQ.out.mono ?_; rintro e w' ⟨rfl, hm⟩; have HM2 := Aside0.mk (HM.out.then_ hm); clear hm)
                  go_ret2
                  exact ⟨rfl, by have h2 := HM2.out; rw [HN.out] at h2; exact h2⟩
                · rw [if_neg c9] at hT
                  have b9 : (c == 9) = false := beq_eq_false_iff_ne.mpr c9
                  obtain ⟨rfl, rfl, rfl⟩ : (0 : Int) = v ∧ false = ok ∧ i + 4 = q := by simpa using hT
                  clear hT
                  go_wp2_with (go_at_call 69; refine HQ.out.mono ?_; rintro e w' ⟨rfl, hm⟩; have HM2 := Aside0.mk (HM.out.then_ hm); clear hm)
                  go_ret2
                  exact ⟨rfl, by have h2 := HM2.out; rw [HN.out] at h2; exact h2⟩
end Go.Proofs.Ytkopmkinlanhoaa.PE

namespace Go.Proofs.Ytkopmkinlanhoaa.PE
open Go.RowKit Go.Proofs.YtkopmkinlanhoaaW.PrintWords Go.Proofs.YtkopmkinlanhoaaW.PrintLast Go.Proofs.YtkopmkinlanhoaaW.PrintMore
attribute [local go_sem] max2_int min2_int max_two min_two max_three min_three max_four min_four
set_option linter.unusedVariables false
set_option linter.unusedSimpArgs false
def padN (n : Int) : Int := (words_Pad.f n).getD 0
theorem pad_f (n : Int) : words_Pad.f n = some (padN n) := by
  unfold padN words_Pad.f
  split <;> rfl
theorem padN_eq (n : Int) (h : 0 ≤ n) : padN n = (4 - n % 4) % 4 := by
  unfold padN words_Pad.f
  rw [if_neg (by omega)]
  simp only [Option.getD_some]
  rw [Int.tmod_eq_emod_of_nonneg h]
  have : Go.RowKit.wrap64 (4 - n % 4) = 4 - n % 4 := by unfold Go.RowKit.wrap64; omega
  rw [this, Int.tmod_eq_emod_of_nonneg (by omega)]
def padOk (l : List Int) : Bool := ((Lib.countByte (Lib.bytesOf l) 0 : Int) == (l.length : Int))
def takeF (l : List Int) (i n : Int) : List Int × Bool × Int :=
  if n + padN n ≤ (l.length : Int) - i then ((l.take (i + n).toNat).drop i.toNat, padOk ((l.take (i + (n + padN n)).toNat).drop (i + n).toNat), i + (n + padN n)) else ([], false, i)
set_option maxRecDepth 100000 in
set_option maxHeartbeats 2000000 in
theorem reader_take.calls (ab : Addr) (cb : Nat) (lb : List Int) (st : Value) (at_ n : Int) (g : Nat) (w0 W : World) (hC : Kd.C (Kd.int .u8) w0 (some ab) lb.length lb) (hc : lb.length ≤ cb) (hS : RdS w0 W g (.slice (some ab) lb.length cb) st at_) (h0 : 0 ≤ at_) (h1 : at_ ≤ lb.length) (hn : 0 ≤ n) (hn1 : n ≤ 1099511627776) :
    Calls Try.prog 84 #[.pointer (some ⟨g, 0, none⟩), .int .i64 n] W fun e w' => ∃ (A : Option Addr) (c : Nat), e = .returned (.tuple #[.slice A (takeF lb at_ n).1.length c, .bool (takeF lb at_ n).2.1]) ∧ (takeF lb at_ n).1.length ≤ c ∧ Kd.C (Kd.int .u8) w0 A (takeF lb at_ n).1.length (takeF lb at_ n).1 ∧ RdM w0 W w' g (.slice (some ab) lb.length cb) st (takeF lb at_ n).2.2 := by
  have hp := padN_eq n hn
  have hm := hC.2.1
  have HPAD := Aside0.mk (fun W => words_Pad.calls n (padN n) W (pad_f n))
  obtain ⟨p, hpe⟩ : ∃ p, p = padN n := ⟨_, rfl⟩
  have hp0 : 0 ≤ p ∧ p ≤ 3 := by omega
  have k0 : W.cell? ⟨g, 0, none⟩ = some (.slice (some ab) lb.length cb) := (blk_cell hS.blk 0).trans rfl
  have k2 : W.cell? ⟨g, 2, none⟩ = some (.int .i64 at_) := (blk_cell hS.blk 2).trans rfl
  have kf : W.frozen? ⟨g, 2, none⟩ = false := blk_frozen hS.blk 2
  have fn : decide (n < 0) = false := decide_eq_false (by omega)
  have s1 : IntKind.i64.wrap (n + p) = n + p := by rw [i64_w]; unfold Go.RowKit.wrap64; omega
  by_cases c : n + p ≤ (lb.length : Int) - at_
  · have ht : takeF lb at_ n = ((lb.take (at_ + n).toNat).drop at_.toNat, padOk ((lb.take (at_ + (n + p)).toNat).drop (at_ + n).toNat), at_ + (n + p)) := by
      unfold takeF
      rw [← hpe, if_pos c]
    rw [ht]
    rw [← hpe] at HPAD
    have f2 : decide ((lb.length : Int) - at_ < n + p) = false := decide_eq_false (by omega)
    have s0 : IntKind.i64.wrap ((lb.length : Int) - at_) = (lb.length : Int) - at_ := by rw [i64_w]; unfold Go.RowKit.wrap64; omega
    have s2 : IntKind.i64.wrap (at_ + n) = at_ + n := by rw [i64_w]; unfold Go.RowKit.wrap64; omega
    have s3 : IntKind.i64.wrap (at_ + (n + p)) = at_ + (n + p) := by rw [i64_w]; unfold Go.RowKit.wrap64; omega
    obtain ⟨i0, hi0, hza, hsz, hzb⟩ := info_parts info5
    have hcut1 := cut_mid 45 5 .i64 .i64 Try.underlying45 hi0 1 hsz (some ab) lb.length cb at_ (at_ + n) h0 (by omega) (by omega) hc
    have hcut2 := cut_mid 45 5 .i64 .i64 Try.underlying45 hi0 1 hsz (some ab) lb.length cb (at_ + n) (at_ + (n + p)) (by omega) (by omega) (by omega) hc
    have C1 := Kd.C_mid (lo := at_.toNat) (hi := (at_ + n).toNat) hC (by omega) (by omega) hc
    have C2 := Kd.C_mid (lo := (at_ + n).toNat) (hi := (at_ + (n + p)).toNat) hC (by omega) (by omega) hc
    obtain ⟨A1, hA1⟩ : ∃ A1, A1 = (if cb = at_.toNat then some ab else (some ab).map (·.add (at_.toNat * 1))) := ⟨_, rfl⟩
    obtain ⟨a2, hA2⟩ : ∃ a2, some a2 = (if cb = (at_ + n).toNat then some ab else (some ab).map (·.add ((at_ + n).toNat * 1))) := by split <;> exact ⟨_, rfl⟩
    obtain ⟨y1, hy1⟩ : ∃ y, y = (lb.take (at_ + n).toNat).drop at_.toNat := ⟨_, rfl⟩
    obtain ⟨y2, hy2⟩ : ∃ y, y = (lb.take (at_ + (n + p)).toNat).drop (at_ + n).toNat := ⟨_, rfl⟩
    have l1 : (at_ + n).toNat - at_.toNat = y1.length := by rw [hy1, List.length_drop, List.length_take]; omega
    have l2 : (at_ + (n + p)).toNat - (at_ + n).toNat = y2.length := by rw [hy2, List.length_drop, List.length_take]; omega
    have q1 : y1.length ≤ cb - at_.toNat := by omega
    rw [show (Kd.int .u8).sz = 1 from rfl, ← hA1, ← hy1] at C1
    rw [show (Kd.int .u8).sz = 1 from rfl, ← hA2, ← hy2] at C2
    rw [← hA1, l1] at hcut1
    rw [← hA2, l2] at hcut2
    rw [← hy1, ← hy2]
    have HCT := Aside0.mk (fun (W2 : World) (b2 : Nat) (hb : Below w0.heap.size w0 W2) (hz : W2.cell? ⟨b2, 0, none⟩ = some (.int .u8 0)) =>
      Try.bytes_Count_one_at a2 y2.length (cb - (at_ + n).toNat) b2 0 1 y2 0 W2 rfl (by
        have hr := Kd.reads_of_C (enc := Value.int .u8) (d := (0 : Int)) (h1 := fun _ => rfl) (Kd.C_below C2 hb)
        intro i hi
        obtain ⟨ad, e, hc⟩ := hr.2.2 (by omega)
        injection e with e
        subst e
        exact hc i hi) hz)
    have HS := Aside0.mk hS
    have HC1 := Aside0.mk C1
    have HQ1 := Aside0.mk q1
    have hat1 : 0 ≤ at_ := h0
    clear C1 C2 hA1 hA2 hy1 hy2 l1 l2 q1 hp hpe hC hc hS ht hsz hi0 hm hza hzb
    show Calls Try.prog 84 #[.pointer (some ⟨g, 0, none⟩), .int .i64 n] W fun e w' => ∃ (A : Option Addr) (c : Nat), e = .returned (.tuple #[.slice A y1.length c, .bool (padOk y2)]) ∧ y1.length ≤ c ∧ Kd.C (Kd.int .u8) w0 A y1.length y1 ∧ RdM w0 W w' g (.slice (some ab) lb.length cb) st (at_ + (n + p))
    go_enter Try.func84, Try.ntmps84
    go_wp2_with (go_at_call 92; refine (HPAD.out _).mono ?_; rintro e w' ⟨rfl, ⟨nd, rfl⟩⟩)
    go_quiet (fail)
    go_wp2
    go_quiet (fail)
    go_wp2_with (go_at_call 96; refine (HCT.out _ _ ?hb ?hz).mono ?_; (case hb => exact (((HS.out.drewN _).move _).below (below_alloc (Below.refl _ _) _)).bel); (case hz => go_simp); rintro e w' ⟨rfl, rfl⟩)
    go_ret2
    exact ⟨A1, _, rfl, HQ1.out, HC1.out, ⟨((HS.out.drewN _).move _).below (below_alloc (Below.refl _ _) _), (((Kept.refl W (fun k => k = g)).drewN _).setCell (p := ⟨g, 2, none⟩) (.inl rfl) _).alloc _⟩⟩
  · have ht : takeF lb at_ n = ([], false, at_) := by
      unfold takeF
      rw [← hpe, if_neg c]
    rw [ht]
    rw [← hpe] at HPAD
    have f2 : decide ((lb.length : Int) - at_ < n + p) = true := decide_eq_true (by omega)
    have s0 : IntKind.i64.wrap ((lb.length : Int) - at_) = (lb.length : Int) - at_ := by
      rw [i64_w]; unfold Go.RowKit.wrap64; omega
    have HS := Aside0.mk hS
    have hm0 := hm
    clear hp hpe hC hc hS ht hm hm0
    show Calls Try.prog 84 #[.pointer (some ⟨g, 0, none⟩), .int .i64 n] W fun e w' => ∃ (A : Option Addr) (c : Nat), e = .returned (.tuple #[.slice A 0 c, .bool false]) ∧ 0 ≤ c ∧ Kd.C (Kd.int .u8) w0 A 0 [] ∧ RdM w0 W w' g (.slice (some ab) lb.length cb) st at_
    go_enter Try.func84, Try.ntmps84
    go_wp2_with (go_at_call 92; refine (HPAD.out _).mono ?_; rintro e w' ⟨rfl, ⟨nd, rfl⟩⟩)
    go_quiet (fail)
    go_wp2
    go_ret2
    exact ⟨none, 0, rfl, Nat.le_refl _, Kd.C_nil _ _, ⟨(HS.out.drewN _).drewN _, ((Kept.refl W (fun k => k = g)).drewN _).drewN _⟩⟩
end Go.Proofs.Ytkopmkinlanhoaa.PE

namespace Go.Proofs.Ytkopmkinlanhoaa.PE
open Go.RowKit Go.Proofs.YtkopmkinlanhoaaW.PrintWords Go.Proofs.YtkopmkinlanhoaaW.PrintLast Go.Proofs.YtkopmkinlanhoaaW.PrintMore
attribute [local go_sem] max2_int min2_int max_two min_two max_three min_three max_four min_four
set_option linter.unusedVariables false
set_option linter.unusedSimpArgs false
def knownB (hs : List ByteArray) (x : ByteArray) : Bool := decide (x.data.toList ∈ hs.map (·.data.toList))
def MapS (w : World) (b : Nat) (hs : List ByteArray) : Prop := ∃ D : DataW Unit, w.ownsMap Try.prog 9 (plainElem Try.prog 4) b hs.length D ∧ Maps.IsMap D ∧ ∀ h : ByteArray, h.size ≤ maxLen → D.atKey (.string h.data.toList) (.lit (.bool false)) = .lit (.bool (knownB hs h))
theorem plainElem_bool_inv {H : Type} {P : Program} {e : TypeId} (he : P.underlying e = some .bool) {v : Value} {z : DataW H × List MemPlace} (h : plainElem P e v = some z) : ∃ a, v = .bool a ∧ z = (.lit (.bool a), []) := by
  unfold plainElem at h
  rw [he] at h
  cases v <;> simp at h
  exact ⟨_, rfl, h.symm⟩
theorem zero_bool (w : World) : (zeroValue 4).run Try.prog w = .ok (.bool false) w := by kernel_rfl
theorem MapS.made (w : World) : MapS (w.alloc (.map #[] 0)) w.heap.size [] := ⟨.map [], World.ownsMap_made _ _ _ _, ⟨_, rfl⟩, fun h _ => by simp [DataW.atKey, knownB]⟩
theorem MapS.lt {w : World} {b : Nat} {hs : List ByteArray} (h : MapS w b hs) : b < w.heap.size := h.choose_spec.1.lt
theorem MapS.same {w w' : World} {b : Nat} {hs : List ByteArray} (h : MapS w b hs) (hk : w'.heap[b]? = w.heap[b]?) : MapS w' b hs := by
  obtain ⟨D, ⟨es, clock, hb, F, hs, hD⟩, hm, hat⟩ := h
  exact ⟨D, ⟨es, clock, hk.trans hb, F, hs, hD⟩, hm, hat⟩
theorem keyOf_string_mk {P : Program} {k : TypeId} (hk : P.underlying k = some .string) {s : ByteArray} (hs : s.size ≤ maxLen) : keyOf P k (.string s) = some (.string s.data.toList) := by
  simp [keyOf, hk, mapKey, hs]
theorem MapS.look {w : World} {b : Nat} {hs : List ByteArray} (h : MapS w b hs) (x : ByteArray) (hx : x.size ≤ maxLen) : (Instr.lookup 94 (.map (some b)) (.string x) false).run Try.prog w = .ok (.bool (knownB hs x)) w := by
  obtain ⟨D, ho, _, hat⟩ := h
  obtain ⟨v, ps, hrun, hv⟩ := ho.lookup (Maps.string_keyed Try.underlying9) Try.underlying94 (zero_bool _) (plainElem_bool Try.underlying4 false) (keyOf_string_mk Try.underlying9 hx)
  rw [hat x hx] at hv
  obtain ⟨a, rfl, hz⟩ := plainElem_bool_inv Try.underlying4 hv
  rw [hrun]
  simp only [Prod.mk.injEq, DataW.lit.injEq, Lit.bool.injEq] at hz
  rw [hz.1]
theorem ba_ext {x y : ByteArray} (h : x.data.toList = y.data.toList) : x = y := by
  obtain ⟨⟨x⟩⟩ := x
  obtain ⟨⟨y⟩⟩ := y
  simp only at h
  rw [h]
theorem MapS.put {w : World} {b : Nat} {hs : List ByteArray} (h : MapS w b hs) (hn : hs.length < maxLen) (x : ByteArray) (hx : x.size ≤ maxLen) : ∃ w', (Instr.mapUpdate 94 (.map (some b)) (.string x) (.bool true)).run Try.prog w = .ok () w' ∧ MapS w' b (hs ++ [x]) ∧ w.grownBy w' (some b) := by
  obtain ⟨D, ho, hm, hat⟩ := h
  obtain ⟨w', hrun, ho', hg⟩ := ho.update (Maps.string_keyed Try.underlying9) Try.underlying94 hn (keyOf_string_mk Try.underlying9 hx) (plainElem_bool Try.underlying4 true)
  refine ⟨w', hrun, ⟨_, by rw [List.length_append]; exact ho', ?_, fun y hy => ?_⟩, hg⟩
  · obtain ⟨es, rfl⟩ := hm
    exact ⟨_, rfl⟩
  · by_cases e : y = x
    · subst e
      rw [Maps.atKey_put_same hm (by simp [WideAt.IsKeyLit])]
      simp [knownB]
    · have e2 : ¬ y.data.toList = x.data.toList := fun h2 => e (ba_ext h2)
      rw [Maps.atKey_put_other (by simpa using e2), hat y hy]
      simp [knownB, e2]
theorem wpList_mapS {ops : Array Oper} {rest : List Oper} {o : Oper} {a : Act} {Q : Exit → Act → World → Prop} (W : World) (hg : o.guard = none) (m x v : Operand) (hop : o.op = Op.mapUpdate 94 m x v)
    (b : Nat) (hs : List ByteArray) (hm : a.eval m = .map (some b)) (h : MapS W b hs) (hn : hs.length < maxLen) (y : ByteArray) (hx : a.eval x = .string y) (hy : y.size ≤ maxLen) (hv : a.eval v = .bool true)
    (hK : ∀ w', MapS w' b (hs ++ [y]) → W.grownBy w' (some b) → wpList Try.prog ops Q rest (a.put o.dst undef) w') : wpList Try.prog ops Q (o :: rest) a W := by
  refine wpList_plain hg fun K' hK' => ?_
  obtain ⟨w', hrun, r1, r2⟩ := h.put hn y hy
  unfold Oper.wp
  simp [execOp, hop, hm, hx, hv, hrun, Result.andThen]
  exact hK' _ _ (hK w' r1 r2)
theorem MapS.below {w w' : World} {b : Nat} {hs : List ByteArray} (h : MapS w b hs) (hb : Below w.heap.size w w') : MapS w' b hs := h.same (hb.block b h.lt)
theorem MapS.kept {w w' : World} {b : Nat} {hs : List ByteArray} {S : Nat → Prop} (h : MapS w b hs) (hk : Kept w w' S) (hn : ¬ S b) : MapS w' b hs := h.same (hk.2 b h.lt hn)
end Go.Proofs.Ytkopmkinlanhoaa.PE

namespace Go.Proofs.Ytkopmkinlanhoaa.PE
open Go.RowKit Go.Proofs.YtkopmkinlanhoaaW.PrintWords Go.Proofs.YtkopmkinlanhoaaW.PrintLast Go.Proofs.YtkopmkinlanhoaaW.PrintMore
attribute [local go_sem] max2_int min2_int max_two min_two max_three min_three max_four min_four   -- for this text's walks alone
set_option linter.unusedVariables false
set_option linter.unusedSimpArgs false
def arboretref01_Bytes.l0 : Nat → Int → List Int → Int → Option (List Int)
  | 0, _, _, _ => none
  | k + 1, x0, x5, x6 => if x6 ≥ 0 then (if 0 ≤ x6 then (if x6 < (x5.length : Int) then (arboretref01_Bytes.l0 k (IntKind.u64.wrap (Int.tdiv x0 256)) (x5.set (x6 : Int).toNat ((Int.tmod x0 256) % 256)) (wrap64 (x6 - 1))) else (none)) else (none)) else (some x5)
def arboretref01_Bytes.f (k : Nat) (a0 : Int) (a1 : Int) : Option (List Int) := if 0 ≤ a1 then (if (a1 : Int).toNat ≤ 281474976710656 then (arboretref01_Bytes.l0 k a0 (List.replicate (a1 : Int).toNat 0) (wrap64 (a1 - 1))) else (none)) else (none)
end Go.Proofs.Ytkopmkinlanhoaa.PE

namespace Go.Proofs.Ytkopmkinlanhoaa.PE
open Go.RowKit Go.Proofs.YtkopmkinlanhoaaW.PrintWords Go.Proofs.YtkopmkinlanhoaaW.PrintLast Go.Proofs.YtkopmkinlanhoaaW.PrintMore
attribute [local go_sem] max2_int min2_int max_two min_two max_three min_three max_four min_four
set_option linter.unusedVariables false
set_option linter.unusedSimpArgs false
def cellB (v : Int) : List Int := [v / 16777216 % 256, v / 65536 % 256, v / 256 % 256, v % 256]
theorem cellB_length (v : Int) : (cellB v).length = 4 := rfl
theorem u64_small {x : Int} (h0 : 0 ≤ x) (h1 : x < 18446744073709551616) : IntKind.u64.wrap x = x := by
  simp only [IntKind.wrap, IntKind.bits, IntKind.signed]
  simp
  omega
end Go.Proofs.Ytkopmkinlanhoaa.PE

namespace Go.Proofs.Ytkopmkinlanhoaa.PE
open Go.RowKit Go.Proofs.YtkopmkinlanhoaaW.PrintWords Go.Proofs.YtkopmkinlanhoaaW.PrintLast Go.Proofs.YtkopmkinlanhoaaW.PrintMore
attribute [local go_sem] max2_int min2_int max_two min_two max_three min_three max_four min_four
set_option linter.unusedVariables false
set_option linter.unusedSimpArgs false
theorem put_four (l : List Int) (v : Int) (h0 : 0 ≤ v) (h1 : v < 4294967296) (hl : l.length ≤ 1099511627776) : words_Put.f 6 l v = some (l ++ cellB v) := by
  unfold words_Put.f words_put.f slices_Clone_byte_byte.f
  rw [if_pos (by omega), u64_small h0 (by omega)]
  simp only [Option.bind_some]
  have w3 : wrap64 (4 - 1) = 3 := by unfold wrap64; omega
  have w2 : wrap64 (3 - 1) = 2 := by unfold wrap64; omega
  have w1 : wrap64 (2 - 1) = 1 := by unfold wrap64; omega
  have w0 : wrap64 (1 - 1) = 0 := by unfold wrap64; omega
  have wm : wrap64 (0 - 1) = -1 := by unfold wrap64; omega
  have s3 : wrap64 (8 * 3) = 24 := by unfold wrap64; omega
  have s2 : wrap64 (8 * 2) = 16 := by unfold wrap64; omega
  have s1 : wrap64 (8 * 1) = 8 := by unfold wrap64; omega
  have s0 : wrap64 (8 * 0) = 0 := by unfold wrap64; omega
  have t3 : shr .u64 v 24 = v / 16777216 := rfl
  have t2 : shr .u64 v 16 = v / 65536 := rfl
  have t1 : shr .u64 v 8 = v / 256 := rfl
  have t0 : shr .u64 v 0 = v := by show v / 1 = v; omega
  rw [w3]
  simp only [words_put.l0]
  rw [if_pos (by decide), s3, if_pos (by decide), if_pos (by omega), w2, t3]
  rw [if_pos (by decide), s2, if_pos (by decide), if_pos (by simp; omega), w1, t2]
  rw [if_pos (by decide), s1, if_pos (by decide), if_pos (by simp; omega), w0, t1]
  rw [if_pos (by decide), s0, if_pos (by decide), if_pos (by simp; omega), wm, t0, if_neg (by decide)]
  simp [cellB]
theorem put_eight (l : List Int) (v : Int) (hl : l.length ≤ 1099511627776) : words_Put64.f 10 l v = some (l ++ (cellB (v / 4294967296) ++ cellB v)) := by
  unfold words_Put64.f words_put.f slices_Clone_byte_byte.f
  rw [if_pos (by omega)]
  simp only [Option.bind_some]
  have w7 : wrap64 (8 - 1) = 7 := by unfold wrap64; omega
  have w6 : wrap64 (7 - 1) = 6 := by unfold wrap64; omega
  have w5 : wrap64 (6 - 1) = 5 := by unfold wrap64; omega
  have w4 : wrap64 (5 - 1) = 4 := by unfold wrap64; omega
  have w3 : wrap64 (4 - 1) = 3 := by unfold wrap64; omega
  have w2 : wrap64 (3 - 1) = 2 := by unfold wrap64; omega
  have w1 : wrap64 (2 - 1) = 1 := by unfold wrap64; omega
  have w0 : wrap64 (1 - 1) = 0 := by unfold wrap64; omega
  have wm : wrap64 (0 - 1) = -1 := by unfold wrap64; omega
  have s7 : wrap64 (8 * 7) = 56 := by unfold wrap64; omega
  have s6 : wrap64 (8 * 6) = 48 := by unfold wrap64; omega
  have s5 : wrap64 (8 * 5) = 40 := by unfold wrap64; omega
  have s4 : wrap64 (8 * 4) = 32 := by unfold wrap64; omega
  have s3 : wrap64 (8 * 3) = 24 := by unfold wrap64; omega
  have s2 : wrap64 (8 * 2) = 16 := by unfold wrap64; omega
  have s1 : wrap64 (8 * 1) = 8 := by unfold wrap64; omega
  have s0 : wrap64 (8 * 0) = 0 := by unfold wrap64; omega
  have t7 : shr .u64 v 56 = v / 4294967296 / 16777216 := by show v / 72057594037927936 = _; omega
  have t6 : shr .u64 v 48 = v / 4294967296 / 65536 := by show v / 281474976710656 = _; omega
  have t5 : shr .u64 v 40 = v / 4294967296 / 256 := by show v / 1099511627776 = _; omega
  have t4 : shr .u64 v 32 = v / 4294967296 := rfl
  have t3 : shr .u64 v 24 = v / 16777216 := rfl
  have t2 : shr .u64 v 16 = v / 65536 := rfl
  have t1 : shr .u64 v 8 = v / 256 := rfl
  have t0 : shr .u64 v 0 = v := by show v / 1 = v; omega
  rw [w7]
  simp only [words_put.l0]
  rw [if_pos (by decide), s7, if_pos (by decide), if_pos (by omega), w6, t7]
  rw [if_pos (by decide), s6, if_pos (by decide), if_pos (by simp; omega), w5, t6]
  rw [if_pos (by decide), s5, if_pos (by decide), if_pos (by simp; omega), w4, t5]
  rw [if_pos (by decide), s4, if_pos (by decide), if_pos (by simp; omega), w3, t4]
  rw [if_pos (by decide), s3, if_pos (by decide), if_pos (by simp; omega), w2, t3]
  rw [if_pos (by decide), s2, if_pos (by decide), if_pos (by simp; omega), w1, t2]
  rw [if_pos (by decide), s1, if_pos (by decide), if_pos (by simp; omega), w0, t1]
  rw [if_pos (by decide), s0, if_pos (by decide), if_pos (by simp; omega), wm, t0, if_neg (by decide)]
  simp [cellB]
def firstI : List (ByteArray × Int) → ByteArray → Option Int
  | [], _ => none
  | (y, i) :: r, x => if y.data.toList = x.data.toList then some i else firstI r x
def MapI (w : World) (b : Nat) (hs : List (ByteArray × Int)) : Prop := ∃ D : DataW Unit, w.ownsMap Try.prog 9 (plainElem Try.prog 3) b hs.length D ∧ Maps.IsMap D ∧ ∀ h : ByteArray, h.size ≤ maxLen → D.atKey (.string h.data.toList) (.lit (.int .i64 0)) = .lit (.int .i64 ((firstI hs h).getD 0)) ∧ Maps.has D (.string h.data.toList) = (firstI hs h).isSome
theorem zero_int (w : World) : (zeroValue 3).run Try.prog w = .ok (.int .i64 0) w := by kernel_rfl
theorem MapI.made (w : World) : MapI (w.alloc (.map #[] 0)) w.heap.size [] := ⟨.map [], World.ownsMap_made _ _ _ _, ⟨_, rfl⟩, fun h _ => ⟨by simp [DataW.atKey, firstI], rfl⟩⟩
theorem MapI.lt {w : World} {b : Nat} {hs : List (ByteArray × Int)} (h : MapI w b hs) : b < w.heap.size := h.choose_spec.1.lt
theorem MapI.same {w w' : World} {b : Nat} {hs : List (ByteArray × Int)} (h : MapI w b hs) (hk : w'.heap[b]? = w.heap[b]?) : MapI w' b hs := by
  obtain ⟨D, ⟨es, clock, hb, F, hs, hD⟩, hm, hat⟩ := h
  exact ⟨D, ⟨es, clock, hk.trans hb, F, hs, hD⟩, hm, hat⟩
theorem MapI.isMap {w : World} {b : Nat} {hs : List (ByteArray × Int)} (h : MapI w b hs) : ∃ es clock, w.heap[b]? = some (.map es clock) := by
  obtain ⟨D, ⟨es, clock, hb, _⟩, _⟩ := h
  exact ⟨es, clock, hb⟩
theorem MapI.look {w : World} {b : Nat} {hs : List (ByteArray × Int)} (h : MapI w b hs) (x : ByteArray) (hx : x.size ≤ maxLen) : (Instr.lookup 98 (.map (some b)) (.string x) true).run Try.prog w = .ok (.tuple #[.int .i64 ((firstI hs x).getD 0), .bool (firstI hs x).isSome]) w := by
  obtain ⟨D, ho, _, hat⟩ := h
  obtain ⟨v, ps, hrun, hv⟩ := ho.look_ok (Maps.string_keyed Try.underlying9) Try.underlying98 (zero_int _) (plainElem_int Try.underlying3 (by decide)) (keyOf_string_mk Try.underlying9 hx)
  obtain ⟨h1, h2⟩ := hat x hx
  rw [h1] at hv
  obtain ⟨c, rfl, hc, _⟩ := plainElem_int_inv Try.underlying3 hv
  rw [hrun, h2]
  simp only [Prod.mk.injEq, DataW.lit.injEq, Lit.int.injEq, true_and, and_true] at hc
  rw [hc.1]
theorem firstI_append (x : ByteArray) (i : Int) (y : ByteArray) : ∀ hs : List (ByteArray × Int), firstI (hs ++ [(x, i)]) y = match firstI hs y with | some v => some v | none => if x.data.toList = y.data.toList then some i else none
  | [] => by simp [firstI]
  | (z, j) :: r => by
    have ih := firstI_append x i y r
    by_cases c : z.data.toList = y.data.toList
    · simp [firstI, c]
    · simp only [List.cons_append, firstI, if_neg c, ih]
theorem MapI.put {w : World} {b : Nat} {hs : List (ByteArray × Int)} (h : MapI w b hs) (hn : hs.length < maxLen) (x : ByteArray) (hx : x.size ≤ maxLen) (i : Int) (hi : (Lit.int .i64 i).wf = true) (habs : firstI hs x = none) : ∃ w', (Instr.mapUpdate 98 (.map (some b)) (.string x) (.int .i64 i)).run Try.prog w = .ok () w' ∧ MapI w' b (hs ++ [(x, i)]) ∧ w.grownBy w' (some b) := by
  obtain ⟨D, ho, hm, hat⟩ := h
  obtain ⟨w', hrun, ho', hg⟩ := ho.update (Maps.string_keyed Try.underlying9) Try.underlying98 hn (keyOf_string_mk Try.underlying9 hx) (plainElem_int Try.underlying3 hi)
  refine ⟨w', hrun, ⟨_, by rw [List.length_append]; exact ho', ?_, fun y hy => ?_⟩, hg⟩
  · obtain ⟨es, rfl⟩ := hm
    exact ⟨_, rfl⟩
  · rw [firstI_append]
    by_cases e : y = x
    · subst e
      rw [Maps.atKey_put_same hm (by simp [WideAt.IsKeyLit]), Maps.has_put_same hm (by simp [WideAt.IsKeyLit]), habs]
      simp
    · have e2 : ¬ y.data.toList = x.data.toList := fun h2 => e (ba_ext h2)
      have e3 : ¬ x.data.toList = y.data.toList := fun h2 => e2 h2.symm
      rw [Maps.atKey_put_other (by simpa using e2), Maps.has_put_other (by simpa using e2), (hat y hy).1, (hat y hy).2]
      cases firstI hs y <;> simp [e3]
theorem wpList_mapI {ops : Array Oper} {rest : List Oper} {o : Oper} {a : Act} {Q : Exit → Act → World → Prop} (W : World) (hg : o.guard = none) (m x v : Operand) (hop : o.op = Op.mapUpdate 98 m x v)
    (b : Nat) (hs : List (ByteArray × Int)) (hm : a.eval m = .map (some b)) (h : MapI W b hs) (hn : hs.length < maxLen) (y : ByteArray) (hx : a.eval x = .string y) (hy : y.size ≤ maxLen) (i : Int) (hv : a.eval v = .int .i64 i) (hi : (Lit.int .i64 i).wf = true) (habs : firstI hs y = none)
    (hK : ∀ w', MapI w' b (hs ++ [(y, i)]) → W.grownBy w' (some b) → wpList Try.prog ops Q rest (a.put o.dst undef) w') : wpList Try.prog ops Q (o :: rest) a W := by
  refine wpList_plain hg fun K' hK' => ?_
  obtain ⟨w', hrun, r1, r2⟩ := h.put hn y hy i hi habs
  unfold Oper.wp
  simp [execOp, hop, hm, hx, hv, hrun, Result.andThen]
  exact hK' _ _ (hK w' r1 r2)
theorem MapI.below {w w' : World} {b : Nat} {hs : List (ByteArray × Int)} (h : MapI w b hs) (hb : Below w.heap.size w w') : MapI w' b hs := h.same (hb.block b h.lt)
structure WrS (w0 W : World) (g mb : Nat) (vb vt : Value) (B T : List Int) (hs : List (ByteArray × Int)) : Prop where
  bel : Below w0.heap.size w0 W
  lo : w0.heap.size ≤ g
  lom : w0.heap.size ≤ mb
  blk : W.heap[g]? = some (.cells #[vb, vt, .map (some mb)] 100 (0, 0))
  rb : Kd.R (Kd.int .u8) 5 W w0.heap.size (fun k => some k ≠ vt.ownBlock) vb B
  rt : Kd.R (Kd.int .u8) 5 W w0.heap.size (fun k => some k ≠ vb.ownBlock) vt T
  mp : MapI W mb hs
def KeptT (W W2 : World) : Prop := W.heap.size ≤ W2.heap.size ∧ ∀ (k : Nat) (cs : Array Value) (t : Nat), W.heap[k]? = some (Obj.cells cs t (0, 0)) → t ≠ 5 → t ≠ 100 → W2.heap[k]? = some (Obj.cells cs t (0, 0))
theorem KeptT.refl (W : World) : KeptT W W := ⟨Nat.le_refl _, fun _ _ _ h _ _ => h⟩
theorem KeptT.trans {W W2 W3 : World} (h : KeptT W W2) (k : KeptT W2 W3) : KeptT W W3 := ⟨Nat.le_trans h.1 k.1, fun i cs t hi h1 h2 => k.2 i cs t (h.2 i cs t hi h1 h2) h1 h2⟩
theorem KeptT.of_below {W W2 : World} (h : Below W.heap.size W W2) : KeptT W W2 := ⟨h.size, fun _ _ _ hi _ _ => blk_below hi h⟩
theorem KeptT.below {W W2 W3 : World} (h : KeptT W W2) (k : Below W2.heap.size W2 W3) : KeptT W W3 := h.trans (.of_below k)
theorem own_bytes {W : World} {base : Nat} {ok : Nat → Prop} {v : Value} {xs : List Int} (h : Kd.R (Kd.int .u8) 5 W base ok v xs) {k : Nat} (hk : v.ownBlock = some k) : k < W.heap.size ∧ base ≤ k ∧ ∃ cs, W.heap[k]? = some (.cells cs 5 (0, 0)) := by
  have h1 := Kd.R_bound h
  obtain ⟨_, h2, h3, q, hq, cs, h4⟩ := h1.1 k hk
  have : q = 5 := by simpa [Kd.int, Kd.scalar] using hq
  subst this
  exact ⟨h3, h2, cs, h4⟩
section
variable {w0 W W2 : World} {g mb : Nat} {vb vt : Value} {B T : List Int} {hs : List (ByteArray × Int)}
theorem WrS.below (h : WrS w0 W g mb vb vt B T hs) (hb : Below W.heap.size W W2) : WrS w0 W2 g mb vb vt B T hs := ⟨h.bel.trans (hb.mono h.bel.size), h.lo, h.lom, blk_below h.blk hb, Kd.R_below h.rb hb, Kd.R_below h.rt hb, h.mp.below hb⟩
theorem WrS.grewB (h : WrS w0 W g mb vb vt B T hs) {v1 : Value} {B1 : List Int} (hg : W.grownBy W2 vb.ownBlock) (hat : v1.ownBlock = vb.ownBlock ∨ ∃ b, v1.ownBlock = some b ∧ W.heap.size ≤ b) (hr : Kd.R (Kd.int .u8) 5 W2 w0.heap.size (fun k => some k ≠ vt.ownBlock) v1 B1) (hb : Below w0.heap.size w0 W2) :
    WrS w0 (W2.setCell ⟨g, 0, none⟩ v1) g mb v1 vt B1 T hs ∧ KeptT W (W2.setCell ⟨g, 0, none⟩ v1) := by
  have hne : ∀ {v : Value} {W' : World} {ok : Nat → Prop} {xs : List Int}, Kd.R (Kd.int .u8) 5 W' w0.heap.size ok v xs → W'.heap[g]? = some (.cells #[vb, vt, .map (some mb)] 100 (0, 0)) → some g ≠ v.ownBlock := fun h1 h2 e => by
    obtain ⟨_, _, cs, h3⟩ := own_bytes h1 e.symm
    rw [h2] at h3
    simp at h3
  have b2 : W2.heap[g]? = some (.cells #[vb, vt, .map (some mb)] 100 (0, 0)) := blk_grown h.blk hg (hne h.rb h.blk)
  have hvt : ∀ k, vt.ownBlock = some k → some k ≠ vb.ownBlock := fun k hk => h.rt.1 k hk
  have rt2 : Kd.R (Kd.int .u8) 5 W2 w0.heap.size (fun k => some k = vt.ownBlock) vt T := Kd.R_grown (Kd.R_tight rfl h.rt) hg (fun k hk e => hvt k hk.symm e)
  have mp2 : MapI W2 mb hs := by
    obtain ⟨es, ck, hm⟩ := h.mp.isMap
    refine h.mp.same (hg.block mb h.mp.lt (fun e => ?_))
    obtain ⟨_, _, cs, h3⟩ := own_bytes h.rb e.symm
    rw [hm] at h3
    simp at h3
  have hgm : mb ≠ g := fun e => by
    obtain ⟨es, ck, hm⟩ := mp2.isMap
    rw [e, b2] at hm
    simp at hm
  refine ⟨⟨hb.setCell h.lo _, h.lo, h.lom, blk_put b2 0 _ rfl, Kd.R_far (Kd.R_types hr b2 (by intro q hq; simp [Kd.int, Kd.scalar] at hq; subst hq; decide)) (fun k hk => hk.2) _ |> fun z => Kd.R_mono z (fun k hk => hk.1), ?_, ?_⟩, ?_, ?_⟩
  · have z := Kd.R_far (Kd.R_types rt2 b2 (by intro q hq; simp [Kd.int, Kd.scalar] at hq; subst hq; decide)) (p := ⟨g, 0, none⟩) (fun k hk => hk.2) v1
    refine Kd.R_mono z (fun k hk e => ?_)
    have e1 := hk.1
    exact hr.1 k e.symm e1
  · exact mp2.same (Below.heap_setCell W2 ⟨g, 0, none⟩ v1 mb hgm)
  · have : (W2.setCell ⟨g, 0, none⟩ v1).heap.size = W2.heap.size := by simp
    rw [this]
    exact hg.size
  · intro k cs t hk h1 h2
    have hkg : k ≠ g := fun e => by
      rw [e, h.blk] at hk
      simp only [Option.some.injEq, Obj.cells.injEq] at hk
      exact h2 hk.2.1.symm
    refine (Below.heap_setCell W2 ⟨g, 0, none⟩ v1 k hkg).trans ?_
    refine (hg.block k (blk_lt hk) (fun e => ?_)).trans hk
    obtain ⟨_, _, cs2, h3⟩ := own_bytes h.rb e.symm
    rw [hk] at h3
    simp only [Option.some.injEq, Obj.cells.injEq] at h3
    exact h1 h3.2.1
theorem WrS.freshB (h : WrS w0 W g mb vb vt B T hs) (k : Nat) (hk : W.heap.size ≤ k) : some k ≠ vt.ownBlock := fun e => by
  have := (own_bytes h.rt e.symm).1
  omega
theorem WrS.freshT (h : WrS w0 W g mb vb vt B T hs) (k : Nat) (hk : W.heap.size ≤ k) : some k ≠ vb.ownBlock := fun e => by
  have := (own_bytes h.rb e.symm).1
  omega
theorem WrS.neB (h : WrS w0 W g mb vb vt B T hs) : some g ≠ vb.ownBlock := fun e => by
  obtain ⟨_, _, cs, h3⟩ := own_bytes h.rb e.symm
  rw [h.blk] at h3
  simp at h3
theorem WrS.neT (h : WrS w0 W g mb vb vt B T hs) : some g ≠ vt.ownBlock := fun e => by
  obtain ⟨_, _, cs, h3⟩ := own_bytes h.rt e.symm
  rw [h.blk] at h3
  simp at h3
end
end Go.Proofs.Ytkopmkinlanhoaa.PE

namespace Go.Proofs.Ytkopmkinlanhoaa.PE
open Go.RowKit Go.Proofs.YtkopmkinlanhoaaW.PrintWords Go.Proofs.YtkopmkinlanhoaaW.PrintLast Go.Proofs.YtkopmkinlanhoaaW.PrintMore
attribute [local go_sem] max2_int min2_int max_two min_two max_three min_three max_four min_four
set_option linter.unusedVariables false
set_option linter.unusedSimpArgs false
def WrM (w0 W W2 : World) (g mb : Nat) (B T : List Int) (hs : List (ByteArray × Int)) : Prop := ∃ vb vt, WrS w0 W2 g mb vb vt B T hs ∧ KeptT W W2
set_option maxRecDepth 100000 in
set_option maxHeartbeats 2000000 in
theorem writer_cell.calls (v : Int) (g mb : Nat) (w0 W : World) (vb vt : Value) (B T : List Int) (hs : List (ByteArray × Int)) (hv0 : 0 ≤ v) (hv1 : v < 4294967296) (hS : WrS w0 W g mb vb vt B T hs) (hl : B.length ≤ 1099511627776) :
    Calls Try.prog 49 #[.pointer (some ⟨g, 0, none⟩), .int .u32 v] W fun e w' => e = .returned (.tuple #[]) ∧ WrM w0 W w' g mb (B ++ cellB v) T hs := by
  have HS := Aside0.mk hS
  have HPUT := Aside0.mk (fun W2 : World => words_Put.calls 6 none 0 [] v (cellB v) W2 (Kd.C_nil _ _) (Nat.le_refl _) (put_four [] v hv0 hv1 (by simp)))
  have k0 : W.cell? ⟨g, 0, none⟩ = some vb := (blk_cell hS.blk 0).trans rfl
  have HL := Aside0.mk hl
  clear hS hl hv0 hv1
  go_enter Try.func49, Try.ntmps49
  go_wp2
  have HS2 := Aside0.mk (HS.out.below (W2 := W.drew) (below_drew1 (Below.refl _ _)))
  have HK2 : Aside0 (KeptT W W.drew) := ⟨KeptT.of_below (below_drew1 (Below.refl _ _))⟩
  refine start_ (n := 11) (S := fun w' => w'.cell? ⟨g, 0, none⟩ = some vb) (ds := [10]) #[false, false, false, false, false, false, false, false, false, false, false] (by kernel_rfl) rfl rfl (((blk_cell HS2.out.blk 0).trans rfl)) (fun hHeld => ?_)
  refine pure_ (i := 0) (N := some 4) (v := ?_) (a' := ?_) #[true, false, false, false, false, false, false, false, false, false, false] rfl rfl (by kernel_rfl) (fun _ _ _ h => h) (Or.inl ⟨by rfl, ?_⟩) ?_ ?_
  rotate_left
  · intro w'
    go_simp
    with_reducible rfl
  rotate_left
  · simp only [Act.put, List.setIfInBounds_toArray, List.set_cons_zero, List.set_cons_succ, i64_w, i32_w]
    rfl
  refine pure_ (i := 1) (N := some 5) (v := ?_) (a' := ?_) #[true, true, false, false, false, false, false, false, false, false, false] rfl rfl (by kernel_rfl) (fun _ _ _ h => h) (Or.inl ⟨by rfl, ?_⟩) ?_ ?_
  rotate_left
  · intro w'
    go_simp
    with_reducible rfl
  rotate_left
  · simp only [Act.put, List.setIfInBounds_toArray, List.set_cons_zero, List.set_cons_succ, i64_w, i32_w]
    rfl
  refine pure_ (i := 2) (N := some 6) (v := ?_) (a' := ?_) #[true, true, true, false, false, false, false, false, false, false, false] rfl rfl (by kernel_rfl) (fun _ _ _ h => h) (Or.inl ⟨by rfl, ?_⟩) ?_ ?_
  rotate_left
  · intro w'
    go_simp
    with_reducible rfl
  rotate_left
  · simp only [Act.put, List.setIfInBounds_toArray, List.set_cons_zero, List.set_cons_succ, i64_w, i32_w]
    rfl
  refine pure_ (i := 3) (N := some 7) (v := ?_) (a' := ?_) #[true, true, true, true, false, false, false, false, false, false, false] rfl rfl (by kernel_rfl) (fun _ _ _ h => h) (Or.inl ⟨by rfl, ?_⟩) ?_ ?_
  rotate_left
  · intro w'
    go_simp
    with_reducible rfl
  rotate_left
  · simp only [Act.put, List.setIfInBounds_toArray, List.set_cons_zero, List.set_cons_succ, i64_w, i32_w]
    rfl
  refine pure_ (i := 5) (N := some 9) (v := ?_) (a' := ?_) #[true, true, true, true, false, true, false, false, false, false, false] rfl rfl (by kernel_rfl) (fun _ _ _ h => h) (Or.inl ⟨by rfl, ?_⟩) ?_ ?_
  rotate_left
  · intro w'
    go_simp
    with_reducible rfl
  rotate_left
  · simp only [Act.put, List.setIfInBounds_toArray, List.set_cons_zero, List.set_cons_succ, i64_w, i32_w]
    rfl
  refine take_ (i := 4) (N := some 8) (v := ?_) (a' := ?_) #[true, true, true, true, true, true, false, false, false, false, false] rfl rfl (by kernel_rfl) (fun _ _ _ h => h) (Or.inl ⟨by rfl, ?_⟩) hHeld ?_ ?_
  rotate_left
  · intro w' s0
    go_simp
    with_reducible rfl
  rotate_left
  · simp only [Act.put, List.setIfInBounds_toArray, List.set_cons_zero, List.set_cons_succ, i64_w, i32_w]
    rfl
  refine one_ (i := 6) (N := some 10) #[true, true, true, true, true, true, true, false, false, false, false] rfl rfl (by kernel_rfl) (by decide) (fun K hK => ?_)
  refine goes_ Try.func52 (by kernel_rfl) rfl #[.slice none 0 0, .int .u32 v] (by rfl) rfl rfl (by simp only [List.map_toArray, List.map_cons, List.map_nil]; rfl) ?_
  refine (HPUT.out _).mono ?_
  rintro e w' ⟨v0, rfl, hr, hb⟩
  obtain ⟨Av, cv, rfl, hcv, hC⟩ := Kd.R_reads hr
  have HC1 := Aside0.mk hC
  have HS3 := Aside0.mk (HS2.out.below hb)
  have HK3 := Aside0.mk (HK2.out.below hb)
  clear hC hb hr
  refine ⟨_, rfl, ?_⟩
  refine hK.out _ _ (((blk_cell HS3.out.blk 0).trans rfl)) (fun hHeld => ?_)
  clear hK K
  refine norm_ (a' := ?_) ?_ ?_
  rotate_left
  · show Act.put _ (some 10) _ = _
    simp only [Act.put, List.setIfInBounds_toArray, List.set_cons_zero, List.set_cons_succ, i64_w, i32_w]
    rfl
  refine one_ (i := 7) (N := some 11) #[true, true, true, true, true, true, true, true, false, false, false] rfl rfl (by kernel_rfl) (by decide) (fun K hK => ?_)
  refine Kd.R_append_rows_step (Kd.int .u8) (w0 := w0) w0.heap.size (by rfl) (.tmp 8) (.tmp 10) 45 5 (.int .u8 0) 1 rfl Try.underlying45 info5 rfl (by decide) (by omega) vb B (cellB v) _ _ _ (fun k => some k ≠ vt.ownBlock) (fun _ => False) rfl rfl HS3.out.rb ?aR (fun _ _ h => h) (fun _ h => h.elim) HS3.out.freshB HS3.out.bel HS3.out.bel.size ?aL ?_
  case aR => exact HC1.out
  case aL => have := HL.out; have := cellB_length v; omega
  intro v1 w1 ho hb hg hat
  obtain ⟨B1, hB1⟩ : ∃ B1, B1 = B ++ cellB v := ⟨_, rfl⟩
  rw [← hB1] at ho
  obtain ⟨A1, c1, rfl⟩ := Kd.R_slice ho
  have HG := Aside0.mk (HS3.out.grewB hg hat ho hb)
  have kb := blk_grown HS3.out.blk hg HS3.out.neB
  have kf : w1.frozen? ⟨g, 0, none⟩ = false := blk_frozen kb 0
  have kc : w1.cell? ⟨g, 0, none⟩ = some vb := (blk_cell kb 0).trans rfl
  have HB1 := Aside0.mk hB1
  clear hg hat ho hb kb hB1
  refine hK.out _ _ (kc) (fun hHeld => ?_)
  clear hK K
  refine norm_ (a' := ?_) ?_ ?_
  rotate_left
  · show Act.put _ (some 11) _ = _
    simp only [Act.put, List.setIfInBounds_toArray, List.set_cons_zero, List.set_cons_succ, i64_w, i32_w]
    rfl
  refine pure_ (i := 8) (N := some 12) (v := ?_) (a' := ?_) #[true, true, true, true, true, true, true, true, true, false, false] rfl rfl (by kernel_rfl) (fun _ _ _ h => h) (Or.inl ⟨by rfl, ?_⟩) ?_ ?_
  rotate_left
  · intro w'
    go_simp
    with_reducible rfl
  rotate_left
  · simp only [Act.put, List.setIfInBounds_toArray, List.set_cons_zero, List.set_cons_succ, i64_w, i32_w]
    rfl
  refine pure_ (i := 9) (N := some 13) (v := ?_) (a' := ?_) #[true, true, true, true, true, true, true, true, true, true, false] rfl rfl (by kernel_rfl) (fun _ _ _ h => h) (Or.inl ⟨by rfl, ?_⟩) ?_ ?_
  rotate_left
  · intro w'
    go_simp
    with_reducible rfl
  rotate_left
  · simp only [Act.put, List.setIfInBounds_toArray, List.set_cons_zero, List.set_cons_succ, i64_w, i32_w]
    rfl
  refine last_ (i := 10) (N := none) #[true, true, true, true, true, true, true, true, true, true, true] rfl rfl (by kernel_rfl) (by decide) (fun K hK => ?_)
  refine skip_ (w1 := ?_) (by rfl) rfl ?_ ?_
  rotate_left
  · go_simp
    rfl
  refine hK.out _ _ ?_
  clear hK K
  refine done_ (by kernel_rfl) ?_
  go_wp2
  first | go_end0 | ((try simp only [Exit.inBlock, Exit.then]); refine bodyPost_ret (results_none rfl _ _ _) rfl ?_)
  rw [← HB1.out]
  exact ⟨rfl, _, _, HG.out.1, HK3.out.trans HG.out.2⟩
end Go.Proofs.Ytkopmkinlanhoaa.PE

namespace Go.Proofs.Ytkopmkinlanhoaa.PE
open Go.RowKit Go.Proofs.YtkopmkinlanhoaaW.PrintWords Go.Proofs.YtkopmkinlanhoaaW.PrintLast Go.Proofs.YtkopmkinlanhoaaW.PrintMore
attribute [local go_sem] max2_int min2_int max_two min_two max_three min_three max_four min_four
set_option linter.unusedVariables false
set_option linter.unusedSimpArgs false
def padW (l : List Int) : List Int := List.replicate (padN l.length).toNat 0
set_option maxRecDepth 100000 in
set_option maxHeartbeats 2000000 in
theorem writer_bytes.calls (A : Option Addr) (c : Nat) (l : List Int) (g mb : Nat) (w0 W : World) (vb vt : Value) (B T : List Int) (hs : List (ByteArray × Int)) (hC : Kd.C (Kd.int .u8) W A l.length l) (hS : WrS w0 W g mb vb vt B T hs) (hl : B.length + l.length ≤ 1099511627776) :
    Calls Try.prog 74 #[.pointer (some ⟨g, 0, none⟩), .slice A l.length c] W fun e w' => e = .returned (.tuple #[]) ∧ WrM w0 W w' g mb (B ++ l ++ padW l) T hs := by
  have HS1 := Aside0.mk hS
  have HC := Aside0.mk hC
  have HL0 := Aside0.mk hl
  have k0 : W.cell? ⟨g, 0, none⟩ = some vb := (blk_cell hS.blk 0).trans rfl
  have hn0 : (0 : Int) ≤ (l.length : Int) := by omega
  obtain ⟨p, hp⟩ : ∃ p, p = padN (l.length : Int) := ⟨_, rfl⟩
  have HPAD := Aside0.mk (fun W => words_Pad.calls (l.length : Int) p W (by rw [hp]; exact pad_f _))
  have HPP : Aside0 (padW l = List.replicate p.toNat 0) := ⟨by unfold padW; rw [hp]⟩
  have hp2 := padN_eq (l.length : Int) hn0
  have HP0 : Aside0 (0 ≤ p) := ⟨by omega⟩
  have HP1 : Aside0 (p ≤ 3) := ⟨by omega⟩
  clear hp hp2 hn0 hS hC hl
  go_enter Try.func74, Try.ntmps74
  go_wp2_with ((with_reducible refine gate_builtin (b := .append) (xs := #[.tmp 8, .tmp 9]) rfl ?_); at_builtin; refine Kd.R_append_rows (Kd.int .u8) (w0 := w0) w0.heap.size rfl (.tmp 8) (.tmp 9) 45 5 (.int .u8 0) 1 rfl Try.underlying45 info5 rfl (by decide) (by omega) vb B l _ _ _ (fun k => some k ≠ vt.ownBlock) (fun _ => False) rfl rfl HS1.out.rb ?aR (fun _ _ h => h) (fun _ h => h.elim) HS1.out.freshB HS1.out.bel HS1.out.bel.size ?aL ?_; (case aR => exact HC.out); (case aL => have := HL0.out; omega); intro v1 w1 ho hb hg hat; obtain ⟨B1, hB1⟩ : ∃ B1, B1 = B ++ l := ⟨_, rfl⟩; rw [← hB1] at ho; obtain ⟨A1, c1, rfl⟩ := Kd.R_slice ho; have HG := Aside0.mk (HS1.out.grewB hg hat ho hb); have kb := blk_grown HS1.out.blk hg HS1.out.neB; have kf : w1.frozen? ⟨g, 0, none⟩ = false := blk_frozen kb 0; have kc : w1.cell? ⟨g, 0, none⟩ = some vb := (blk_cell kb 0).trans rfl; have HB0 := Aside0.mk hB1; clear hg hat ho hb kb hB1)
  have HL : Aside0 (B1.length ≤ 1099511627776) := ⟨by rw [HB0.out, List.length_append]; exact HL0.out⟩
  have HW1 := Aside0.mk HG.out.1
  have HKa := Aside0.mk HG.out.2
  clear HG HS1 k0 kf kc HC
  generalize hvx : Value.slice A1 B1.length c1 = vx at HW1 HKa ⊢
  generalize w1.setCell ⟨g, 0, none⟩ vx = w2 at HW1 HKa ⊢
  clear hvx
  have HS2 := Aside0.mk (HW1.out.below (W2 := w2.drew) (below_drew1 (Below.refl _ _)))
  have HK2 : Aside0 (KeptT W w2.drew) := ⟨HKa.out.trans (KeptT.of_below (below_drew1 (Below.refl _ _)))⟩
  clear HW1 HKa
  have k0 : w2.drew.cell? ⟨g, 0, none⟩ = some vx := (blk_cell HS2.out.blk 0).trans rfl
  refine start_ (n := 12) (S := fun w' => w'.cell? ⟨g, 0, none⟩ = some vx) (ds := [11]) #[false, false, false, false, false, false, false, false, false, false, false, false] (by kernel_rfl) rfl rfl (((blk_cell HS2.out.blk 0).trans rfl)) (fun hHeld => ?_)
  refine pure_ (i := 0) (N := some 13) (v := ?_) (a' := ?_) #[true, false, false, false, false, false, false, false, false, false, false, false] rfl rfl (by kernel_rfl) (fun _ _ _ h => h) (Or.inl ⟨by rfl, ?_⟩) ?_ ?_
  rotate_left
  · intro w'
    go_simp
    with_reducible rfl
  rotate_left
  · simp only [Act.put, List.setIfInBounds_toArray, List.set_cons_zero, List.set_cons_succ, i64_w, i32_w]
    rfl
  refine pure_ (i := 1) (N := some 14) (v := ?_) (a' := ?_) #[true, true, false, false, false, false, false, false, false, false, false, false] rfl rfl (by kernel_rfl) (fun _ _ _ h => h) (Or.inl ⟨by rfl, ?_⟩) ?_ ?_
  rotate_left
  · intro w'
    go_simp
    with_reducible rfl
  rotate_left
  · simp only [Act.put, List.setIfInBounds_toArray, List.set_cons_zero, List.set_cons_succ, i64_w, i32_w]
    rfl
  refine pure_ (i := 2) (N := some 15) (v := ?_) (a' := ?_) #[true, true, true, false, false, false, false, false, false, false, false, false] rfl rfl (by kernel_rfl) (fun _ _ _ h => h) (Or.inl ⟨by rfl, ?_⟩) ?_ ?_
  rotate_left
  · intro w'
    go_simp
    with_reducible rfl
  rotate_left
  · simp only [Act.put, List.setIfInBounds_toArray, List.set_cons_zero, List.set_cons_succ, i64_w, i32_w]
    rfl
  refine pure_ (i := 3) (N := some 16) (v := ?_) (a' := ?_) #[true, true, true, true, false, false, false, false, false, false, false, false] rfl rfl (by kernel_rfl) (fun _ _ _ h => h) (Or.inl ⟨by rfl, ?_⟩) ?_ ?_
  rotate_left
  · intro w'
    go_simp
    with_reducible rfl
  rotate_left
  · simp only [Act.put, List.setIfInBounds_toArray, List.set_cons_zero, List.set_cons_succ, i64_w, i32_w]
    rfl
  refine pure_ (i := 5) (N := some 18) (v := ?_) (a' := ?_) #[true, true, true, true, false, true, false, false, false, false, false, false] rfl rfl (by kernel_rfl) (fun _ _ _ h => h) (Or.inl ⟨by rfl, ?_⟩) ?_ ?_
  rotate_left
  · intro w'
    go_simp
    with_reducible rfl
  rotate_left
  · simp only [Act.put, List.setIfInBounds_toArray, List.set_cons_zero, List.set_cons_succ, i64_w, i32_w]
    rfl
  refine pure_ (i := 6) (N := some 19) (v := ?_) (a' := ?_) #[true, true, true, true, false, true, true, false, false, false, false, false] rfl rfl (by kernel_rfl) (fun _ _ _ h => h) (Or.inl ⟨by rfl, ?_⟩) ?_ ?_
  rotate_left
  · intro w'
    go_simp
    with_reducible rfl
  rotate_left
  · simp only [Act.put, List.setIfInBounds_toArray, List.set_cons_zero, List.set_cons_succ, i64_w, i32_w]
    rfl
  refine take_ (i := 4) (N := some 17) (v := ?_) (a' := ?_) #[true, true, true, true, true, true, true, false, false, false, false, false] rfl rfl (by kernel_rfl) (fun _ _ _ h => h) (Or.inl ⟨by rfl, ?_⟩) hHeld ?_ ?_
  rotate_left
  · intro w' s0
    go_simp
    with_reducible rfl
  rotate_left
  · simp only [Act.put, List.setIfInBounds_toArray, List.set_cons_zero, List.set_cons_succ, i64_w, i32_w]
    rfl
  refine one_ (i := 7) (N := some 20) #[true, true, true, true, true, true, true, true, false, false, false, false] rfl rfl (by kernel_rfl) (by decide) (fun K hK => ?_)
  refine goes_ Try.func92 (by kernel_rfl) rfl #[.int .i64 (l.length : Int)] (by rfl) rfl rfl (by simp only [List.map_toArray, List.map_cons, List.map_nil]; rfl) ?_
  refine (HPAD.out _).mono ?_
  rintro e w' ⟨rfl, ⟨nd, rfl⟩⟩
  have HS3 := Aside0.mk (HS2.out.below (pw_below_drewN (Below.refl _ _) nd))
  have HK3 := Aside0.mk (HK2.out.below (pw_below_drewN (Below.refl _ _) nd))
  refine ⟨_, rfl, ?_⟩
  refine hK.out _ _ (((blk_cell HS3.out.blk 0).trans rfl)) (fun hHeld => ?_)
  clear hK K
  refine norm_ (a' := ?_) ?_ ?_
  rotate_left
  · show Act.put _ (some 20) _ = _
    simp only [Act.put, List.setIfInBounds_toArray, List.set_cons_zero, List.set_cons_succ, i64_w, i32_w]
    rfl
  refine one_ (i := 8) (N := some 21) #[true, true, true, true, true, true, true, true, true, false, false, false] rfl rfl (by kernel_rfl) (by decide) (fun K hK => ?_)
  refine Kd.R_append_zeros_step (Kd.int .u8) (w0 := w0) w0.heap.size (by rfl) (.tmp 17) (.tmp 20) 45 3 5 (.int .u8 0) 1 rfl Try.underlying45 Try.underlying3 info5 rfl (by decide) (by omega) vx B1 0 p (fun k => some k ≠ vt.ownBlock) rfl rfl ?aZ HS3.out.freshB HS3.out.rb HP0.out HS3.out.bel HS3.out.bel.size ?aL ?_
  case aZ => first | exact rfl | simp [Kd.int, Kd.scalar]
  case aL => have := HL.out; have := HP1.out; omega
  intro v1 w1 ho hb hg hat
  obtain ⟨B2, hB2⟩ : ∃ B2, B2 = B1 ++ List.replicate p.toNat 0 := ⟨_, rfl⟩
  rw [← hB2] at ho
  obtain ⟨A2, c2, rfl⟩ := Kd.R_slice ho
  have HG := Aside0.mk (HS3.out.grewB hg hat ho hb)
  have kb := blk_grown HS3.out.blk hg HS3.out.neB
  have kf : w1.frozen? ⟨g, 0, none⟩ = false := blk_frozen kb 0
  have kc : w1.cell? ⟨g, 0, none⟩ = some vx := (blk_cell kb 0).trans rfl
  have HB2 := Aside0.mk hB2
  clear hg hat ho hb kb hB2
  refine hK.out _ _ (kc) (fun hHeld => ?_)
  clear hK K
  refine norm_ (a' := ?_) ?_ ?_
  rotate_left
  · show Act.put _ (some 21) _ = _
    simp only [Act.put, List.setIfInBounds_toArray, List.set_cons_zero, List.set_cons_succ, i64_w, i32_w]
    rfl
  refine pure_ (i := 9) (N := some 22) (v := ?_) (a' := ?_) #[true, true, true, true, true, true, true, true, true, true, false, false] rfl rfl (by kernel_rfl) (fun _ _ _ h => h) (Or.inl ⟨by rfl, ?_⟩) ?_ ?_
  rotate_left
  · intro w'
    go_simp
    with_reducible rfl
  rotate_left
  · simp only [Act.put, List.setIfInBounds_toArray, List.set_cons_zero, List.set_cons_succ, i64_w, i32_w]
    rfl
  refine pure_ (i := 10) (N := some 23) (v := ?_) (a' := ?_) #[true, true, true, true, true, true, true, true, true, true, true, false] rfl rfl (by kernel_rfl) (fun _ _ _ h => h) (Or.inl ⟨by rfl, ?_⟩) ?_ ?_
  rotate_left
  · intro w'
    go_simp
    with_reducible rfl
  rotate_left
  · simp only [Act.put, List.setIfInBounds_toArray, List.set_cons_zero, List.set_cons_succ, i64_w, i32_w]
    rfl
  refine last_ (i := 11) (N := none) #[true, true, true, true, true, true, true, true, true, true, true, true] rfl rfl (by kernel_rfl) (by decide) (fun K hK => ?_)
  refine skip_ (w1 := ?_) (by rfl) rfl ?_ ?_
  rotate_left
  · go_simp
    rfl
  refine hK.out _ _ ?_
  clear hK K
  refine done_ (by kernel_rfl) ?_
  go_wp2
  first | go_end0 | ((try simp only [Exit.inBlock, Exit.then]); refine bodyPost_ret (results_none rfl _ _ _) rfl ?_)
  rw [HPP.out, ← HB0.out, ← HB2.out]
  exact ⟨rfl, _, _, HG.out.1, HK3.out.trans HG.out.2⟩
end Go.Proofs.Ytkopmkinlanhoaa.PE

namespace Go.Proofs.Ytkopmkinlanhoaa.PE
open Go.RowKit Go.Proofs.YtkopmkinlanhoaaW.PrintWords Go.Proofs.YtkopmkinlanhoaaW.PrintLast Go.Proofs.YtkopmkinlanhoaaW.PrintMore
attribute [local go_sem] max2_int min2_int max_two min_two max_three min_three max_four min_four
set_option linter.unusedVariables false
set_option linter.unusedSimpArgs false
section
variable {P : Program} {w : World}
theorem str_at (base : Nat) (t u ty e : TypeId) (i : TypeInfo) (ht : P.underlying t = some (.slice e)) (hu : P.underlying u = some .string) (hi : P.info? e = some i) (hz : i.zero = some (.int .u8 0)) (hsize : i.size = 1) (hby : i.bytes = 1)
    (v : Value) (n : Nat) (xs : List Value) (hown : w.ownsRow base e 1 v n xs) (s : ByteArray) (hb : n + s.size ≤ 140737488355328) {v' : Value} {w' : World} (hr : (Builtin.append_ #[t, u] ty #[v, .string s]).run P w = .ok v' w') :
    v'.ownBlock = v.ownBlock ∨ ∃ b, v'.ownBlock = some b ∧ w.heap.size ≤ b := by
  have hxl : xs.length = n := by simpa using hown.1
  rcases hown.2 with ⟨rfl, rfl⟩ | ⟨g, cap, cur, rfl, hbg, hg, hnc, hcm, hcs, htake⟩
  · by_cases hm : s.size = 0
    · have hf := Lib.run_firstCells_string (P := P) w 1 s
      rw [hm] at hf
      simp [Builtin.append_, run_underlying ht, run_underlying hu, sizeOf, typeInfo, hi, hsize, Builtin.lenOf, hm, hf] at hr
      left
      rw [← hr.1]
    · have h2 := run_append_nil_string (P := P) w t u ty e i (.int .u8 0) ht hu hi hz s (by omega) (by omega) (by rw [hby]; omega)
      rw [h2] at hr
      injection hr with h3 h4
      right
      exact ⟨w.heap.size, by rw [← h3]; rfl, Nat.le_refl _⟩
  · by_cases hroom : n + s.size ≤ cap
    · have hcs' : cur.size = cap := by simpa using hcs
      have h2 := Lib.run_append_room_string (P := P) w t u ty e i ht hu hi hsize g n cap cur hg s hroom (by omega)
      rw [h2] at hr
      injection hr with h3 h4
      left
      rw [← h3]
      rfl
    · have holds : ∀ j u, xs[j]? = some u → w.cell? ((⟨g, 0, none⟩ : Addr).add j) = some u := hown.cells (g := g) rfl
      have h2 := Lib.run_append_grow_string (P := P) w t u ty e i (.int .u8 0) ht hu hi hz ⟨g, 0, none⟩ n cap xs (by rw [hsize]; simpa using hxl) holds s (by omega) (by omega) (by rw [hby]; exact growslice_fits (by omega) (by omega))
      rw [h2] at hr
      injection hr with h3 h4
      right
      exact ⟨w.heap.size, by rw [← h3]; rfl, Nat.le_refl _⟩
end
section
variable {P : Program} {ops : Array Oper} {rest : List Oper} {o : Oper} {a : Act} {Q : Exit → Act → World → Prop}
theorem R_append_str {w0 W : World} (base : Nat) (hgd : o.guard = none) (s x : Operand) (t u e : TypeId)
    (ho : o.op = .call { callee := .builtin .append, args := #[s, x], argTypes := #[t, u] })
    (ht : P.underlying t = some (.slice e)) (hu : P.underlying u = some .string) (hinfo : (P.info? e).map (fun i => (i.zero, i.size, i.bytes)) = some (some (.int .u8 0), 1, 1))
    (v : Value) (xs : List Int) (y : ByteArray) (ok : Nat → Prop) (hs : a.eval s = v) (hx : a.eval x = .string y) (hfresh : ∀ k, W.heap.size ≤ k → ok k)
    (HO : Kd.R (Kd.int .u8) e W base ok v xs) (HB : Below base w0 W) (hbase : base ≤ W.heap.size) (hl : xs.length + y.size ≤ 140737488355328)
    (h : ∀ v1 w1, Kd.R (Kd.int .u8) e w1 base ok v1 (xs ++ bytesOf y) → Below base w0 w1 → W.grownBy w1 v.ownBlock → (v1.ownBlock = v.ownBlock ∨ ∃ b, v1.ownBlock = some b ∧ W.heap.size ≤ b) → wpList P ops Q rest (a.put o.dst v1) w1) :
    wpList P ops Q (o :: rest) a W := by
  obtain ⟨i0, hi, hzz⟩ := Option.map_eq_some_iff.1 hinfo
  simp only [Prod.mk.injEq] at hzz
  obtain ⟨hz0, hz1, hz2⟩ := hzz
  have hown := Kd.own_of_R HO
  obtain ⟨v1, w1, hr, h2, h3, _⟩ := Lib.run_append_own_string (P := P) W base t u o.type e i0 ht hu hi hz0 hz1 hz2 v xs.length _ hown y (by simp only [maxLen]; omega) hl hbase
  have hat := str_at base t u o.type e i0 ht hu hi hz0 hz1 hz2 v xs.length _ hown y hl hr
  refine wpList_plain hgd fun K hK => ?_
  unfold Oper.wp execOp
  simp only [ho, resolve, invoke, builtin, Sem.run_bind, Sem.run_pure, Result.andThen_ok, List.map_toArray, List.map_cons, List.map_nil, hs, hx, hr]
  have hl2 : (xs ++ bytesOf y).length = xs.length + y.size := by rw [List.length_append, bytesOf_length]
  have hc : encs (Value.int .u8) (xs ++ bytesOf y) = encs (Value.int .u8) xs ++ Lib.strCells y := by
    rw [encs_append]
    congr 1
    simp [encs, bytesOf, Lib.strCells]
  refine hK _ _ (h v1 w1 (Kd.R_of_own (by rw [hl2, hc]; exact h2) (fun k hk => ?_)) (HB.grown h3 hbase (Kd.R_base HO)) h3 hat)
  rcases hat with e1 | ⟨b, e1, hbb⟩
  · exact HO.1 k (by rw [← e1]; exact hk)
  · rw [e1] at hk
    injection hk with hk
    subst hk
    exact hfresh _ hbb
end
end Go.Proofs.Ytkopmkinlanhoaa.PE

namespace Go.Proofs.Ytkopmkinlanhoaa.PE
open Go.RowKit Go.Proofs.YtkopmkinlanhoaaW.PrintWords Go.Proofs.YtkopmkinlanhoaaW.PrintLast Go.Proofs.YtkopmkinlanhoaaW.PrintMore
attribute [local go_sem] max2_int min2_int max_two min_two max_three min_three max_four min_four
set_option linter.unusedVariables false
set_option linter.unusedSimpArgs false
section
variable {w0 W W2 : World} {g mb : Nat} {vb vt : Value} {B T : List Int} {hs : List (ByteArray × Int)}
theorem WrS.neM (h : WrS w0 W g mb vb vt B T hs) : g ≠ mb := fun e => by
  obtain ⟨es, ck, hm⟩ := h.mp.isMap
  rw [← e, h.blk] at hm
  simp at hm
theorem own_ne_map {W : World} {base : Nat} {ok : Nat → Prop} {v : Value} {xs : List Int} {mb : Nat} {hs : List (ByteArray × Int)} (h : Kd.R (Kd.int .u8) 5 W base ok v xs) (hm : MapI W mb hs) : some mb ≠ v.ownBlock := fun e => by
  obtain ⟨_, _, cs, h3⟩ := own_bytes h e.symm
  obtain ⟨es, ck, h4⟩ := hm.isMap
  rw [h3] at h4
  simp at h4
theorem WrS.grewT (h : WrS w0 W g mb vb vt B T hs) {v1 : Value} {T1 : List Int} (hsz : W.heap.size ≤ W2.heap.size) (hg : ∀ k, k < W.heap.size → some k ≠ vt.ownBlock → W2.heap[k]? = W.heap[k]?) (hat : v1.ownBlock = vt.ownBlock ∨ ∃ b, v1.ownBlock = some b ∧ W.heap.size ≤ b) (hr : Kd.R (Kd.int .u8) 5 W2 w0.heap.size (fun k => some k ≠ vb.ownBlock) v1 T1) (hb : Below w0.heap.size w0 W2) :
    WrS w0 (W2.setCell ⟨g, 1, none⟩ v1) g mb vb v1 B T1 hs ∧ KeptT W (W2.setCell ⟨g, 1, none⟩ v1) := by
  have b2 : W2.heap[g]? = some (.cells #[vb, vt, .map (some mb)] 100 (0, 0)) := (hg g (blk_lt h.blk) h.neT).trans h.blk
  have mp2 : MapI W2 mb hs := h.mp.same (hg mb h.mp.lt (own_ne_map h.rt h.mp))
  have rb2 : Kd.R (Kd.int .u8) 5 W2 w0.heap.size (fun k => some k = vb.ownBlock) vb B := Kd.R_step (Kd.R_tight rfl h.rb) (fun k hk hlt => hg k hlt (h.rb.1 k hk.symm))
  refine ⟨⟨hb.setCell h.lo _, h.lo, h.lom, blk_put b2 1 _ rfl, ?_, ?_, ?_⟩, ?_, ?_⟩
  · have z := Kd.R_far (Kd.R_types rb2 b2 (by intro q hq; simp [Kd.int, Kd.scalar] at hq; subst hq; decide)) (p := ⟨g, 1, none⟩) (fun k hk => hk.2) v1
    refine Kd.R_mono z (fun k hk e => ?_)
    have e1 := hk.1
    exact hr.1 k e.symm e1
  · exact Kd.R_far (Kd.R_types hr b2 (by intro q hq; simp [Kd.int, Kd.scalar] at hq; subst hq; decide)) (p := ⟨g, 1, none⟩) (fun k hk => hk.2) _ |> fun z => Kd.R_mono z (fun k hk => hk.1)
  · exact mp2.same (Below.heap_setCell W2 ⟨g, 1, none⟩ v1 mb (fun e => h.neM e.symm))
  · have : (W2.setCell ⟨g, 1, none⟩ v1).heap.size = W2.heap.size := by simp
    rw [this]
    exact hsz
  · intro k cs t hk h1 h2
    have hkg : k ≠ g := fun e => by
      rw [e, h.blk] at hk
      simp only [Option.some.injEq, Obj.cells.injEq] at hk
      exact h2 hk.2.1.symm
    refine (Below.heap_setCell W2 ⟨g, 1, none⟩ v1 k hkg).trans ?_
    refine (hg k (blk_lt hk) (fun e => ?_)).trans hk
    obtain ⟨_, _, cs2, h3⟩ := own_bytes h.rt e.symm
    rw [hk] at h3
    simp only [Option.some.injEq, Obj.cells.injEq] at h3
    exact h1 h3.2.1
theorem WrS.mapped {hs2 : List (ByteArray × Int)} (h : WrS w0 W g mb vb vt B T hs) (hm : MapI W2 mb hs2) (hg : W.grownBy W2 (some mb)) : WrS w0 W2 g mb vb vt B T hs2 ∧ KeptT W W2 := by
  refine ⟨⟨?_, h.lo, h.lom, blk_grown h.blk hg (fun e => h.neM (by injection e)), ?_, ?_, hm⟩, hg.size, fun k cs t hk _ _ => blk_grown hk hg (fun e => ?_)⟩
  · exact h.bel.grown hg h.bel.size (fun k hk => by injection hk with hk; rw [← hk]; exact h.lom)
  · exact Kd.R_mono (Kd.R_grown (Kd.R_tight2 rfl h.rb) hg (fun k hk e => own_ne_map h.rb h.mp (e.symm.trans hk.1))) (fun k hk => hk.2)
  · exact Kd.R_mono (Kd.R_grown (Kd.R_tight2 rfl h.rt) hg (fun k hk e => own_ne_map h.rt h.mp (e.symm.trans hk.1))) (fun k hk => hk.2)
  · obtain ⟨es, ck, h4⟩ := h.mp.isMap
    injection e with e
    rw [← e, hk] at h4
    simp at h4
end
theorem grown_two {W w1 w2 : World} {v v1 : Value} (h1 : W.grownBy w1 v.ownBlock) (h2 : w1.grownBy w2 v1.ownBlock) (hat : v1.ownBlock = v.ownBlock ∨ ∃ b, v1.ownBlock = some b ∧ W.heap.size ≤ b) : ∀ k, k < W.heap.size → some k ≠ v.ownBlock → w2.heap[k]? = W.heap[k]? := fun k hk hne => by
  refine (h2.block k (Nat.lt_of_lt_of_le hk h1.size) (fun e => ?_)).trans (h1.block k hk hne)
  rcases hat with h | ⟨b, hb, hbb⟩
  · exact hne (e.trans h)
  · rw [hb] at e
    injection e with e
    omega
theorem at_two {W w1 : World} {v v1 v2 : Value} (h1 : W.heap.size ≤ w1.heap.size) (h2 : v2.ownBlock = v1.ownBlock ∨ ∃ b, v2.ownBlock = some b ∧ w1.heap.size ≤ b) (hat : v1.ownBlock = v.ownBlock ∨ ∃ b, v1.ownBlock = some b ∧ W.heap.size ≤ b) : v2.ownBlock = v.ownBlock ∨ ∃ b, v2.ownBlock = some b ∧ W.heap.size ≤ b := by
  rcases h2 with h | ⟨b, hb, hbb⟩
  · rw [h]; exact hat
  · exact .inr ⟨b, hb, Nat.le_trans h1 hbb⟩
def textAt (T : List Int) (hs : List (ByteArray × Int)) (x : ByteArray) : Int := (firstI hs x).getD T.length
def textT (T : List Int) (hs : List (ByteArray × Int)) (x : ByteArray) : List Int := if (firstI hs x).isSome = true then T else T ++ (bytesOf x ++ [0])
def textH (T : List Int) (hs : List (ByteArray × Int)) (x : ByteArray) : List (ByteArray × Int) := if (firstI hs x).isSome = true then hs else hs ++ [(x, (T.length : Int))]
set_option maxRecDepth 100000 in
set_option maxHeartbeats 2000000 in
theorem writer_text.calls (x : ByteArray) (g mb : Nat) (w0 W : World) (vb vt : Value) (B T : List Int) (hs : List (ByteArray × Int)) (hS : WrS w0 W g mb vb vt B T hs) (hl : T.length + x.size ≤ 1099511627776) (hn : hs.length ≤ 1099511627776) :
    Calls Try.prog 75 #[.pointer (some ⟨g, 0, none⟩), .string x] W fun e w' => e = .returned (.int .i64 (textAt T hs x)) ∧ WrM w0 W w' g mb B (textT T hs x) (textH T hs x) := by
  have HS := Aside0.mk hS
  have k1 : W.cell? ⟨g, 1, none⟩ = some vt := (blk_cell hS.blk 1).trans rfl
  have k2 : W.cell? ⟨g, 2, none⟩ = some (.map (some mb)) := (blk_cell hS.blk 2).trans rfl
  have hlk := hS.mp.look x (by simp only [maxLen]; omega)
  obtain ⟨at_, hat_⟩ : ∃ z, z = firstI hs x := ⟨_, rfl⟩
  unfold textAt textT textH
  rw [← hat_] at hlk ⊢
  have HA := Aside0.mk hat_
  have HL := Aside0.mk hl
  have HN := Aside0.mk hn
  obtain ⟨At, ct, hvt⟩ := Kd.R_slice hS.rt
  clear hS hl hat_ hn
  cases at_ with
  | some i =>
    simp only [Option.getD_some, Option.isSome_some, if_true] at hlk ⊢
    go_enter Try.func75, Try.ntmps75
    go_wp2
    refine bodyPost_ret (results_tmp rfl _ _ _) rfl ?_
    exact ⟨rfl, _, _, HS.out, KeptT.refl _⟩
  | none =>
    simp only [Option.getD_none, Option.isSome_none, Bool.false_eq_true, if_false] at hlk ⊢
    subst hvt
    have h64 : (Lit.int .i64 (T.length : Int)).wf = true := by simp [Lit.wf, IntKind.min, IntKind.max, IntKind.bits, IntKind.signed]; have := HL.out; omega
    have HW := Aside0.mk h64
    have HX : Aside0 (x.size ≤ maxLen) := ⟨by have := HL.out; simp only [maxLen]; omega⟩
    have HN2 : Aside0 (hs.length < maxLen) := ⟨by have := HN.out; simp only [maxLen]; omega⟩
    clear h64
    go_enter Try.func75, Try.ntmps75
    go_wp2_with (first | (at_mapUpdate; refine wpList_mapI _ rfl _ _ _ rfl mb hs rfl HS.out.mp HN2.out x rfl HX.out (T.length : Int) rfl HW.out HA.out.symm ?_; intro w3 hm3 hg3; have HM3 := Aside0.mk (HS.out.mapped hm3 hg3); have k3 : w3.cell? ⟨g, 1, none⟩ = some (.slice At T.length ct) := (blk_cell HM3.out.1.blk 1).trans rfl; clear hm3 hg3) | ((with_reducible refine gate_builtin (b := .append) (xs := #[.tmp 33, .tmp 34]) rfl ?_); at_builtin; refine R_append_str (w0 := w0) w0.heap.size rfl (.tmp 33) (.tmp 34) 45 9 5 rfl Try.underlying45 Try.underlying9 info5 _ T x (fun k => some k ≠ vb.ownBlock) rfl rfl HM3.out.1.freshT HM3.out.1.rt HM3.out.1.bel HM3.out.1.bel.size ?aL ?_; (case aL => have := HL.out; omega); intro v4 w4 ho4 hb4 hg4 hat4; obtain ⟨T4, hT4⟩ : ∃ T4, T4 = T ++ bytesOf x := ⟨_, rfl⟩; rw [← hT4] at ho4; have HT4 := Aside0.mk hT4; obtain ⟨A4, c4, rfl⟩ := Kd.R_slice ho4; have HO4 := Aside0.mk ho4; have HB4 := Aside0.mk hb4; have HG4 := Aside0.mk hg4; have HA4 := Aside0.mk hat4; clear ho4 hb4 hg4 hat4 hT4) | ((with_reducible refine gate_builtin (b := .append) (xs := #[.tmp 35, .tmp 36]) rfl ?_); at_builtin; refine Kd.R_append (Kd.int .u8) (w0 := w0) w0.heap.size rfl (.tmp 35) (.tmp 36) 45 5 (.int .u8 0) 1 rfl Try.underlying45 info5 rfl (by decide) (by omega) _ T4 0 [.int .u8 0] (fun k => some k ≠ vb.ownBlock) (fun _ => False) rfl rfl ?aP (fun _ hk => hk.elim) ?aF HO4.out HB4.out HB4.out.size ?aL ?_; (case aP => exact rfl); (case aF => exact fun k hk => HM3.out.1.freshT k (Nat.le_trans HG4.out.size hk)); (case aL => have := HL.out; have h5 := HT4.out; rw [h5, List.length_append, bytesOf_length]; omega); intro v5 w5 ho5 hb5 hg5 hat5; obtain ⟨T5, hT5⟩ : ∃ T5, T5 = T4 ++ [0] := ⟨_, rfl⟩; rw [← hT5] at ho5; have HT5 := Aside0.mk hT5; obtain ⟨A5, c5, rfl⟩ := Kd.R_slice ho5; have HG := Aside0.mk (HM3.out.1.grewT (Nat.le_trans HG4.out.size hg5.size) (grown_two HG4.out hg5 HA4.out) (at_two HG4.out.size hat5 HA4.out) ho5 hb5); have kb := (grown_two HG4.out hg5 HA4.out _ (blk_lt HM3.out.1.blk) HM3.out.1.neT).trans HM3.out.1.blk; have kf : w5.frozen? ⟨g, 1, none⟩ = false := blk_frozen kb 1; have kc : w5.cell? ⟨g, 1, none⟩ = some (.slice At T.length ct) := (blk_cell kb 1).trans rfl; clear ho5 hb5 hg5 hat5 hT5 kb))
    refine bodyPost_ret (results_tmp rfl _ _ _) rfl ?_
    have ht : T ++ (bytesOf x ++ [0]) = T5 := by rw [HT5.out, HT4.out, List.append_assoc]
    rw [ht]
    exact ⟨rfl, _, _, HG.out.1, HM3.out.2.trans HG.out.2⟩
end Go.Proofs.Ytkopmkinlanhoaa.PE

namespace Go.Proofs.Ytkopmkinlanhoaa.PE
open Go.RowKit Go.Proofs.YtkopmkinlanhoaaW.PrintWords Go.Proofs.YtkopmkinlanhoaaW.PrintLast Go.Proofs.YtkopmkinlanhoaaW.PrintMore
attribute [local go_sem] max2_int min2_int max_two min_two max_three min_three max_four min_four
set_option linter.unusedVariables false
set_option linter.unusedSimpArgs false
theorem bytes_C (s : ByteArray) (W : World) (b : Nat) (m c : Nat) (hm : s.size + 1 ≤ 9223372036854775807) (h0 : ∀ j, j < s.size → W.cell? ⟨b, j, none⟩ = some (.int .u8 (s.data.toList.getD j 0).toNat)) (h1 : W.cell? ⟨b, s.size, none⟩ = some (.int .u8 0)) :
    Kd.C (Kd.int .u8) W (some ⟨b, 0, none⟩) (s.size + 1) (bytesOf s ++ [0]) := by
  refine Kd.C_of_reads (d := (0 : Int)) ⟨by simp [bytesOf_length], by omega, fun _ => ⟨_, rfl, fun j hj => ?_⟩⟩
  rw [add_plain]
  by_cases hj2 : j < s.size
  · rw [h0 j hj2]
    have h' : j < s.data.toList.length := by rw [data_length]; exact hj2
    simp [bytesOf, List.getD_eq_getElem?_getD, List.getElem?_append_left, List.getElem?_eq_getElem h', hj2]
  · have e : j = s.size := by omega
    subst e
    rw [h1]
    have h' : (bytesOf s).length ≤ s.size := by rw [bytesOf_length]; exact Nat.le_refl _
    simp [List.getD_eq_getElem?_getD, List.getElem?_append_right h', bytesOf_length]
set_option maxHeartbeats 1000000 in
theorem wpList_name {ops : Array Oper} {rest : List Oper} {o : Oper} {a : Act} {Q : Exit → Act → World → Prop} (W : World) (s : ByteArray) (hgd : o.guard = none) (sl x : Operand)
    (ho : o.op = .call { callee := .builtin .append, args := #[sl, x], argTypes := #[45, 45] })
    (hs : a.eval sl = .slice (some ⟨W.heap.size, 0, none⟩) s.size (grownCap W s.size 0 5)) (hx : a.eval x = .slice (some ⟨(Lib.bytesWorld W 5 s).heap.size, 0, none⟩) 1 1) (hl : s.size ≤ 1099511627776)
    (hK : ∀ A c w', s.size + 1 ≤ c → Kd.C (Kd.int .u8) w' A (bytesOf s ++ [0]).length (bytesOf s ++ [0]) → Below W.heap.size W w' → wpList Try.prog ops Q rest (a.put o.dst (.slice A (bytesOf s ++ [0]).length c)) w') :
    wpList Try.prog ops Q (o :: rest) a ((Lib.bytesWorld W 5 s).alloc (.cells #[.int .u8 0] 5)) := by
  obtain ⟨i0, hi, hzz⟩ := Option.map_eq_some_iff.1 info5
  simp only [Prod.mk.injEq] at hzz
  obtain ⟨hz0, hz1, hz2⟩ := hzz
  have hlen : (bytesOf s ++ [0]).length = s.size + 1 := by simp [bytesOf_length]
  rw [hlen] at hK
  have hb0 : Below W.heap.size W ((Lib.bytesWorld W 5 s).alloc (.cells #[.int .u8 0] 5)) := below_alloc (bytes_below (Below.refl _ _) (Nat.le_refl _) _ _) _
  have hnew := Lib.bytesWorld_at_new W 5 s
  have hat : ((Lib.bytesWorld W 5 s).alloc (.cells #[.int .u8 0] 5)).heap[W.heap.size]? = (Lib.bytesWorld W 5 s).heap[W.heap.size]? := Below.heap_alloc _ _ _ (by rw [Lib.bytesWorld_size]; omega)
  have hcs : (Lib.bytesCells W 5 s).size = grownCap W s.size 0 5 := by
    have := grownCap_ge W s.size 0 5
    have h2 : s.data.size = s.size := rfl
    simp [Lib.bytesCells, h2]
    omega
  have hcell : ∀ j, j < s.size → ((Lib.bytesWorld W 5 s).alloc (.cells #[.int .u8 0] 5)).cell? ⟨W.heap.size, j, none⟩ = some (.int .u8 (s.data.toList.getD j 0).toNat) := fun j hj => by
    rw [World.cell?_alloc_lt _ _ _ (by rw [Lib.bytesWorld_size]; simp)]
    exact Lib.bytesWorld_cell W _ s j hj
  refine wpList_append_arg _ hgd sl x 45 ho 5 i0 (.int .u8 0) 1 1 Try.underlying45 hi hz0 hz1 hz2 rfl (by decide) W.heap.size 0 s.size (grownCap W s.size 0 5) ((bytesOf s).map (Value.int .u8)) hs (by simp [bytesOf_length]) ?_ ⟨(Lib.bytesWorld W 5 s).heap.size, 0, none⟩ 1 1 [.int .u8 0] hx (by simp) ?_ (by intro u hu; simp at hu; subst hu; rfl) ?_ (by simp only [maxLen]; omega) (by omega) ?_ ?_
  · intro j u hu
    have hj : j < s.size := by
      have := (List.getElem?_eq_some_iff.1 hu).1
      simpa [bytesOf_length] using this
    have h' : j < s.data.toList.length := by rw [data_length]; exact hj
    simp only [Nat.zero_add]
    rw [hcell j hj]
    have hu2 : ((bytesOf s).map (Value.int .u8))[j]? = some (.int .u8 (s.data.toList.getD j 0).toNat) := by
      simp [bytesOf, List.getD_eq_getElem?_getD, List.getElem?_eq_getElem h', hj]
    rw [hu2] at hu
    exact hu
  · intro j u hu
    cases j with
    | zero =>
      simp at hu
      subst hu
      rw [add_plain]
      exact (blk_cell (blk_new _ _) 0).trans rfl
    | succ j => simp at hu
  · intro hroom j hj
    simp at hj
    subst hj
    have e1 : W.heap.size + 0 = W.heap.size := rfl
    simp only [Nat.mul_one, Nat.zero_add, Nat.add_zero]
    constructor
    · simp only [World.cell?, hat, hnew]
      have : s.size < (Lib.bytesCells W 5 s).size := by rw [hcs]; omega
      simp [this]
    · simp only [World.frozen?, hat, hnew, Bool.and_eq_false_iff, decide_eq_false_iff_not]
      left
      rw [hcs]
      omega
  · intro hroom
    have hsome : (((Lib.bytesWorld W 5 s).alloc (.cells #[.int .u8 0] 5)).cell? ⟨W.heap.size, s.size, none⟩).isSome = true := by
      simp only [World.cell?, hat, hnew]
      have : s.size < (Lib.bytesCells W 5 s).size := by rw [hcs]; omega
      simp [this]
    refine hK (some ⟨W.heap.size, 0, none⟩) _ _ hroom ?_ ?_
    · simp only [Nat.mul_one, Nat.zero_add, World.setCells]
      refine bytes_C s _ W.heap.size 0 0 (by omega) (fun j hj => ?_) ?_
      · refine (World.cell?_setCell_other _ _ _ _ (fun e => ?_)).trans (hcell j hj)
        have e2 := congrArg Addr.off e
        simp only at e2
        omega
      · exact World.cell?_setCell_same' _ _ _ hsome
    · simp only [Nat.mul_one, Nat.zero_add, World.setCells]
      exact hb0.setCell (Nat.le_refl _) _
  · intro hgrow v' w' ho' hg
    have hb1 : Below W.heap.size W w' := hb0.grown hg (by rw [show ((Lib.bytesWorld W 5 s).alloc (.cells #[.int .u8 0] 5)).heap.size = W.heap.size + 1 + 1 by simp [Lib.bytesWorld_size]]; omega) (fun k hk => by simp at hk)
    have hr : Kd.R (Kd.int .u8) 5 w' _ (fun _ => True) v' (bytesOf s ++ [0]) := Kd.R_of_own (by rw [hlen]; simpa [encs] using ho') (fun _ _ => trivial)
    obtain ⟨A, c, rfl, hc, hC⟩ := Kd.R_reads hr
    rw [hlen] at hc hC ⊢
    exact hK A c w' hc hC hb1
end Go.Proofs.Ytkopmkinlanhoaa.PE

namespace Go.Proofs.Ytkopmkinlanhoaa.PE
open Go.RowKit Go.Proofs.YtkopmkinlanhoaaW.PrintWords Go.Proofs.YtkopmkinlanhoaaW.PrintLast Go.Proofs.YtkopmkinlanhoaaW.PrintMore
attribute [local go_sem] max2_int min2_int max_two min_two max_three min_three max_four min_four
set_option linter.unusedVariables false
set_option linter.unusedSimpArgs false
abbrev WSt := List Int × List Int × List (ByteArray × Int)
def totW (s : WSt) : Nat := s.1.length + s.2.1.length + s.2.2.length
def capW (s : WSt) : Option WSt := if totW s ≤ 549755813888 then some s else none
theorem capW_some {s r : WSt} (h : capW s = some r) : r = s ∧ totW s ≤ 549755813888 := by
  unfold capW at h
  split at h
  · next h1 => injection h with h; exact ⟨h.symm, h1⟩
  · simp at h
def wCell (v : Int) (s : WSt) : WSt := (s.1 ++ cellB v, s.2.1, s.2.2)
def wBytes (l : List Int) (s : WSt) : WSt := (s.1 ++ l ++ padW l, s.2.1, s.2.2)
def wText (x : ByteArray) (s : WSt) : WSt := (s.1, textT s.2.1 s.2.2 x, textH s.2.1 s.2.2 x)
def wOpen (a : ByteArray) (s : WSt) : WSt := wBytes (bytesOf a ++ [0]) (wCell 1 s)
def wProp (p : S63) (s : WSt) : WSt := wBytes p.f1 (wCell (textAt s.2.1 s.2.2 p.f0 % 4294967296) (wText p.f0 (wCell ((p.f1.length : Int) % 4294967296) (wCell 3 s))))
mutual
def wrP : Nat → List S63 → Int → List S27 → WSt → Option WSt
  | 0, _, _, _, _ => none
  | k + 1, ps, i, ks, s => if i < (ps.length : Int) then (if 0 ≤ i then (if (rd_T63 ps i).f0.size ≤ 549755813888 then capW (wProp (rd_T63 ps i) s) else none).bind fun s2 => wrP k ps (wrap64 (i + 1)) ks s2 else none) else wrK k ks 0 s
def wrK : Nat → List S27 → Int → WSt → Option WSt
  | 0, _, _, _ => none
  | k + 1, ks, i, s => if i < (ks.length : Int) then (if 0 ≤ i then (wrN k (rd_T27 ks i) s).bind fun s2 => wrK k ks (wrap64 (i + 1)) s2 else none) else capW (wCell 2 s)
def wrN : Nat → S27 → WSt → Option WSt
  | 0, _, _ => none
  | k + 1, x, s => (capW (wOpen x.f0 s)).bind fun s2 => wrP k x.f1 0 x.f2 s2
end
def WrT (w0 W : World) (g mb : Nat) (s : WSt) : Prop := ∃ vb vt, WrS w0 W g mb vb vt s.1 s.2.1 s.2.2
theorem WrT.below {w0 W W2 : World} {g mb : Nat} {s : WSt} (h : WrT w0 W g mb s) (hb : Below W.heap.size W W2) : WrT w0 W2 g mb s := by
  obtain ⟨vb, vt, h⟩ := h
  exact ⟨vb, vt, h.below hb⟩
theorem step_cell (v : Int) (g mb : Nat) (w0 W : World) (s : WSt) (h0 : 0 ≤ v) (h1 : v < 4294967296) (h : WrT w0 W g mb s) (hl : totW (wCell v s) ≤ 1099511627776) :
    Calls Try.prog 49 #[.pointer (some ⟨g, 0, none⟩), .int .u32 v] W fun e w' => e = .returned (.tuple #[]) ∧ WrT w0 w' g mb (wCell v s) ∧ KeptT W w' := by
  obtain ⟨vb, vt, h⟩ := h
  refine (writer_cell.calls v g mb w0 W vb vt _ _ _ h0 h1 h (by simp [totW, wCell] at hl; omega)).mono ?_
  rintro e w' ⟨rfl, vb2, vt2, h2, hk⟩
  exact ⟨rfl, ⟨vb2, vt2, h2⟩, hk⟩
theorem step_bytes (A : Option Addr) (c : Nat) (l : List Int) (g mb : Nat) (w0 W : World) (s : WSt) (hC : Kd.C (Kd.int .u8) W A l.length l) (h : WrT w0 W g mb s) (hl : totW (wBytes l s) ≤ 1099511627776) :
    Calls Try.prog 74 #[.pointer (some ⟨g, 0, none⟩), .slice A l.length c] W fun e w' => e = .returned (.tuple #[]) ∧ WrT w0 w' g mb (wBytes l s) ∧ KeptT W w' := by
  obtain ⟨vb, vt, h⟩ := h
  refine (writer_bytes.calls A c l g mb w0 W vb vt _ _ _ hC h (by simp [totW, wBytes] at hl; omega)).mono ?_
  rintro e w' ⟨rfl, vb2, vt2, h2, hk⟩
  exact ⟨rfl, ⟨vb2, vt2, h2⟩, hk⟩
theorem totW_cell (v : Int) (s : WSt) : totW (wCell v s) = totW s + 4 := by simp [totW, wCell, cellB_length]; omega
theorem totW_bytes (l : List Int) (s : WSt) : totW (wBytes l s) = totW s + l.length + (padW l).length := by simp [totW, wBytes]; omega
theorem totW_text (x : ByteArray) (s : WSt) : totW s ≤ totW (wText x s) := by
  simp only [totW, wText, textT, textH]
  split <;> simp <;> omega
theorem step_text (x : ByteArray) (g mb : Nat) (w0 W : World) (s : WSt) (T : List Int) (hs : List (ByteArray × Int)) (hT : s.2.1 = T) (hH : s.2.2 = hs) (h : WrT w0 W g mb s) (hl : totW s + x.size ≤ 1099511627776) :
    Calls Try.prog 75 #[.pointer (some ⟨g, 0, none⟩), .string x] W fun e w' => e = .returned (.int .i64 (textAt T hs x)) ∧ WrT w0 w' g mb (wText x s) ∧ KeptT W w' := by
  subst hT hH
  obtain ⟨vb, vt, h⟩ := h
  refine (writer_text.calls x g mb w0 W vb vt _ _ _ h (by simp [totW] at hl; omega) (by simp [totW] at hl; omega)).mono ?_
  rintro e w' ⟨rfl, vb2, vt2, h2, hk⟩
  exact ⟨rfl, ⟨vb2, vt2, h2⟩, hk⟩
end Go.Proofs.Ytkopmkinlanhoaa.PE

namespace Go.Proofs.Ytkopmkinlanhoaa.PE
open Go.RowKit Go.Proofs.YtkopmkinlanhoaaW.PrintWords Go.Proofs.YtkopmkinlanhoaaW.PrintLast Go.Proofs.YtkopmkinlanhoaaW.PrintMore
attribute [local go_sem] max2_int min2_int max_two min_two max_three min_three max_four min_four
set_option linter.unusedVariables false
set_option linter.unusedSimpArgs false
theorem WrT.bel {w0 W : World} {g mb : Nat} {s : WSt} (h : WrT w0 W g mb s) : Below w0.heap.size w0 W := by
  obtain ⟨_, _, hh⟩ := h
  exact hh.bel
attribute [local irreducible] Go.Calls in
set_option maxRecDepth 100000 in
set_option maxHeartbeats 8000000 in
theorem writer_node.calls (g mb : Nat) (w0 : World) (k : Nat) : ∀ (a0 : ByteArray) (A1 : Option Addr) (c1 : Nat) (l1 : List S63) (A2 : Option Addr) (c2 : Nat) (l2 : List S27) (s r : WSt) (W : World)
    (hr1 : Kd.C k63 w0 A1 l1.length l1) (hr2 : Kd.C k27 w0 A2 l2.length l2) (hS : WrT w0 W g mb s) (h : wrN k ⟨a0, l1, l2⟩ s = some r),
    Calls Try.prog 48 #[.pointer (some ⟨g, 0, none⟩), .agg #[.string a0, .slice A1 l1.length c1, .slice A2 l2.length c2]] W fun e w' => e = .returned (.tuple #[]) ∧ WrT w0 w' g mb r ∧ KeptT W w' := by
  induction k using Nat.strongRecOn with
  | _ k ih =>
  intro a0 A1 c1 l1 A2 c2 l2 s r W hr1 hr2 hS h
  cases k with
  | zero => simp [wrN] at h
  | succ k =>
  simp only [wrN] at h
  obtain ⟨s2, hs2, h⟩ := Option.bind_eq_some_iff.mp h
  obtain ⟨rfl, hcap⟩ := capW_some hs2
  have HCAP := Aside0.mk hcap
  have IH := Aside0.mk ih
  have HR1 := Aside0.mk hr1
  have HR2 := Aside0.mk hr2
  have H' := Aside0.mk h
  have hu27 := Try.underlying27
  have hu63 := Try.underlying63
  have hb0 : Below W.heap.size W (W.alloc (.cells #[.string a0, .slice A1 l1.length c1, .slice A2 l2.length c2] 27)) := below_alloc (Below.refl _ _) _
  have HW := Aside0.mk (hS.below hb0)
  have HK := Aside0.mk (KeptT.of_below hb0)
  have BX : Aside0 ((W.alloc (.cells #[.string a0, .slice A1 l1.length c1, .slice A2 l2.length c2] 27)).heap[W.heap.size]? = some (Obj.cells #[.string a0, .slice A1 l1.length c1, .slice A2 l2.length c2] 27 (0, 0))) := ⟨blk_new _ _⟩
  have kb := fun W : World => print_bytes (P := Try.prog) 9 45 5 Try.underlying9 Try.underlying45 Try.underlying5 a0 W
  have hT : totW (wCell 1 s) + (a0.size + 1) ≤ 549755813888 := by
    have := hcap
    simp only [wOpen, totW_bytes, List.length_append, bytesOf_length] at this
    simp at this
    omega
  have HT := Aside0.mk hT
  obtain ⟨nm, hnm⟩ : ∃ nm, nm = bytesOf a0 ++ [0] := ⟨_, rfl⟩
  have HNM := Aside0.mk hnm
  clear ih hs2 hcap hr1 hr2 hS h hb0 hT hnm
  go_enter Try.func48, Try.ntmps48
  go_wp2_with (first | (go_at_call 49; refine (step_cell 1 g mb w0 _ s (by decide) (by decide) HW.out (by have := HT.out; omega)).mono ?_; rintro e w1 ⟨rfl, n1_, n2_⟩; have BX := Aside0.mk (n2_.2 _ _ _ BX.out (by decide) (by decide)); have q0 := (blk_cell BX.out 0).trans rfl; have q1 := (blk_cell BX.out 1).trans rfl; have q2 := (blk_cell BX.out 2).trans rfl; have HK := Aside0.mk (HK.out.trans n2_); have HW := Aside0.mk n1_; clear n1_ n2_) | ((with_reducible refine gate_builtin (b := .append) (xs := #[.tmp 13, .tmp 14]) rfl ?_); at_builtin; refine wpList_name w1 a0 rfl (.tmp 13) (.tmp 14) rfl rfl rfl (by have := HT.out; omega) ?_; intro An cn w2 hcn hCn hbn; rw [← HNM.out] at hCn ⊢; have HCN := Aside0.mk hCn; have BX := Aside0.mk (blk_below BX.out hbn); have HK := Aside0.mk (HK.out.below hbn); have HW := Aside0.mk (HW.out.below hbn); clear hcn hCn hbn q0 q1 q2) | (go_at_call 74; refine (step_bytes An cn nm g mb w0 _ (wCell 1 s) HCN.out HW.out (by have := HCAP.out; unfold wOpen at this; rw [← HNM.out] at this; omega)).mono ?_; rintro e w3 ⟨rfl, n1_, n2_⟩; have BX := Aside0.mk (n2_.2 _ _ _ BX.out (by decide) (by decide)); have q0 := (blk_cell BX.out 0).trans rfl; have q1 := (blk_cell BX.out 1).trans rfl; have q2 := (blk_cell BX.out 2).trans rfl; have HK := Aside0.mk (HK.out.trans n2_); have HW := Aside0.mk n1_; clear n1_ n2_))
  have HW : Aside0 (WrT w0 w3 g mb (wOpen a0 s)) := ⟨by have h5 := HW.out; rw [HNM.out] at h5; exact h5⟩
  generalize wOpen a0 s = s1 at H' HW
  clear HCAP HNM HT HCN
  go_loopg [20] k (fun kq v20 w' => ∃ (i : Int) (s2 : WSt), v20 = .int .i64 i ∧ Aside0 (wrP kq l1 i l2 s2 = some r) ∧ Aside0 (kq ≤ k) ∧ Aside0 (w'.heap[W.heap.size]? = some (Obj.cells #[.string a0, .slice A1 l1.length c1, .slice A2 l2.length c2] 27 (0, 0))) ∧ Aside0 (KeptT W w') ∧ Aside0 (WrT w0 w' g mb s2))
  case atStart => exact ⟨0, s1, rfl, H', ⟨Nat.le_refl _⟩, BX, HK, HW⟩
  case round =>
    clear H' BX HK HW q0 q1 q2 kb
    obtain ⟨i, s2, rfl, HA, HK1, BXr, HKr, HWr⟩ := hrel
    cases gk with
    | zero => exact absurd HA.out (by simp [wrP])
    | succ k1 =>
      have H := HA.out
      clear HA
      simp only [wrP] at H
      by_cases c5 : i < (l1.length : Int)
      · rw [if_pos c5] at H
        have c5b0 : decide (i < (l1.length : Int)) = true := decide_eq_true c5
        by_cases c6 : 0 ≤ i
        · rw [if_pos c6] at H
          obtain ⟨ad, Ap, cp, e405, hx0, hx1, hlp, hip⟩ := at_T63 HR1.out i c6 c5
          cases e405
          have hbw : Below w0.heap.size w0 wr := by obtain ⟨_, _, hh⟩ := HWr.out; exact hh.bel
          replace hx0 := (hbw.cell (World.block_lt_of_cell? w0 _ hx0)).trans hx0
          replace hx1 := (hbw.cell (World.block_lt_of_cell? w0 _ hx1)).trans hx1
          generalize rd_T63 l1 i = p at H hx0 hx1 hlp hip
          have c6b0 : decide (0 ≤ i) = true := decide_eq_true c6
          have p405 : (0 ≤ i) = True := eq_true c6
          have q405 : (i < (l1.length : Int)) = True := eq_true c5
          obtain ⟨s3, hs3, H⟩ := Option.bind_eq_some_iff.mp H
          by_cases c9 : p.f0.size ≤ 549755813888
          · rw [if_pos c9] at hs3
            obtain ⟨rfl, hcap⟩ := capW_some hs3
            have hT1 : totW s2 + 8 ≤ 549755813888 ∧ totW (wText p.f0 (wCell ((p.f1.length : Int) % 4294967296) (wCell 3 s2))) + 4 + p.f1.length + (padW p.f1).length ≤ 549755813888 := by
              have h6 := totW_text p.f0 (wCell ((p.f1.length : Int) % 4294967296) (wCell 3 s2))
              have h7 := hcap
              simp only [wProp, totW_bytes, totW_cell] at h7 h6 ⊢
              omega
            have HT := Aside0.mk hT1
            have H' := Aside0.mk H
            have HIP := Aside0.mk hip
            have HC9 := Aside0.mk c9
            have hbp : Below wr.heap.size wr (wr.alloc (.cells #[.string p.f0, .slice Ap p.f1.length cp] 63)) := below_alloc (Below.refl _ _) _
            have HW := Aside0.mk (HWr.out.below hbp)
            have HK := Aside0.mk (HKr.out.below hbp)
            have BX := Aside0.mk (blk_below BXr.out hbp)
            have BP : Aside0 ((wr.alloc (.cells #[.string p.f0, .slice Ap p.f1.length cp] 63)).heap[wr.heap.size]? = some (Obj.cells #[.string p.f0, .slice Ap p.f1.length cp] 63 (0, 0))) := ⟨blk_new _ _⟩
            clear c9 hs3 hcap hT1 H hip hbp HWr HKr BXr c5 c6 hlp hbw
            go_wp2_with (first | (go_at_call 49; refine (step_cell _ g mb w0 _ _ ?cA ?cB HW.out ?cC).mono ?_; (case cA => first | decide | exact Int.emod_nonneg _ (by decide)); (case cB => first | decide | exact Int.emod_lt_of_pos _ (by decide)); (case cC => have := HT.out; simp only [totW_cell]; omega); rintro e w4 ⟨rfl, n1_, n2_⟩; have BX := Aside0.mk (n2_.2 _ _ _ BX.out (by decide) (by decide)); have BP := Aside0.mk (n2_.2 _ _ _ BP.out (by decide) (by decide)); have q3 := (blk_cell BP.out 0).trans rfl; have q4 := (blk_cell BP.out 1).trans rfl; have HK := Aside0.mk (HK.out.trans n2_); have HW := Aside0.mk n1_; clear n1_ n2_) | (go_at_call 75; refine (step_text p.f0 g mb w0 _ (wCell ((p.f1.length : Int) % 4294967296) (wCell 3 s2)) s2.2.1 s2.2.2 rfl rfl HW.out ?cC).mono ?_; (case cC => have := HT.out; have := HC9.out; simp only [totW_cell]; omega); rintro e w5 ⟨rfl, n1_, n2_⟩; have BX := Aside0.mk (n2_.2 _ _ _ BX.out (by decide) (by decide)); have BP := Aside0.mk (n2_.2 _ _ _ BP.out (by decide) (by decide)); have q3 := (blk_cell BP.out 0).trans rfl; have q4 := (blk_cell BP.out 1).trans rfl; have HK := Aside0.mk (HK.out.trans n2_); have HW := Aside0.mk n1_; clear n1_ n2_) | (go_at_call 74; refine (step_bytes Ap cp p.f1 g mb w0 _ _ (Kd.C_below HIP.out HW.out.bel) HW.out ?cC).mono ?_; (case cC => have := HT.out; simp only [totW_bytes, totW_cell]; omega); rintro e w6 ⟨rfl, n1_, n2_⟩; have BX := Aside0.mk (n2_.2 _ _ _ BX.out (by decide) (by decide)); have BP := Aside0.mk (n2_.2 _ _ _ BP.out (by decide) (by decide)); have q3 := (blk_cell BP.out 0).trans rfl; have q4 := (blk_cell BP.out 1).trans rfl; have HK := Aside0.mk (HK.out.trans n2_); have HW := Aside0.mk n1_; clear n1_ n2_))
            go_roundg k1
            case measure => have := HK1.out; omega
            case rel => exact ⟨wrap64 (i + 1), _, rfl, H', ⟨by have := HK1.out; omega⟩, BX, HK, HW⟩
          · rw [if_neg c9] at hs3
            exact absurd hs3 (by simp)
        · rw [if_neg c6] at H
          exact absurd H (by simp)
      · rw [if_neg c5] at H
        have c5b0 : decide (i < (l1.length : Int)) = false := decide_eq_false c5
        have H' := Aside0.mk H
        have q0 := (blk_cell BXr.out 0).trans rfl
        have q1 := (blk_cell BXr.out 1).trans rfl
        have q2 := (blk_cell BXr.out 2).trans rfl
        clear H c5
        go_wp2
        go_loopg [47] k1 (fun kq v47 w' => ∃ (j : Int) (s3 : WSt), v47 = .int .i64 j ∧ Aside0 (wrK kq l2 j s3 = some r) ∧ Aside0 (kq ≤ k1) ∧ Aside0 (w'.heap[W.heap.size]? = some (Obj.cells #[.string a0, .slice A1 l1.length c1, .slice A2 l2.length c2] 27 (0, 0))) ∧ Aside0 (KeptT W w') ∧ Aside0 (WrT w0 w' g mb s3))
        case atStart => exact ⟨0, s2, rfl, H', ⟨Nat.le_refl _⟩, BXr, HKr, HWr⟩
        case round =>
          clear H' q0 q1 q2 BXr HKr HWr c5b0
          obtain ⟨j, s3, rfl, HA, HK2, BXq, HKq, HWq⟩ := hrel
          cases gk with
          | zero => exact absurd HA.out (by simp [wrK])
          | succ k2 =>
            have H := HA.out
            clear HA
            simp only [wrK] at H
            by_cases c7 : j < (l2.length : Int)
            · rw [if_pos c7] at H
              have c7b0 : decide (j < (l2.length : Int)) = true := decide_eq_true c7
              by_cases c8 : 0 ≤ j
              · rw [if_pos c8] at H
                obtain ⟨s4, hs4, H⟩ := Option.bind_eq_some_iff.mp H
                obtain ⟨ad, Ap, cp, Aq, cq, e407, hx0, hx1, hx2, hlp, hip, hlq, hiq⟩ := at_T27 HR2.out j c8 c7
                cases e407
                have hbw : Below w0.heap.size w0 wr := HWq.out.bel
                replace hx0 := (hbw.cell (World.block_lt_of_cell? w0 _ hx0)).trans hx0
                replace hx1 := (hbw.cell (World.block_lt_of_cell? w0 _ hx1)).trans hx1
                replace hx2 := (hbw.cell (World.block_lt_of_cell? w0 _ hx2)).trans hx2
                generalize rd_T27 l2 j = x at hs4 hx0 hx1 hx2 hlp hip hlq hiq
                obtain ⟨xa, xp, xk⟩ := x
                dsimp only at hx0 hx1 hx2 hlp hip hlq hiq
                have c8b0 : decide (0 ≤ j) = true := decide_eq_true c8
                have p405 : (0 ≤ j) = True := eq_true c8
                have q405 : (j < (l2.length : Int)) = True := eq_true c7
                have H' := Aside0.mk H
                have hbp : Below wr.heap.size wr (wr.alloc (.cells #[.string xa, .slice Ap xp.length cp, .slice Aq xk.length cq] 27)) := below_alloc (Below.refl _ _) _
                have HQ := Aside0.mk (IH.out k2 (by have := HK1.out; have := HK2.out; omega) xa Ap cp xp Aq cq xk s3 s4 _ hip hiq (HWq.out.below hbp) hs4)
                have HK := Aside0.mk (HKq.out.below hbp)
                have BX := Aside0.mk (blk_below BXq.out hbp)
                clear hs4 H hip hiq hbp HWq HKq BXq c7 c8 hlp hlq hbw
                go_wp2_with (go_at_call 48; refine HQ.out.mono ?_; rintro e w4 ⟨rfl, n1_, n2_⟩; have BX := Aside0.mk (n2_.2 _ _ _ BX.out (by decide) (by decide)); have HK := Aside0.mk (HK.out.trans n2_); have HW := Aside0.mk n1_; clear n1_ n2_)
                go_roundg k2
                case measure => have := HK1.out; have := HK2.out; omega
                case rel => exact ⟨wrap64 (j + 1), _, rfl, H', ⟨by have := HK1.out; have := HK2.out; omega⟩, BX, HK, HW⟩
              · rw [if_neg c8] at H
                exact absurd H (by simp)
            · rw [if_neg c7] at H
              have c7b0 : decide (j < (l2.length : Int)) = false := decide_eq_false c7
              obtain ⟨rfl, hcap⟩ := capW_some H
              have HCP := Aside0.mk hcap
              clear H hcap c7
              go_wp2_with (go_at_call 49; refine (step_cell 2 g mb w0 _ s3 (by decide) (by decide) HWq.out (by have := HCP.out; omega)).mono ?_; rintro e w5 ⟨rfl, n1_, n2_⟩; have HK := Aside0.mk (HKq.out.trans n2_); have HW := Aside0.mk n1_; clear n1_ n2_)
              first | go_end0 | ((try simp only [Exit.inBlock, Exit.then]); refine bodyPost_ret (results_none rfl _ _ _) rfl ?_)
              exact ⟨rfl, HW.out, HK.out⟩
end Go.Proofs.Ytkopmkinlanhoaa.PE

namespace Go.Proofs.Ytkopmkinlanhoaa.PE
open Go.RowKit Go.Proofs.YtkopmkinlanhoaaW.PrintWords Go.Proofs.YtkopmkinlanhoaaW.PrintLast Go.Proofs.YtkopmkinlanhoaaW.PrintMore
attribute [local go_sem] max2_int min2_int max_two min_two max_three min_three max_four min_four
set_option linter.unusedVariables false
set_option linter.unusedSimpArgs false
theorem R_cut0 {W : World} {base : Nat} {ok : Nat → Prop} {A : Option Addr} {n c : Nat} {xs : List Int} (h : Kd.R (Kd.int .u8) 5 W base ok (.slice A n c) xs) : Kd.R (Kd.int .u8) 5 W base ok (.slice A 0 c) [] := by
  have h0 := h.1
  obtain ⟨_, ho⟩ := Kd.own_of_R h
  refine Kd.R_of_own ⟨by simp [encs], ?_⟩ (fun k hk => ?_)
  · rcases ho with ⟨hv, hn⟩ | ⟨g, cap, cur, hv, hb, hg, hnc, hcm, hcs, htake⟩
    · left
      injection hv with e1 e2 e3
      subst e1 e3
      exact ⟨rfl, rfl⟩
    · right
      injection hv with e1 e2 e3
      subst e1 e3
      exact ⟨g, _, cur, rfl, hb, hg, Nat.zero_le _, hcm, hcs, by simp [encs]⟩
  · refine h0 k ?_
    cases A with
    | none => simp [Value.ownBlock] at hk
    | some a => simpa [Value.ownBlock] using hk
set_option maxRecDepth 100000 in
set_option maxHeartbeats 2000000 in
theorem grow_nil.calls (n : Int) (W : World) (h0 : 0 < n) (h1 : n ≤ 1099511627776) :
    Calls Try.prog 77 #[.slice none 0 0, .int .i64 n] W fun e w' => ∃ v : Value, e = .returned v ∧ Kd.R (Kd.int .u8) 5 w' W.heap.size (fun _ => True) v [] ∧ Below W.heap.size W w' := by
  have d0 : decide (n < 0) = false := decide_eq_false (by omega)
  have d1 : decide (0 < n) = true := decide_eq_true (by omega)
  have s0 : IntKind.i64.wrap n = n := by rw [i64_w]; unfold Go.RowKit.wrap64; omega
  have s1 : IntKind.i64.wrap (n - 0) = n := by rw [i64_w]; unfold Go.RowKit.wrap64; omega
  have s2 : Go.RowKit.wrap64 n = n := by unfold Go.RowKit.wrap64; omega
  have H1 := Aside0.mk h1
  have H0 : Aside0 (0 ≤ n) := ⟨by omega⟩
  clear h0 h1
  go_enter Try.func77, Try.ntmps77
  go_wp2_with ((with_reducible refine gate_builtin (b := .append) (xs := #[.tmp 20, .tmp 21]) rfl ?_); at_builtin; refine Kd.R_append_zeros (Kd.int .u8) (w0 := W) W.heap.size rfl (.tmp 20) (.tmp 21) 45 3 5 (.int .u8 0) 1 rfl Try.underlying45 Try.underlying3 info5 rfl (by decide) (by omega) (.slice none 0 0) [] 0 n (fun _ => True) rfl rfl ?aZ (fun _ _ => trivial) (Kd.R_nil _ _ _ _ _) H0.out (Below.refl _ _) (Nat.le_refl _) ?aL ?_; (case aZ => first | exact rfl | simp [Kd.int, Kd.scalar]); (case aL => have := H1.out; have := H0.out; simp; omega); intro v1 w1 ho hb hg hat; obtain ⟨A1, c1, rfl⟩ := Kd.R_slice ho; have HO := Aside0.mk (R_cut0 ho); have HB := Aside0.mk hb; clear ho hb hg hat)
  refine bodyPost_ret (results_tmp rfl _ _ _) rfl ?_
  exact ⟨_, rfl, HO.out, HB.out⟩
theorem take_flat (ls : List (List Int)) (i : Int) (h0 : 0 ≤ i) (h1 : i < ls.length) : (ls.take (i + 1).toNat).flatten = (ls.take i.toNat).flatten ++ rd_L6 ls i := by
  have e : (i + 1).toNat = i.toNat + 1 := by omega
  rw [e, List.take_add_one, List.flatten_append]
  congr 1
  have hlt : i.toNat < ls.length := by omega
  simp [rd_L6, List.getD_eq_getElem?_getD, List.getElem?_eq_getElem hlt]
theorem take_flat_le (ls : List (List Int)) (i : Nat) : (ls.take i).flatten.length ≤ ls.flatten.length := by
  have h : ls.flatten = (ls.take i).flatten ++ (ls.drop i).flatten := by rw [← List.flatten_append, List.take_append_drop]
  rw [h, List.length_append]
  omega
set_option maxRecDepth 100000 in
set_option maxHeartbeats 2000000 in
theorem concat.calls (A : Option Addr) (c : Nat) (ls : List (List Int)) (W : World) (hC : Kd.C (Kd.slice 5 (Kd.int .u8)) W A ls.length ls) (hn : ls.length ≤ 1000) (h0 : 0 < ls.flatten.length) (h1 : ls.flatten.length ≤ 1099511627776) :
    Calls Try.prog 53 #[.slice A ls.length c] W fun e w' => ∃ v : Value, e = .returned v ∧ Kd.R (Kd.int .u8) 5 w' W.heap.size (fun _ => True) v ls.flatten ∧ Below W.heap.size W w' := by
  have HC := Aside0.mk hC
  have HN := Aside0.mk hn
  have H0 := Aside0.mk h0
  have H1 := Aside0.mk h1
  have hu45 := Try.underlying45
  clear hC hn h0 h1
  go_enter Try.func53, Try.ntmps53
  go_wp2
  go_loopg [3, 5, 11] (ls.length + 1) (fun kq v3 v5 v11 w' => ∃ (i : Int), v3 = .int .i64 ((ls.take i.toNat).flatten.length : Int) ∧ v11 = .int .i64 i ∧ Aside0 (i + (kq : Int) = (ls.length : Int) + 1) ∧ Aside0 (0 ≤ i ∧ i ≤ (ls.length : Int)) ∧ Aside0 (Below W.heap.size W w'))
  case atStart => exact ⟨0, rfl, rfl, ⟨by omega⟩, ⟨by omega⟩, ⟨Below.refl _ _⟩⟩
  case round =>
    obtain ⟨i, rfl, rfl, HI, HR, HB⟩ := hrel
    cases gk with
    | zero => exact absurd HI.out (by have := HR.out; omega)
    | succ k1 =>
      by_cases c5 : i < (ls.length : Int)
      · have c6 : 0 ≤ i := HR.out.1
        obtain ⟨ad, Ap, cp, e405, hx0, hlp, hip⟩ := at_L6 HC.out i c6 c5
        cases e405
        replace hx0 := (HB.out.cell (World.block_lt_of_cell? W _ hx0)).trans hx0
        have hf := take_flat ls i c6 c5
        have hfl := take_flat_le ls (i + 1).toNat
        have hfe := congrArg List.length hf
        rw [List.length_append] at hfe
        have hs1 : IntKind.i64.wrap (((ls.take i.toNat).flatten.length : Int) + ((rd_L6 ls i).length : Int)) = ((ls.take (i + 1).toNat).flatten.length : Int) := by
          have := H1.out
          rw [i64_w]
          unfold Go.RowKit.wrap64
          omega
        have hs2 : IntKind.i64.wrap (i + 1) = i + 1 := by
          have := HN.out
          rw [i64_w]
          unfold Go.RowKit.wrap64
          omega
        have hs3 : Go.RowKit.wrap64 (((ls.take i.toNat).flatten.length : Int) + ((rd_L6 ls i).length : Int)) = ((ls.take (i + 1).toNat).flatten.length : Int) := by rw [← i64_w]; exact hs1
        have hs4 : Go.RowKit.wrap64 (i + 1) = i + 1 := by rw [← i64_w]; exact hs2
        have hd : decide (((ls.take (i + 1).toNat).flatten.length : Int) < 0) = false := decide_eq_false (by omega)
        have c5b0 : decide (i < (ls.length : Int)) = true := decide_eq_true c5
        have c6b0 : decide (0 ≤ i) = true := decide_eq_true c6
        have p405 : (0 ≤ i) = True := eq_true c6
        have q405 : (i < (ls.length : Int)) = True := eq_true c5
        have HI2 : Aside0 (i + 1 + (k1 : Int) = (ls.length : Int) + 1) := ⟨by have := HI.out; omega⟩
        have HR2 : Aside0 (0 ≤ i + 1 ∧ i + 1 ≤ (ls.length : Int)) := ⟨by omega⟩
        generalize rd_L6 ls i = l at hx0 hs1 hs3
        clear hf hfl hfe hlp hip c5 c6
        generalize hg1 : ((ls.take i.toNat).flatten.length : Int) = n1 at hs1 hs3
        generalize hg2 : ((ls.take (i + 1).toNat).flatten.length : Int) = n2 at hs1 hs3 hd
        go_wp2
        go_roundg k1
        case measure => omega
        case rel => exact ⟨i + 1, by rw [hg2], rfl, HI2, HR2, HB⟩
      · have hi : i = (ls.length : Int) := by have := HR.out; omega
        subst hi
        have hfull : (ls.take ((ls.length : Int)).toNat).flatten = ls.flatten := by rw [Int.toNat_natCast, List.take_length]
        rw [hfull]
        obtain ⟨n, hn⟩ : ∃ n : Int, n = (ls.flatten.length : Int) := ⟨_, rfl⟩
        rw [← hn]
        have HG := Aside0.mk (grow_nil.calls n wr (by have := H0.out; omega) (by have := H1.out; omega))
        have c5b0 : decide ((ls.length : Int) < (ls.length : Int)) = false := decide_eq_false c5
        clear c5 HI HR hn hfull
        go_wp2_with (go_at_call 77; refine HG.out.mono ?_; rintro e w3 ⟨v6, rfl, hr, hb⟩; obtain ⟨A6, c6, rfl⟩ := Kd.R_slice hr; have HO := Aside0.mk (Kd.R_lower hr HB.out.size); have HB3 := Aside0.mk (below_step HB.out hb); clear hr hb)
        go_loopg [6, 8, 27] (ls.length + 1) (fun kq v6 v8 v27 w' => ∃ (i : Int), v27 = .int .i64 i ∧ Aside0 (i + (kq : Int) = (ls.length : Int) + 1) ∧ Aside0 (0 ≤ i ∧ i ≤ (ls.length : Int)) ∧ Aside0 (Below W.heap.size W w') ∧ Aside0 (Kd.R (Kd.int .u8) 5 w' W.heap.size (fun _ => True) v6 (ls.take i.toNat).flatten))
        case atStart => exact ⟨0, rfl, ⟨by omega⟩, ⟨by omega⟩, HB3, HO⟩
        case round =>
          clear HB HB3 HO HG c5b0
          obtain ⟨i, rfl, HI, HR, HB, HO⟩ := hrel
          cases gk with
          | zero => exact absurd HI.out (by have := HR.out; omega)
          | succ k2 =>
            obtain ⟨Av, cv, rfl⟩ := Kd.R_slice HO.out
            by_cases c5 : i < (ls.length : Int)
            · have c6 : 0 ≤ i := HR.out.1
              obtain ⟨ad, Ap, cp, e405, hx0, hlp, hip⟩ := at_L6 HC.out i c6 c5
              cases e405
              replace hx0 := (HB.out.cell (World.block_lt_of_cell? W _ hx0)).trans hx0
              have hf := take_flat ls i c6 c5
              have hfl := take_flat_le ls (i + 1).toNat
              have hs2 : IntKind.i64.wrap (i + 1) = i + 1 := by
                have := HN.out
                rw [i64_w]
                unfold Go.RowKit.wrap64
                omega
              have hs4 : Go.RowKit.wrap64 (i + 1) = i + 1 := by rw [← i64_w]; exact hs2
              have c5b0 : decide (i < (ls.length : Int)) = true := decide_eq_true c5
              have c6b0 : decide (0 ≤ i) = true := decide_eq_true c6
              have p405 : (0 ≤ i) = True := eq_true c6
              have q405 : (i < (ls.length : Int)) = True := eq_true c5
              have HI2 : Aside0 (i + 1 + (k2 : Int) = (ls.length : Int) + 1) := ⟨by have := HI.out; omega⟩
              have HR2 : Aside0 (0 ≤ i + 1 ∧ i + 1 ≤ (ls.length : Int)) := ⟨by omega⟩
              have hL : ((ls.take i.toNat).flatten.length + (rd_L6 ls i).length) * 1 ≤ 140737488355328 := by
                have := H1.out
                have h5 := congrArg List.length hf
                rw [List.length_append] at h5
                omega
              have HL := Aside0.mk hL
              have HF := Aside0.mk hf
              generalize rd_L6 ls i = l at hx0 hip HF HL
              have HIP := Aside0.mk (Kd.C_below hip HB.out)
              clear hf hfl hlp hip c5 c6 hL
              obtain ⟨x6, hx6⟩ : ∃ x6, x6 = (ls.take i.toNat).flatten := ⟨_, rfl⟩
              rw [← hx6] at HO HF HL ⊢
              clear hx6
              go_wp2_with ((with_reducible refine gate_builtin (b := .append) (xs := #[.tmp 31, .tmp 32]) rfl ?_); at_builtin; refine Kd.R_append_rows (Kd.int .u8) (w0 := W) W.heap.size rfl (.tmp 31) (.tmp 32) 45 5 (.int .u8 0) 1 rfl Try.underlying45 info5 rfl (by decide) (by omega) _ x6 l _ _ _ (fun _ => True) (fun _ => False) rfl rfl HO.out ?aR (fun _ _ h => h) (fun _ h => h.elim) (fun _ _ => trivial) HB.out HB.out.size HL.out ?_; (case aR => exact HIP.out); intro v9 w9 ho hb hg hat; have HO9 := Aside0.mk ho; have HB9 := Aside0.mk hb; clear ho hb hg hat)
              go_roundg k2
              case measure => omega
              case rel => exact ⟨i + 1, rfl, HI2, HR2, HB9, ⟨by rw [HF.out]; exact HO9.out⟩⟩
            · have hi : i = (ls.length : Int) := by have := HR.out; omega
              subst hi
              have hfull : (ls.take ((ls.length : Int)).toNat).flatten = ls.flatten := by rw [Int.toNat_natCast, List.take_length]
              rw [hfull] at HO ⊢
              have HO2 := HO
              have c5b0 : decide ((ls.length : Int) < (ls.length : Int)) = false := decide_eq_false c5
              clear c5 HI HR hfull HO
              go_wp2
              refine bodyPost_ret (results_tmp rfl _ _ _) rfl ?_
              exact ⟨_, rfl, HO2.out, HB.out⟩
end Go.Proofs.Ytkopmkinlanhoaa.PE

namespace Go.Proofs.Ytkopmkinlanhoaa.PE
open Go.RowKit Go.Proofs.YtkopmkinlanhoaaW.PrintWords Go.Proofs.YtkopmkinlanhoaaW.PrintLast Go.Proofs.YtkopmkinlanhoaaW.PrintMore
attribute [local go_sem] max2_int min2_int max_two min_two max_three min_three max_four min_four
set_option linter.unusedVariables false
set_option linter.unusedSimpArgs false
def cell8 (v : Int) : List Int := cellB (v / 4294967296) ++ cellB v
def resB (l : List S82) : List Int := (l.map fun x => cell8 x.f0 ++ cell8 x.f1).flatten
def headV (total structure_ texts_ boot tl bl : Int) : List Int := [3490578157, total, structure_, texts_, 40, 17, 16, boot, tl, bl]
def headB (vs : List Int) : List Int := (vs.map fun v => cellB (v % 4294967296)).flatten
theorem resB_length (l : List S82) : (resB l).length = 16 * l.length := by
  induction l with
  | nil => rfl
  | cons x r ih =>
    simp only [resB, List.map_cons, List.flatten_cons, List.length_append, List.length_cons] at ih ⊢
    rw [ih]
    simp [cell8, cellB_length]
    omega
theorem take_res (ls : List S82) (i : Int) (h0 : 0 ≤ i) (h1 : i < ls.length) : resB (ls.take (i + 1).toNat) = resB (ls.take i.toNat) ++ cell8 (rd_T82 ls i).f0 ++ cell8 (rd_T82 ls i).f1 := by
  have e : (i + 1).toNat = i.toNat + 1 := by omega
  have hlt : i.toNat < ls.length := by omega
  simp only [resB]
  rw [e, List.take_add_one, List.map_append, List.flatten_append, List.append_assoc]
  congr 1
  simp [rd_T82, List.getD_eq_getElem?_getD, List.getElem?_eq_getElem hlt]
theorem ints_C (W : World) (b : Nat) (t : Nat) (vs : List Int) (h : W.heap[b]? = some (.cells (vs.map (Value.int .i64)).toArray t (0, 0))) (hl : vs.length ≤ 1000) : Kd.C (Kd.int .i64) W (some ⟨b, 0, none⟩) vs.length vs := by
  refine Kd.C_of_reads (d := (0 : Int)) ⟨rfl, by omega, fun _ => ⟨_, rfl, fun j hj => ?_⟩⟩
  rw [add_plain, blk_cell h j]
  simp [List.getD_eq_getElem?_getD, hj]
theorem headB_length (l : List Int) : (headB l).length = 4 * l.length := by
  induction l with
  | nil => rfl
  | cons x r ih =>
    simp only [headB, List.map_cons, List.flatten_cons, List.length_append, List.length_cons] at ih ⊢
    rw [ih, cellB_length]
    omega
theorem take_head (ls : List Int) (i : Int) (h0 : 0 ≤ i) (h1 : i < ls.length) : headB (ls.take (i + 1).toNat) = headB (ls.take i.toNat) ++ cellB (rd ls i % 4294967296) := by
  have e : (i + 1).toNat = i.toNat + 1 := by omega
  have hlt : i.toNat < ls.length := by omega
  simp only [headB]
  rw [e, List.take_add_one, List.map_append, List.flatten_append]
  congr 1
  simp [rd, List.getD_eq_getElem?_getD, List.getElem?_eq_getElem hlt]
theorem four_C (W : World) (b t : Nat) (A1 A2 A3 A4 : Option Addr) (c1 c2 c3 c4 : Nat) (l1 l2 l3 l4 : List Int) (h : W.heap[b]? = some (.cells #[.slice A1 l1.length c1, .slice A2 l2.length c2, .slice A3 l3.length c3, .slice A4 l4.length c4] t (0, 0)))
    (h1 : Kd.C (Kd.int .u8) W A1 l1.length l1) (k1 : l1.length ≤ c1) (h2 : Kd.C (Kd.int .u8) W A2 l2.length l2) (k2 : l2.length ≤ c2) (h3 : Kd.C (Kd.int .u8) W A3 l3.length l3) (k3 : l3.length ≤ c3) (h4 : Kd.C (Kd.int .u8) W A4 l4.length l4) (k4 : l4.length ≤ c4) :
    Kd.C (Kd.slice 5 (Kd.int .u8)) W (some ⟨b, 0, none⟩) 4 [l1, l2, l3, l4] := by
  refine ⟨rfl, by decide, fun _ => ⟨_, rfl, fun j p hj => ?_⟩⟩
  have key : ∀ (A : Option Addr) (c : Nat), p.length ≤ c → Kd.C (Kd.int .u8) W A p.length p → W.cell? ⟨b, j, none⟩ = some (.slice A p.length c) → ∃ cs : List Value, cs.length = (Kd.slice 5 (Kd.int .u8)).sz ∧ (Kd.slice 5 (Kd.int .u8)).K W p cs ∧ ∀ (i : Nat) (u : Value), cs[i]? = some u → W.cell? ((⟨b, 0, none⟩ : Addr).add (j * (Kd.slice 5 (Kd.int .u8)).sz + i)) = some u := by
    intro A c hc hC hq
    refine ⟨[.slice A p.length c], rfl, ⟨A, c, rfl, hc, hC⟩, fun i u hu => ?_⟩
    cases i with
    | succ i => simp at hu
    | zero =>
      have hu2 : Value.slice A p.length c = u := by simpa using hu
      rw [← hu2, show (Kd.slice 5 (Kd.int .u8)).sz = 1 from rfl, Nat.mul_one, Nat.add_zero, add_plain]
      exact hq
  match j with
  | 0 =>
    obtain rfl : l1 = p := by simpa using hj
    exact key A1 c1 k1 h1 ((blk_cell h 0).trans rfl)
  | 1 =>
    obtain rfl : l2 = p := by simpa using hj
    exact key A2 c2 k2 h2 ((blk_cell h 1).trans rfl)
  | 2 =>
    obtain rfl : l3 = p := by simpa using hj
    exact key A3 c3 k3 h3 ((blk_cell h 2).trans rfl)
  | 3 =>
    obtain rfl : l4 = p := by simpa using hj
    exact key A4 c4 k4 h4 ((blk_cell h 3).trans rfl)
  | j + 4 => simp at hj
def encF (a0 : Int) (l1 : List S82) (s : WSt) : List Int × Int :=
  if 40 + (resB (l1 ++ [⟨0, 0⟩])).length + s.1.length + s.2.1.length > 1048576 then ([], 7)
  else (headB (headV (40 + (resB (l1 ++ [⟨0, 0⟩])).length + s.1.length + s.2.1.length : Nat) (40 + (resB (l1 ++ [⟨0, 0⟩])).length : Nat) (40 + (resB (l1 ++ [⟨0, 0⟩])).length + s.1.length : Nat) a0 s.2.1.length s.1.length) ++ (resB (l1 ++ [⟨0, 0⟩]) ++ (s.1 ++ s.2.1)), 0)
def encode_Encode.f (k : Nat) (a0 : Int) (l1 : List S82) (a2 : ByteArray) (l3 : List S63) (l4 : List S27) : Option (List Int × Int) :=
  (tree_Check.f k a0 l1 a2 l3 l4).bind fun c => if c = 0 then (encode_most.f k a2 l3 l4 0).bind fun m => (if m.2 = true then some ([], 7) else (wrN k ⟨a2, l3, l4⟩ ([], [], [])).bind fun s => (capW (wCell 9 s)).bind fun s1 => if l1.length ≤ 64 then some (encF a0 l1 s1) else none) else some ([], c)
theorem WrT.made (w W : World) (h : Below w.heap.size w W) : WrT w ((W.alloc (.map #[] 0)).alloc (.cells #[.slice none 0 0, .slice none 0 0, .map (some W.heap.size)] 100)) (W.heap.size + 1) W.heap.size ([], [], []) := by
  refine ⟨_, _, ⟨below_alloc (below_alloc h _) _, by have := h.size; omega, h.size, ?_, Kd.R_nil _ _ _ _ _, Kd.R_nil _ _ _ _ _, ?_⟩⟩
  · have := blk_new (W.alloc (.map #[] 0)) (.cells #[.slice none 0 0, .slice none 0 0, .map (some W.heap.size)] 100 (0, 0))
    simpa using this
  · exact (MapI.made W).below (below_alloc (Below.refl _ _) _)
set_option maxRecDepth 100000 in
set_option maxHeartbeats 4000000 in
theorem encode_Encode.calls (k : Nat) (a0 : Int) (A1 : Option Addr) (c1 : Nat) (l1 : List S82) (a2 : ByteArray) (A3 : Option Addr) (c3 : Nat) (l3 : List S63) (A4 : Option Addr) (c4 : Nat) (l4 : List S27) (r : List Int) (er : Int) (w : World)
    (hr1 : Kd.C k82 w A1 l1.length l1) (hc1 : l1.length ≤ c1) (hr3 : Kd.C k63 w A3 l3.length l3) (hc3 : l3.length ≤ c3) (hr4 : Kd.C k27 w A4 l4.length l4) (hc4 : l4.length ≤ c4) (hb0 : 0 ≤ a0 ∧ a0 < 4294967296) (h : encode_Encode.f k a0 l1 a2 l3 l4 = some (r, er)) :
    Calls Try.prog 24 #[.agg #[.int .u32 a0, .slice A1 l1.length c1, .string a2, .slice A3 l3.length c3, .slice A4 l4.length c4]] w fun e w' => ∃ v : Value, e = .returned (.tuple #[v, .int .i64 er]) ∧ Kd.R (Kd.int .u8) 5 w' w.heap.size (fun _ => True) v r ∧ Below w.heap.size w w' := by
  obtain ⟨c, hc, h⟩ := Option.bind_eq_some_iff.mp h
  have hu29 := Try.underlying29
  have hu27 := Try.underlying27
  have hu82 := Try.underlying82
  have hbx : Below w.heap.size w (w.alloc (.cells #[.int .u32 a0, .slice A1 l1.length c1, .string a2, .slice A3 l3.length c3, .slice A4 l4.length c4] 29)) := below_alloc (Below.refl _ _) _
  have BX0 := Aside0.mk (blk_new w (.cells #[.int .u32 a0, .slice A1 l1.length c1, .string a2, .slice A3 l3.length c3, .slice A4 l4.length c4] 29 (0, 0)))
  have HCK := Aside0.mk (tree_Check.calls k a0 A1 c1 l1 a2 A3 c3 l3 A4 c4 l4 c _ (Kd.C_below hr1 hbx) hc1 (Kd.C_below hr3 hbx) hc3 (Kd.C_below hr4 hbx) hc4 hc)
  have HR1 := Aside0.mk hr1
  have HR3 := Aside0.mk hr3
  have HR4 := Aside0.mk hr4
  have HC1 := Aside0.mk hc1
  have HC3 := Aside0.mk hc3
  have HC4 := Aside0.mk hc4
  have HBT := Aside0.mk hb0
  have HB0 := Aside0.mk hbx
  clear hr1 hc1 hr3 hc3 hr4 hc4 hc hbx hb0
  by_cases c0 : c = 0
  · rw [if_pos c0] at h
    subst c0
    obtain ⟨⟨m1, m2⟩, hm, h⟩ := Option.bind_eq_some_iff.mp h
    have HM := Aside0.mk (fun (w1 : World) (hb : Below w.heap.size w w1) => encode_most.calls k a2 A3 c3 l3 A4 c4 l4 0 m1 m2 w1 (Kd.C_below HR3.out hb) HC3.out (Kd.C_below HR4.out hb) HC4.out hm)
    clear hm
    cases m2 with
    | true =>
      simp only [if_true, Option.some.injEq, Prod.mk.injEq] at h
      obtain ⟨rfl, rfl⟩ := h
      go_enter Try.func24, Try.ntmps24
      go_wp2_with (first | (go_at_call 46; refine HCK.out.mono ?_; rintro e w1 ⟨rfl, hb⟩; have HB1 := Aside0.mk (below_step HB0.out hb); have BX := Aside0.mk (blk_below BX0.out hb); have q0 := (blk_cell BX.out 0).trans rfl; have q1 := (blk_cell BX.out 1).trans rfl; have q2 := (blk_cell BX.out 2).trans rfl; have q3 := (blk_cell BX.out 3).trans rfl; have q4 := (blk_cell BX.out 4).trans rfl; clear hb) | (go_at_call 47; refine (HM.out _ HB1.out).mono ?_; rintro e w2 ⟨rfl, hb⟩; have HB2 := Aside0.mk (below_step HB1.out hb); have BX := Aside0.mk (blk_below BX.out hb); clear q0 q1 q2 q3 q4; have q0 := (blk_cell BX.out 0).trans rfl; have q1 := (blk_cell BX.out 1).trans rfl; have q2 := (blk_cell BX.out 2).trans rfl; have q3 := (blk_cell BX.out 3).trans rfl; have q4 := (blk_cell BX.out 4).trans rfl; have hb3 := below_alloc (below_alloc (Below.refl w2.heap.size w2) (.map #[] 0)) (.cells #[.slice none 0 0, .slice none 0 0, .map (some w2.heap.size)] 100); have HW := Aside0.mk (WrT.made w w2 HB2.out); have HK := Aside0.mk (KeptT.of_below hb3); have sz0 : w.heap.size < w2.heap.size := blk_lt BX.out; clear hb hb3))
      go_ret2
      exact ⟨_, rfl, Kd.R_nil _ _ _ _ _, HB2.out⟩
    | false =>
      simp only [Bool.false_eq_true, if_false] at h
      obtain ⟨s, hs, h⟩ := Option.bind_eq_some_iff.mp h
      obtain ⟨s1, hs1, h⟩ := Option.bind_eq_some_iff.mp h
      obtain ⟨rfl, hcap⟩ := capW_some hs1
      by_cases c64 : l1.length ≤ 64
      · rw [if_pos c64] at h
        have HCAP := Aside0.mk hcap
        have HWN := Aside0.mk hs
        have H := Aside0.mk (Option.some.inj h)
        have H64 := Aside0.mk c64
        have hmk : ∀ W : World, (Instr.makeMap 98 none).run Try.prog W = .ok (.map (some W.heap.size)) (W.alloc (.map #[] 0)) := fun W => by kernel_rfl
        clear hs hs1 hcap h c64
        go_enter Try.func24, Try.ntmps24
        go_wp2_with (first | (go_at_call 46; refine HCK.out.mono ?_; rintro e w1 ⟨rfl, hb⟩; have HB1 := Aside0.mk (below_step HB0.out hb); have BX := Aside0.mk (blk_below BX0.out hb); have q0 := (blk_cell BX.out 0).trans rfl; have q1 := (blk_cell BX.out 1).trans rfl; have q2 := (blk_cell BX.out 2).trans rfl; have q3 := (blk_cell BX.out 3).trans rfl; have q4 := (blk_cell BX.out 4).trans rfl; clear hb) | (go_at_call 47; refine (HM.out _ HB1.out).mono ?_; rintro e w2 ⟨rfl, hb⟩; have HB2 := Aside0.mk (below_step HB1.out hb); have BX := Aside0.mk (blk_below BX.out hb); clear q0 q1 q2 q3 q4; have q0 := (blk_cell BX.out 0).trans rfl; have q1 := (blk_cell BX.out 1).trans rfl; have q2 := (blk_cell BX.out 2).trans rfl; have q3 := (blk_cell BX.out 3).trans rfl; have q4 := (blk_cell BX.out 4).trans rfl; have hb3 := below_alloc (below_alloc (Below.refl w2.heap.size w2) (.map #[] 0)) (.cells #[.slice none 0 0, .slice none 0 0, .map (some w2.heap.size)] 100); have HW := Aside0.mk (WrT.made w w2 HB2.out); have HK := Aside0.mk (KeptT.of_below hb3); have sz0 : w.heap.size < w2.heap.size := blk_lt BX.out; clear hb hb3) | (go_at_call 48; refine (writer_node.calls (w2.heap.size + 1) w2.heap.size w k a2 A3 c3 l3 A4 c4 l4 ([], [], []) s _ HR3.out HR4.out HW.out HWN.out).mono ?_; rintro e w3 ⟨rfl, n1_, n2_⟩; have HK := Aside0.mk (HK.out.trans n2_); have HW := Aside0.mk n1_; clear n1_ n2_) | (go_at_call 49; refine (step_cell 9 (w2.heap.size + 1) w2.heap.size w _ s (by decide) (by decide) HW.out (by have := HCAP.out; omega)).mono ?_; rintro e w4 ⟨rfl, n1_, n2_⟩; have HK := Aside0.mk (HK.out.trans n2_); have HW := Aside0.mk n1_; have BX := Aside0.mk (HK.out.2 _ _ _ BX.out (by decide) (by decide)); clear q0 q1 q2 q3 q4; have q0 := (blk_cell BX.out 0).trans rfl; have q1 := (blk_cell BX.out 1).trans rfl; have q2 := (blk_cell BX.out 2).trans rfl; have q3 := (blk_cell BX.out 3).trans rfl; have q4 := (blk_cell BX.out 4).trans rfl; clear n1_ n2_) | (go_at_call 50; refine (api_Reserve_50.calls A1 c1 l1 l1 w4 (Kd.C_below HR1.out HW.out.bel) HC1.out (by unfold api_Reserve_50.f; rw [if_pos (by have := H64.out; omega)])).mono ?_; rintro e w5 ⟨v5, rfl, hr, hb⟩; obtain ⟨A5, c5, rfl⟩ := Kd.R_slice hr; have HO5 := Aside0.mk hr; have HB5 := Aside0.mk hb; clear hr hb) | ((with_reducible refine gate_builtin (b := .append) (xs := #[.tmp 40, .tmp 42]) rfl ?_); at_builtin; refine Kd.R_append k82 (w0 := w4) w4.heap.size rfl (.tmp 40) (.tmp 42) 23 82 (.agg #[.int .u64 0, .int .u64 0]) 16 rfl Try.underlying23 info82 rfl (by decide) (by omega) _ l1 (⟨0, 0⟩ : S82) [.int .u64 0, .int .u64 0] (fun _ => True) (fun _ => False) rfl rfl ?aP (fun _ hk => hk.elim) (fun _ _ => trivial) HO5.out HB5.out HB5.out.size ?aL ?_; (case aP => exact k82_mkM _ _ _ (⟨0, 0⟩ : S82)); (case aL => have := H64.out; omega); intro v6 w6 ho hb hg hat; obtain ⟨rs, hrs⟩ : ∃ rs, rs = l1 ++ [(⟨0, 0⟩ : S82)] := ⟨_, rfl⟩; rw [← hrs] at ho; have HRS := Aside0.mk hrs; obtain ⟨A6, c6, rfl, hc6, hC6⟩ := Kd.R_reads ho; have HC6 := Aside0.mk hC6; have HB6 := Aside0.mk hb; clear hc6 ho hb hg hat hrs hC6))
        have hrl : rs.length ≤ 65 := by have := H64.out; rw [HRS.out, List.length_append]; simp; omega
        have HRL := Aside0.mk hrl
        clear hrl q0 q1 q2 q3 q4 hmk sz0
        go_loopg [8, 10, 45] (rs.length + 1) (fun kq v8 v10 v45 w' => ∃ (i : Int), v45 = .int .i64 i ∧ Aside0 (i + (kq : Int) = (rs.length : Int) + 1) ∧ Aside0 (0 ≤ i ∧ i ≤ (rs.length : Int)) ∧ Aside0 (Below w6.heap.size w6 w') ∧ Aside0 (Kd.R (Kd.int .u8) 5 w' w6.heap.size (fun _ => True) v8 (resB (rs.take i.toNat))))
        case atStart => exact ⟨0, rfl, ⟨by omega⟩, ⟨by omega⟩, ⟨Below.refl _ _⟩, ⟨Kd.R_nil _ _ _ _ _⟩⟩
        case round =>
          obtain ⟨i, rfl, HI, HR, HBr, HO⟩ := hrel
          cases gk with
          | zero => exact absurd HI.out (by have := HR.out; omega)
          | succ k2 =>
            obtain ⟨l8, hl8⟩ : ∃ l8, l8 = resB (rs.take i.toNat) := ⟨_, rfl⟩
            rw [← hl8] at HO
            obtain ⟨A8, c8, rfl, hc8, hC8⟩ := Kd.R_reads HO.out
            by_cases c5 : i < (rs.length : Int)
            · have c6 : 0 ≤ i := HR.out.1
              obtain ⟨ad, e405, hx0, hx1⟩ := at_T82 HC6.out i c6 c5
              cases e405
              replace hx0 := (HBr.out.cell (World.block_lt_of_cell? w6 _ hx0)).trans hx0
              replace hx1 := (HBr.out.cell (World.block_lt_of_cell? w6 _ hx1)).trans hx1
              have hf := take_res rs i c6 c5
              have hs2 : IntKind.i64.wrap (i + 1) = i + 1 := by
                have := HRL.out
                rw [i64_w]
                unfold Go.RowKit.wrap64
                omega
              have hs4 : Go.RowKit.wrap64 (i + 1) = i + 1 := by rw [← i64_w]; exact hs2
              have c5b0 : decide (i < (rs.length : Int)) = true := decide_eq_true c5
              have c6b0 : decide (0 ≤ i) = true := decide_eq_true c6
              have p405 : (0 ≤ i) = True := eq_true c6
              have q405 : (i < (rs.length : Int)) = True := eq_true c5
              have HI2 : Aside0 (i + 1 + (k2 : Int) = (rs.length : Int) + 1) := ⟨by have := HI.out; omega⟩
              have HR2 : Aside0 (0 ≤ i + 1 ∧ i + 1 ≤ (rs.length : Int)) := ⟨by omega⟩
              have h8 : l8.length ≤ 1040 := by
                rw [hl8, resB_length, List.length_take]
                have := HRL.out
                omega
              rw [← hl8] at hf
              generalize (rd_T82 rs i).f0 = x0 at hf hx0
              generalize (rd_T82 rs i).f1 = x1 at hf hx1
              have HF := Aside0.mk hf
              obtain ⟨l7, hl7⟩ : ∃ l7, l7 = l8 ++ cell8 x0 := ⟨_, rfl⟩
              have H7 : Aside0 (l7.length ≤ 1099511627776) := ⟨by rw [hl7, List.length_append]; simp [cell8, cellB_length]; omega⟩
              have HL7x := Aside0.mk hl7
              have hbw : Below wr.heap.size wr (wr.alloc (.cells #[.int .u64 x0, .int .u64 x1] 82)).drew := below_drew1 (below_alloc (Below.refl _ _) _)
              have BP : Aside0 ((wr.alloc (.cells #[.int .u64 x0, .int .u64 x1] 82)).drew.heap[wr.heap.size]? = some (Obj.cells #[.int .u64 x0, .int .u64 x1] 82 (0, 0))) := ⟨blk_drew (blk_new _ _)⟩
              have HBW := Aside0.mk hbw
              have HQ1 := Aside0.mk (words_Put64.calls 10 A8 c8 l8 x0 l7 _ (Kd.C_below hC8 hbw) hc8 (by rw [hl7]; exact put_eight l8 x0 (by omega)))
              clear hf hl7 hl8 hbw hC8 hc8 h8 c5 c6
              go_wp2
              refine start_ (n := 8) (S := fun w' => w'.cell? ⟨wr.heap.size, 0, none⟩ = some (.int .u64 x0) ∧ w'.cell? ⟨wr.heap.size, 1, none⟩ = some (.int .u64 x1)) (ds := []) #[false, false, false, false, false, false, false, false] (by kernel_rfl) rfl rfl ⟨((blk_cell BP.out 0).trans rfl), ((blk_cell BP.out 1).trans rfl)⟩ (fun hHeld => ?_)
              refine pure_ (i := 0) (N := some 49) (v := ?_) (a' := ?_) #[true, false, false, false, false, false, false, false] rfl rfl (by kernel_rfl) (fun _ _ _ h => h) (Or.inl ⟨by rfl, ?_⟩) ?_ ?_
              rotate_left
              · intro w'
                go_simp
                with_reducible rfl
              rotate_left
              · simp only [Act.put, List.setIfInBounds_toArray, List.set_cons_zero, List.set_cons_succ, i64_w, i32_w]
                rfl
              refine pure_ (i := 1) (N := some 50) (v := ?_) (a' := ?_) #[true, true, false, false, false, false, false, false] rfl rfl (by kernel_rfl) (fun _ _ _ h => h) (Or.inl ⟨by rfl, ?_⟩) ?_ ?_
              rotate_left
              · intro w'
                go_simp
                with_reducible rfl
              rotate_left
              · simp only [Act.put, List.setIfInBounds_toArray, List.set_cons_zero, List.set_cons_succ, i64_w, i32_w]
                rfl
              refine pure_ (i := 4) (N := some 53) (v := ?_) (a' := ?_) #[true, true, false, false, true, false, false, false] rfl rfl (by kernel_rfl) (fun _ _ _ h => h) (Or.inl ⟨by rfl, ?_⟩) ?_ ?_
              rotate_left
              · intro w'
                go_simp
                with_reducible rfl
              rotate_left
              · simp only [Act.put, List.setIfInBounds_toArray, List.set_cons_zero, List.set_cons_succ, i64_w, i32_w]
                rfl
              refine take_ (i := 2) (N := some 51) (v := ?_) (a' := ?_) #[true, true, true, false, true, false, false, false] rfl rfl (by kernel_rfl) (fun _ _ _ h => h) (Or.inl ⟨by rfl, ?_⟩) hHeld ?_ ?_
              rotate_left
              · rintro w' ⟨s0, s1⟩
                go_simp
                with_reducible rfl
              rotate_left
              · simp only [Act.put, List.setIfInBounds_toArray, List.set_cons_zero, List.set_cons_succ, i64_w, i32_w]
                rfl
              refine take_ (i := 5) (N := some 54) (v := ?_) (a' := ?_) #[true, true, true, false, true, true, false, false] rfl rfl (by kernel_rfl) (fun _ _ _ h => h) (Or.inl ⟨by rfl, ?_⟩) hHeld ?_ ?_
              rotate_left
              · rintro w' ⟨s0, s1⟩
                go_simp
                with_reducible rfl
              rotate_left
              · simp only [Act.put, List.setIfInBounds_toArray, List.set_cons_zero, List.set_cons_succ, i64_w, i32_w]
                rfl
              refine one_ (i := 3) (N := some 52) #[true, true, true, true, true, true, false, false] rfl rfl (by kernel_rfl) (by decide) (fun K hK => ?_)
              refine goes_ Try.func51 (by kernel_rfl) rfl #[.slice A8 l8.length c8, .int .u64 x0] (by rfl) rfl rfl (by simp only [List.map_toArray, List.map_cons, List.map_nil]; rfl) ?_
              refine (HQ1.out).mono ?_
              rintro e w7 ⟨v7, rfl, hr7, hb7⟩
              obtain ⟨A7, c7, rfl, hc7, hC7⟩ := Kd.R_reads hr7
              have HP7 := Aside0.mk hb7
              have HC7 := Aside0.mk hC7
              have HL7 := Aside0.mk hc7
              have BP7 := Aside0.mk (blk_below BP.out hb7)
              clear hr7 hb7 hC7 hc7
              have HQ2 := Aside0.mk (words_Put64.calls 10 A7 c7 l7 x1 (l7 ++ cell8 x1) w7 HC7.out HL7.out (put_eight l7 x1 H7.out))
              refine ⟨_, rfl, ?_⟩
              refine hK.out _ _ ⟨((blk_cell BP7.out 0).trans rfl), ((blk_cell BP7.out 1).trans rfl)⟩ (fun hHeld => ?_)
              clear hK K
              refine norm_ (a' := ?_) ?_ ?_
              rotate_left
              · show Act.put _ (some 52) _ = _
                simp only [Act.put, List.setIfInBounds_toArray, List.set_cons_zero, List.set_cons_succ, i64_w, i32_w]
                rfl
              refine one_ (i := 6) (N := some 55) #[true, true, true, true, true, true, true, false] rfl rfl (by kernel_rfl) (by decide) (fun K hK => ?_)
              refine goes_ Try.func51 (by kernel_rfl) rfl #[.slice A7 l7.length c7, .int .u64 x1] (by rfl) rfl rfl (by simp only [List.map_toArray, List.map_cons, List.map_nil]; rfl) ?_
              refine (HQ2.out).mono ?_
              rintro e w9 ⟨v9, rfl, hr9, hb9⟩
              obtain ⟨l9, hl9⟩ : ∃ l9, l9 = l7 ++ cell8 x1 := ⟨_, rfl⟩
              rw [← hl9] at hr9
              obtain ⟨A9, c9, rfl⟩ := Kd.R_slice hr9
              have HR9 := Aside0.mk hr9
              have HP9 := Aside0.mk hb9
              have HL9 := Aside0.mk hl9
              have BP9 := Aside0.mk (blk_below BP7.out hb9)
              clear hr9 hb9 hl9
              refine ⟨_, rfl, ?_⟩
              refine hK.out _ _ ⟨((blk_cell BP9.out 0).trans rfl), ((blk_cell BP9.out 1).trans rfl)⟩ (fun hHeld => ?_)
              clear hK K
              refine norm_ (a' := ?_) ?_ ?_
              rotate_left
              · show Act.put _ (some 55) _ = _
                simp only [Act.put, List.setIfInBounds_toArray, List.set_cons_zero, List.set_cons_succ, i64_w, i32_w]
                rfl
              refine pure_ (i := 7) (N := some 8) (v := ?_) (a' := ?_) #[true, true, true, true, true, true, true, true] rfl rfl (by kernel_rfl) (fun _ _ _ h => h) (Or.inl ⟨by rfl, ?_⟩) ?_ ?_
              rotate_left
              · intro w'
                go_simp
                with_reducible rfl
              rotate_left
              · simp only [Act.put, List.setIfInBounds_toArray, List.set_cons_zero, List.set_cons_succ, i64_w, i32_w]
                rfl
              refine done_ (by kernel_rfl) ?_
              go_wp2
              go_roundg k2
              case measure => omega
              case rel => exact ⟨i + 1, rfl, HI2, HR2, ⟨below_step (below_step (below_step HBr.out HBW.out) HP7.out) HP9.out⟩, ⟨by rw [HF.out, ← HL7x.out, ← HL9.out]; exact Kd.R_lower HR9.out (Nat.le_trans HBr.out.size (Nat.le_trans HBW.out.size HP7.out.size))⟩⟩
            · have hi : i = (rs.length : Int) := by have := HR.out; omega
              subst hi
              have hl8b : l8 = resB rs := by rw [hl8, Int.toNat_natCast, List.take_length]
              have c5b0 : decide ((rs.length : Int) < (rs.length : Int)) = false := decide_eq_false c5
              have hW6 : Below w4.heap.size w4 wr := HB6.out.trans (HBr.out.mono HB6.out.size)
              have HWx := Aside0.mk (HW.out.below hW6)
              have HB4 := Aside0.mk hW6
              obtain ⟨vb, vt, hS⟩ := HWx.out
              obtain ⟨Ab, cb, rfl, hcb, hCb⟩ := Kd.R_reads hS.rb
              obtain ⟨At, ct, rfl, hct, hCt⟩ := Kd.R_reads hS.rt
              have BXw := Aside0.mk (blk_below BX.out hW6)
              have q0 := (blk_cell BXw.out 0).trans rfl
              have g0 := (blk_cell hS.blk 0).trans rfl
              have g1 := (blk_cell hS.blk 1).trans rfl
              have HCAP2 : Aside0 (totW (wCell 9 s) ≤ 549755813888) := HCAP
              generalize wCell 9 s = s1 at H HCAP2 hCb hCt hcb hct hS g0 g1
              obtain ⟨B, T, hs1⟩ := s1
              dsimp only at hCb hCt hcb hct g0 g1
              have HCB := Aside0.mk hCb
              have HCT := Aside0.mk hCt
              have hBl : B.length + T.length ≤ 549755813888 := by have := HCAP2.out; simp only [totW] at this; omega
              have hLl : l8.length ≤ 1040 := by rw [hl8b, resB_length]; have := HRL.out; omega
              have HOL := Aside0.mk hl8b
              have GB := Aside0.mk hS.blk
              have HCC := Aside0.mk (And.intro hcb hct)
              have HC8 := Aside0.mk (And.intro hC8 hc8)
              clear hl8 hl8b c5 HI HR hS hCb hCt hcb hct hC8 hc8 HCAP HCAP2 HWx HWN HM HCK BX0 hW6
              obtain ⟨n1, hn1⟩ : ∃ n : Int, n = 40 + (l8.length : Int) := ⟨_, rfl⟩
              obtain ⟨n2, hn2⟩ : ∃ n : Int, n = n1 + (B.length : Int) := ⟨_, rfl⟩
              obtain ⟨n3, hn3⟩ : ∃ n : Int, n = n2 + (T.length : Int) := ⟨_, rfl⟩
              have z1 : Go.RowKit.wrap64 (40 + (l8.length : Int)) = n1 := by unfold Go.RowKit.wrap64; omega
              have z2 : Go.RowKit.wrap64 (n1 + (B.length : Int)) = n2 := by unfold Go.RowKit.wrap64; omega
              have z3 : Go.RowKit.wrap64 (n2 + (T.length : Int)) = n3 := by unfold Go.RowKit.wrap64; omega
              have i1 : IntKind.i64.wrap (40 + (l8.length : Int)) = n1 := by rw [i64_w]; exact z1
              have i2 : IntKind.i64.wrap (n1 + (B.length : Int)) = n2 := by rw [i64_w]; exact z2
              have i3 : IntKind.i64.wrap (n2 + (T.length : Int)) = n3 := by rw [i64_w]; exact z3
              have HNN : Aside0 (n1 = 40 + (l8.length : Int) ∧ n2 = n1 + (B.length : Int) ∧ n3 = n2 + (T.length : Int)) := ⟨hn1, hn2, hn3⟩
              clear hn1 hn2 hn3 hBl
              by_cases cb_ : 1048576 < n3
              · have d1 : decide (1048576 < n3) = true := decide_eq_true cb_
                have hres : ([], 7) = (r, er) := by
                  rw [← H.out]
                  unfold encF
                  rw [if_pos]
                  have := HNN.out
                  rw [← HRS.out, ← HOL.out]
                  simp only
                  omega
                simp only [Prod.mk.injEq] at hres
                obtain ⟨rfl, rfl⟩ := hres
                go_wp2
                go_ret2
                exact ⟨_, rfl, Kd.R_nil _ _ _ _ _, HW.out.bel.trans (HB4.out.mono HW.out.bel.size)⟩
              · have d1 : decide (1048576 < n3) = false := decide_eq_false cb_
                go_wp2
                have za : IntKind.i64.wrap a0 = a0 := by have := HBT.out; rw [i64_w]; unfold Go.RowKit.wrap64; omega
                have zb : Go.RowKit.wrap64 a0 = a0 := by have := HBT.out; unfold Go.RowKit.wrap64; omega
                refine start_ (n := 19) (S := fun w' => w'.cell? ⟨w.heap.size, 0, none⟩ = some (.int .u32 a0) ∧ w'.cell? ⟨w2.heap.size + 1, 0, none⟩ = some (.slice Ab B.length cb) ∧ w'.cell? ⟨w2.heap.size + 1, 1, none⟩ = some (.slice At T.length ct)) (ds := [16]) #[false, false, false, false, false, false, false, false, false, false, false, false, false, false, false, false, false, false, false] (by kernel_rfl) rfl rfl ⟨q0, g0, g1⟩ (fun hHeld => ?_)
                refine pure_ (i := 0) (N := some 76) (v := ?_) (a' := ?_) #[true, false, false, false, false, false, false, false, false, false, false, false, false, false, false, false, false, false, false] rfl rfl (by kernel_rfl) (fun _ _ _ h => h) (Or.inl ⟨by rfl, ?_⟩) ?_ ?_
                rotate_left
                · intro w'
                  go_simp
                  with_reducible rfl
                rotate_left
                · simp only [Act.put, List.setIfInBounds_toArray, List.set_cons_zero, List.set_cons_succ, i64_w, i32_w]
                  rfl
                refine pure_ (i := 1) (N := some 77) (v := ?_) (a' := ?_) #[true, true, false, false, false, false, false, false, false, false, false, false, false, false, false, false, false, false, false] rfl rfl (by kernel_rfl) (fun _ _ _ h => h) (Or.inl ⟨by rfl, ?_⟩) ?_ ?_
                rotate_left
                · intro w'
                  go_simp
                  with_reducible rfl
                rotate_left
                · simp only [Act.put, List.setIfInBounds_toArray, List.set_cons_zero, List.set_cons_succ, i64_w, i32_w]
                  rfl
                refine pure_ (i := 2) (N := some 78) (v := ?_) (a' := ?_) #[true, true, true, false, false, false, false, false, false, false, false, false, false, false, false, false, false, false, false] rfl rfl (by kernel_rfl) (fun _ _ _ h => h) (Or.inl ⟨by rfl, ?_⟩) ?_ ?_
                rotate_left
                · intro w'
                  go_simp
                  with_reducible rfl
                rotate_left
                · simp only [Act.put, List.setIfInBounds_toArray, List.set_cons_zero, List.set_cons_succ, i64_w, i32_w]
                  rfl
                refine pure_ (i := 3) (N := some 79) (v := ?_) (a' := ?_) #[true, true, true, true, false, false, false, false, false, false, false, false, false, false, false, false, false, false, false] rfl rfl (by kernel_rfl) (fun _ _ _ h => h) (Or.inl ⟨by rfl, ?_⟩) ?_ ?_
                rotate_left
                · intro w'
                  go_simp
                  with_reducible rfl
                rotate_left
                · simp only [Act.put, List.setIfInBounds_toArray, List.set_cons_zero, List.set_cons_succ, i64_w, i32_w]
                  rfl
                refine pure_ (i := 6) (N := some 82) (v := ?_) (a' := ?_) #[true, true, true, true, false, false, true, false, false, false, false, false, false, false, false, false, false, false, false] rfl rfl (by kernel_rfl) (fun _ _ _ h => h) (Or.inl ⟨by rfl, ?_⟩) ?_ ?_
                rotate_left
                · intro w'
                  go_simp
                  with_reducible rfl
                rotate_left
                · simp only [Act.put, List.setIfInBounds_toArray, List.set_cons_zero, List.set_cons_succ, i64_w, i32_w]
                  rfl
                refine pure_ (i := 7) (N := some 83) (v := ?_) (a' := ?_) #[true, true, true, true, false, false, true, true, false, false, false, false, false, false, false, false, false, false, false] rfl rfl (by kernel_rfl) (fun _ _ _ h => h) (Or.inl ⟨by rfl, ?_⟩) ?_ ?_
                rotate_left
                · intro w'
                  go_simp
                  with_reducible rfl
                rotate_left
                · simp only [Act.put, List.setIfInBounds_toArray, List.set_cons_zero, List.set_cons_succ, i64_w, i32_w]
                  rfl
                refine pure_ (i := 8) (N := some 84) (v := ?_) (a' := ?_) #[true, true, true, true, false, false, true, true, true, false, false, false, false, false, false, false, false, false, false] rfl rfl (by kernel_rfl) (fun _ _ _ h => h) (Or.inl ⟨by rfl, ?_⟩) ?_ ?_
                rotate_left
                · intro w'
                  go_simp
                  with_reducible rfl
                rotate_left
                · simp only [Act.put, List.setIfInBounds_toArray, List.set_cons_zero, List.set_cons_succ, i64_w, i32_w]
                  rfl
                refine pure_ (i := 11) (N := some 87) (v := ?_) (a' := ?_) #[true, true, true, true, false, false, true, true, true, false, false, true, false, false, false, false, false, false, false] rfl rfl (by kernel_rfl) (fun _ _ _ h => h) (Or.inl ⟨by rfl, ?_⟩) ?_ ?_
                rotate_left
                · intro w'
                  go_simp
                  with_reducible rfl
                rotate_left
                · simp only [Act.put, List.setIfInBounds_toArray, List.set_cons_zero, List.set_cons_succ, i64_w, i32_w]
                  rfl
                refine pure_ (i := 12) (N := some 88) (v := ?_) (a' := ?_) #[true, true, true, true, false, false, true, true, true, false, false, true, true, false, false, false, false, false, false] rfl rfl (by kernel_rfl) (fun _ _ _ h => h) (Or.inl ⟨by rfl, ?_⟩) ?_ ?_
                rotate_left
                · intro w'
                  go_simp
                  with_reducible rfl
                rotate_left
                · simp only [Act.put, List.setIfInBounds_toArray, List.set_cons_zero, List.set_cons_succ, i64_w, i32_w]
                  rfl
                refine pure_ (i := 13) (N := some 89) (v := ?_) (a' := ?_) #[true, true, true, true, false, false, true, true, true, false, false, true, true, true, false, false, false, false, false] rfl rfl (by kernel_rfl) (fun _ _ _ h => h) (Or.inl ⟨by rfl, ?_⟩) ?_ ?_
                rotate_left
                · intro w'
                  go_simp
                  with_reducible rfl
                rotate_left
                · simp only [Act.put, List.setIfInBounds_toArray, List.set_cons_zero, List.set_cons_succ, i64_w, i32_w]
                  rfl
                refine pure_ (i := 18) (N := some 94) (v := ?_) (a' := ?_) #[true, true, true, true, false, false, true, true, true, false, false, true, true, true, false, false, false, false, true] rfl rfl (by kernel_rfl) (fun _ _ _ h => h) (Or.inl ⟨by rfl, ?_⟩) ?_ ?_
                rotate_left
                · intro w'
                  go_simp
                  with_reducible rfl
                rotate_left
                · simp only [Act.put, List.setIfInBounds_toArray, List.set_cons_zero, List.set_cons_succ, i64_w, i32_w]
                  rfl
                refine take_ (i := 4) (N := some 80) (v := ?_) (a' := ?_) #[true, true, true, true, true, false, true, true, true, false, false, true, true, true, false, false, false, false, true] rfl rfl (by kernel_rfl) (fun _ _ _ h => h) (Or.inl ⟨by rfl, ?_⟩) hHeld ?_ ?_
                rotate_left
                · rintro w' ⟨s0, s1, s2⟩
                  go_simp
                  with_reducible rfl
                rotate_left
                · simp only [Act.put, List.setIfInBounds_toArray, List.set_cons_zero, List.set_cons_succ, i64_w, i32_w]
                  rfl
                refine pure_ (i := 5) (N := some 81) (v := ?_) (a' := ?_) #[true, true, true, true, true, true, true, true, true, false, false, true, true, true, false, false, false, false, true] rfl rfl (by kernel_rfl) (fun _ _ _ h => h) (Or.inl ⟨by rfl, ?_⟩) ?_ ?_
                rotate_left
                · intro w'
                  go_simp
                  with_reducible rfl
                rotate_left
                · simp only [Act.put, List.setIfInBounds_toArray, List.set_cons_zero, List.set_cons_succ, i64_w, i32_w]
                  rfl
                refine take_ (i := 9) (N := some 85) (v := ?_) (a' := ?_) #[true, true, true, true, true, true, true, true, true, true, false, true, true, true, false, false, false, false, true] rfl rfl (by kernel_rfl) (fun _ _ _ h => h) (Or.inl ⟨by rfl, ?_⟩) hHeld ?_ ?_
                rotate_left
                · rintro w' ⟨s0, s1, s2⟩
                  go_simp
                  with_reducible rfl
                rotate_left
                · simp only [Act.put, List.setIfInBounds_toArray, List.set_cons_zero, List.set_cons_succ, i64_w, i32_w]
                  rfl
                refine pure_ (i := 10) (N := some 86) (v := ?_) (a' := ?_) #[true, true, true, true, true, true, true, true, true, true, true, true, true, true, false, false, false, false, true] rfl rfl (by kernel_rfl) (fun _ _ _ h => h) (Or.inl ⟨by rfl, ?_⟩) ?_ ?_
                rotate_left
                · intro w'
                  go_simp
                  with_reducible rfl
                rotate_left
                · simp only [Act.put, List.setIfInBounds_toArray, List.set_cons_zero, List.set_cons_succ, i64_w, i32_w]
                  rfl
                refine take_ (i := 14) (N := some 90) (v := ?_) (a' := ?_) #[true, true, true, true, true, true, true, true, true, true, true, true, true, true, true, false, false, false, true] rfl rfl (by kernel_rfl) (fun _ _ _ h => h) (Or.inl ⟨by rfl, ?_⟩) hHeld ?_ ?_
                rotate_left
                · rintro w' ⟨s0, s1, s2⟩
                  go_simp
                  with_reducible rfl
                rotate_left
                · simp only [Act.put, List.setIfInBounds_toArray, List.set_cons_zero, List.set_cons_succ, i64_w, i32_w]
                  rfl
                refine pure_ (i := 15) (N := some 91) (v := ?_) (a' := ?_) #[true, true, true, true, true, true, true, true, true, true, true, true, true, true, true, true, false, false, true] rfl rfl (by kernel_rfl) (fun _ _ _ h => h) (Or.inl ⟨by rfl, ?_⟩) ?_ ?_
                rotate_left
                · intro w'
                  go_simp
                  with_reducible rfl
                rotate_left
                · simp only [Act.put, List.setIfInBounds_toArray, List.set_cons_zero, List.set_cons_succ, i64_w, i32_w]
                  rfl
                refine last_ (i := 16) (N := some 92) #[true, true, true, true, true, true, true, true, true, true, true, true, true, true, true, true, true, false, true] rfl rfl (by kernel_rfl) (by decide) (fun K hK => ?_)
                refine value_ (w1 := ?_) (v := ?_) (by rfl) rfl ?_ ?_
                rotate_left 2
                · go_simp
                  constructor
                  · rfl
                  · rfl
                refine hK.out _ _ ?_
                clear hK K
                refine norm_ (a' := ?_) ?_ ?_
                rotate_left
                · show Act.put _ (some 92) _ = _
                  simp only [Act.put, List.setIfInBounds_toArray, List.set_cons_zero, List.set_cons_succ, i64_w, i32_w]
                  rfl
                refine pure_ (i := 17) (N := some 93) (v := ?_) (a' := ?_) #[true, true, true, true, true, true, true, true, true, true, true, true, true, true, true, true, true, true, true] rfl rfl (by kernel_rfl) (fun _ _ _ h => h) (Or.inl ⟨by rfl, ?_⟩) ?_ ?_
                rotate_left
                · intro w'
                  go_simp
                  with_reducible rfl
                rotate_left
                · simp only [Act.put, List.setIfInBounds_toArray, List.set_cons_zero, List.set_cons_succ, i64_w, i32_w]
                  rfl
                refine done_ (by kernel_rfl) ?_
                obtain ⟨vs, hvs⟩ : ∃ vs, vs = headV n3 n1 n2 a0 T.length B.length := ⟨_, rfl⟩
                have hv10 : vs.length = 10 := by rw [hvs]; rfl
                have hbq : Below wr.heap.size wr (wr.alloc (.cells #[.int .i64 3490578157, .int .i64 n3, .int .i64 n1, .int .i64 n2, .int .i64 40, .int .i64 17, .int .i64 16, .int .i64 a0, .int .i64 (T.length : Int), .int .i64 (B.length : Int)] 3)).drew := below_drew1 (below_alloc (Below.refl _ _) _)
                have hvc : Kd.C (Kd.int .i64) (wr.alloc (.cells #[.int .i64 3490578157, .int .i64 n3, .int .i64 n1, .int .i64 n2, .int .i64 40, .int .i64 17, .int .i64 16, .int .i64 a0, .int .i64 (T.length : Int), .int .i64 (B.length : Int)] 3)).drew (some ⟨wr.heap.size, 0, none⟩) 10 vs := by
                  have h5 := ints_C (wr.alloc (.cells #[.int .i64 3490578157, .int .i64 n3, .int .i64 n1, .int .i64 n2, .int .i64 40, .int .i64 17, .int .i64 16, .int .i64 a0, .int .i64 (T.length : Int), .int .i64 (B.length : Int)] 3)).drew wr.heap.size 3 vs (by rw [hvs]; exact blk_drew (blk_new _ _)) (by omega)
                  rw [hv10] at h5
                  exact h5
                have HVS := Aside0.mk hvc
                have HBQ := Aside0.mk hbq
                have HVV := Aside0.mk hvs
                have HV10 := Aside0.mk hv10
                clear hvc hbq hvs hv10 q0 g0 g1 z1 z2 z3 i1 i2 i3 za zb d1
                generalize (wr.alloc (.cells #[.int .i64 3490578157, .int .i64 n3, .int .i64 n1, .int .i64 n2, .int .i64 40, .int .i64 17, .int .i64 16, .int .i64 a0, .int .i64 (T.length : Int), .int .i64 (B.length : Int)] 3)).drew = wq at HVS HBQ ⊢
                generalize hbA : (⟨wr.heap.size, 0, none⟩ : Addr) = ba at HVS ⊢
                go_wp2
                go_loopg [14, 16, 94] 11 (fun kq v14 v16 v94 w' => ∃ (i : Int), v94 = .int .i64 i ∧ Aside0 (i + (kq : Int) = 11) ∧ Aside0 (0 ≤ i ∧ i ≤ 10) ∧ Aside0 (Below wq.heap.size wq w') ∧ Aside0 (Kd.R (Kd.int .u8) 5 w' wq.heap.size (fun _ => True) v14 (headB (vs.take i.toNat))))
                case atStart => exact ⟨0, rfl, ⟨by omega⟩, ⟨by omega⟩, ⟨Below.refl _ _⟩, ⟨Kd.R_nil _ _ _ _ _⟩⟩
                case round =>
                  obtain ⟨i, rfl, HI, HR, HBs, HOh⟩ := hrel
                  cases gk with
                  | zero => exact absurd HI.out (by have := HR.out; omega)
                  | succ k3 =>
                    obtain ⟨l14, hl14⟩ : ∃ l, l = headB (vs.take i.toNat) := ⟨_, rfl⟩
                    rw [← hl14] at HOh
                    obtain ⟨Ah, ch, rfl, hch, hCh⟩ := Kd.R_reads HOh.out
                    by_cases c5 : i < 10
                    · have c6 : 0 ≤ i := HR.out.1
                      obtain ⟨ad, e405, hx0⟩ := Kd.at_int HVS.out i c6 (by omega)
                      cases e405
                      replace hx0 := (HBs.out.cell (World.block_lt_of_cell? wq _ hx0)).trans hx0
                      have hf := take_head vs i c6 (by rw [HV10.out]; omega)
                      have hs2 : IntKind.i64.wrap (i + 1) = i + 1 := by
                        rw [i64_w]
                        unfold Go.RowKit.wrap64
                        omega
                      have hs4 : Go.RowKit.wrap64 (i + 1) = i + 1 := by rw [← i64_w]; exact hs2
                      have c5b0 : decide (i < 10) = true := decide_eq_true c5
                      have c6b0 : decide (0 ≤ i) = true := decide_eq_true c6
                      have p405 : (0 ≤ i) = True := eq_true c6
                      have q405 : (i < 10) = True := eq_true c5
                      have HI2 : Aside0 (i + 1 + (k3 : Int) = 11) := ⟨by have := HI.out; omega⟩
                      have HR2 : Aside0 (0 ≤ i + 1 ∧ i + 1 ≤ 10) := ⟨by omega⟩
                      have h14 : l14.length ≤ 40 := by rw [hl14, headB_length, List.length_take, HV10.out]; omega
                      rw [← hl14] at hf
                      generalize rd vs i = x at hf hx0
                      have HF := Aside0.mk hf
                      have HQ1 := Aside0.mk (words_Put.calls 6 Ah ch l14 (x % 4294967296) (l14 ++ cellB (x % 4294967296)) wr hCh hch (put_four l14 (x % 4294967296) (by omega) (by omega) (by omega)))
                      clear hf hl14 hCh hch h14 c5 c6
                      go_wp2_with (go_at_call 52; refine HQ1.out.mono ?_; rintro e w7 ⟨v7, rfl, hr7, hb7⟩; have HR7 := Aside0.mk hr7; have HB7 := Aside0.mk hb7; clear hr7 hb7)
                      go_roundg k3
                      case measure => omega
                      case rel => exact ⟨i + 1, rfl, HI2, HR2, ⟨below_step HBs.out HB7.out⟩, ⟨by rw [HF.out]; exact Kd.R_lower HR7.out HBs.out.size⟩⟩
                    · have hi : i = 10 := by have := HR.out; omega
                      subst hi
                      have c5b0 : decide ((10 : Int) < 10) = false := by decide
                      have HL14 : Aside0 (l14 = headB vs) := ⟨by rw [hl14]; congr 1; exact List.take_of_length_le (by rw [HV10.out]; decide)⟩
                      have hgb := blk_below (blk_below GB.out HBQ.out) HBs.out
                      have g0 := (blk_cell hgb 0).trans rfl
                      have g1 := (blk_cell hgb 1).trans rfl
                      have HBs2 := Aside0.mk (HBQ.out.trans (HBs.out.mono HBQ.out.size))
                      have HX8 := Aside0.mk (Kd.C_below HC8.out.1 HBs2.out)
                      have HXB := Aside0.mk (Kd.C_below HCB.out HBs2.out)
                      have HXT := Aside0.mk (Kd.C_below HCT.out HBs2.out)
                      have HXH := Aside0.mk (And.intro hCh hch)
                      have hbz : Below wr.heap.size wr (wr.alloc (.cells #[.slice Ah l14.length ch, .slice A8 l8.length c8, .slice Ab B.length cb, .slice At T.length ct] 45)).drew := below_drew1 (below_alloc (Below.refl _ _) _)
                      have hcc := concat.calls (some ⟨wr.heap.size, 0, none⟩) 4 [l14, l8, B, T] _ (four_C (wr.alloc (.cells #[.slice Ah l14.length ch, .slice A8 l8.length c8, .slice Ab B.length cb, .slice At T.length ct] 45)).drew wr.heap.size 45 Ah A8 Ab At ch c8 cb ct l14 l8 B T (blk_drew (blk_new _ _)) (Kd.C_below hCh hbz) hch (Kd.C_below HX8.out hbz) HC8.out.2 (Kd.C_below HXB.out hbz) HCC.out.1 (Kd.C_below HXT.out hbz) HCC.out.2) (by simp) (by have h5 := HL14.out; simp [h5, headB_length, HV10.out]; omega) (by have h5 := HL14.out; have h6 := HNN.out; simp [h5, headB_length, HV10.out]; omega)
                      have HCCC := Aside0.mk hcc
                      have HBZ := Aside0.mk hbz
                      have HRES : Aside0 ((l14 ++ (l8 ++ (B ++ T)), (0 : Int)) = (r, er)) := ⟨by
                        rw [← H.out]
                        unfold encF
                        have h6 := HNN.out
                        have e3 : ((40 + (resB (l1 ++ [⟨0, 0⟩])).length + B.length + T.length : Nat) : Int) = n3 := by rw [← HRS.out, ← HOL.out]; omega
                        have e1 : ((40 + (resB (l1 ++ [⟨0, 0⟩])).length : Nat) : Int) = n1 := by rw [← HRS.out, ← HOL.out]; omega
                        have e2 : ((40 + (resB (l1 ++ [⟨0, 0⟩])).length + B.length : Nat) : Int) = n2 := by rw [← HRS.out, ← HOL.out]; omega
                        rw [if_neg (by simp only; omega)]
                        simp only
                        rw [e1, e2, e3, ← HVV.out, ← HL14.out, ← HRS.out, ← HOL.out]⟩
                      clear hCh hch hgb hbz hcc hl14 c5 HI HR HL14
                      go_wp2
                      go_still_tail 10, (by kernel_rfl)
                      change wpList _ _ _ _ _ wr.drew
                      go_wp2_with (go_at_call 53; refine HCCC.out.mono ?_; rintro e w9 ⟨v9, rfl, hr9, hb9⟩; have HR9 := Aside0.mk hr9; have HB9 := Aside0.mk hb9; clear hr9 hb9)
                      have hres := HRES.out
                      simp only [Prod.mk.injEq] at hres
                      obtain ⟨hr1_, hr2_⟩ := hres
                      have hBB := below_step (below_step (below_step HW.out.bel HB4.out) HBs2.out) HBZ.out
                      have hfl : [l14, l8, B, T].flatten = r := by rw [← hr1_]; simp
                      have HR9b := HR9.out
                      rw [hfl] at HR9b
                      rw [← hr2_]
                      go_ret2
                      exact ⟨_, rfl, Kd.R_lower HR9b hBB.size, below_step hBB HB9.out⟩
      · rw [if_neg c64] at h
        exact absurd h (by simp)
  · rw [if_neg c0] at h
    simp only [Option.some.injEq, Prod.mk.injEq] at h
    obtain ⟨rfl, rfl⟩ := h
    have b0 : (c == 0) = false := beq_eq_false_iff_ne.mpr c0
    have b1 : (c != 0) = true := bne_iff_ne.mpr c0
    clear c0
    go_enter Try.func24, Try.ntmps24
    go_wp2_with (go_at_call 46; refine HCK.out.mono ?_; rintro e w1 ⟨rfl, hb⟩; have HB1 := Aside0.mk (below_step HB0.out hb); have BX := Aside0.mk (blk_below BX0.out hb); have q0 := (blk_cell BX.out 0).trans rfl; have q1 := (blk_cell BX.out 1).trans rfl; have q2 := (blk_cell BX.out 2).trans rfl; have q3 := (blk_cell BX.out 3).trans rfl; have q4 := (blk_cell BX.out 4).trans rfl; clear hb)
    go_ret2
    exact ⟨_, rfl, Kd.R_nil _ _ _ _ _, HB1.out⟩
end Go.Proofs.Ytkopmkinlanhoaa.PE

namespace Go.Proofs.Ytkopmkinlanhoaa.PE
open Go.RowKit Go.Proofs.YtkopmkinlanhoaaW.PrintWords Go.Proofs.YtkopmkinlanhoaaW.PrintLast Go.Proofs.YtkopmkinlanhoaaW.PrintMore
attribute [local go_sem] max2_int min2_int max_two min_two max_three min_three max_four min_four   -- for this text's walks alone
set_option linter.unusedVariables false
set_option linter.unusedSimpArgs false
def words_Get64.f (l0 : List Int) (a1 : Int) : Option (Int × Bool) := if 0 ≤ a1 ∧ 8 ≤ (l0.length : Int) - a1 then (some (numb ((l0.take (a1 + 8).toNat).drop a1.toNat), true)) else (some (0, false))
set_option maxRecDepth 100000 in
theorem words_Get64.calls (A0 : Option Addr) (c0 : Nat) (l0 : List Int) (a1 : Int) (r1 : Int) (r2 : Bool) (w : World) (hr0 : Kd.C (Kd.int .u8) w A0 l0.length l0) (hc0 : l0.length ≤ c0) (h : words_Get64.f l0 a1 = some (r1, r2)) :
    Calls Try.prog 68 #[.slice A0 l0.length c0, .int .i64 a1] w fun e w' => e = .returned (.tuple #[.int .u64 r1, .bool r2]) ∧ Drawn0 w w' := by
  have hm : l0.length ≤ 9223372036854775807 := hr0.2.1
  unfold words_Get64.f at h
  by_cases c : 0 ≤ a1 ∧ 8 ≤ (l0.length : Int) - a1
  · rw [if_pos c] at h
    simp only [Option.some.injEq, Prod.mk.injEq] at h
    obtain ⟨rfl, rfl⟩ := h
    obtain ⟨ad, rfl, _⟩ := hr0.2.2 (by omega)
    have hmid := Kd.C_mid (lo := a1.toNat) (hi := (a1 + 8).toNat) hr0 (by omega) (by omega) hc0
    have hlen : ((l0.take (a1 + 8).toNat).drop a1.toNat).length = 8 := by simp; omega
    obtain ⟨y, hy⟩ : ∃ y, y = (l0.take (a1 + 8).toNat).drop a1.toNat := ⟨_, rfl⟩
    rw [← hy] at hmid hlen
    have hsub : (a1 + 8).toNat - a1.toNat = y.length := by rw [hlen]; omega
    have h0 := c.1
    have h1 := c.2
    have hno : c0 ≠ a1.toNat := by omega
    have Hp := words_part.yes ad l0.length c0 a1 8 w h0 (by omega) h1 (by decide) hc0 hm
    rw [if_neg hno, hsub] at Hp
    rw [if_neg hno] at hmid
    have hq : y.length ≤ c0 - a1.toNat := by rw [hlen]; omega
    have Hn := words_number.calls (y.length + 1) ((some ad).map (·.add (a1.toNat * 1))) (c0 - a1.toNat) y (numb y) w hmid hq (numb_f y (by rw [hlen]; decide))
    have Hy := Aside0.mk hy
    clear hy c h0 h1 hno hmid hq hr0 hsub hlen
    obtain ⟨B, hB⟩ : ∃ B, B = ad.add (a1.toNat * 1) := ⟨_, rfl⟩
    simp only [Option.map_some] at Hp Hn
    rw [← hB] at Hp Hn
    clear hB
    have q := fun w' : World => run_neq_slice_nil_any (P := Try.prog) w' 45 5 (some B) y.length (c0 - a1.toNat) 0 0 Try.underlying45
    simp only [Option.isNone_some, Bool.not_false] at q
    go_enter Try.func68, Try.ntmps68
    go_wp2_with (first | (go_at_call 62; refine Hp.mono ?_; rintro e w' ⟨rfl, rfl⟩) | (go_at_call 63; refine Hn.mono ?_; rintro e w' ⟨rfl, ⟨nd, rfl⟩⟩))
    go_ret2
    exact ⟨by rw [Hy.out]; rfl, ⟨⟨_, rfl⟩⟩⟩
  · rw [if_neg c] at h
    simp only [Option.some.injEq, Prod.mk.injEq] at h
    obtain ⟨rfl, rfl⟩ := h
    have Hn := words_number.calls 1 none 0 [] 0 w ⟨rfl, by decide, fun h0 => absurd h0 (by decide)⟩ (Nat.le_refl 0) (by decide)
    have q := fun w' : World => run_neq_slice_nil_any (P := Try.prog) w' 45 5 none 0 0 0 0 Try.underlying45
    simp only [Option.isNone_none, Bool.not_true] at q
    simp only [List.length_nil] at Hn
    have Hp := words_part.no A0 l0.length c0 a1 8 w (by omega) (by decide) (by decide) hm
    clear c hr0
    go_enter Try.func68, Try.ntmps68
    go_wp2_with (first | (go_at_call 62; refine Hp.mono ?_; rintro e w' ⟨rfl, rfl⟩) | (go_at_call 63; refine Hn.mono ?_; rintro e w' ⟨rfl, ⟨nd, rfl⟩⟩))
    go_ret2
    exact ⟨rfl, ⟨⟨_, rfl⟩⟩⟩
end Go.Proofs.Ytkopmkinlanhoaa.PE

namespace Go.Proofs.Ytkopmkinlanhoaa.PE
open Go.RowKit Go.Proofs.YtkopmkinlanhoaaW.PrintWords Go.Proofs.YtkopmkinlanhoaaW.PrintLast Go.Proofs.YtkopmkinlanhoaaW.PrintMore
attribute [local go_sem] max2_int min2_int max_two min_two max_three min_three max_four min_four   -- for this text's walks alone
set_option linter.unusedVariables false
set_option linter.unusedSimpArgs false
mutual
def decode_reserves.l0 : Nat → List Int → Int → List (S82) → Option ((List (S82)) × Int)
  | 0, _, _, _ => none
  | k + 1, x0, x1, x6 => (words_Get64.f x0 x1).bind fun bt108 => ((words_Get64.f x0 (wrap64 (x1 + 8))).bind fun bt110 => (if bt110.2 = true then (if bt108.1 = 0 then (decode_reserves.j1 k x0 x1 x6 bt108.1 bt110.1 (bt110.1 == 0)) else (decode_reserves.j1 k x0 x1 x6 bt108.1 bt110.1 false)) else (some (([] : List (S82)), 4))))
def decode_reserves.j1 : Nat → List Int → Int → List (S82) → Int → Int → Bool → Option ((List (S82)) × Int)
  | 0, _, _, _, _, _, _ => none
  | k + 1, x0, x1, x6, x7, x9, x29 => if x29 = true then (if (x6.length : Int) > 64 then (some (([] : List (S82)), 7)) else (some (x6, 0))) else (if x6.length < 8796093022208 then (decode_reserves.l0 k x0 (wrap64 (x1 + 16)) (x6 ++ [(⟨x7, x9⟩ : S82)])) else (none))
end
def decode_reserves.f (k : Nat) (l0 : List Int) (a1 : Int) : Option ((List (S82)) × Int) := decode_reserves.l0 k l0 a1 ([] : List (S82))
set_option maxHeartbeats 8000000 in
set_option maxRecDepth 100000 in
theorem decode_reserves.calls (k : Nat) (A0 : Option Addr) (c0 : Nat) (l0 : List Int) (a1 : Int) (r1 : List (S82)) (r2 : Int) (w : World) (hr0 : Kd.C (Kd.int .u8) w A0 l0.length l0) (hc0 : l0.length ≤ c0) (h : decode_reserves.f k l0 a1 = some (r1, r2)) :
    Calls Try.prog 42 #[.slice A0 l0.length c0, .int .i64 a1] w fun e w' => ∃ v0_ : Value, e = .returned (.tuple #[v0_, .int .i64 r2]) ∧ Kd.R k82 82 w' w.heap.size (fun _ => True) v0_ r1 ∧ Below w.heap.size w w' := by
  have hu82 := Try.underlying82
  have HR0 := Aside0.mk hr0
  have HC0 := Aside0.mk hc0
  clear hr0 hc0
  have HB := Aside0.mk (Below.refl w.heap.size w)
  have H : (decode_reserves.l0 k l0 a1 ([] : List (S82))) = some (r1, r2) := h
  clear h
  have H' := Aside0.mk H
  clear H
  go_enter Try.func42, Try.ntmps42
  go_wp2
  go_loopg [1, 6] k (fun kq v1 v6 w' => ∃ (x1_1 : Int) (x6_1 : List (S82)), v1 = .int .i64 x1_1 ∧ Aside0 (decode_reserves.l0 kq l0 x1_1 x6_1 = some (r1, r2)) ∧ Aside0 (kq ≤ k) ∧ Aside0 (Kd.R k82 82 w' w.heap.size (fun _ => True) v6 x6_1) ∧ Aside0 (Below w.heap.size w w'))
  case atStart => exact ⟨(a1), (([] : List (S82))), (by first | rfl | (simp; done) | (simp [*]; done)), H', ⟨Nat.le_refl _⟩, ⟨by first | exact Kd.R_nil _ _ _ _ _ | exact Kd.N_nil _ _ _ _ _ | exact Kd.V_nil _ _ _ _ _ | exact Kd.Q_nil _ _ _ _ _ | exact Kd.S_nil _ _ _ _ _⟩, ⟨by repeat (first | (with_reducible first | exact HB.out | apply below_alloc | apply pw_below_drewN | apply below_drew1) | exact HB.out)⟩⟩
  case round =>
    clear H'
    try clear p2
    obtain ⟨x1_1, x6_1, rfl, HA, HK1, HO_6, HB⟩ := hrel
    cases gk with
    | zero => exact absurd HA.out (by simp [decode_reserves.l0])
    | succ k1 =>
      have H := HA.out
      clear HA
      simp only [decode_reserves.l0] at H
      replace H := Option.bind_eq_some_iff.mp H
      obtain ⟨⟨t108, t109⟩, A30, H⟩ := H
      replace H : ((words_Get64.f l0 (wrap64 (x1_1 + 8))).bind fun bt110 => (if bt110.2 = true then (if t108 = 0 then (decode_reserves.j1 k1 l0 x1_1 x6_1 t108 bt110.1 (bt110.1 == 0)) else (decode_reserves.j1 k1 l0 x1_1 x6_1 t108 bt110.1 false)) else (some (([] : List (S82)), 4)))) = some (r1, r2) := H
      have A3 := Aside0.mk A30
      clear A30
      replace H := Option.bind_eq_some_iff.mp H
      obtain ⟨⟨t110, t111⟩, A40, H⟩ := H
      replace H : (if t111 = true then (if t108 = 0 then (decode_reserves.j1 k1 l0 x1_1 x6_1 t108 t110 (t110 == 0)) else (decode_reserves.j1 k1 l0 x1_1 x6_1 t108 t110 false)) else (some (([] : List (S82)), 4))) = some (r1, r2) := H
      have A4 := Aside0.mk A40
      clear A40
      by_cases c5 : t111 = true
      · subst c5
        have H1 : (if t108 = 0 then (decode_reserves.j1 k1 l0 x1_1 x6_1 t108 t110 (t110 == 0)) else (decode_reserves.j1 k1 l0 x1_1 x6_1 t108 t110 false)) = some (r1, r2) := by rw [if_pos rfl] at H; exact H
        clear H
        have H := H1
        clear H1
        have HC6 := Aside0.mk H
        clear H
        go_upto_region 7 with (first | ((with_reducible refine gate_callee (f := 68) rfl ?_); refine goesL_ (some 16) rfl rfl Try.func68 (by kernel_rfl) rfl #[.slice A0 l0.length c0, .int .i64 x1_1] rfl (by (try simp only [List.map_toArray, List.map_cons, List.map_nil]); first | done | rfl | (simp only [List.length_drop, List.length_take]; rfl)) ?_; (with_reducible refine (words_Get64.calls _ _ l0 x1_1 t108 t109 _ ?side1 ?side2 A3.out).mono ?_); (case side1 => repeat (first | exact (Kd.C_below HR0.out HB.out) | (with_reducible refine Kd.C_alloc ?_ _) | (with_reducible refine Kd.C_drewN ?_ _) | (with_reducible refine Kd.C_drew ?_))); (case side2 => exact HC0.out); rintro e w' ⟨rfl, ⟨nd, rfl⟩⟩; refine ⟨_, rfl, ?_⟩) | ((with_reducible refine gate_callee (f := 68) rfl ?_); refine goesL_ (some 23) rfl rfl Try.func68 (by kernel_rfl) rfl #[.slice A0 l0.length c0, .int .i64 (wrap64 (x1_1 + 8))] rfl (by (try simp only [List.map_toArray, List.map_cons, List.map_nil]); first | done | rfl | (simp only [List.length_drop, List.length_take]; rfl)) ?_; (with_reducible refine (words_Get64.calls _ _ l0 (wrap64 (x1_1 + 8)) t110 true _ ?side1 ?side2 A4.out).mono ?_); (case side1 => repeat (first | exact (Kd.C_below HR0.out (by repeat (first | (with_reducible first | exact HB.out | apply below_alloc | apply pw_below_drewN | apply below_drew1) | exact HB.out))) | (with_reducible refine Kd.C_alloc ?_ _) | (with_reducible refine Kd.C_drewN ?_ _) | (with_reducible refine Kd.C_drew ?_))); (case side2 => exact HC0.out); rintro e w' ⟨rfl, ⟨nd, rfl⟩⟩; refine ⟨_, rfl, ?_⟩))
        (try simp only [Act.put, List.setIfInBounds_toArray, List.set_cons_zero, List.set_cons_succ])
        go_cut [29] (fun v29 wc => ∃ (kq : Nat) (x29_5 : Bool), v29 = .bool x29_5 ∧ Aside0 (decode_reserves.j1 kq l0 x1_1 x6_1 t108 t110 x29_5 = some (r1, r2)) ∧ Aside0 (kq ≤ k1) ∧ Aside0 (Kd.R k82 82 wc w.heap.size (fun _ => True) u6 x6_1) ∧ Aside0 (Below w.heap.size w wc))
        case first =>
          have H := HC6.out
          clear HC6
          by_cases c7 : t108 = 0
          · rw [if_pos c7] at H
            have c7b0 : (t108 == 0) = true := beq_iff_eq.mpr c7
            have c7b1 : (t108 != 0) = false := bne_eq_false_iff_eq.mpr c7
            clear c7
            (first | rw [c7b0] | (simp only [i64_w, i32_w]; rw [c7b0]) | skip)
            have H' := Aside0.mk H
            clear H
            go_wp2
            go_meet
            case rel => exact ⟨_, ((t110 == 0)), (by first | rfl | (simp; done) | (simp [*]; done)), H', ⟨by have := HK1.out; first | omega | exact Nat.le_refl _⟩, ⟨by (with_reducible repeat (first | apply Kd.R_alloc | apply Kd.R_drewN | apply Kd.R_drew)); exact HO_6.out⟩, ⟨by repeat (first | (with_reducible first | exact HB.out | apply below_alloc | apply pw_below_drewN | apply below_drew1) | exact HB.out)⟩⟩
          · rw [if_neg c7] at H
            have c7b0 : (t108 == 0) = false := beq_eq_false_iff_ne.mpr c7
            have c7b1 : (t108 != 0) = true := bne_iff_ne.mpr c7
            (first | rw [c7b0] | (simp only [i64_w, i32_w]; rw [c7b0]) | skip)
            have H' := Aside0.mk H
            clear H
            go_wp2
            go_meet
            case rel => exact ⟨_, (false), (by first | rfl | (simp; done) | (simp [*]; done)), H', ⟨by have := HK1.out; first | omega | exact Nat.le_refl _⟩, ⟨by (with_reducible repeat (first | apply Kd.R_alloc | apply Kd.R_drewN | apply Kd.R_drew)); exact HO_6.out⟩, ⟨by repeat (first | (with_reducible first | exact HB.out | apply below_alloc | apply pw_below_drewN | apply below_drew1) | exact HB.out)⟩⟩
        case rest =>
          clear HC6
          try clear p2
          try clear c4
          try clear c5
          try clear c6
          try clear p6
          try clear c7
          try clear c7b0
          try clear c7b1
          try clear p2
          obtain ⟨kq, x29_5, rfl, HA, HJ5, HO_6, HB⟩ := hcut
          cases kq with
          | zero => exact absurd HA.out (by simp [decode_reserves.j1])
          | succ kj5 =>
            have H := HA.out
            clear HA
            simp only [decode_reserves.j1] at H
            by_cases c8 : x29_5 = true
            · subst c8
              have H1 : (if (x6_1.length : Int) > 64 then (some (([] : List (S82)), 7)) else (some (x6_1, 0))) = some (r1, r2) := by rw [if_pos rfl] at H; exact H
              clear H
              have H := H1
              clear H1
              by_cases c9 : (x6_1.length : Int) > 64
              · rw [if_pos c9] at H
                have c9b0 : decide (64 < (x6_1.length : Int)) = true := decide_eq_true c9
                have c9b1 : decide (64 < x6_1.length) = true := decide_eq_true (by omega)
                clear c9
                simp only [Option.some.injEq, Prod.mk.injEq] at H
                obtain ⟨rfl, rfl⟩ := H
                obtain ⟨Ao10, co10, eo10⟩ := Kd.R_slice HO_6.out
                subst eo10
                go_wp2
                go_ret2
                exact ⟨_, by first | rfl | (simp [errW_none, errW_some] <;> rfl) | (simp [*, errW_none, errW_some] <;> rfl), by first | exact Kd.R_nil _ _ _ _ _ | exact Kd.N_nil _ _ _ _ _ | exact Kd.V_nil _ _ _ _ _ | exact Kd.Q_nil _ _ _ _ _ | exact Kd.S_nil _ _ _ _ _, by repeat (first | (with_reducible first | exact HB.out | apply below_alloc | apply pw_below_drewN | apply below_drew1) | exact HB.out)⟩
              · rw [if_neg c9] at H
                have c9b0 : decide (64 < (x6_1.length : Int)) = false := decide_eq_false c9
                have c9b1 : decide (64 < x6_1.length) = false := decide_eq_false (by omega)
                clear c9
                simp only [Option.some.injEq, Prod.mk.injEq] at H
                obtain ⟨rfl, rfl⟩ := H
                obtain ⟨Ao11, co11, eo11⟩ := Kd.R_slice HO_6.out
                subst eo11
                go_wp2
                go_ret2
                exact ⟨_, by first | rfl | (simp [errW_none, errW_some] <;> rfl) | (simp [*, errW_none, errW_some] <;> rfl), by (with_reducible repeat (first | apply Kd.R_alloc | apply Kd.R_drewN | apply Kd.R_drew)); exact HO_6.out, by repeat (first | (with_reducible first | exact HB.out | apply below_alloc | apply pw_below_drewN | apply below_drew1) | exact HB.out)⟩
            · replace c8 := Bool.eq_false_iff.mpr c8
              subst c8
              have H1 : (if x6_1.length < 8796093022208 then (decode_reserves.l0 kj5 l0 (wrap64 (x1_1 + 16)) (x6_1 ++ [(⟨t108, t110⟩ : S82)])) else (none)) = some (r1, r2) := by rw [if_neg (show ¬ (false = true) by decide)] at H; exact H
              clear H
              have H := H1
              clear H1
              by_cases c12 : x6_1.length < 8796093022208
              · rw [if_pos c12] at H
                have LMc12 := Aside0.mk c12
                clear c12
                obtain ⟨y112, hy112⟩ : ∃ y_ : List (S82), y_ = (x6_1 ++ [(⟨t108, t110⟩ : S82)]) := ⟨_, rfl⟩
                replace H : (decode_reserves.l0 kj5 l0 (wrap64 (x1_1 + 16)) y112) = some (r1, r2) := by first | (rw [hy112]; with_reducible exact H) | (have H2_ := (Option.bind_some _ _).symm.trans H; rw [hy112]; with_reducible exact H2_) | (have H2_ := (Option.bind_some _ _).symm.trans H; with_reducible exact H2_) | with_reducible exact H | (rw [hy112]; exact H) | exact H
                have Ny112 := Aside0.mk hy112
                clear hy112
                have H' := Aside0.mk H
                clear H
                go_wp2_with (first | ((with_reducible refine gate_builtin (b := .append) (xs := #[.tmp 40, .tmp 44]) rfl ?_); at_builtin; refine Kd.R_append k82 (w0 := w) w.heap.size rfl (.tmp 40) (.tmp 44) 23 82 (.agg #[(.int .u64 0), (.int .u64 0)]) 16 rfl Try.underlying23 info82 rfl (by decide) (by omega) u6 x6_1 (⟨t108, t110⟩ : S82) [.int .u64 t108, .int .u64 t110] (fun _ => True) (fun _ => False) rfl rfl ?aP (fun _ hk => hk.elim) ?aF ?aO ?aB ?aS ?aL ?_; (case aP => exact k82_mkM _ _ _ (⟨t108, t110⟩ : S82)); (case aB => exact (by repeat (first | (with_reducible first | exact HB.out | apply below_alloc | apply pw_below_drewN | apply below_drew1) | exact HB.out))); (case aF => exact (fun _ _ => trivial)); (case aO => exact (by (with_reducible repeat (first | apply Kd.R_alloc | apply Kd.R_drewN | apply Kd.R_drew)); exact HO_6.out)); (case aS => exact (below_size (by repeat (first | (with_reducible first | exact HB.out | apply below_alloc | apply pw_below_drewN | apply below_drew1) | exact HB.out)))); (case aL => have := LMc12.out; omega); intro v113 w13 ho hb hg hat; rw [← Ny112.out] at ho; have n0_ := Aside0.mk (hb); have n1_ := Aside0.mk (ho); clear HB; clear HO_6; have HB := n0_; have HO114 := n1_; clear n0_ n1_; clear ho hb hg hat))
                go_roundg kj5
                case measure => have := HK1.out; have := HJ5.out; omega
                case rel => exact ⟨(wrap64 (x1_1 + 16)), (y112), (by first | rfl | (simp; done) | (simp [*]; done)), H', ⟨by have := HK1.out; have := HJ5.out; omega⟩, ⟨by (with_reducible repeat (first | apply Kd.R_alloc | apply Kd.R_drewN | apply Kd.R_drew)); exact HO114.out⟩, ⟨by repeat (first | (with_reducible first | exact HB.out | apply below_alloc | apply pw_below_drewN | apply below_drew1) | exact HB.out)⟩⟩
              · rw [if_neg c12] at H
                exact absurd H (by simp)
      · replace c5 := Bool.eq_false_iff.mpr c5
        subst c5
        have H1 : (some (([] : List (S82)), 4)) = some (r1, r2) := by rw [if_neg (show ¬ (false = true) by decide)] at H; exact H
        clear H
        have H := H1
        clear H1
        simp only [Option.some.injEq, Prod.mk.injEq] at H
        obtain ⟨rfl, rfl⟩ := H
        go_wp2_with (first | ((with_reducible refine gate_callee (f := 68) rfl ?_); refine goesL_ (some 16) rfl rfl Try.func68 (by kernel_rfl) rfl #[.slice A0 l0.length c0, .int .i64 x1_1] rfl (by (try simp only [List.map_toArray, List.map_cons, List.map_nil]); first | done | rfl | (simp only [List.length_drop, List.length_take]; rfl)) ?_; (with_reducible refine (words_Get64.calls _ _ l0 x1_1 t108 t109 _ ?side1 ?side2 A3.out).mono ?_); (case side1 => repeat (first | exact (Kd.C_below HR0.out HB.out) | (with_reducible refine Kd.C_alloc ?_ _) | (with_reducible refine Kd.C_drewN ?_ _) | (with_reducible refine Kd.C_drew ?_))); (case side2 => exact HC0.out); rintro e w' ⟨rfl, ⟨nd, rfl⟩⟩; refine ⟨_, rfl, ?_⟩) | ((with_reducible refine gate_callee (f := 68) rfl ?_); refine goesL_ (some 23) rfl rfl Try.func68 (by kernel_rfl) rfl #[.slice A0 l0.length c0, .int .i64 (wrap64 (x1_1 + 8))] rfl (by (try simp only [List.map_toArray, List.map_cons, List.map_nil]); first | done | rfl | (simp only [List.length_drop, List.length_take]; rfl)) ?_; (with_reducible refine (words_Get64.calls _ _ l0 (wrap64 (x1_1 + 8)) t110 false _ ?side1 ?side2 A4.out).mono ?_); (case side1 => repeat (first | exact (Kd.C_below HR0.out (by repeat (first | (with_reducible first | exact HB.out | apply below_alloc | apply pw_below_drewN | apply below_drew1) | exact HB.out))) | (with_reducible refine Kd.C_alloc ?_ _) | (with_reducible refine Kd.C_drewN ?_ _) | (with_reducible refine Kd.C_drew ?_))); (case side2 => exact HC0.out); rintro e w' ⟨rfl, ⟨nd, rfl⟩⟩; refine ⟨_, rfl, ?_⟩))
        go_ret2
        exact ⟨_, by first | rfl | (simp [errW_none, errW_some] <;> rfl) | (simp [*, errW_none, errW_some] <;> rfl), by first | exact Kd.R_nil _ _ _ _ _ | exact Kd.N_nil _ _ _ _ _ | exact Kd.V_nil _ _ _ _ _ | exact Kd.Q_nil _ _ _ _ _ | exact Kd.S_nil _ _ _ _ _, by repeat (first | (with_reducible first | exact HB.out | apply below_alloc | apply pw_below_drewN | apply below_drew1) | exact HB.out)⟩
end Go.Proofs.Ytkopmkinlanhoaa.PE

namespace Go.Proofs.Ytkopmkinlanhoaa.PE
open Go.RowKit Go.Proofs.YtkopmkinlanhoaaW.PrintWords Go.Proofs.YtkopmkinlanhoaaW.PrintLast Go.Proofs.YtkopmkinlanhoaaW.PrintMore
attribute [local go_sem] max2_int min2_int max_two min_two max_three min_three max_four min_four   -- for this text's walks alone
set_option linter.unusedVariables false
set_option linter.unusedSimpArgs false
def bytes_IndexByte.f (l0 : List Int) (a1 : Int) : Option Int := if l0.length = 0 then none else some (Lib.indexByte (Lib.bytesOf l0) a1.toNat.toUInt8)
theorem bytes_IndexByte.calls (A0 : Option Addr) (c0 : Nat) (l0 : List Int) (a1 : Int) (r : Int) (w : World) (hr0 : Kd.C (Kd.int .u8) w A0 l0.length l0) (hc0 : l0.length ≤ c0) (h : bytes_IndexByte.f l0 a1 = some r) :
    Calls Try.prog 95 #[.slice A0 l0.length c0, .int .u8 a1] w fun e w' => e = .returned (.int .i64 r) ∧ Drawn0 w w' := by
  unfold bytes_IndexByte.f at h
  by_cases c : l0.length = 0
  · rw [if_pos c] at h
    cases h
  · rw [if_neg c] at h
    injection h with h
    have hr := Kd.reads_of_C (enc := Value.int .u8) (d := (0 : Int)) (h1 := fun _ => rfl) hr0
    obtain ⟨ad, rfl, hc⟩ := hr.2.2 (by omega)
    refine (Any.bytes_IndexByte_at Try.lays187 ad l0.length c0 l0 a1 w rfl (fun i hi => hc i hi)).mono ?_
    rintro e w' ⟨rfl, rfl⟩
    exact ⟨by rw [h], Drawn0.refl _⟩
end Go.Proofs.Ytkopmkinlanhoaa.PE

namespace Go.Proofs.Ytkopmkinlanhoaa.PE
open Go.RowKit Go.Proofs.YtkopmkinlanhoaaW.PrintWords Go.Proofs.YtkopmkinlanhoaaW.PrintLast Go.Proofs.YtkopmkinlanhoaaW.PrintMore
attribute [local go_sem] max2_int min2_int max_two min_two max_three min_three max_four min_four   -- for this text's walks alone
set_option linter.unusedVariables false
set_option linter.unusedSimpArgs false
def words_Text.j0 : Nat → List Int → Int → Bool → Option (ByteArray × Bool)
  | 0, _, _, _ => none
  | k + 1, x0, x1, x14 => if x14 = true then (some ((⟨#[]⟩ : ByteArray), false)) else (if 0 ≤ x1 then (if x1 ≤ (x0.length : Int) then ((bytes_IndexByte.f (x0.drop (x1 : Int).toNat) 0).bind fun t118 => (if t118 < 0 then (some ((⟨#[]⟩ : ByteArray), false)) else (if x1 ≤ (wrap64 (x1 + t118)) then (if (wrap64 (x1 + t118)) ≤ (x0.length : Int) then (some (strOfNums ((x0.take ((wrap64 (x1 + t118)) : Int).toNat).drop (x1 : Int).toNat), true)) else (none)) else (none)))) else (none)) else (none))
def words_Text.f (k : Nat) (l0 : List Int) (a1 : Int) : Option (ByteArray × Bool) := if a1 < 0 then (words_Text.j0 k l0 a1 true) else (words_Text.j0 k l0 a1 (decide (a1 ≥ (l0.length : Int))))
set_option maxHeartbeats 8000000 in
set_option maxRecDepth 100000 in
theorem words_Text.calls (k : Nat) (A0 : Option Addr) (c0 : Nat) (l0 : List Int) (a1 : Int) (r1 : ByteArray) (r2 : Bool) (w : World) (hr0 : Kd.C (Kd.int .u8) w A0 l0.length l0) (hc0 : l0.length ≤ c0) (h : words_Text.f k l0 a1 = some (r1, r2)) :
    Calls Try.prog 83 #[.slice A0 l0.length c0, .int .i64 a1] w fun e w' => e = .returned (.tuple #[.string r1, .bool r2]) ∧ Drawn0 w w' := by
  have HR0 := Aside0.mk hr0
  have HC0 := Aside0.mk hc0
  clear hr0 hc0
  have H : (if a1 < 0 then (words_Text.j0 k l0 a1 true) else (words_Text.j0 k l0 a1 (decide (a1 ≥ (l0.length : Int))))) = some (r1, r2) := h
  clear h
  have HC3 := Aside0.mk H
  clear H
  go_enter Try.func83, Try.ntmps83
  go_upto_region 1 with (fail)
  go_cut [14] (fun v14 wc => ∃ (kq : Nat) (x14_2 : Bool), v14 = .bool x14_2 ∧ Aside0 (words_Text.j0 kq l0 a1 x14_2 = some (r1, r2)) ∧ Aside0 (kq ≤ k) ∧ Drawn0 w wc)
  case first =>
    have H := HC3.out
    clear HC3
    by_cases c4 : a1 < 0
    · rw [if_pos c4] at H
      have c4b0 : decide (a1 < 0) = true := decide_eq_true c4
      clear c4
      (first | rw [c4b0] | (simp only [i64_w, i32_w]; rw [c4b0]) | skip)
      have H' := Aside0.mk H
      clear H
      go_wp2
      go_meet
      case rel => exact ⟨_, (true), (by first | rfl | (simp; done) | (simp [*]; done)), H', ⟨by first | omega | exact Nat.le_refl _⟩, by repeat (first | exact Drawn0.refl _ | apply Drawn0.step)⟩
    · rw [if_neg c4] at H
      have c4b0 : decide (a1 < 0) = false := decide_eq_false c4
      clear c4
      (first | rw [c4b0] | (simp only [i64_w, i32_w]; rw [c4b0]) | skip)
      have H' := Aside0.mk H
      clear H
      go_wp2
      go_meet
      case rel => exact ⟨_, (decide (a1 ≥ (l0.length : Int))), (by first | rfl | (simp; done) | (simp [*]; done)), H', ⟨by first | omega | exact Nat.le_refl _⟩, by repeat (first | exact Drawn0.refl _ | apply Drawn0.step)⟩
  case rest =>
    clear HC3
    try clear p2
    try clear c4
    try clear c4b0
    obtain ⟨kq, x14_2, rfl, HA, HJ2, ⟨mc2, rfl⟩⟩ := hcut
    cases kq with
    | zero => exact absurd HA.out (by simp [words_Text.j0])
    | succ kj2 =>
      have H := HA.out
      clear HA
      simp only [words_Text.j0] at H
      by_cases c5 : x14_2 = true
      · subst c5
        have H1 : (some ((⟨#[]⟩ : ByteArray), false)) = some (r1, r2) := by rw [if_pos rfl] at H; exact H
        clear H
        have H := H1
        clear H1
        simp only [Option.some.injEq, Prod.mk.injEq] at H
        obtain ⟨rfl, rfl⟩ := H
        go_wp2
        go_ret2
        exact ⟨by first | rfl | (simp; done) | (simp [*]; done), by repeat (first | exact Drawn0.refl _ | apply Drawn0.step)⟩
      · replace c5 := Bool.eq_false_iff.mpr c5
        subst c5
        have H1 : (if 0 ≤ a1 then (if a1 ≤ (l0.length : Int) then ((bytes_IndexByte.f (l0.drop (a1 : Int).toNat) 0).bind fun t118 => (if t118 < 0 then (some ((⟨#[]⟩ : ByteArray), false)) else (if a1 ≤ (wrap64 (a1 + t118)) then (if (wrap64 (a1 + t118)) ≤ (l0.length : Int) then (some (strOfNums ((l0.take ((wrap64 (a1 + t118)) : Int).toNat).drop (a1 : Int).toNat), true)) else (none)) else (none)))) else (none)) else (none)) = some (r1, r2) := by rw [if_neg (show ¬ (false = true) by decide)] at H; exact H
        clear H
        have H := H1
        clear H1
        by_cases c6 : 0 ≤ a1
        · rw [if_pos c6] at H
          have c6b0 := eq_true c6
          have c6b1 : decide (0 ≤ a1) = true := decide_eq_true c6
          clear c6
          by_cases c7 : a1 ≤ (l0.length : Int)
          · rw [if_pos c7] at H
            have c7b0 := eq_true c7
            have c7b1 : decide (a1 ≤ (l0.length : Int)) = true := decide_eq_true c7
            clear c7
            replace H := Option.bind_eq_some_iff.mp H
            obtain ⟨t118, A80, H⟩ := H
            replace H : (if t118 < 0 then (some ((⟨#[]⟩ : ByteArray), false)) else (if a1 ≤ (wrap64 (a1 + t118)) then (if (wrap64 (a1 + t118)) ≤ (l0.length : Int) then (some (strOfNums ((l0.take ((wrap64 (a1 + t118)) : Int).toNat).drop (a1 : Int).toNat), true)) else (none)) else (none))) = some (r1, r2) := H
            have A8 := Aside0.mk A80
            clear A80
            by_cases c9 : t118 < 0
            · rw [if_pos c9] at H
              have c9b0 : decide (t118 < 0) = true := decide_eq_true c9
              clear c9
              simp only [Option.some.injEq, Prod.mk.injEq] at H
              obtain ⟨rfl, rfl⟩ := H
              obtain ⟨i010, hi010, _, hsz10, _⟩ := info_parts info5
              obtain ⟨A10, hcut10, hA10, hC10⟩ := print_drop_of (P := Try.prog) (Value.int .u8) 0 45 5 .i64 Try.underlying45 hi010 hsz10 A0 c0 l0 a1 (of_decide_eq_true (by first | (with_reducible assumption) | assumption)) (of_decide_eq_true (by first | (with_reducible assumption) | assumption)) HC0.out
              have HR117 := Aside0.mk (Kd.C_of_reads (h1 := fun _ => rfl) (hA10 _ (Kd.reads_of_C HR0.out)))
              have HC117 := Aside0.mk hC10
              clear hA10 hC10 hi010 hsz10
              go_wp2_with (first | ((with_reducible refine gate_callee (f := 95) rfl ?_); refine goesL_ (some 18) rfl rfl Try.func95 (by kernel_rfl) rfl #[.slice A10 (l0.drop (a1 : Int).toNat).length (c0 - a1.toNat), .int .u8 0] rfl (by (try simp only [List.map_toArray, List.map_cons, List.map_nil]); first | done | (rw [show (l0.drop (a1 : Int).toNat).length = (l0.length - a1.toNat) from List.length_drop] <;> rfl) | rfl | (simp only [List.length_drop, List.length_take]; rfl)) ?_; (with_reducible refine (bytes_IndexByte.calls _ _ (l0.drop (a1 : Int).toNat) 0 t118 _ ?side1 ?side2 A8.out).mono ?_); (case side1 => repeat (first | exact HR117.out | (with_reducible refine Kd.C_alloc ?_ _) | (with_reducible refine Kd.C_drewN ?_ _) | (with_reducible refine Kd.C_drew ?_))); (case side2 => exact HC117.out); rintro e w' ⟨rfl, ⟨nd, rfl⟩⟩; refine ⟨_, rfl, ?_⟩))
              go_ret2
              exact ⟨by first | rfl | (simp; done) | (simp [*]; done), by repeat (first | exact Drawn0.refl _ | apply Drawn0.step)⟩
            · rw [if_neg c9] at H
              have c9b0 : decide (t118 < 0) = false := decide_eq_false c9
              clear c9
              have c11b0 := eq_true (of_decide_eq_true (by first | (with_reducible assumption) | assumption) : 0 ≤ a1)
              by_cases c12 : a1 ≤ (wrap64 (a1 + t118))
              · rw [if_pos c12] at H
                have c12b0 := eq_true c12
                have c12b1 : decide (a1 ≤ (wrap64 (a1 + t118))) = true := decide_eq_true c12
                by_cases c13 : (wrap64 (a1 + t118)) ≤ (l0.length : Int)
                · rw [if_pos c13] at H
                  have c13b0 := eq_true c13
                  have c13b1 : decide ((wrap64 (a1 + t118)) ≤ (l0.length : Int)) = true := decide_eq_true c13
                  simp only [Option.some.injEq, Prod.mk.injEq] at H
                  obtain ⟨rfl, rfl⟩ := H
                  obtain ⟨i014, hi014, _, hsz14, _⟩ := info_parts info5
                  obtain ⟨A14, hcut14, hA14, hC14⟩ := print_drop_of (P := Try.prog) (Value.int .u8) 0 45 5 .i64 Try.underlying45 hi014 hsz14 A0 c0 l0 a1 (of_decide_eq_true (by first | (with_reducible assumption) | assumption)) (of_decide_eq_true (by first | (with_reducible assumption) | assumption)) HC0.out
                  have HR117 := Aside0.mk (Kd.C_of_reads (h1 := fun _ => rfl) (hA14 _ (Kd.reads_of_C HR0.out)))
                  have HC117 := Aside0.mk hC14
                  clear hA14 hC14 hi014 hsz14
                  go_wp2_with (first | ((with_reducible refine gate_callee (f := 95) rfl ?_); refine goesL_ (some 18) rfl rfl Try.func95 (by kernel_rfl) rfl #[.slice A14 (l0.drop (a1 : Int).toNat).length (c0 - a1.toNat), .int .u8 0] rfl (by (try simp only [List.map_toArray, List.map_cons, List.map_nil]); first | done | (rw [show (l0.drop (a1 : Int).toNat).length = (l0.length - a1.toNat) from List.length_drop] <;> rfl) | rfl | (simp only [List.length_drop, List.length_take]; rfl)) ?_; (with_reducible refine (bytes_IndexByte.calls _ _ (l0.drop (a1 : Int).toNat) 0 t118 _ ?side1 ?side2 A8.out).mono ?_); (case side1 => repeat (first | exact HR117.out | (with_reducible refine Kd.C_alloc ?_ _) | (with_reducible refine Kd.C_drewN ?_ _) | (with_reducible refine Kd.C_drew ?_))); (case side2 => exact HC117.out); rintro e w' ⟨rfl, ⟨nd, rfl⟩⟩; refine ⟨_, rfl, ?_⟩; obtain ⟨i015, hi015, _, hsz15, _⟩ := info_parts info5; obtain ⟨A15, hcut15, hA15, hC15⟩ := print_mid_of (P := Try.prog) (Value.int .u8) 0 45 5 .i64 .i64 Try.underlying45 hi015 hsz15 A0 c0 l0 a1 (wrap64 (a1 + t118)) (of_decide_eq_true (by first | (with_reducible assumption) | assumption)) (by first | omega | exact of_decide_eq_true (by first | (with_reducible assumption) | assumption)) (of_decide_eq_true (by first | (with_reducible assumption) | assumption)) HC0.out; have HR119 := Aside0.mk (Kd.C_of_reads (h1 := fun _ => rfl) (hA15 _ (Kd.reads_of_C HR0.out))); have HC119 := Aside0.mk hC15; clear hA15 hC15 hi015 hsz15; have hcv16 := Kd.C_string (P := Try.prog) (A := A15) (c := (c0 - a1.toNat)) Try.underlying45 Try.underlying5 Try.underlying9 HR119.out; have hcv16d := fun nd_ : Nat => Kd.C_string (P := Try.prog) (A := A15) (c := (c0 - a1.toNat)) Try.underlying45 Try.underlying5 Try.underlying9 (Kd.C_drewN HR119.out nd_); have hcv16l : (((l0).take ((wrap64 (a1 + t118)) : Int).toNat).drop (a1 : Int).toNat).length = ((wrap64 (a1 + t118)) : Int).toNat - (a1 : Int).toNat := (by have q_ : (wrap64 (a1 + t118)) ≤ ((l0).length : Int) := of_decide_eq_true (by first | (with_reducible assumption) | assumption); simp only [List.length_drop, List.length_take]; omega); have hcv16e := hcv16d; (try rw [hcv16l] at hcv16); (try simp only [hcv16l] at hcv16e)))
                  go_ret2
                  exact ⟨by first | rfl | (simp; done) | (simp [*]; done), by repeat (first | exact Drawn0.refl _ | apply Drawn0.step)⟩
                · rw [if_neg c13] at H
                  exact absurd H (by simp)
              · rw [if_neg c12] at H
                exact absurd H (by simp)
          · rw [if_neg c7] at H
            exact absurd H (by simp)
        · rw [if_neg c6] at H
          exact absurd H (by simp)
end Go.Proofs.Ytkopmkinlanhoaa.PE

namespace Go.Proofs.Ytkopmkinlanhoaa.PE
open Go.RowKit Go.Proofs.YtkopmkinlanhoaaW.PrintWords Go.Proofs.YtkopmkinlanhoaaW.PrintLast Go.Proofs.YtkopmkinlanhoaaW.PrintMore
attribute [local go_sem] max2_int min2_int max_two min_two max_three min_three max_four min_four   -- for this text's walks alone
set_option linter.unusedVariables false
set_option linter.unusedSimpArgs false
def bytes_Clone.f (l0 : List Int) : Option (List Int) := if l0.length < 140737488355328 then (some l0) else (none)
set_option maxRecDepth 100000 in
theorem bytes_Clone.calls (A0 : Option Addr) (c0 : Nat) (l0 : List Int) (r : List Int) (w : World) (hr0 : Kd.C (Kd.int .u8) w A0 l0.length l0) (hc0 : l0.length ≤ c0) (h : bytes_Clone.f l0 = some r) :
    Calls Try.prog 79 #[.slice A0 l0.length c0] w fun e w' => ∃ v0_ : Value, e = .returned (v0_) ∧ Kd.R (Kd.int .u8) 5 w' w.heap.size (fun _ => True) v0_ r ∧ Below w.heap.size w w' := by
  unfold bytes_Clone.f at h
  by_cases c3 : l0.length < 140737488355328
  · rw [if_pos c3] at h
    injection h with h
    subst h
    have HR0 := Aside0.mk hr0
    have HC0 := Aside0.mk hc0
    clear hr0 hc0
    have HB := Aside0.mk (Below.refl w.heap.size w)
    have LMc3 := Aside0.mk c3
    clear c3
    cases A0 with
    | none =>
      have hn : l0 = [] := by
        cases l0 with
        | nil => rfl
        | cons x r =>
          obtain ⟨ad, he, _⟩ := HR0.out.2.2 (by simp)
          cases he
      subst hn
      have q := fun w' : World => Lib.run_eql_slice_nil (P := Try.prog) w' 45 5 none ([] : List Int).length c0 0 0 Try.underlying45
      simp only [Option.isNone_none, List.length_nil] at q
      go_enter Try.func79, Try.ntmps79
      go_wp2
      go_ret
      exact ⟨_, rfl, Kd.R_nil _ _ _ _ _, Below.refl _ _⟩
    | some x0 =>
      have q := fun w' : World => Lib.run_eql_slice_nil (P := Try.prog) w' 45 5 (some x0) l0.length c0 0 0 Try.underlying45
      simp only [Option.isNone_some] at q
      obtain ⟨y5, hy5⟩ : ∃ y_ : List Int, y_ = [] := ⟨_, rfl⟩
      have Ny5 := Aside0.mk hy5
      clear hy5
      obtain ⟨y7, hy7⟩ : ∃ y_ : List Int, y_ = y5 ++ l0 := ⟨_, rfl⟩
      have Ny7 := Aside0.mk hy7
      clear hy7
      go_enter Try.func79, Try.ntmps79
      go_wp2_with (first | ((with_reducible refine gate_dst (N := 5) rfl ?_); refine Kd.R_lit (Kd.int .u8) _ 5 ?hg (N := 5) ?hd (xs := ([] : List Int)) (inner := []) (ok := fun _ => True) (okp := fun _ => True) ?hr ?hp (fun _ hk => hk) trivial (Below.refl _ _) (Nat.le_refl _) (by simp) ?_; (case hd => rfl); (case hg => rfl); (case hr => first | (go_simp; done) | (go_simp; rfl)); (case hp => exact (Reps.none _ _)); intro v5 w5 ho6 hb hg_ hnew_; clear hg_ hnew_; rw [← Ny5.out] at ho6; have n0_ := Aside0.mk (Kd.R_lower (base' := w.heap.size) ho6 (below_size (by repeat (first | (with_reducible first | exact HB.out | apply below_alloc | apply pw_below_drewN | apply below_drew1) | exact HB.out)))); have n2_ := Aside0.mk (below_step (by repeat (first | (with_reducible first | exact HB.out | apply below_alloc | apply pw_below_drewN | apply below_drew1) | exact HB.out)) hb); clear HB; have HO5 := n0_; have HB := n2_; clear n0_ n2_; clear hb ho6) | ((with_reducible refine gate_builtin (b := .append) (xs := #[.tmp 5, .tmp 6]) rfl ?_); at_builtin; refine Kd.R_append_rows (Kd.int .u8) (w0 := w) w.heap.size rfl (.tmp 5) (.tmp 6) 45 5 (.int .u8 0) 1 rfl Try.underlying45 info5 rfl (by decide) (by omega) v5 y5 l0 _ _ _ (fun _ => True) (fun _ => False) rfl rfl ?aO ?aR (fun _ _ h => h) (fun _ h => h.elim) (fun _ _ => trivial) ?aB ?aS ?aL ?_; (case aR => repeat (first | exact (Kd.C_below HR0.out HB.out) | (with_reducible refine Kd.C_alloc ?_ _) | (with_reducible refine Kd.C_drewN ?_ _) | (with_reducible refine Kd.C_drew ?_))); (case aB => exact (by repeat (first | (with_reducible first | exact HB.out | apply below_alloc | apply pw_below_drewN | apply below_drew1) | exact HB.out))); (case aO => exact (by (with_reducible repeat (first | apply Kd.R_alloc | apply Kd.R_drewN | apply Kd.R_drew)); exact HO5.out)); (case aS => exact (below_size (by repeat (first | (with_reducible first | exact HB.out | apply below_alloc | apply pw_below_drewN | apply below_drew1) | exact HB.out)))); (case aL => have := LMc3.out; rw [Ny5.out]; simp; omega); intro v7 w7 ho hb hg hat; rw [← Ny7.out] at ho; have n1_ := Aside0.mk (hb); have n2_ := Aside0.mk (ho); clear HB; clear HO5; have HB := n1_; have HO7 := n2_; clear n1_ n2_; clear ho hb hg hat))
      go_ret
      exact ⟨_, rfl, by have e7 : y7 = l0 := (by rw [Ny7.out, Ny5.out]; rfl); rw [← e7]; (with_reducible repeat (first | apply Kd.R_alloc | apply Kd.R_drewN | apply Kd.R_drew)); exact HO7.out, by repeat (first | (with_reducible first | exact HB.out | apply below_alloc | apply pw_below_drewN | apply below_drew1) | exact HB.out)⟩
  · rw [if_neg c3] at h
    cases h
end Go.Proofs.Ytkopmkinlanhoaa.PE
