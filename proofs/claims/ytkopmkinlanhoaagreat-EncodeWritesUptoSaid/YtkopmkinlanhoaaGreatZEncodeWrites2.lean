/- EncodeWrites: texts of this session's, and what the kit's print laid for this seat, as far as the law's row uses them (PEx0, PEx0, PEx0, PEx0, PEx0). -/
import Derived.Test.YtkopmkinlanhoaaGreatZEncodeWrites1
set_option linter.unusedVariables false
set_option linter.unusedSimpArgs false
namespace Go.Proofs.YtkopmkinlanhoaaGreat.PE
open Go.RowKit Go.Proofs.YtkopmkinlanhoaaGreatW.PrintWords Go.Proofs.YtkopmkinlanhoaaGreatW.PrintLast Go.Proofs.YtkopmkinlanhoaaGreatW.PrintMore
attribute [local go_sem] max2_int min2_int max_two min_two max_three min_three max_four min_four
attribute [local irreducible] Go.Calls in
set_option maxRecDepth 100000 in
set_option maxHeartbeats 1000000 in
theorem tree_check.calls (k : Nat) : ∀ (a0_0 : ByteArray) (A0_1 : Option Addr) (c0_1 : Nat) (l0_1 : List (S68)) (A0_2 : Option Addr) (c0_2 : Nat) (l0_2 : List (S27)) (a1 : Int) (r : Int) (w : World) (hr0_1 : Kd.C k68 w A0_1 l0_1.length l0_1) (hc0_1 : l0_1.length ≤ c0_1) (hr0_2 : Kd.C k27 w A0_2 l0_2.length l0_2) (hc0_2 : l0_2.length ≤ c0_2) (h : tree_check.f k a0_0 l0_1 l0_2 a1 = some r),
  Calls Tryz.prog 27 #[.agg #[.string a0_0, .slice A0_1 l0_1.length c0_1, .slice A0_2 l0_2.length c0_2], .int .i64 a1] w fun e w' => e = .returned (.int .i64 r) ∧ Below w.heap.size w w' := by
 induction k with
 | zero => intro a0_0 A0_1 c0_1 l0_1 A0_2 c0_2 l0_2 a1 r w hr0_1 hc0_1 hr0_2 hc0_2 h; cases h
 | succ k ih =>
 intro a0_0 A0_1 c0_1 l0_1 A0_2 c0_2 l0_2 a1 r w hr0_1 hc0_1 hr0_2 hc0_2 h; have hu27 := Tryz.underlying27; have HR2 := AK hr0_2; have H0 : (tree_check.node k a0_0 l0_1 l0_2 a1).bind (fun e => if e = 0 then tree_check.kids (fun x y z => tree_check.f k x y z (wrap64 (a1 + 1))) l0_2 else some e) = some r := h; clear h; obtain ⟨e0, hn, H0⟩ := Option.bind_eq_some_iff.mp H0; unfold tree_check.node at hn; obtain ⟨⟨lm1, lm2⟩, hnames, hn⟩ := Option.bind_eq_some_iff.mp hn; simp only at hn; have hbk := AK (blk_new w (.cells #[.string a0_0, .slice A0_1 l0_1.length c0_1, .slice A0_2 l0_2.length c0_2] 27 (0, 0)))
 obtain ⟨W1, hW1⟩ : ∃ W1, W1 = w.alloc (.cells #[.string a0_0, .slice A0_1 l0_1.length c0_1, .slice A0_2 l0_2.length c0_2] 27) := ⟨_, rfl⟩
 have hs1 : W1.heap.size = w.heap.size + 1 := by rw [hW1]; exact Array.size_push ..
 have hb1 := AK (show Below w.heap.size w W1 by rw [hW1]; exact below_alloc (Below.refl _ _) _); have qn := tree_names.calls k a0_0 A0_1 c0_1 l0_1 A0_2 c0_2 l0_2 lm1 lm2 W1 (Kd.C_below hr0_1 hb1.out) hc0_1 (Kd.C_below hr0_2 hb1.out) hc0_2 hnames; have hs1' := AK hs1; have hbk1 := AK (show W1.heap[w.heap.size]? = some (.cells #[.string a0_0, .slice A0_1 l0_1.length c0_1, .slice A0_2 l0_2.length c0_2] 27 (0, 0)) by rw [hW1]; exact hbk.out); have HW1 := AK hW1; rw [hW1] at qn; clear hW1; have hm2 : l0_2.length ≤ 9223372036854775807 := hr0_2.2.1; have HM := AK hm2; clear hr0_1 hr0_2 hnames hbk hs1 hm2
 by_cases d16 : a1 > 16
 ·rw [if_pos d16] at hn; obtain rfl := Option.some.inj hn; obtain rfl := Option.some.inj H0; have d16b : decide (a1 > 16) = true := decide_eq_true d16; have d16c : decide (16 < a1) = true := decide_eq_true d16; clear hn d16; go_enter Tryz.func27, Tryz.ntmps27; (go_wp2_with (go_at_call 42; refine (qn).mono ?_; rintro e w' ⟨v0, v1, rfl, h0, h1, hb⟩; rw [← HW1.out] at h0 h1 hb; have hk := blk_below hbk1.out hb; have HB := AK hb; have R0 := AK h0; have R1 := AK h1; clear h0 h1 hb; have hc0 : w'.cell? ⟨w.heap.size, 0, none⟩ = some (.string a0_0) := (blk_cell hk 0).trans rfl; have hc2 : w'.cell? ⟨w.heap.size, 2, none⟩ = some (.slice A0_2 l0_2.length c0_2) := (blk_cell hk 2).trans rfl; have hz0 := blk_frozen hk 0; have hz2 := blk_frozen hk 2; clear hk)); go_ret; exact ⟨Zq25, below_step hb1.out Zq16⟩
 rw [if_neg d16] at hn; have d16b : decide (a1 > 16) = false := decide_eq_false d16; have d16c : decide (16 < a1) = false := decide_eq_false d16
 by_cases dl : a1 < 1
 ·rw [if_pos dl] at hn; cases hn
 rw [if_neg dl] at hn; obtain ⟨b, hnode, hn⟩ := Option.bind_eq_some_iff.mp hn
 have qnode := fun W => name_Node.calls k a0_0 b W hnode
 clear hnode
 by_cases d1 : a1 = 1
 ·subst d1
  by_cases hz : a0_0.toList = ([] : List UInt8)
  ·have hz0 : (a0_0.toList == ([] : List UInt8)) = true := beq_iff_eq.mpr hz; have hz1 : (a0_0.toList != ([] : List UInt8)) = false := bne_eq_false_iff_eq.mpr hz; rw [if_neg (fun h => h.2 hz), if_neg Zq1] at hn; clear d16 dl hz; obtain ⟨i0, hbad0, hn⟩ := Option.bind_eq_some_iff.mp hn; have hbad := AK hbad0; clear hbad0
   by_cases ci0 : 0 ≤ i0
   ·rw [if_pos ci0] at hn; obtain rfl := Option.some.inj hn; obtain rfl := Option.some.inj H0; have ci0b : decide (0 ≤ i0) = true := decide_eq_true ci0; clear hn ci0; go_enter Tryz.func27, Tryz.ntmps27; (go_wp2_with (first | (go_at_call 42; refine (qn).mono ?_; rintro e w' ⟨v0, v1, rfl, h0, h1, hb⟩; rw [← HW1.out] at h0 h1 hb; have hk := blk_below hbk1.out hb; have HB := AK hb; have R0 := AK h0; have R1 := AK h1; clear h0 h1 hb; have hc0 : w'.cell? ⟨w.heap.size, 0, none⟩ = some (.string a0_0) := (blk_cell hk 0).trans rfl; have hc2 : w'.cell? ⟨w.heap.size, 2, none⟩ = some (.slice A0_2 l0_2.length c0_2) := (blk_cell hk 2).trans rfl; have hz0 := blk_frozen hk 0; have hz2 := blk_frozen hk 2; clear hk) | (go_at_call 43; refine (qnode _).mono ?_; rintro e w' ⟨rfl, ⟨nd, rfl⟩⟩) | (go_at_call 44; refine (bad_has_v k v0 lm1 _ W1.heap.size (fun k_ => some k_ ≠ v1.ownBlock) i0 Zq38 hbad.out).mono ?_; rintro e w' ⟨rfl, ⟨nd2, rfl⟩⟩))); go_ret; exact ⟨Zq25, below_step hb1.out Zq16⟩
   rw [if_neg ci0] at hn; have ci0b : decide (0 ≤ i0) = false := decide_eq_false ci0; clear ci0
   by_cases hlen : ¬ (lm1.length < 4611686018427387904 ∧ lm2.length < 4611686018427387904)
   ·rw [if_neg hlen] at hn; cases hn
   replace hlen := Decidable.not_not.mp hlen; rw [if_pos hlen] at hn; have HL := AK hlen; clear hlen
   by_cases u1 : dupB lm1 = true
   ·rw [if_pos u1] at hn; obtain rfl := Option.some.inj hn; obtain rfl := Option.some.inj H0; clear hn; go_enter Tryz.func27, Tryz.ntmps27; (go_wp2_with (first | (go_at_call 42; refine (qn).mono ?_; rintro e w' ⟨v0, v1, rfl, h0, h1, hb⟩; rw [← HW1.out] at h0 h1 hb; have hk := blk_below hbk1.out hb; have HB := AK hb; have R0 := AK h0; have R1 := AK h1; clear h0 h1 hb; have hc0 : w'.cell? ⟨w.heap.size, 0, none⟩ = some (.string a0_0) := (blk_cell hk 0).trans rfl; have hc2 : w'.cell? ⟨w.heap.size, 2, none⟩ = some (.slice A0_2 l0_2.length c0_2) := (blk_cell hk 2).trans rfl; have hz0 := blk_frozen hk 0; have hz2 := blk_frozen hk 2; clear hk; have qt0 := fun n => twice_calls v0 lm1 (w'.drewN n) W1.heap.size (fun k_ => some k_ ≠ v1.ownBlock) (Kd.R_drewN R0.out n) HL.out.1; have qu0 := twice_calls v0 lm1 w' W1.heap.size (fun k_ => some k_ ≠ v1.ownBlock) R0.out HL.out.1) | (go_at_call 43; refine (qnode _).mono ?_; rintro e w' ⟨rfl, ⟨nd, rfl⟩⟩) | (go_at_call 44; refine (bad_has_v k v0 lm1 _ W1.heap.size (fun k_ => some k_ ≠ v1.ownBlock) i0 Zq38 hbad.out).mono ?_; rintro e w' ⟨rfl, ⟨nd2, rfl⟩⟩) | (go_at_call 47; (first | (refine (qt0 _).mono ?_) | (refine qu0.mono ?_)); rintro e w2 ⟨rfl, hg2⟩; have nr_ := Zq76; have nb_ := Zq88; have hk_ := blk_below hbk1.out nb_.out; have hc2_2 : w2.cell? ⟨w.heap.size, 2, none⟩ = some (.slice A0_2 l0_2.length c0_2) := (blk_cell hk_ 2).trans rfl; have hz2_2 := blk_frozen hk_ 2; clear HB hk_; have HB := nb_; clear nb_ hg2 R1; have R1 := nr_; clear nr_; have qt1 := fun n => twice_calls v1 lm2 (w2.drewN n) W1.heap.size (fun k_ => some k_ ≠ v0.ownBlock) (Kd.R_drewN R1.out n) HL.out.2; have qu1 := twice_calls v1 lm2 w2 W1.heap.size (fun k_ => some k_ ≠ v0.ownBlock) R1.out HL.out.2) | (go_at_call 47; (first | (refine (qt1 _).mono ?_) | (refine qu1.mono ?_)); rintro e w3 ⟨rfl, hg3⟩; have nb_ := Zq89; have hk_ := blk_below hbk1.out nb_.out; have hc2_3 : w3.cell? ⟨w.heap.size, 2, none⟩ = some (.slice A0_2 l0_2.length c0_2) := (blk_cell hk_ 2).trans rfl; have hz2_3 := blk_frozen hk_ 2; clear HB hk_; have HB := nb_; clear nb_ hg3))); go_ret; exact ⟨Zq25, below_step hb1.out Zq16⟩
   rw [if_neg u1] at hn; replace u1 := Bool.eq_false_iff.mpr u1
   by_cases u2 : dupB lm2 = true
   ·rw [if_pos u2] at hn; obtain rfl := Option.some.inj hn; obtain rfl := Option.some.inj H0; clear hn; go_enter Tryz.func27, Tryz.ntmps27; (go_wp2_with (first | (go_at_call 42; refine (qn).mono ?_; rintro e w' ⟨v0, v1, rfl, h0, h1, hb⟩; rw [← HW1.out] at h0 h1 hb; have hk := blk_below hbk1.out hb; have HB := AK hb; have R0 := AK h0; have R1 := AK h1; clear h0 h1 hb; have hc0 : w'.cell? ⟨w.heap.size, 0, none⟩ = some (.string a0_0) := (blk_cell hk 0).trans rfl; have hc2 : w'.cell? ⟨w.heap.size, 2, none⟩ = some (.slice A0_2 l0_2.length c0_2) := (blk_cell hk 2).trans rfl; have hz0 := blk_frozen hk 0; have hz2 := blk_frozen hk 2; clear hk; have qt0 := fun n => twice_calls v0 lm1 (w'.drewN n) W1.heap.size (fun k_ => some k_ ≠ v1.ownBlock) (Kd.R_drewN R0.out n) HL.out.1; have qu0 := twice_calls v0 lm1 w' W1.heap.size (fun k_ => some k_ ≠ v1.ownBlock) R0.out HL.out.1) | (go_at_call 43; refine (qnode _).mono ?_; rintro e w' ⟨rfl, ⟨nd, rfl⟩⟩) | (go_at_call 44; refine (bad_has_v k v0 lm1 _ W1.heap.size (fun k_ => some k_ ≠ v1.ownBlock) i0 Zq38 hbad.out).mono ?_; rintro e w' ⟨rfl, ⟨nd2, rfl⟩⟩) | (go_at_call 47; (first | (refine (qt0 _).mono ?_) | (refine qu0.mono ?_)); rintro e w2 ⟨rfl, hg2⟩; have nr_ := Zq76; have nb_ := Zq88; have hk_ := blk_below hbk1.out nb_.out; have hc2_2 : w2.cell? ⟨w.heap.size, 2, none⟩ = some (.slice A0_2 l0_2.length c0_2) := (blk_cell hk_ 2).trans rfl; have hz2_2 := blk_frozen hk_ 2; clear HB hk_; have HB := nb_; clear nb_ hg2 R1; have R1 := nr_; clear nr_; have qt1 := fun n => twice_calls v1 lm2 (w2.drewN n) W1.heap.size (fun k_ => some k_ ≠ v0.ownBlock) (Kd.R_drewN R1.out n) HL.out.2; have qu1 := twice_calls v1 lm2 w2 W1.heap.size (fun k_ => some k_ ≠ v0.ownBlock) R1.out HL.out.2) | (go_at_call 47; (first | (refine (qt1 _).mono ?_) | (refine qu1.mono ?_)); rintro e w3 ⟨rfl, hg3⟩; have nb_ := Zq89; have hk_ := blk_below hbk1.out nb_.out; have hc2_3 : w3.cell? ⟨w.heap.size, 2, none⟩ = some (.slice A0_2 l0_2.length c0_2) := (blk_cell hk_ 2).trans rfl; have hz2_3 := blk_frozen hk_ 2; clear HB hk_; have HB := nb_; clear nb_ hg3))); go_ret; exact ⟨Zq25, below_step hb1.out Zq16⟩
   rw [if_neg u2] at hn; replace u2 := Bool.eq_false_iff.mpr u2; obtain rfl := Option.some.inj hn; rw [if_pos rfl] at H0; rw [w_two] at H0; have HK := AK H0; clear H0 hn; go_enter Tryz.func27, Tryz.ntmps27; go_wp2_with (first | (go_at_call 42; refine (qn).mono ?_; rintro e w' ⟨v0, v1, rfl, h0, h1, hb⟩; rw [← HW1.out] at h0 h1 hb; have hk := blk_below hbk1.out hb; have HB := AK hb; have R0 := AK h0; have R1 := AK h1; clear h0 h1 hb; have hc0 : w'.cell? ⟨w.heap.size, 0, none⟩ = some (.string a0_0) := (blk_cell hk 0).trans rfl; have hc2 : w'.cell? ⟨w.heap.size, 2, none⟩ = some (.slice A0_2 l0_2.length c0_2) := (blk_cell hk 2).trans rfl; have hz0 := blk_frozen hk 0; have hz2 := blk_frozen hk 2; clear hk; have qt0 := fun n => twice_calls v0 lm1 (w'.drewN n) W1.heap.size (fun k_ => some k_ ≠ v1.ownBlock) (Kd.R_drewN R0.out n) HL.out.1; have qu0 := twice_calls v0 lm1 w' W1.heap.size (fun k_ => some k_ ≠ v1.ownBlock) R0.out HL.out.1) | (go_at_call 43; refine (qnode _).mono ?_; rintro e w' ⟨rfl, ⟨nd, rfl⟩⟩) | (go_at_call 44; refine (bad_has_v k v0 lm1 _ W1.heap.size (fun k_ => some k_ ≠ v1.ownBlock) i0 Zq38 hbad.out).mono ?_; rintro e w' ⟨rfl, ⟨nd2, rfl⟩⟩) | (go_at_call 47; (first | (refine (qt0 _).mono ?_) | (refine qu0.mono ?_)); rintro e w2 ⟨rfl, hg2⟩; have nr_ := Zq76; have nb_ := Zq88; have hk_ := blk_below hbk1.out nb_.out; have hc2_2 : w2.cell? ⟨w.heap.size, 2, none⟩ = some (.slice A0_2 l0_2.length c0_2) := (blk_cell hk_ 2).trans rfl; have hz2_2 := blk_frozen hk_ 2; clear HB hk_; have HB := nb_; clear nb_ hg2 R1; have R1 := nr_; clear nr_; have qt1 := fun n => twice_calls v1 lm2 (w2.drewN n) W1.heap.size (fun k_ => some k_ ≠ v0.ownBlock) (Kd.R_drewN R1.out n) HL.out.2; have qu1 := twice_calls v1 lm2 w2 W1.heap.size (fun k_ => some k_ ≠ v0.ownBlock) R1.out HL.out.2) | (go_at_call 47; (first | (refine (qt1 _).mono ?_) | (refine qu1.mono ?_)); rintro e w3 ⟨rfl, hg3⟩; have nb_ := Zq89; have hk_ := blk_below hbk1.out nb_.out; have hc2_3 : w3.cell? ⟨w.heap.size, 2, none⟩ = some (.slice A0_2 l0_2.length c0_2) := (blk_cell hk_ 2).trans rfl; have hz2_3 := blk_frozen hk_ 2; clear HB hk_; have HB := nb_; clear nb_ hg3))
   go_loopg [47] (l0_2.length + 1) (fun kq v47 w' => ∃ i : Nat, v47 = .int .i64 (i : Int) ∧ Aside0 (i + kq = l0_2.length + 1) ∧ Aside0 (tree_check.kids (fun x y z => tree_check.f k x y z 2) (l0_2.drop i) = some r) ∧ Aside0 (Below W1.heap.size W1 w'))
   case atStart => exact ⟨0, rfl, ⟨Zq1⟩, ⟨by rw [List.drop_zero]; exact HK.out⟩, HB⟩
   case round =>
    clear hc0 hc2 hz0 hz2 hc2_2 hz2_2 hc2_3 hz2_3 u1 u2 qt0 qu0 qt1 qu1; obtain ⟨i, rfl, HI, HX, HBr⟩ := hrel
    by_cases ci : (i : Int) < (l0_2.length : Int)
    ·have cib : decide ((i : Int) < (l0_2.length : Int)) = true := decide_eq_true ci
     have cil : i < l0_2.length := by omega
     obtain ⟨ad, A1, c1, A2, c2, e1, hx0, hx1, hx2, hl1, hC1, hl2, hC2⟩ := at_T27 HR2.out (i : Int) (Int.natCast_nonneg i) ci; subst e1; simp only [Int.toNat_natCast] at hx0 hx1 hx2; have HBw := AK (below_step hb1.out HBr.out); replace hx0 := (HBw.out.cell (World.block_lt_of_cell? w _ hx0)).trans hx0; replace hx1 := (HBw.out.cell (World.block_lt_of_cell? w _ hx1)).trans hx1; replace hx2 := (HBw.out.cell (World.block_lt_of_cell? w _ hx2)).trans hx2; have hX := HX.out; rw [List.drop_eq_getElem_cons cil] at hX
     have hxe : l0_2[i] = rd_T27 l0_2 (i : Int) := by simp only [rd_T27, Int.toNat_natCast, List.getD_eq_getElem?_getD, List.getElem?_eq_getElem cil, Option.getD_some]
     rw [hxe] at hX
     obtain ⟨x, hx⟩ : ∃ x, x = rd_T27 l0_2 (i : Int) := ⟨_, rfl⟩
     rw [← hx] at hX hx0 hx1 hx2 hl1 hC1 hl2 hC2; clear hx hxe HX; obtain ⟨e1, hF, hX⟩ := Option.bind_eq_some_iff.mp hX
     have qk := fun W (hW : Below w.heap.size w W) => ih x.f0 A1 c1 x.f1 A2 c2 x.f2 2 e1 W (Kd.C_below hC1 hW) hl1 (Kd.C_below hC2 hW) hl2 hF
     have hwd := True.intro; have hw := i64_w ((i : Int) + 1); have hw2 := w_succ cil HM.out; clear hF hC1 hC2
     cases gk with
     | zero => exact absurd HI.out (by clear hwd hw hw2; omega)
     | succ k1 =>
      by_cases h0 : e1 = 0
      ·rw [if_pos h0] at hX; have HX := AK hX; have h0b : (e1 == 0) = true := beq_iff_eq.mpr h0; have h0c : (e1 != 0) = false := bne_eq_false_iff_eq.mpr h0; clear hX h0; go_wp2_with (go_at_call 27; refine (qk _ ?hW).mono ?_; (case hW => repeat (first | exact HBw.out | apply below_alloc | apply pw_below_drewN | apply below_drew1)); rintro e w4 ⟨rfl, hb4⟩; have HB4 := AK hb4; clear hb4)
       go_roundg k1
       case measure => clear hwd hw hw2; omega
       case rel => exact ⟨i + 1, Zq4, ⟨by clear hwd hw hw2; have := HI.out; omega⟩, HX, ⟨Zq57⟩⟩
      ·rw [if_neg h0] at hX; obtain rfl := Option.some.inj hX; have h0b : (e1 == 0) = false := beq_eq_false_iff_ne.mpr h0; have h0c : (e1 != 0) = true := bne_iff_ne.mpr h0; clear hX h0; (go_wp2_with (go_at_call 27; refine (qk _ ?hW).mono ?_; (case hW => repeat (first | exact HBw.out | apply below_alloc | apply pw_below_drewN | apply below_drew1)); rintro e w4 ⟨rfl, hb4⟩; have HB4 := AK hb4; clear hb4)); go_ret; exact ⟨Zq25, below_step hb1.out Zq57⟩
    ·have cib : decide ((i : Int) < (l0_2.length : Int)) = false := decide_eq_false ci; have hX := HX.out; rw [List.drop_of_length_le Zq1] at hX; obtain rfl := Option.some.inj hX; clear HX hX; go_wp2; go_ret; exact ⟨rfl, below_step hb1.out (by repeat (first | exact HBr.out | apply below_drew1 | apply pw_below_drewN))⟩
  ·have hz0 : (a0_0.toList == ([] : List UInt8)) = false := beq_eq_false_iff_ne.mpr hz; have hz1 : (a0_0.toList != ([] : List UInt8)) = true := bne_iff_ne.mpr hz; rw [if_pos ⟨rfl, hz⟩] at hn; obtain rfl := Option.some.inj hn; obtain rfl := Option.some.inj H0; clear hn hz d16 dl; go_enter Tryz.func27, Tryz.ntmps27; (go_wp2_with (first | (go_at_call 42; refine (qn).mono ?_; rintro e w' ⟨v0, v1, rfl, h0, h1, hb⟩; rw [← HW1.out] at h0 h1 hb; have hk := blk_below hbk1.out hb; have HB := AK hb; have R0 := AK h0; have R1 := AK h1; clear h0 h1 hb; have hc0 : w'.cell? ⟨w.heap.size, 0, none⟩ = some (.string a0_0) := (blk_cell hk 0).trans rfl; have hc2 : w'.cell? ⟨w.heap.size, 2, none⟩ = some (.slice A0_2 l0_2.length c0_2) := (blk_cell hk 2).trans rfl; have hz0 := blk_frozen hk 0; have hz2 := blk_frozen hk 2; clear hk) | (go_at_call 43; refine (qnode _).mono ?_; rintro e w' ⟨rfl, ⟨nd, rfl⟩⟩))); go_ret; exact ⟨Zq25, below_step hb1.out Zq16⟩
 ·have d1b : decide (a1 = 1) = false := decide_eq_false d1; have d1c : decide (a1 > 1) = true := decide_eq_true Zq1; have d1d : decide (1 < a1) = true := decide_eq_true Zq1; have d1e : (a1 == 1) = false := beq_eq_false_iff_ne.mpr d1; rw [if_neg (fun h => d1 h.1)] at hn
  cases b with
  | false =>
   rw [if_pos ⟨Zq1, rfl⟩] at hn; obtain rfl := Option.some.inj hn; obtain rfl := Option.some.inj H0; clear hn d16 dl d1; go_enter Tryz.func27, Tryz.ntmps27; (go_wp2_with (first | (go_at_call 42; refine (qn).mono ?_; rintro e w' ⟨v0, v1, rfl, h0, h1, hb⟩; rw [← HW1.out] at h0 h1 hb; have hk := blk_below hbk1.out hb; have HB := AK hb; have R0 := AK h0; have R1 := AK h1; clear h0 h1 hb; have hc0 : w'.cell? ⟨w.heap.size, 0, none⟩ = some (.string a0_0) := (blk_cell hk 0).trans rfl; have hc2 : w'.cell? ⟨w.heap.size, 2, none⟩ = some (.slice A0_2 l0_2.length c0_2) := (blk_cell hk 2).trans rfl; have hz0 := blk_frozen hk 0; have hz2 := blk_frozen hk 2; clear hk) | (go_at_call 43; refine (qnode _).mono ?_; rintro e w' ⟨rfl, ⟨nd, rfl⟩⟩))); go_ret; exact ⟨Zq25, below_step hb1.out Zq16⟩
  | true =>
   rw [if_neg (fun h => Bool.noConfusion h.2)] at hn; clear d16 dl d1; obtain ⟨i0, hbad0, hn⟩ := Option.bind_eq_some_iff.mp hn; have hbad := AK hbad0; clear hbad0
   by_cases ci0 : 0 ≤ i0
   ·rw [if_pos ci0] at hn; obtain rfl := Option.some.inj hn; obtain rfl := Option.some.inj H0; have ci0b : decide (0 ≤ i0) = true := decide_eq_true ci0; clear hn ci0; go_enter Tryz.func27, Tryz.ntmps27; (go_wp2_with (first | (go_at_call 42; refine (qn).mono ?_; rintro e w' ⟨v0, v1, rfl, h0, h1, hb⟩; rw [← HW1.out] at h0 h1 hb; have hk := blk_below hbk1.out hb; have HB := AK hb; have R0 := AK h0; have R1 := AK h1; clear h0 h1 hb; have hc0 : w'.cell? ⟨w.heap.size, 0, none⟩ = some (.string a0_0) := (blk_cell hk 0).trans rfl; have hc2 : w'.cell? ⟨w.heap.size, 2, none⟩ = some (.slice A0_2 l0_2.length c0_2) := (blk_cell hk 2).trans rfl; have hz0 := blk_frozen hk 0; have hz2 := blk_frozen hk 2; clear hk) | (go_at_call 43; refine (qnode _).mono ?_; rintro e w' ⟨rfl, ⟨nd, rfl⟩⟩) | (go_at_call 44; refine (bad_has_v k v0 lm1 _ W1.heap.size (fun k_ => some k_ ≠ v1.ownBlock) i0 Zq38 hbad.out).mono ?_; rintro e w' ⟨rfl, ⟨nd2, rfl⟩⟩))); go_ret; exact ⟨Zq25, below_step hb1.out Zq16⟩
   rw [if_neg ci0] at hn; have ci0b : decide (0 ≤ i0) = false := decide_eq_false ci0; clear ci0
   by_cases hlen : ¬ (lm1.length < 4611686018427387904 ∧ lm2.length < 4611686018427387904)
   ·rw [if_neg hlen] at hn; cases hn
   replace hlen := Decidable.not_not.mp hlen; rw [if_pos hlen] at hn; have HL := AK hlen; clear hlen
   by_cases u1 : dupB lm1 = true
   ·rw [if_pos u1] at hn; obtain rfl := Option.some.inj hn; obtain rfl := Option.some.inj H0; clear hn; go_enter Tryz.func27, Tryz.ntmps27; (go_wp2_with (first | (go_at_call 42; refine (qn).mono ?_; rintro e w' ⟨v0, v1, rfl, h0, h1, hb⟩; rw [← HW1.out] at h0 h1 hb; have hk := blk_below hbk1.out hb; have HB := AK hb; have R0 := AK h0; have R1 := AK h1; clear h0 h1 hb; have hc0 : w'.cell? ⟨w.heap.size, 0, none⟩ = some (.string a0_0) := (blk_cell hk 0).trans rfl; have hc2 : w'.cell? ⟨w.heap.size, 2, none⟩ = some (.slice A0_2 l0_2.length c0_2) := (blk_cell hk 2).trans rfl; have hz0 := blk_frozen hk 0; have hz2 := blk_frozen hk 2; clear hk; have qt0 := fun n => twice_calls v0 lm1 (w'.drewN n) W1.heap.size (fun k_ => some k_ ≠ v1.ownBlock) (Kd.R_drewN R0.out n) HL.out.1; have qu0 := twice_calls v0 lm1 w' W1.heap.size (fun k_ => some k_ ≠ v1.ownBlock) R0.out HL.out.1) | (go_at_call 43; refine (qnode _).mono ?_; rintro e w' ⟨rfl, ⟨nd, rfl⟩⟩) | (go_at_call 44; refine (bad_has_v k v0 lm1 _ W1.heap.size (fun k_ => some k_ ≠ v1.ownBlock) i0 Zq38 hbad.out).mono ?_; rintro e w' ⟨rfl, ⟨nd2, rfl⟩⟩) | (go_at_call 47; (first | (refine (qt0 _).mono ?_) | (refine qu0.mono ?_)); rintro e w2 ⟨rfl, hg2⟩; have nr_ := Zq76; have nb_ := Zq88; have hk_ := blk_below hbk1.out nb_.out; have hc2_2 : w2.cell? ⟨w.heap.size, 2, none⟩ = some (.slice A0_2 l0_2.length c0_2) := (blk_cell hk_ 2).trans rfl; have hz2_2 := blk_frozen hk_ 2; clear HB hk_; have HB := nb_; clear nb_ hg2 R1; have R1 := nr_; clear nr_; have qt1 := fun n => twice_calls v1 lm2 (w2.drewN n) W1.heap.size (fun k_ => some k_ ≠ v0.ownBlock) (Kd.R_drewN R1.out n) HL.out.2; have qu1 := twice_calls v1 lm2 w2 W1.heap.size (fun k_ => some k_ ≠ v0.ownBlock) R1.out HL.out.2) | (go_at_call 47; (first | (refine (qt1 _).mono ?_) | (refine qu1.mono ?_)); rintro e w3 ⟨rfl, hg3⟩; have nb_ := Zq89; have hk_ := blk_below hbk1.out nb_.out; have hc2_3 : w3.cell? ⟨w.heap.size, 2, none⟩ = some (.slice A0_2 l0_2.length c0_2) := (blk_cell hk_ 2).trans rfl; have hz2_3 := blk_frozen hk_ 2; clear HB hk_; have HB := nb_; clear nb_ hg3))); go_ret; exact ⟨Zq25, below_step hb1.out Zq16⟩
   rw [if_neg u1] at hn; replace u1 := Bool.eq_false_iff.mpr u1
   by_cases u2 : dupB lm2 = true
   ·rw [if_pos u2] at hn; obtain rfl := Option.some.inj hn; obtain rfl := Option.some.inj H0; clear hn; go_enter Tryz.func27, Tryz.ntmps27; (go_wp2_with (first | (go_at_call 42; refine (qn).mono ?_; rintro e w' ⟨v0, v1, rfl, h0, h1, hb⟩; rw [← HW1.out] at h0 h1 hb; have hk := blk_below hbk1.out hb; have HB := AK hb; have R0 := AK h0; have R1 := AK h1; clear h0 h1 hb; have hc0 : w'.cell? ⟨w.heap.size, 0, none⟩ = some (.string a0_0) := (blk_cell hk 0).trans rfl; have hc2 : w'.cell? ⟨w.heap.size, 2, none⟩ = some (.slice A0_2 l0_2.length c0_2) := (blk_cell hk 2).trans rfl; have hz0 := blk_frozen hk 0; have hz2 := blk_frozen hk 2; clear hk; have qt0 := fun n => twice_calls v0 lm1 (w'.drewN n) W1.heap.size (fun k_ => some k_ ≠ v1.ownBlock) (Kd.R_drewN R0.out n) HL.out.1; have qu0 := twice_calls v0 lm1 w' W1.heap.size (fun k_ => some k_ ≠ v1.ownBlock) R0.out HL.out.1) | (go_at_call 43; refine (qnode _).mono ?_; rintro e w' ⟨rfl, ⟨nd, rfl⟩⟩) | (go_at_call 44; refine (bad_has_v k v0 lm1 _ W1.heap.size (fun k_ => some k_ ≠ v1.ownBlock) i0 Zq38 hbad.out).mono ?_; rintro e w' ⟨rfl, ⟨nd2, rfl⟩⟩) | (go_at_call 47; (first | (refine (qt0 _).mono ?_) | (refine qu0.mono ?_)); rintro e w2 ⟨rfl, hg2⟩; have nr_ := Zq76; have nb_ := Zq88; have hk_ := blk_below hbk1.out nb_.out; have hc2_2 : w2.cell? ⟨w.heap.size, 2, none⟩ = some (.slice A0_2 l0_2.length c0_2) := (blk_cell hk_ 2).trans rfl; have hz2_2 := blk_frozen hk_ 2; clear HB hk_; have HB := nb_; clear nb_ hg2 R1; have R1 := nr_; clear nr_; have qt1 := fun n => twice_calls v1 lm2 (w2.drewN n) W1.heap.size (fun k_ => some k_ ≠ v0.ownBlock) (Kd.R_drewN R1.out n) HL.out.2; have qu1 := twice_calls v1 lm2 w2 W1.heap.size (fun k_ => some k_ ≠ v0.ownBlock) R1.out HL.out.2) | (go_at_call 47; (first | (refine (qt1 _).mono ?_) | (refine qu1.mono ?_)); rintro e w3 ⟨rfl, hg3⟩; have nb_ := Zq89; have hk_ := blk_below hbk1.out nb_.out; have hc2_3 : w3.cell? ⟨w.heap.size, 2, none⟩ = some (.slice A0_2 l0_2.length c0_2) := (blk_cell hk_ 2).trans rfl; have hz2_3 := blk_frozen hk_ 2; clear HB hk_; have HB := nb_; clear nb_ hg3))); go_ret; exact ⟨Zq25, below_step hb1.out Zq16⟩
   rw [if_neg u2] at hn; replace u2 := Bool.eq_false_iff.mpr u2; obtain rfl := Option.some.inj hn; rw [if_pos rfl] at H0; have HK := AK H0; clear H0 hn; go_enter Tryz.func27, Tryz.ntmps27; go_wp2_with (first | (go_at_call 42; refine (qn).mono ?_; rintro e w' ⟨v0, v1, rfl, h0, h1, hb⟩; rw [← HW1.out] at h0 h1 hb; have hk := blk_below hbk1.out hb; have HB := AK hb; have R0 := AK h0; have R1 := AK h1; clear h0 h1 hb; have hc0 : w'.cell? ⟨w.heap.size, 0, none⟩ = some (.string a0_0) := (blk_cell hk 0).trans rfl; have hc2 : w'.cell? ⟨w.heap.size, 2, none⟩ = some (.slice A0_2 l0_2.length c0_2) := (blk_cell hk 2).trans rfl; have hz0 := blk_frozen hk 0; have hz2 := blk_frozen hk 2; clear hk; have qt0 := fun n => twice_calls v0 lm1 (w'.drewN n) W1.heap.size (fun k_ => some k_ ≠ v1.ownBlock) (Kd.R_drewN R0.out n) HL.out.1; have qu0 := twice_calls v0 lm1 w' W1.heap.size (fun k_ => some k_ ≠ v1.ownBlock) R0.out HL.out.1) | (go_at_call 43; refine (qnode _).mono ?_; rintro e w' ⟨rfl, ⟨nd, rfl⟩⟩) | (go_at_call 44; refine (bad_has_v k v0 lm1 _ W1.heap.size (fun k_ => some k_ ≠ v1.ownBlock) i0 Zq38 hbad.out).mono ?_; rintro e w' ⟨rfl, ⟨nd2, rfl⟩⟩) | (go_at_call 47; (first | (refine (qt0 _).mono ?_) | (refine qu0.mono ?_)); rintro e w2 ⟨rfl, hg2⟩; have nr_ := Zq76; have nb_ := Zq88; have hk_ := blk_below hbk1.out nb_.out; have hc2_2 : w2.cell? ⟨w.heap.size, 2, none⟩ = some (.slice A0_2 l0_2.length c0_2) := (blk_cell hk_ 2).trans rfl; have hz2_2 := blk_frozen hk_ 2; clear HB hk_; have HB := nb_; clear nb_ hg2 R1; have R1 := nr_; clear nr_; have qt1 := fun n => twice_calls v1 lm2 (w2.drewN n) W1.heap.size (fun k_ => some k_ ≠ v0.ownBlock) (Kd.R_drewN R1.out n) HL.out.2; have qu1 := twice_calls v1 lm2 w2 W1.heap.size (fun k_ => some k_ ≠ v0.ownBlock) R1.out HL.out.2) | (go_at_call 47; (first | (refine (qt1 _).mono ?_) | (refine qu1.mono ?_)); rintro e w3 ⟨rfl, hg3⟩; have nb_ := Zq89; have hk_ := blk_below hbk1.out nb_.out; have hc2_3 : w3.cell? ⟨w.heap.size, 2, none⟩ = some (.slice A0_2 l0_2.length c0_2) := (blk_cell hk_ 2).trans rfl; have hz2_3 := blk_frozen hk_ 2; clear HB hk_; have HB := nb_; clear nb_ hg3))
   go_loopg [47] (l0_2.length + 1) (fun kq v47 w' => ∃ i : Nat, v47 = .int .i64 (i : Int) ∧ Aside0 (i + kq = l0_2.length + 1) ∧ Aside0 (tree_check.kids (fun x y z => tree_check.f k x y z (wrap64 (a1 + 1))) (l0_2.drop i) = some r) ∧ Aside0 (Below W1.heap.size W1 w'))
   case atStart => exact ⟨0, rfl, ⟨Zq1⟩, ⟨by rw [List.drop_zero]; exact HK.out⟩, HB⟩
   case round =>
    clear hc0 hc2 hz0 hz2 hc2_2 hz2_2 hc2_3 hz2_3 u1 u2 qt0 qu0 qt1 qu1; obtain ⟨i, rfl, HI, HX, HBr⟩ := hrel
    by_cases ci : (i : Int) < (l0_2.length : Int)
    ·have cib : decide ((i : Int) < (l0_2.length : Int)) = true := decide_eq_true ci
     have cil : i < l0_2.length := by omega
     obtain ⟨ad, A1, c1, A2, c2, e1, hx0, hx1, hx2, hl1, hC1, hl2, hC2⟩ := at_T27 HR2.out (i : Int) (Int.natCast_nonneg i) ci; subst e1; simp only [Int.toNat_natCast] at hx0 hx1 hx2; have HBw := AK (below_step hb1.out HBr.out); replace hx0 := (HBw.out.cell (World.block_lt_of_cell? w _ hx0)).trans hx0; replace hx1 := (HBw.out.cell (World.block_lt_of_cell? w _ hx1)).trans hx1; replace hx2 := (HBw.out.cell (World.block_lt_of_cell? w _ hx2)).trans hx2; have hX := HX.out; rw [List.drop_eq_getElem_cons cil] at hX
     have hxe : l0_2[i] = rd_T27 l0_2 (i : Int) := by simp only [rd_T27, Int.toNat_natCast, List.getD_eq_getElem?_getD, List.getElem?_eq_getElem cil, Option.getD_some]
     rw [hxe] at hX
     obtain ⟨x, hx⟩ : ∃ x, x = rd_T27 l0_2 (i : Int) := ⟨_, rfl⟩
     rw [← hx] at hX hx0 hx1 hx2 hl1 hC1 hl2 hC2; clear hx hxe HX; obtain ⟨e1, hF, hX⟩ := Option.bind_eq_some_iff.mp hX
     have qk := fun W (hW : Below w.heap.size w W) => ih x.f0 A1 c1 x.f1 A2 c2 x.f2 (wrap64 (a1 + 1)) e1 W (Kd.C_below hC1 hW) hl1 (Kd.C_below hC2 hW) hl2 hF
     have hwd := i64_w (a1 + 1); have hw := i64_w ((i : Int) + 1); have hw2 := w_succ cil HM.out; clear hF hC1 hC2
     cases gk with
     | zero => exact absurd HI.out (by clear hwd hw hw2; omega)
     | succ k1 =>
      by_cases h0 : e1 = 0
      ·rw [if_pos h0] at hX; have HX := AK hX; have h0b : (e1 == 0) = true := beq_iff_eq.mpr h0; have h0c : (e1 != 0) = false := bne_eq_false_iff_eq.mpr h0; clear hX h0; go_wp2_with (go_at_call 27; refine (qk _ ?hW).mono ?_; (case hW => repeat (first | exact HBw.out | apply below_alloc | apply pw_below_drewN | apply below_drew1)); rintro e w4 ⟨rfl, hb4⟩; have HB4 := AK hb4; clear hb4)
       go_roundg k1
       case measure => clear hwd hw hw2; omega
       case rel => exact ⟨i + 1, Zq4, ⟨by clear hwd hw hw2; have := HI.out; omega⟩, HX, ⟨Zq57⟩⟩
      ·rw [if_neg h0] at hX; obtain rfl := Option.some.inj hX; have h0b : (e1 == 0) = false := beq_eq_false_iff_ne.mpr h0; have h0c : (e1 != 0) = true := bne_iff_ne.mpr h0; clear hX h0; (go_wp2_with (go_at_call 27; refine (qk _ ?hW).mono ?_; (case hW => repeat (first | exact HBw.out | apply below_alloc | apply pw_below_drewN | apply below_drew1)); rintro e w4 ⟨rfl, hb4⟩; have HB4 := AK hb4; clear hb4)); go_ret; exact ⟨Zq25, below_step hb1.out Zq57⟩
    ·have cib : decide ((i : Int) < (l0_2.length : Int)) = false := decide_eq_false ci; have hX := HX.out; rw [List.drop_of_length_le Zq1] at hX; obtain rfl := Option.some.inj hX; clear HX hX; go_wp2; go_ret; exact ⟨rfl, below_step hb1.out (by repeat (first | exact HBr.out | apply below_drew1 | apply pw_below_drewN))⟩
mutual
def tree_Count.l0 : Nat → Int → Int → List (S27) → Int → Int → Option (Int × Int)
 | 0, _, _, _, _, _ => none
 | k + 1, x4, x5, x14, x15, x16 => if x16 < x15 then (if 0 ≤ x16 then (if x16 < (x14.length : Int) then ((tree_Count.f k ((rd_T27 x14 x16).f0) ((rd_T27 x14 x16).f1) ((rd_T27 x14 x16).f2)).bind fun btbz => (tree_Count.l0 k (wrap64 (x4 + btbz.1)) (wrap64 (x5 + btbz.2)) x14 x15 (wrap64 (x16 + 1)))) else (none)) else (none)) else (some (x4, x5))
def tree_Count.f : Nat → ByteArray → List (S68) → List (S27) → Option (Int × Int)
 | 0, _, _, _ => none
 | k + 1, a0_0, l0_1, l0_2 => tree_Count.l0 k 1 (l0_1.length : Int) l0_2 (l0_2.length : Int) 0
end
theorem tree_Count.mono_l : ∀ k, (∀ y0 y1 y2, LeO (tree_Count.f k y0 y1 y2) (tree_Count.f (k + 1) y0 y1 y2)) ∧ (∀ y0 y1 y2 y3 y4, LeO (tree_Count.l0 k y0 y1 y2 y3 y4) (tree_Count.l0 (k + 1) y0 y1 y2 y3 y4))
 | 0 => ⟨fun _ _ _ r h => by simp [tree_Count.f] at h, fun _ _ _ _ _ r h => by simp [tree_Count.l0] at h⟩
 | k + 1 => by
  obtain ⟨ih0, ih1⟩ := tree_Count.mono_l k; refine ⟨?_, ?_⟩
  ·intro y0 y1 y2; unfold tree_Count.f
   repeat' first | (with_reducible first | exact ih0 _ _ _ | exact ih1 _ _ _ _ _ | exact LeO.refl _ | exact LeO.none _ | refine LeO.ite ?_ ?_ | refine LeO.bind ?_ (fun _ => ?_))
  ·intro y0 y1 y2 y3 y4; unfold tree_Count.l0
   repeat' first | (with_reducible first | exact ih0 _ _ _ | exact ih1 _ _ _ _ _ | exact LeO.refl _ | exact LeO.none _ | refine LeO.ite ?_ ?_ | refine LeO.bind ?_ (fun _ => ?_))
theorem tree_Count.mono : ∀ a0 a1 a2 k, LeO (tree_Count.f k a0 a1 a2) (tree_Count.f (k + 1) a0 a1 a2) := by
 intro a0 a1 a2 k; obtain ⟨ih0, ih1⟩ := tree_Count.mono_l k; exact ih0 a0 a1 a2
set_option maxHeartbeats 8000000 in
set_option maxRecDepth 100000 in
theorem tree_Count.calls (k : Nat) : ∀ (a0_0 : ByteArray) (A0_1 : Option Addr) (c0_1 : Nat) (l0_1 : List (S68)) (A0_2 : Option Addr) (c0_2 : Nat) (l0_2 : List (S27)) (r1 : Int) (r2 : Int) (w : World) (hr0_1 : Kd.C k68 w A0_1 l0_1.length l0_1) (hc0_1 : l0_1.length ≤ c0_1) (hr0_2 : Kd.C k27 w A0_2 l0_2.length l0_2) (hc0_2 : l0_2.length ≤ c0_2) (h : tree_Count.f k a0_0 l0_1 l0_2 = some (r1, r2)),
  Calls Tryz.prog 28 #[.agg #[.string a0_0, .slice A0_1 l0_1.length c0_1, .slice A0_2 l0_2.length c0_2]] w fun e w' => e = .returned (.tuple #[.int .i64 r1, .int .i64 r2]) ∧ Below w.heap.size w w' := by
 induction k using Nat.strongRecOn with
 | _ k ih =>
 intro a0_0 A0_1 c0_1 l0_1 A0_2 c0_2 l0_2 r1 r2 w hr0_1 hc0_1 hr0_2 hc0_2 h
 cases k with
 | zero => exact absurd h (by simp [tree_Count.f])
 | succ k =>
 simp only [tree_Count.f] at h; have hu27 := Tryz.underlying27; have HR0_1 := AK hr0_1; have HC0_1 := AK hc0_1; clear hr0_1 hc0_1; have HR0_2 := AK hr0_2; have HC0_2 := AK hc0_2; clear hr0_2 hc0_2; have HB := Zq70; have H : (tree_Count.l0 k 1 (l0_1.length : Int) l0_2 (l0_2.length : Int) 0) = some (r1, r2) := h; clear h; have H' := AK H; clear H; go_enter Tryz.func28, Tryz.ntmps28; go_wp2_with (first | ((with_reducible refine gate_dst (N := 1) rfl ?_); refine box_event ?hg (N := 1) ?hd (cs := #[.string a0_0, .slice A0_1 l0_1.length c0_1, .slice A0_2 l0_2.length c0_2]) (t := 27) ?hr ?_; (case hd | hg => rfl); (case hr => first | (go_simp; done) | (go_simp; rfl)); intro gbah hg w2 hbox hb; have n_ := Zn4 Zq61 (AK (hbox)) Zq85 Zq85; clear HB; obtain ⟨HB, BKah, GWah, GEah⟩ := n_; clear hb hbox hg; obtain ⟨hcz3_0, hcz3_1, hcz3_2, hfz3_0, hfz3_1, hfz3_2⟩ := Zk3 BKah.out))
 repeat (go_quiet (first | ((with_reducible refine gate_dst (N := 1) rfl ?_); refine box_event ?hg (N := 1) ?hd (cs := #[.string a0_0, .slice A0_1 l0_1.length c0_1, .slice A0_2 l0_2.length c0_2]) (t := 27) ?hr ?_; (case hd | hg => rfl); (case hr => first | (go_simp; done) | (go_simp; rfl)); intro gbah hg w2 hbox hb; have n_ := Zn4 Zq61 (AK (hbox)) Zq85 Zq85; clear HB; obtain ⟨HB, BKah, GWah, GEah⟩ := n_; clear hb hbox hg; obtain ⟨hcz3_0, hcz3_1, hcz3_2, hfz3_0, hfz3_1, hfz3_2⟩ := Zk3 BKah.out)); try go_wp2_with (first | ((with_reducible refine gate_dst (N := 1) rfl ?_); refine box_event ?hg (N := 1) ?hd (cs := #[.string a0_0, .slice A0_1 l0_1.length c0_1, .slice A0_2 l0_2.length c0_2]) (t := 27) ?hr ?_; (case hd | hg => rfl); (case hr => first | (go_simp; done) | (go_simp; rfl)); intro gbah hg w2 hbox hb; have n_ := Zn4 Zq61 (AK (hbox)) Zq85 Zq85; clear HB; obtain ⟨HB, BKah, GWah, GEah⟩ := n_; clear hb hbox hg; obtain ⟨hcz3_0, hcz3_1, hcz3_2, hfz3_0, hfz3_1, hfz3_2⟩ := Zk3 BKah.out)))
 go_loopg [4, 5, 16] k (fun kq v4 v5 v16 w' => ∃ (x4_1 : Int) (x5_1 : Int) (x16_1 : Int), v4 = .int .i64 x4_1 ∧ v5 = .int .i64 x5_1 ∧ v16 = .int .i64 x16_1 ∧ Aside0 (tree_Count.l0 kq x4_1 x5_1 l0_2 (l0_2.length : Int) x16_1 = some (r1, r2)) ∧ Aside0 (kq ≤ k) ∧ Aside0 (w'.heap[gbah]? = some (.cells #[.string a0_0, (.slice A0_1 l0_1.length c0_1), (.slice A0_2 l0_2.length c0_2)] 27 (0, 0))) ∧ Aside0 (Below w.heap.size w w'))
 case atStart => exact ⟨(1), ((l0_1.length : Int)), (0), Zq4, Zq4, Zq4, H', ⟨Nat.le_refl _⟩, ⟨Zq26⟩, ⟨Zq27⟩⟩
 case round =>
  clear H'; (try clear hcz3_0); (try clear hcz3_1); (try clear hcz3_2); (try clear hfz3_0); (try clear hfz3_1); (try clear hfz3_2); obtain ⟨x4_1, x5_1, x16_1, rfl, rfl, rfl, HA, HK1, BKah, HB⟩ := hrel
  cases gk with
  | zero => exact absurd HA.out (by simp [tree_Count.l0])
  | succ k1 =>
   have H := HA.out; clear HA; simp only [tree_Count.l0] at H
   by_cases c4 : x16_1 < (l0_2.length : Int)
   ·rw [if_pos c4] at H; have c4b0 : decide (x16_1 < (l0_2.length : Int)) = true := decide_eq_true c4; clear c4
    by_cases c5 : 0 ≤ x16_1
    ·rw [if_pos c5] at H; have c5b0 : decide (0 ≤ x16_1) = true := decide_eq_true c5; clear c5
     by_cases c6 : x16_1 < (l0_2.length : Int)
     ·rw [if_pos c6] at H; have c6b0 : decide (x16_1 < (l0_2.length : Int)) = true := decide_eq_true c6; clear c6; replace H := Option.bind_eq_some_iff.mp H; obtain ⟨⟨tbz, tbS⟩, A70, H⟩ := H; replace H : (tree_Count.l0 k1 (wrap64 (x4_1 + tbz)) (wrap64 (x5_1 + tbS)) l0_2 (l0_2.length : Int) (wrap64 (x16_1 + 1))) = some (r1, r2) := H; have A7 := AK A70; clear A70; have H' := AK H; clear H; have p266 : 0 ≤ (x16_1 : Int) := of_decide_eq_true Zq5; have q266 : x16_1 < (l0_2.length : Int) := of_decide_eq_true Zq5; obtain ⟨adau, Aau_1, cau_1, Aau_2, cau_2, e266, hx266_0, hx266_1, hx266_2, hl266_1, hi266_1, hl266_2, hi266_2⟩ := at_T27 HR0_2.out x16_1 p266 q266; cases e266; replace hx266_0 := (HB.out.cell (World.block_lt_of_cell? w _ hx266_0)).trans hx266_0; replace hx266_1 := (HB.out.cell (World.block_lt_of_cell? w _ hx266_1)).trans hx266_1; replace hx266_2 := (HB.out.cell (World.block_lt_of_cell? w _ hx266_2)).trans hx266_2; have HRau_1 := AK hi266_1; have HCau_1 := AK hl266_1; clear hi266_1 hl266_1; have HRau_2 := AK hi266_2; have HCau_2 := AK hl266_2; clear hi266_2 hl266_2; replace p266 := eq_true p266; replace q266 := eq_true q266; go_wp2_with (first | ((with_reducible refine gate_dst (N := 7) rfl ?_); refine box_event ?hg (N := 7) ?hd (cs := #[.string (⟨#[]⟩ : ByteArray), .slice none 0 0, .slice none 0 0]) (t := 27) ?hr ?_; (case hd | hg => rfl); (case hr => first | (go_simp; done) | (go_simp; rfl)); intro gbay hg w8 hbox hb; have n_ := Zn7 Zq92 (AK (below_step Zq27 hb)) (AK (hbox)) Zq82 Zq82 Zq119 Zq120; clear BKah HB; obtain ⟨BKah, HB, BKay, GWay, GEay, NB265_267, NB267_265⟩ := n_; clear hb hbox hg; have hnb9 := NB267_265.out; have hnc9 := NB265_267.out; obtain ⟨hcz10_0, hcz10_1, hcz10_2, hfz10_0, hfz10_1, hfz10_2⟩ := Zk3 BKay.out) | (go_at_call 28; (with_reducible refine (ih k1 Zq14 ((rd_T27 l0_2 x16_1).f0) _ _ ((rd_T27 l0_2 x16_1).f1) _ _ ((rd_T27 l0_2 x16_1).f2) tbz tbS _ ?side1 ?side2 ?side3 ?side4 A7.out).mono ?_); (case side1 => exact Kd.C_below HRau_1.out Zq32); (case side2 => exact HCau_1.out); (case side3 => exact Kd.C_below HRau_2.out Zq32); (case side4 => exact HCau_2.out); rintro e w11 ⟨rfl, hb⟩; have n_ := Zn3 Zq86 Zq73 (AK (below_step Zq32 hb)); clear BKah BKay HB; obtain ⟨BKah, BKay, HB⟩ := n_; (try clear hb)))
      repeat (go_quiet (first | ((with_reducible refine gate_dst (N := 7) rfl ?_); refine box_event ?hg (N := 7) ?hd (cs := #[.string (⟨#[]⟩ : ByteArray), .slice none 0 0, .slice none 0 0]) (t := 27) ?hr ?_; (case hd | hg => rfl); (case hr => first | (go_simp; done) | (go_simp; rfl)); intro gbay hg w8 hbox hb; have n_ := Zn7 Zq92 (AK (below_step Zq27 hb)) (AK (hbox)) Zq82 Zq82 Zq119 Zq120; clear BKah HB; obtain ⟨BKah, HB, BKay, GWay, GEay, NB265_267, NB267_265⟩ := n_; clear hb hbox hg; have hnb9 := NB267_265.out; have hnc9 := NB265_267.out; obtain ⟨hcz10_0, hcz10_1, hcz10_2, hfz10_0, hfz10_1, hfz10_2⟩ := Zk3 BKay.out) | (go_at_call 28; (with_reducible refine (ih k1 Zq14 ((rd_T27 l0_2 x16_1).f0) _ _ ((rd_T27 l0_2 x16_1).f1) _ _ ((rd_T27 l0_2 x16_1).f2) tbz tbS _ ?side1 ?side2 ?side3 ?side4 A7.out).mono ?_); (case side1 => exact Kd.C_below HRau_1.out Zq32); (case side2 => exact HCau_1.out); (case side3 => exact Kd.C_below HRau_2.out Zq32); (case side4 => exact HCau_2.out); rintro e w11 ⟨rfl, hb⟩; have n_ := Zn3 Zq86 Zq73 (AK (below_step Zq32 hb)); clear BKah BKay HB; obtain ⟨BKah, BKay, HB⟩ := n_; (try clear hb))); try go_wp2_with (first | ((with_reducible refine gate_dst (N := 7) rfl ?_); refine box_event ?hg (N := 7) ?hd (cs := #[.string (⟨#[]⟩ : ByteArray), .slice none 0 0, .slice none 0 0]) (t := 27) ?hr ?_; (case hd | hg => rfl); (case hr => first | (go_simp; done) | (go_simp; rfl)); intro gbay hg w8 hbox hb; have n_ := Zn7 Zq92 (AK (below_step Zq27 hb)) (AK (hbox)) Zq82 Zq82 Zq119 Zq120; clear BKah HB; obtain ⟨BKah, HB, BKay, GWay, GEay, NB265_267, NB267_265⟩ := n_; clear hb hbox hg; have hnb9 := NB267_265.out; have hnc9 := NB265_267.out; obtain ⟨hcz10_0, hcz10_1, hcz10_2, hfz10_0, hfz10_1, hfz10_2⟩ := Zk3 BKay.out) | (go_at_call 28; (with_reducible refine (ih k1 Zq14 ((rd_T27 l0_2 x16_1).f0) _ _ ((rd_T27 l0_2 x16_1).f1) _ _ ((rd_T27 l0_2 x16_1).f2) tbz tbS _ ?side1 ?side2 ?side3 ?side4 A7.out).mono ?_); (case side1 => exact Kd.C_below HRau_1.out Zq32); (case side2 => exact HCau_1.out); (case side3 => exact Kd.C_below HRau_2.out Zq32); (case side4 => exact HCau_2.out); rintro e w11 ⟨rfl, hb⟩; have n_ := Zn3 Zq86 Zq73 (AK (below_step Zq32 hb)); clear BKah BKay HB; obtain ⟨BKah, BKay, HB⟩ := n_; (try clear hb))))
      go_roundg k1
      case measure => have := HK1.out; omega
      case rel => exact ⟨(wrap64 (x4_1 + tbz)), (wrap64 (x5_1 + tbS)), (wrap64 (x16_1 + 1)), Zq4, Zq4, Zq4, H', ⟨Zq14⟩, ⟨Zq26⟩, ⟨Zq32⟩⟩
     ·rw [if_neg c6] at H; exact absurd H Zq7
    ·rw [if_neg c5] at H; exact absurd H Zq7
   ·rw [if_neg c4] at H; have c4b0 : decide (x16_1 < (l0_2.length : Int)) = false := decide_eq_false c4; clear c4; simp only [Option.some.injEq, Prod.mk.injEq] at H; obtain ⟨rfl, rfl⟩ := H; go_wp2
    repeat (go_quiet (fail); try go_wp2)
    go_ret2
    exact ⟨Zq11, Zq27⟩
theorem eqA51 (d : Nat) (w : World) (x0 y0 : Int) (x1 y1 : Int) :
  (Op.equalIn (d + 2) 51 (.agg #[.int .u64 x0, .int .u64 x1]) (.agg #[.int .u64 y0, .int .u64 y1])).run Tryz.prog w = .ok (x0 == y0 && (x1 == y1)) w := by
 refine eqA_of Tryz.underlying51 Zq3 ?_; refine eqf_cons Zq9 (by go_simp; rfl) (by go_simp; rfl) (by go_simp) ?_; exact eqf_last Zq9 (by go_simp; rfl) (by go_simp; rfl) (by go_simp)
attribute [local go_sem high] eqA51
def api_Reserve_48.l0 : Nat → List (S51) → Int → Int → Int → Int → Option (Int)
 | 0, _, _, _, _, _ => none
 | k + 1, x0, x7, x8, xco, xcp => if x8 < x7 then (if 0 ≤ x8 then (if x8 < (x0.length : Int) then (if (xco == ((rd_T51 x0 x8).f0) && (xcp == ((rd_T51 x0 x8).f1))) = true then (some x8) else (api_Reserve_48.l0 k x0 x7 (wrap64 (x8 + 1)) xco xcp)) else (none)) else (none)) else (some (-1))
def api_Reserve_48.f (k : Nat) (l0 : List (S51)) (a1_0 : Int) (a1_1 : Int) : Option (Int) := api_Reserve_48.l0 k l0 (l0.length : Int) 0 a1_0 a1_1
set_option maxHeartbeats 8000000 in
set_option maxRecDepth 100000 in
theorem api_Reserve_48.calls (k : Nat) (A0 : Option Addr) (c0 : Nat) (l0 : List (S51)) (a1_0 : Int) (a1_1 : Int) (r : Int) (w : World) (hr0 : Kd.C k51 w A0 l0.length l0) (hc0 : l0.length ≤ c0) (h : api_Reserve_48.f k l0 a1_0 a1_1 = some r) :
  Calls Tryz.prog 48 #[.slice A0 l0.length c0, .agg #[.int .u64 a1_0, .int .u64 a1_1]] w fun e w' => e = .returned (.int .i64 r) ∧ Below w.heap.size w w' := by
 have hu51 := Tryz.underlying51; have HR0 := AK hr0; have HC0 := AK hc0; clear hr0 hc0; have HB := Zq70; have H : (api_Reserve_48.l0 k l0 (l0.length : Int) 0 a1_0 a1_1) = some r := h; clear h; have H' := AK H; clear H; go_enter Tryz.func48, Tryz.ntmps48; go_wp2_with (first | ((with_reducible refine gate_dst (N := 3) rfl ?_); refine box_event ?hg (N := 3) ?hd (cs := #[.int .u64 a1_0, .int .u64 a1_1]) (t := 51) ?hr ?_; (case hd | hg => rfl); (case hr => first | (go_simp; done) | (go_simp; rfl)); intro gbaJ hg w3 hbox hb; have n_ := Zn4 Zq61 (AK (hbox)) Zq87 Zq87; clear HB; obtain ⟨HB, BKaJ, GWaJ, GEaJ⟩ := n_; clear hb hbox hg))
 repeat (go_quiet (first | ((with_reducible refine gate_dst (N := 3) rfl ?_); refine box_event ?hg (N := 3) ?hd (cs := #[.int .u64 a1_0, .int .u64 a1_1]) (t := 51) ?hr ?_; (case hd | hg => rfl); (case hr => first | (go_simp; done) | (go_simp; rfl)); intro gbaJ hg w3 hbox hb; have n_ := Zn4 Zq61 (AK (hbox)) Zq87 Zq87; clear HB; obtain ⟨HB, BKaJ, GWaJ, GEaJ⟩ := n_; clear hb hbox hg)); try go_wp2_with (first | ((with_reducible refine gate_dst (N := 3) rfl ?_); refine box_event ?hg (N := 3) ?hd (cs := #[.int .u64 a1_0, .int .u64 a1_1]) (t := 51) ?hr ?_; (case hd | hg => rfl); (case hr => first | (go_simp; done) | (go_simp; rfl)); intro gbaJ hg w3 hbox hb; have n_ := Zn4 Zq61 (AK (hbox)) Zq87 Zq87; clear HB; obtain ⟨HB, BKaJ, GWaJ, GEaJ⟩ := n_; clear hb hbox hg)))
 go_loopg [8] k (fun kq v8 w' => ∃ (x8_1 : Int), v8 = .int .i64 x8_1 ∧ Aside0 (api_Reserve_48.l0 kq l0 (l0.length : Int) x8_1 a1_0 a1_1 = some r) ∧ Aside0 (kq ≤ k) ∧ Aside0 (w'.heap[gbaJ]? = some (.cells #[.int .u64 a1_0, .int .u64 a1_1] 51 (0, 0))) ∧ Aside0 (Below w.heap.size w w'))
 case atStart => exact ⟨(0), Zq4, H', ⟨Nat.le_refl _⟩, ⟨by (with_reducible repeat (first | refine blk_drewN ?_ _ | refine blk_drew ?_ | refine blk_alloc ?_ _)); exact BKaJ.out⟩, ⟨Zq52⟩⟩
 case round =>
  clear H'; obtain ⟨x8_1, rfl, HA, HK1, BKaJ, HB⟩ := hrel
  cases gk with
  | zero => exact absurd HA.out (by simp [api_Reserve_48.l0])
  | succ k1 =>
   have H := HA.out; clear HA; simp only [api_Reserve_48.l0] at H
   by_cases c4 : x8_1 < (l0.length : Int)
   ·rw [if_pos c4] at H; have c4b0 : decide (x8_1 < (l0.length : Int)) = true := decide_eq_true c4; clear c4
    by_cases c5 : 0 ≤ x8_1
    ·rw [if_pos c5] at H; have c5b0 : decide (0 ≤ x8_1) = true := decide_eq_true c5; clear c5
     by_cases c6 : x8_1 < (l0.length : Int)
     ·rw [if_pos c6] at H; have c6b0 : decide (x8_1 < (l0.length : Int)) = true := decide_eq_true c6; clear c6
      by_cases c7 : (a1_0 == ((rd_T51 l0 x8_1).f0) && (a1_1 == ((rd_T51 l0 x8_1).f1))) = true
      ·rw [if_pos c7] at H; have c7b0 : (a1_0 == ((rd_T51 l0 x8_1).f0) && (a1_1 == ((rd_T51 l0 x8_1).f1))) = true := c7; (try (have c7b1 : decide (a1_0 = ((rd_T51 l0 x8_1).f0) && (a1_1 == ((rd_T51 l0 x8_1).f1))) = true := by simpa using c7)); (try (have c7b2 : (a1_0 == ((rd_T51 l0 x8_1).f0) && (a1_1 == ((rd_T51 l0 x8_1).f1))) = true := by simpa using c7)); clear c7; obtain rfl := Option.some.inj H; obtain ⟨hcz8_0, hcz8_1, hfz8_0, hfz8_1⟩ := Zk2 BKaJ.out; have p271 : 0 ≤ (x8_1 : Int) := of_decide_eq_true Zq5; have q271 : x8_1 < (l0.length : Int) := of_decide_eq_true Zq5; obtain ⟨adcD, e271, hx271_0, hx271_1⟩ := at_T51 HR0.out x8_1 p271 q271; cases e271; replace hx271_0 := (HB.out.cell (World.block_lt_of_cell? w _ hx271_0)).trans hx271_0; replace hx271_1 := (HB.out.cell (World.block_lt_of_cell? w _ hx271_1)).trans hx271_1; replace p271 := eq_true p271; replace q271 := eq_true q271; go_wp2
       repeat (go_quiet (fail); try go_wp2)
       go_ret; exact ⟨Zq11, Zq52⟩
      ·rw [if_neg c7] at H
       have c7b0 : (a1_0 == ((rd_T51 l0 x8_1).f0) && (a1_1 == ((rd_T51 l0 x8_1).f1))) = false := by simpa using c7
       (try (have c7b1 : decide (a1_0 = ((rd_T51 l0 x8_1).f0) && (a1_1 == ((rd_T51 l0 x8_1).f1))) = false := by simpa using c7)); (try (have c7b2 : (a1_0 == ((rd_T51 l0 x8_1).f0) && (a1_1 == ((rd_T51 l0 x8_1).f1))) = false := by simpa using c7)); (try (have c7b3 : ¬ (a1_0 = ((rd_T51 l0 x8_1).f0) && (a1_1 == ((rd_T51 l0 x8_1).f1))) := by simpa using c7)); clear c7; have H' := AK H; clear H; obtain ⟨hcz9_0, hcz9_1, hfz9_0, hfz9_1⟩ := Zk2 BKaJ.out; have p271 : 0 ≤ (x8_1 : Int) := of_decide_eq_true Zq5; have q271 : x8_1 < (l0.length : Int) := of_decide_eq_true Zq5; obtain ⟨adcD, e271, hx271_0, hx271_1⟩ := at_T51 HR0.out x8_1 p271 q271; cases e271; replace hx271_0 := (HB.out.cell (World.block_lt_of_cell? w _ hx271_0)).trans hx271_0; replace hx271_1 := (HB.out.cell (World.block_lt_of_cell? w _ hx271_1)).trans hx271_1; replace p271 := eq_true p271; replace q271 := eq_true q271; go_wp2
       repeat (go_quiet (fail); try go_wp2)
       go_roundg k1
       case measure => have := HK1.out; omega
       case rel => exact ⟨(wrap64 (x8_1 + 1)), Zq4, H', ⟨Zq14⟩, ⟨by (with_reducible repeat (first | refine blk_drewN ?_ _ | refine blk_drew ?_ | refine blk_alloc ?_ _)); exact BKaJ.out⟩, ⟨Zq52⟩⟩
     ·rw [if_neg c6] at H; exact absurd H Zq7
    ·rw [if_neg c5] at H; exact absurd H Zq7
   ·rw [if_neg c4] at H; have c4b0 : decide (x8_1 < (l0.length : Int)) = false := decide_eq_false c4; clear c4; obtain rfl := Option.some.inj H; go_wp2
    repeat (go_quiet (fail); try go_wp2)
    go_ret; exact ⟨Zq11, Zq52⟩
def api_Reserve_29.f (k : Nat) (l0 : List (S51)) (a1_0 : Int) (a1_1 : Int) : Option (Bool) := (api_Reserve_48.f k l0 a1_0 a1_1).bind fun tbG => (some (decide (tbG ≥ 0)))
set_option maxHeartbeats 8000000 in
set_option maxRecDepth 100000 in
theorem api_Reserve_29.calls (k : Nat) (A0 : Option Addr) (c0 : Nat) (l0 : List (S51)) (a1_0 : Int) (a1_1 : Int) (r : Bool) (w : World) (hr0 : Kd.C k51 w A0 l0.length l0) (hc0 : l0.length ≤ c0) (h : api_Reserve_29.f k l0 a1_0 a1_1 = some r) :
  Calls Tryz.prog 29 #[.slice A0 l0.length c0, .agg #[.int .u64 a1_0, .int .u64 a1_1]] w fun e w' => e = .returned (.bool r) ∧ Below w.heap.size w w' := by
 have hu51 := Tryz.underlying51; have HR0 := AK hr0; have HC0 := AK hc0; clear hr0 hc0; have HB := Zq70; have H : ((api_Reserve_48.f k l0 a1_0 a1_1).bind fun tbG => (some (decide (tbG ≥ 0)))) = some r := h; clear h; replace H := Option.bind_eq_some_iff.mp H; obtain ⟨tbG, A30, H⟩ := H; replace H : (some (decide (tbG ≥ 0))) = some r := H; have A3 := AK A30; clear A30; obtain rfl := Option.some.inj H; go_enter Tryz.func29, Tryz.ntmps29; (go_wp2_with (first | ((with_reducible refine gate_dst (N := 3) rfl ?_); refine box_event ?hg (N := 3) ?hd (cs := #[.int .u64 a1_0, .int .u64 a1_1]) (t := 51) ?hr ?_; (case hd | hg => rfl); (case hr => first | (go_simp; done) | (go_simp; rfl)); intro gbaW hg w4 hbox hb; have n_ := Zn4 Zq61 (AK (hbox)) (AK (by rw [hg]; exact (below_size Zq6) : w.heap.size ≤ gbaW)) (AK (by rw [hg]; exact (below_size Zq6) : w.heap.size ≤ gbaW)); clear HB; obtain ⟨HB, BKaW, GWaW, GEaW⟩ := n_; clear hb hbox hg; obtain ⟨hcz5_0, hcz5_1, hfz5_0, hfz5_1⟩ := Zk2 BKaW.out) | ((with_reducible refine gate_callee (f := 48) rfl ?_); refine goesL_ (some 7) rfl rfl Tryz.func48 Zq3 rfl #[.slice A0 l0.length c0, .agg #[.int .u64 a1_0, .int .u64 a1_1]] rfl Zq10 ?_; (with_reducible refine (api_Reserve_48.calls k _ _ l0 a1_0 a1_1 tbG _ ?side1 ?side2 A3.out).mono ?_); (case side1 => repeat (first | exact (Kd.C_below HR0.out HB.out) | (with_reducible refine Kd.C_alloc ?_ _) | (with_reducible refine Kd.C_drewN ?_ _) | (with_reducible refine Kd.C_drew ?_))); (case side2 => exact HC0.out); rintro e w6 ⟨rfl, hb⟩; refine ⟨_, rfl, ?_⟩; have n_ := Zn2 (AK (blk_below (g := gbaW) (o := .cells #[.int .u64 a1_0, .int .u64 a1_1] 51 (0, 0)) (by (with_reducible repeat (first | refine blk_drewN ?_ _ | refine blk_drew ?_ | refine blk_alloc ?_ _)); exact BKaW.out) hb)) (AK (below_step (by repeat (first | (with_reducible first | exact HB.out | apply below_alloc | apply pw_below_drewN | apply below_drew1 | refine below_set ?_ GEaW.out) | exact HB.out)) hb)); clear BKaW HB; obtain ⟨BKaW, HB⟩ := n_; (try clear hb)))); go_ret; exact ⟨Zq11, by repeat (first | (with_reducible first | exact HB.out | apply below_alloc | apply pw_below_drewN | apply below_drew1 | refine below_set ?_ GEaW.out) | exact HB.out)⟩
def tree_Check.f (k : Nat) (a0_0 : Int) (l0_1 : List (S51)) (a0_2 : ByteArray) (l0_3 : List (S68)) (l0_4 : List (S27)) : Option (Int) := (tree_check.f k a0_2 l0_3 l0_4 1).bind fun taQ => (if taQ = 0 then ((tree_Count.f k a0_2 l0_3 l0_4).bind fun btaN => (if btaN.1 > 4096 then (some 7) else (if btaN.2 > 8192 then (some 7) else (if (l0_1.length : Int) > 64 then (some 7) else ((api_Reserve_29.f k l0_1 0 0).bind fun tbk => (if tbk = true then (some 7) else (some 0))))))) else (some taQ))
end Go.Proofs.YtkopmkinlanhoaaGreat.PE

namespace Go.Proofs.YtkopmkinlanhoaaGreat.PE
open Go.RowKit Go.Proofs.YtkopmkinlanhoaaGreatW.PrintWords Go.Proofs.YtkopmkinlanhoaaGreatW.PrintLast Go.Proofs.YtkopmkinlanhoaaGreatW.PrintMore
attribute [local go_sem] max2_int min2_int max_two min_two max_three min_three max_four min_four
attribute [local go_sem high] eqA51
set_option maxHeartbeats 8000000 in
set_option maxRecDepth 100000 in
theorem tree_Check.calls (k : Nat) (a0_0 : Int) (A0_1 : Option Addr) (c0_1 : Nat) (l0_1 : List (S51)) (a0_2 : ByteArray) (A0_3 : Option Addr) (c0_3 : Nat) (l0_3 : List (S68)) (A0_4 : Option Addr) (c0_4 : Nat) (l0_4 : List (S27)) (r : Int) (w : World) (hr0_1 : Kd.C k51 w A0_1 l0_1.length l0_1) (hc0_1 : l0_1.length ≤ c0_1) (hr0_3 : Kd.C k68 w A0_3 l0_3.length l0_3) (hc0_3 : l0_3.length ≤ c0_3) (hr0_4 : Kd.C k27 w A0_4 l0_4.length l0_4) (hc0_4 : l0_4.length ≤ c0_4) (h : tree_Check.f k a0_0 l0_1 a0_2 l0_3 l0_4 = some r) :
  Calls Tryz.prog 11 #[.agg #[.int .u32 a0_0, .slice A0_1 l0_1.length c0_1, .string a0_2, .slice A0_3 l0_3.length c0_3, .slice A0_4 l0_4.length c0_4]] w fun e w' => e = .returned (.int .i64 r) ∧ Below w.heap.size w w' := by
 have hu29 := Tryz.underlying29; have hu27 := Tryz.underlying27; have hu51 := Tryz.underlying51; have HR0_1 := AK hr0_1; have HC0_1 := AK hc0_1; clear hr0_1 hc0_1; have HR0_3 := AK hr0_3; have HC0_3 := AK hc0_3; clear hr0_3 hc0_3; have HR0_4 := AK hr0_4; have HC0_4 := AK hc0_4; clear hr0_4 hc0_4; have HB := Zq70; have H : ((tree_check.f k a0_2 l0_3 l0_4 1).bind fun taQ => (if taQ = 0 then ((tree_Count.f k a0_2 l0_3 l0_4).bind fun btaN => (if btaN.1 > 4096 then (some 7) else (if btaN.2 > 8192 then (some 7) else (if (l0_1.length : Int) > 64 then (some 7) else ((api_Reserve_29.f k l0_1 0 0).bind fun tbk => (if tbk = true then (some 7) else (some 0))))))) else (some taQ))) = some r := h; clear h; replace H := Option.bind_eq_some_iff.mp H; obtain ⟨taQ, A20, H⟩ := H; replace H : (if taQ = 0 then ((tree_Count.f k a0_2 l0_3 l0_4).bind fun btaN => (if btaN.1 > 4096 then (some 7) else (if btaN.2 > 8192 then (some 7) else (if (l0_1.length : Int) > 64 then (some 7) else ((api_Reserve_29.f k l0_1 0 0).bind fun tbk => (if tbk = true then (some 7) else (some 0))))))) else (some taQ)) = some r := H; have A2 := AK A20; clear A20
 by_cases c3 : taQ = 0
 ·rw [if_pos c3] at H; obtain ⟨c3b0, c3b1⟩ := Zc0 c3; clear c3; replace H := Option.bind_eq_some_iff.mp H; obtain ⟨⟨taN, tbt⟩, A40, H⟩ := H; replace H : (if taN > 4096 then (some 7) else (if tbt > 8192 then (some 7) else (if (l0_1.length : Int) > 64 then (some 7) else ((api_Reserve_29.f k l0_1 0 0).bind fun tbk => (if tbk = true then (some 7) else (some 0)))))) = some r := H; have A4 := AK A40; clear A40
  by_cases c5 : taN > 4096
  ·rw [if_pos c5] at H; have c5b0 : decide (4096 < taN) = true := decide_eq_true c5; clear c5; obtain rfl := Option.some.inj H; go_enter Tryz.func11, Tryz.ntmps11; (go_wp2_with (first | ((with_reducible refine gate_dst (N := 1) rfl ?_); (try (refine gate_guard Zq9 ?_; dsimp only)); refine box_event ?hg (N := 1) ?hd (cs := #[.int .u32 a0_0, .slice A0_1 l0_1.length c0_1, .string a0_2, .slice A0_3 l0_3.length c0_3, .slice A0_4 l0_4.length c0_4]) (t := 29) ?hr ?_; (case hd | hg => rfl); (case hr => first | (go_simp; done) | (go_simp; rfl)); intro gbac hg w6 hbox hb; have n_ := Zn4 Zq61 (AK (hbox)) Zq68 Zq68; clear HB; obtain ⟨HB, BKac, GWac, GEac⟩ := n_; clear hb hbox hg; obtain ⟨hcz7_0, hcz7_1, hcz7_2, hcz7_3, hcz7_4, hfz7_0, hfz7_1, hfz7_2, hfz7_3, hfz7_4⟩ := Zk5 BKac.out) | ((with_reducible refine gate_callee (f := 27) rfl ?_); refine goesL_ (some 8) rfl rfl Tryz.func27 Zq3 rfl #[.agg #[.string a0_2, .slice A0_3 l0_3.length c0_3, .slice A0_4 l0_4.length c0_4], .int .i64 1] rfl Zq10 ?_; (with_reducible refine (tree_check.calls k a0_2 _ _ l0_3 _ _ l0_4 1 taQ _ ?side1 ?side2 ?side3 ?side4 A2.out).mono ?_); (case side1 => repeat (first | exact Zq74 | (with_reducible refine Kd.C_alloc ?_ _) | (with_reducible refine Kd.C_drewN ?_ _) | (with_reducible refine Kd.C_drew ?_))); (case side2 => exact HC0_3.out); (case side3 => repeat (first | exact Zq75 | (with_reducible refine Kd.C_alloc ?_ _) | (with_reducible refine Kd.C_drewN ?_ _) | (with_reducible refine Kd.C_drew ?_))); (case side4 => exact HC0_4.out); rintro e w8 ⟨rfl, hb⟩; refine ⟨_, rfl, ?_⟩; have n_ := Zn2 Zq58 Zq81; clear BKac HB; obtain ⟨BKac, HB⟩ := n_; (try clear hb); obtain ⟨hcz9_0, hcz9_1, hcz9_2, hcz9_3, hcz9_4, hfz9_0, hfz9_1, hfz9_2, hfz9_3, hfz9_4⟩ := Zk5 BKac.out) | ((with_reducible refine gate_callee (f := 28) rfl ?_); refine goesL_ (some 15) rfl rfl Tryz.func28 Zq3 rfl #[.agg #[.string a0_2, .slice A0_3 l0_3.length c0_3, .slice A0_4 l0_4.length c0_4]] rfl Zq10 ?_; (with_reducible refine (tree_Count.calls k a0_2 _ _ l0_3 _ _ l0_4 taN tbt _ ?side1 ?side2 ?side3 ?side4 A4.out).mono ?_); (case side1 => repeat (first | exact Zq74 | (with_reducible refine Kd.C_alloc ?_ _) | (with_reducible refine Kd.C_drewN ?_ _) | (with_reducible refine Kd.C_drew ?_))); (case side2 => exact HC0_3.out); (case side3 => repeat (first | exact Zq75 | (with_reducible refine Kd.C_alloc ?_ _) | (with_reducible refine Kd.C_drewN ?_ _) | (with_reducible refine Kd.C_drew ?_))); (case side4 => exact HC0_4.out); rintro e w10 ⟨rfl, hb⟩; refine ⟨_, rfl, ?_⟩; have n_ := Zn2 Zq58 Zq81; clear BKac HB; obtain ⟨BKac, HB⟩ := n_; (try clear hb)))); go_ret; exact ⟨Zq11, Zq19⟩
  ·rw [if_neg c5] at H; have c5b0 : decide (4096 < taN) = false := decide_eq_false c5; clear c5
   by_cases c11 : tbt > 8192
   ·rw [if_pos c11] at H; have c11b0 : decide (8192 < tbt) = true := decide_eq_true c11; clear c11; obtain rfl := Option.some.inj H; go_enter Tryz.func11, Tryz.ntmps11; (go_wp2_with (first | ((with_reducible refine gate_dst (N := 1) rfl ?_); (try (refine gate_guard Zq9 ?_; dsimp only)); refine box_event ?hg (N := 1) ?hd (cs := #[.int .u32 a0_0, .slice A0_1 l0_1.length c0_1, .string a0_2, .slice A0_3 l0_3.length c0_3, .slice A0_4 l0_4.length c0_4]) (t := 29) ?hr ?_; (case hd | hg => rfl); (case hr => first | (go_simp; done) | (go_simp; rfl)); intro gbac hg w12 hbox hb; have n_ := Zn4 Zq61 (AK (hbox)) Zq68 Zq68; clear HB; obtain ⟨HB, BKac, GWac, GEac⟩ := n_; clear hb hbox hg; obtain ⟨hcz13_0, hcz13_1, hcz13_2, hcz13_3, hcz13_4, hfz13_0, hfz13_1, hfz13_2, hfz13_3, hfz13_4⟩ := Zk5 BKac.out) | ((with_reducible refine gate_callee (f := 27) rfl ?_); refine goesL_ (some 8) rfl rfl Tryz.func27 Zq3 rfl #[.agg #[.string a0_2, .slice A0_3 l0_3.length c0_3, .slice A0_4 l0_4.length c0_4], .int .i64 1] rfl Zq10 ?_; (with_reducible refine (tree_check.calls k a0_2 _ _ l0_3 _ _ l0_4 1 taQ _ ?side1 ?side2 ?side3 ?side4 A2.out).mono ?_); (case side1 => repeat (first | exact Zq74 | (with_reducible refine Kd.C_alloc ?_ _) | (with_reducible refine Kd.C_drewN ?_ _) | (with_reducible refine Kd.C_drew ?_))); (case side2 => exact HC0_3.out); (case side3 => repeat (first | exact Zq75 | (with_reducible refine Kd.C_alloc ?_ _) | (with_reducible refine Kd.C_drewN ?_ _) | (with_reducible refine Kd.C_drew ?_))); (case side4 => exact HC0_4.out); rintro e w14 ⟨rfl, hb⟩; refine ⟨_, rfl, ?_⟩; have n_ := Zn2 Zq58 Zq81; clear BKac HB; obtain ⟨BKac, HB⟩ := n_; (try clear hb); obtain ⟨hcz15_0, hcz15_1, hcz15_2, hcz15_3, hcz15_4, hfz15_0, hfz15_1, hfz15_2, hfz15_3, hfz15_4⟩ := Zk5 BKac.out) | ((with_reducible refine gate_callee (f := 28) rfl ?_); refine goesL_ (some 15) rfl rfl Tryz.func28 Zq3 rfl #[.agg #[.string a0_2, .slice A0_3 l0_3.length c0_3, .slice A0_4 l0_4.length c0_4]] rfl Zq10 ?_; (with_reducible refine (tree_Count.calls k a0_2 _ _ l0_3 _ _ l0_4 taN tbt _ ?side1 ?side2 ?side3 ?side4 A4.out).mono ?_); (case side1 => repeat (first | exact Zq74 | (with_reducible refine Kd.C_alloc ?_ _) | (with_reducible refine Kd.C_drewN ?_ _) | (with_reducible refine Kd.C_drew ?_))); (case side2 => exact HC0_3.out); (case side3 => repeat (first | exact Zq75 | (with_reducible refine Kd.C_alloc ?_ _) | (with_reducible refine Kd.C_drewN ?_ _) | (with_reducible refine Kd.C_drew ?_))); (case side4 => exact HC0_4.out); rintro e w16 ⟨rfl, hb⟩; refine ⟨_, rfl, ?_⟩; have n_ := Zn2 Zq58 Zq81; clear BKac HB; obtain ⟨BKac, HB⟩ := n_; (try clear hb)))); go_ret; exact ⟨Zq11, Zq19⟩
   ·rw [if_neg c11] at H; have c11b0 : decide (8192 < tbt) = false := decide_eq_false c11; clear c11
    by_cases c17 : (l0_1.length : Int) > 64
    ·rw [if_pos c17] at H; have c17b0 : decide (64 < (l0_1.length : Int)) = true := decide_eq_true c17; have c17b1 : decide (64 < l0_1.length) = true := decide_eq_true Zq1; clear c17; obtain rfl := Option.some.inj H; go_enter Tryz.func11, Tryz.ntmps11; (go_wp2_with (first | ((with_reducible refine gate_dst (N := 1) rfl ?_); (try (refine gate_guard Zq9 ?_; dsimp only)); refine box_event ?hg (N := 1) ?hd (cs := #[.int .u32 a0_0, .slice A0_1 l0_1.length c0_1, .string a0_2, .slice A0_3 l0_3.length c0_3, .slice A0_4 l0_4.length c0_4]) (t := 29) ?hr ?_; (case hd | hg => rfl); (case hr => first | (go_simp; done) | (go_simp; rfl)); intro gbac hg w18 hbox hb; have n_ := Zn4 Zq61 (AK (hbox)) Zq68 Zq68; clear HB; obtain ⟨HB, BKac, GWac, GEac⟩ := n_; clear hb hbox hg; obtain ⟨hcz19_0, hcz19_1, hcz19_2, hcz19_3, hcz19_4, hfz19_0, hfz19_1, hfz19_2, hfz19_3, hfz19_4⟩ := Zk5 BKac.out) | ((with_reducible refine gate_callee (f := 27) rfl ?_); refine goesL_ (some 8) rfl rfl Tryz.func27 Zq3 rfl #[.agg #[.string a0_2, .slice A0_3 l0_3.length c0_3, .slice A0_4 l0_4.length c0_4], .int .i64 1] rfl Zq10 ?_; (with_reducible refine (tree_check.calls k a0_2 _ _ l0_3 _ _ l0_4 1 taQ _ ?side1 ?side2 ?side3 ?side4 A2.out).mono ?_); (case side1 => repeat (first | exact Zq74 | (with_reducible refine Kd.C_alloc ?_ _) | (with_reducible refine Kd.C_drewN ?_ _) | (with_reducible refine Kd.C_drew ?_))); (case side2 => exact HC0_3.out); (case side3 => repeat (first | exact Zq75 | (with_reducible refine Kd.C_alloc ?_ _) | (with_reducible refine Kd.C_drewN ?_ _) | (with_reducible refine Kd.C_drew ?_))); (case side4 => exact HC0_4.out); rintro e w20 ⟨rfl, hb⟩; refine ⟨_, rfl, ?_⟩; have n_ := Zn2 Zq58 Zq81; clear BKac HB; obtain ⟨BKac, HB⟩ := n_; (try clear hb); obtain ⟨hcz21_0, hcz21_1, hcz21_2, hcz21_3, hcz21_4, hfz21_0, hfz21_1, hfz21_2, hfz21_3, hfz21_4⟩ := Zk5 BKac.out) | ((with_reducible refine gate_callee (f := 28) rfl ?_); refine goesL_ (some 15) rfl rfl Tryz.func28 Zq3 rfl #[.agg #[.string a0_2, .slice A0_3 l0_3.length c0_3, .slice A0_4 l0_4.length c0_4]] rfl Zq10 ?_; (with_reducible refine (tree_Count.calls k a0_2 _ _ l0_3 _ _ l0_4 taN tbt _ ?side1 ?side2 ?side3 ?side4 A4.out).mono ?_); (case side1 => repeat (first | exact Zq74 | (with_reducible refine Kd.C_alloc ?_ _) | (with_reducible refine Kd.C_drewN ?_ _) | (with_reducible refine Kd.C_drew ?_))); (case side2 => exact HC0_3.out); (case side3 => repeat (first | exact Zq75 | (with_reducible refine Kd.C_alloc ?_ _) | (with_reducible refine Kd.C_drewN ?_ _) | (with_reducible refine Kd.C_drew ?_))); (case side4 => exact HC0_4.out); rintro e w22 ⟨rfl, hb⟩; refine ⟨_, rfl, ?_⟩; have n_ := Zn2 Zq58 Zq81; clear BKac HB; obtain ⟨BKac, HB⟩ := n_; (try clear hb); obtain ⟨hcz23_0, hcz23_1, hcz23_2, hcz23_3, hcz23_4, hfz23_0, hfz23_1, hfz23_2, hfz23_3, hfz23_4⟩ := Zk5 BKac.out))); go_ret; exact ⟨Zq11, Zq19⟩
    ·rw [if_neg c17] at H; have c17b0 : decide (64 < (l0_1.length : Int)) = false := decide_eq_false c17; have c17b1 : decide (64 < l0_1.length) = false := decide_eq_false Zq1; clear c17; replace H := Option.bind_eq_some_iff.mp H; obtain ⟨tbk, Acq, H⟩ := H; replace H : (if tbk = true then (some 7) else (some 0)) = some r := H; have A24 := AK Acq; clear Acq
     by_cases c25 : tbk = true
     ·subst c25
      have H1 : (some 7) = some r := by rw [if_pos rfl] at H; exact H
      clear H; have H := H1; clear H1; obtain rfl := Option.some.inj H; go_enter Tryz.func11, Tryz.ntmps11; (go_wp2_with (first | ((with_reducible refine gate_dst (N := 1) rfl ?_); (try (refine gate_guard Zq9 ?_; dsimp only)); refine box_event ?hg (N := 1) ?hd (cs := #[.int .u32 a0_0, .slice A0_1 l0_1.length c0_1, .string a0_2, .slice A0_3 l0_3.length c0_3, .slice A0_4 l0_4.length c0_4]) (t := 29) ?hr ?_; (case hd | hg => rfl); (case hr => first | (go_simp; done) | (go_simp; rfl)); intro gbac hg w26 hbox hb; have n_ := Zn4 Zq61 (AK (hbox)) Zq68 Zq68; clear HB; obtain ⟨HB, BKac, GWac, GEac⟩ := n_; clear hb hbox hg; obtain ⟨hcz27_0, hcz27_1, hcz27_2, hcz27_3, hcz27_4, hfz27_0, hfz27_1, hfz27_2, hfz27_3, hfz27_4⟩ := Zk5 BKac.out) | ((with_reducible refine gate_callee (f := 27) rfl ?_); refine goesL_ (some 8) rfl rfl Tryz.func27 Zq3 rfl #[.agg #[.string a0_2, .slice A0_3 l0_3.length c0_3, .slice A0_4 l0_4.length c0_4], .int .i64 1] rfl Zq10 ?_; (with_reducible refine (tree_check.calls k a0_2 _ _ l0_3 _ _ l0_4 1 taQ _ ?side1 ?side2 ?side3 ?side4 A2.out).mono ?_); (case side1 => repeat (first | exact Zq74 | (with_reducible refine Kd.C_alloc ?_ _) | (with_reducible refine Kd.C_drewN ?_ _) | (with_reducible refine Kd.C_drew ?_))); (case side2 => exact HC0_3.out); (case side3 => repeat (first | exact Zq75 | (with_reducible refine Kd.C_alloc ?_ _) | (with_reducible refine Kd.C_drewN ?_ _) | (with_reducible refine Kd.C_drew ?_))); (case side4 => exact HC0_4.out); rintro e w28 ⟨rfl, hb⟩; refine ⟨_, rfl, ?_⟩; have n_ := Zn2 Zq58 Zq81; clear BKac HB; obtain ⟨BKac, HB⟩ := n_; (try clear hb); obtain ⟨hcz29_0, hcz29_1, hcz29_2, hcz29_3, hcz29_4, hfz29_0, hfz29_1, hfz29_2, hfz29_3, hfz29_4⟩ := Zk5 BKac.out) | ((with_reducible refine gate_callee (f := 28) rfl ?_); refine goesL_ (some 15) rfl rfl Tryz.func28 Zq3 rfl #[.agg #[.string a0_2, .slice A0_3 l0_3.length c0_3, .slice A0_4 l0_4.length c0_4]] rfl Zq10 ?_; (with_reducible refine (tree_Count.calls k a0_2 _ _ l0_3 _ _ l0_4 taN tbt _ ?side1 ?side2 ?side3 ?side4 A4.out).mono ?_); (case side1 => repeat (first | exact Zq74 | (with_reducible refine Kd.C_alloc ?_ _) | (with_reducible refine Kd.C_drewN ?_ _) | (with_reducible refine Kd.C_drew ?_))); (case side2 => exact HC0_3.out); (case side3 => repeat (first | exact Zq75 | (with_reducible refine Kd.C_alloc ?_ _) | (with_reducible refine Kd.C_drewN ?_ _) | (with_reducible refine Kd.C_drew ?_))); (case side4 => exact HC0_4.out); rintro e w30 ⟨rfl, hb⟩; refine ⟨_, rfl, ?_⟩; have n_ := Zn2 Zq58 Zq81; clear BKac HB; obtain ⟨BKac, HB⟩ := n_; (try clear hb); obtain ⟨hcz31_0, hcz31_1, hcz31_2, hcz31_3, hcz31_4, hfz31_0, hfz31_1, hfz31_2, hfz31_3, hfz31_4⟩ := Zk5 BKac.out) | (go_at_call 29; (with_reducible refine (api_Reserve_29.calls k _ _ l0_1 0 0 true _ ?side1 ?side2 A24.out).mono ?_); (case side1 => repeat (first | exact (Kd.C_below HR0_1.out HB.out) | (with_reducible refine Kd.C_alloc ?_ _) | (with_reducible refine Kd.C_drewN ?_ _) | (with_reducible refine Kd.C_drew ?_))); (case side2 => exact HC0_1.out); rintro e w32 ⟨rfl, hb⟩; have n_ := Zn2 Zq58 Zq81; clear BKac HB; obtain ⟨BKac, HB⟩ := n_; (try clear hb)))); go_ret; exact ⟨Zq11, Zq19⟩
     ·replace c25 := Bool.eq_false_iff.mpr c25; subst c25
      have H1 : (some 0) = some r := by rw [if_neg (show ¬ (false = true) by decide)] at H; exact H
      clear H; have H := H1; clear H1; obtain rfl := Option.some.inj H; go_enter Tryz.func11, Tryz.ntmps11; (go_wp2_with (first | ((with_reducible refine gate_dst (N := 1) rfl ?_); (try (refine gate_guard Zq9 ?_; dsimp only)); refine box_event ?hg (N := 1) ?hd (cs := #[.int .u32 a0_0, .slice A0_1 l0_1.length c0_1, .string a0_2, .slice A0_3 l0_3.length c0_3, .slice A0_4 l0_4.length c0_4]) (t := 29) ?hr ?_; (case hd | hg => rfl); (case hr => first | (go_simp; done) | (go_simp; rfl)); intro gbac hg w33 hbox hb; have n_ := Zn4 Zq61 (AK (hbox)) Zq68 Zq68; clear HB; obtain ⟨HB, BKac, GWac, GEac⟩ := n_; clear hb hbox hg; obtain ⟨hcz34_0, hcz34_1, hcz34_2, hcz34_3, hcz34_4, hfz34_0, hfz34_1, hfz34_2, hfz34_3, hfz34_4⟩ := Zk5 BKac.out) | ((with_reducible refine gate_callee (f := 27) rfl ?_); refine goesL_ (some 8) rfl rfl Tryz.func27 Zq3 rfl #[.agg #[.string a0_2, .slice A0_3 l0_3.length c0_3, .slice A0_4 l0_4.length c0_4], .int .i64 1] rfl Zq10 ?_; (with_reducible refine (tree_check.calls k a0_2 _ _ l0_3 _ _ l0_4 1 taQ _ ?side1 ?side2 ?side3 ?side4 A2.out).mono ?_); (case side1 => repeat (first | exact Zq74 | (with_reducible refine Kd.C_alloc ?_ _) | (with_reducible refine Kd.C_drewN ?_ _) | (with_reducible refine Kd.C_drew ?_))); (case side2 => exact HC0_3.out); (case side3 => repeat (first | exact Zq75 | (with_reducible refine Kd.C_alloc ?_ _) | (with_reducible refine Kd.C_drewN ?_ _) | (with_reducible refine Kd.C_drew ?_))); (case side4 => exact HC0_4.out); rintro e w35 ⟨rfl, hb⟩; refine ⟨_, rfl, ?_⟩; have n_ := Zn2 Zq58 Zq81; clear BKac HB; obtain ⟨BKac, HB⟩ := n_; (try clear hb); obtain ⟨hcz36_0, hcz36_1, hcz36_2, hcz36_3, hcz36_4, hfz36_0, hfz36_1, hfz36_2, hfz36_3, hfz36_4⟩ := Zk5 BKac.out) | ((with_reducible refine gate_callee (f := 28) rfl ?_); refine goesL_ (some 15) rfl rfl Tryz.func28 Zq3 rfl #[.agg #[.string a0_2, .slice A0_3 l0_3.length c0_3, .slice A0_4 l0_4.length c0_4]] rfl Zq10 ?_; (with_reducible refine (tree_Count.calls k a0_2 _ _ l0_3 _ _ l0_4 taN tbt _ ?side1 ?side2 ?side3 ?side4 A4.out).mono ?_); (case side1 => repeat (first | exact Zq74 | (with_reducible refine Kd.C_alloc ?_ _) | (with_reducible refine Kd.C_drewN ?_ _) | (with_reducible refine Kd.C_drew ?_))); (case side2 => exact HC0_3.out); (case side3 => repeat (first | exact Zq75 | (with_reducible refine Kd.C_alloc ?_ _) | (with_reducible refine Kd.C_drewN ?_ _) | (with_reducible refine Kd.C_drew ?_))); (case side4 => exact HC0_4.out); rintro e w37 ⟨rfl, hb⟩; refine ⟨_, rfl, ?_⟩; have n_ := Zn2 Zq58 Zq81; clear BKac HB; obtain ⟨BKac, HB⟩ := n_; (try clear hb); obtain ⟨hcz38_0, hcz38_1, hcz38_2, hcz38_3, hcz38_4, hfz38_0, hfz38_1, hfz38_2, hfz38_3, hfz38_4⟩ := Zk5 BKac.out) | (go_at_call 29; (with_reducible refine (api_Reserve_29.calls k _ _ l0_1 0 0 false _ ?side1 ?side2 A24.out).mono ?_); (case side1 => repeat (first | exact (Kd.C_below HR0_1.out HB.out) | (with_reducible refine Kd.C_alloc ?_ _) | (with_reducible refine Kd.C_drewN ?_ _) | (with_reducible refine Kd.C_drew ?_))); (case side2 => exact HC0_1.out); rintro e w39 ⟨rfl, hb⟩; have n_ := Zn2 Zq58 Zq81; clear BKac HB; obtain ⟨BKac, HB⟩ := n_; (try clear hb)))); go_ret; exact ⟨Zq11, Zq19⟩
 ·rw [if_neg c3] at H; obtain ⟨c3b0, c3b1⟩ := Zd0 c3; obtain rfl := Option.some.inj H; go_enter Tryz.func11, Tryz.ntmps11; (go_wp2_with (first | ((with_reducible refine gate_dst (N := 1) rfl ?_); (try (refine gate_guard Zq9 ?_; dsimp only)); refine box_event ?hg (N := 1) ?hd (cs := #[.int .u32 a0_0, .slice A0_1 l0_1.length c0_1, .string a0_2, .slice A0_3 l0_3.length c0_3, .slice A0_4 l0_4.length c0_4]) (t := 29) ?hr ?_; (case hd | hg => rfl); (case hr => first | (go_simp; done) | (go_simp; rfl)); intro gbac hg w40 hbox hb; have n_ := Zn4 Zq61 (AK (hbox)) Zq68 Zq68; clear HB; obtain ⟨HB, BKac, GWac, GEac⟩ := n_; clear hb hbox hg; obtain ⟨hcz41_0, hcz41_1, hcz41_2, hcz41_3, hcz41_4, hfz41_0, hfz41_1, hfz41_2, hfz41_3, hfz41_4⟩ := Zk5 BKac.out) | ((with_reducible refine gate_callee (f := 27) rfl ?_); refine goesL_ (some 8) rfl rfl Tryz.func27 Zq3 rfl #[.agg #[.string a0_2, .slice A0_3 l0_3.length c0_3, .slice A0_4 l0_4.length c0_4], .int .i64 1] rfl Zq10 ?_; (with_reducible refine (tree_check.calls k a0_2 _ _ l0_3 _ _ l0_4 1 taQ _ ?side1 ?side2 ?side3 ?side4 A2.out).mono ?_); (case side1 => repeat (first | exact Zq74 | (with_reducible refine Kd.C_alloc ?_ _) | (with_reducible refine Kd.C_drewN ?_ _) | (with_reducible refine Kd.C_drew ?_))); (case side2 => exact HC0_3.out); (case side3 => repeat (first | exact Zq75 | (with_reducible refine Kd.C_alloc ?_ _) | (with_reducible refine Kd.C_drewN ?_ _) | (with_reducible refine Kd.C_drew ?_))); (case side4 => exact HC0_4.out); rintro e w42 ⟨rfl, hb⟩; refine ⟨_, rfl, ?_⟩; have n_ := Zn2 Zq58 Zq81; clear BKac HB; obtain ⟨BKac, HB⟩ := n_; (try clear hb)))); go_ret; exact ⟨Zq11, Zq19⟩
def arboretref01_Bytes.l0 : Nat → Int → List Int → Int → Option (List Int)
 | 0, _, _, _ => none
 | k + 1, x0, x5, x6 => if x6 ≥ 0 then (if 0 ≤ x6 then (if x6 < (x5.length : Int) then (arboretref01_Bytes.l0 k (IntKind.u64.wrap (Int.tdiv x0 256)) (x5.set (x6 : Int).toNat ((Int.tmod x0 256) % 256)) (wrap64 (x6 - 1))) else (none)) else (none)) else (some x5)
def arboretref01_Bytes.f (k : Nat) (a0 : Int) (a1 : Int) : Option (List Int) := if 0 ≤ a1 then (if (a1 : Int).toNat ≤ 281474976710656 then (arboretref01_Bytes.l0 k a0 (List.replicate (a1 : Int).toNat 0) (wrap64 (a1 - 1))) else (none)) else (none)
theorem arboretref01_Bytes.mono_l : ∀ k, (∀ y0 y1 y2, LeO (arboretref01_Bytes.l0 k y0 y1 y2) (arboretref01_Bytes.l0 (k + 1) y0 y1 y2))
 | 0 => fun _ _ _ r h => by simp [arboretref01_Bytes.l0] at h
 | k + 1 => by
  have ih0 := arboretref01_Bytes.mono_l k
  ·intro y0 y1 y2; unfold arboretref01_Bytes.l0
   repeat' first | (with_reducible first | exact ih0 _ _ _ | exact LeO.refl _ | exact LeO.none _ | refine LeO.ite ?_ ?_ | refine LeO.bind ?_ (fun _ => ?_))
theorem arboretref01_Bytes.mono : ∀ a0 a1 k, LeO (arboretref01_Bytes.f k a0 a1) (arboretref01_Bytes.f (k + 1) a0 a1) := by
 intro a0 a1 k; have ih0 := arboretref01_Bytes.mono_l k; unfold arboretref01_Bytes.f
 repeat' first | (with_reducible first | exact ih0 _ _ _ | exact LeO.refl _ | exact LeO.none _ | refine LeO.ite ?_ ?_ | refine LeO.bind ?_ (fun _ => ?_))
set_option maxHeartbeats 8000000 in
set_option maxRecDepth 100000 in
theorem arboretref01_Bytes.calls (k : Nat) (a0 : Int) (a1 : Int) (r : List Int) (w : World) (h : arboretref01_Bytes.f k a0 a1 = some r) :
  Calls Tryz.prog 23 #[.int .u64 a0, .int .i64 a1] w fun e w' => ∃ v0_ : Value, e = .returned (v0_) ∧ Kd.R (Kd.int .u8) 5 w' w.heap.size (fun _ => True) v0_ r ∧ Below w.heap.size w w' := by
 have HB := Zq70; have H : (if 0 ≤ a1 then (if (a1 : Int).toNat ≤ 281474976710656 then (arboretref01_Bytes.l0 k a0 (List.replicate (a1 : Int).toNat 0) (wrap64 (a1 - 1))) else (none)) else (none)) = some r := h; clear h
 by_cases c3 : 0 ≤ a1
 ·rw [if_pos c3] at H; have c3b0 := eq_true c3; have c3b1 : decide (0 ≤ a1) = true := decide_eq_true c3; clear c3
  by_cases c4 : (a1 : Int).toNat ≤ 281474976710656
  ·rw [if_pos c4] at H; have c4b0 := eq_true c4; have c4b1 : decide ((a1 : Int).toNat ≤ 281474976710656) = true := decide_eq_true c4; clear c4
   obtain ⟨ybc, hybc⟩ : ∃ y_ : List Int, y_ = (List.replicate (a1 : Int).toNat 0) := ⟨_, rfl⟩
   replace H : (arboretref01_Bytes.l0 k a0 ybc (wrap64 (a1 - 1))) = some r := by first | (rw [hybc]; with_reducible exact H) | (have H2_ := (Option.bind_some _ _).symm.trans H; rw [hybc]; with_reducible exact H2_) | (have H2_ := (Option.bind_some _ _).symm.trans H; with_reducible exact H2_) | with_reducible exact H | (rw [hybc]; exact H) | exact H
   have Nybc := AK hybc; clear hybc; have H' := AK H; clear H; go_enter Tryz.func23, Tryz.ntmps23; go_wp2_with (first | ((with_reducible refine gate_dst (N := 8) rfl ?_); refine Kd.R_make (Kd.int .u8) _ 5 rfl (N := 8) rfl 32 _ _ rfl a1 rfl rfl Tryz.underlying32 (.int .u8 0) 1 info5 rfl Zq2 Zq1 0 (ok := fun _ => True) (okp := fun _ => True) rfl (fun _ hk => hk) trivial (of_decide_eq_true Zq5) (Nat.le_trans (Nat.mul_le_mul_right _ (of_decide_eq_true Zq5 : a1.toNat ≤ 281474976710656)) Zq1) (Below.refl _ _) (Nat.le_refl _) ?_; intro v386 w5 ho6 hb hg_ hnew_; clear hg_ hnew_; (first | rw [← Nybc.out] at ho6 | (simp only [Int.reduceToNat] at ho6; rw [← Nybc.out] at ho6)); have n_ := Zn2 (AK (Kd.R_lower ho6 (below_size Zq6))) Zq61; clear HB; obtain ⟨HOcE, HB⟩ := n_; clear hb ho6))
   go_loopg [0, 6] k (fun kq v0 v6 w' => ∃ (x0_1 : Int) (x5_1 : List Int) (x6_1 : Int), v0 = .int .u64 x0_1 ∧ v6 = .int .i64 x6_1 ∧ Aside0 (arboretref01_Bytes.l0 kq x0_1 x5_1 x6_1 = some r) ∧ Aside0 (kq ≤ k) ∧ Aside0 (Kd.R (Kd.int .u8) 5 w' w.heap.size (fun _ => True) v386 x5_1) ∧ Aside0 (Below w.heap.size w w'))
   case atStart => exact ⟨(a0), (ybc), (wrap64 (a1 - 1)), Zq4, Zq4, H', ⟨Nat.le_refl _⟩, ⟨by (with_reducible repeat (first | apply Kd.R_alloc | apply Kd.R_drewN | apply Kd.R_drew)); exact HOcE.out⟩, ⟨Zq6⟩⟩
   case round =>
    clear H'; (try clear c3b0); (try clear c3b1); (try clear c4b0); (try clear c4b1); obtain ⟨x0_1, x5_1, x6_1, rfl, rfl, HA, HK1, HO_5, HB⟩ := hrel
    cases gk with
    | zero => exact absurd HA.out (by simp [arboretref01_Bytes.l0])
    | succ k1 =>
     have H := HA.out; clear HA; simp only [arboretref01_Bytes.l0] at H
     by_cases c7 : x6_1 ≥ 0
     ·rw [if_pos c7] at H; have c7b0 : decide (0 ≤ x6_1) = true := decide_eq_true c7; clear c7
      by_cases c8 : 0 ≤ x6_1
      ·rw [if_pos c8] at H; have c8b0 : decide (0 ≤ x6_1) = true := decide_eq_true c8; clear c8
       by_cases c9 : x6_1 < (x5_1.length : Int)
       ·rw [if_pos c9] at H; have c9b0 : decide (x6_1 < (x5_1.length : Int)) = true := decide_eq_true c9; clear c9
        obtain ⟨ybd, hybd⟩ : ∃ y_ : List Int, y_ = (x5_1.set (x6_1 : Int).toNat ((Int.tmod x0_1 256) % 256)) := ⟨_, rfl⟩
        replace H : (arboretref01_Bytes.l0 k1 (IntKind.u64.wrap (Int.tdiv x0_1 256)) ybd (wrap64 (x6_1 - 1))) = some r := by first | (rw [hybd]; with_reducible exact H) | (have H2_ := (Option.bind_some _ _).symm.trans H; rw [hybd]; with_reducible exact H2_) | (have H2_ := (Option.bind_some _ _).symm.trans H; with_reducible exact H2_) | with_reducible exact H | (rw [hybd]; exact H) | exact H
        have Nybd := AK hybd; clear hybd; have H' := AK H; clear H; have p10 : 0 ≤ (x6_1 : Int) := of_decide_eq_true Zq5; have q10 : (x6_1 : Int) < ((x5_1.length : Int) : Int) := of_decide_eq_true Zq5; obtain ⟨go10, co10, eo10, gb10, gl10, cl10, HG10⟩ := Kd.R_form HO_5.out Zq1; (first | cases eo10 | (injection eo10 with ea_ en_ ec_; (first | subst ea_ | (injection ea_ with ea_; subst ea_)); subst ec_; clear en_)); have GB10 := AK gb10; have GG10 := AK HG10; clear gb10 gl10 HG10; obtain ⟨hx10_0, hf10_0⟩ := Kd.R_celln 0 HO_5.out (x6_1 : Int) p10 q10; replace p10 := eq_true p10; replace q10 := eq_true q10; have HP11 := Kd.R_putg HO_5.out (x6_1 : Int) ((Int.tmod x0_1 256) % 256); go_wp2_with (first | ((with_reducible refine gate_store (t := 5) (p := 20) rfl ?_); refine store_event (t := 5) (p := 20) (v := ?vo_w12) (w1 := (wr.setCell ⟨go10, (x6_1 : Int).toNat, none⟩ (.int .u8 ((Int.tmod x0_1 256) % 256)))) ?hg ?ho ?hn ?hr ?_; (case ho => rfl); (case hg => rfl); (case hn => rfl); (case hr => first | (go_simp; done) | (go_simp; rfl)); intro w12 hw; have hg : wr.grownBy w12 (some go10) := (by rw [hw]; exact HP11.2); have hp_ : Kd.R (Kd.int .u8) 5 w12 w.heap.size (fun _ => True) (.slice (some ⟨go10, 0, none⟩) x5_1.length co10) ybd := (by rw [hw, Nybd.out]; exact HP11.1); clear HP11; have n_ := Zn2 (AK (hp_)) (AK (by rw [hw]; exact below_set (HB.out) GB10.out : Below w.heap.size w w12)); clear HO_5 HB; obtain ⟨HO_5, HB⟩ := n_; clear hg hw hp_))
        go_roundg k1
        case measure => have := HK1.out; omega
        case rel => exact ⟨(IntKind.u64.wrap (Int.tdiv x0_1 256)), (ybd), (wrap64 (x6_1 - 1)), Zq4, Zq4, H', ⟨Zq14⟩, ⟨Zq50⟩, ⟨Zq6⟩⟩
       ·rw [if_neg c9] at H; exact absurd H Zq7
      ·rw [if_neg c8] at H; exact absurd H Zq7
     ·rw [if_neg c7] at H; have c7b0 : decide (0 ≤ x6_1) = false := decide_eq_false c7; clear c7; obtain rfl := Option.some.inj H; go_wp2; go_ret; exact ⟨_, Zq11, Zq50, Zq6⟩
  ·rw [if_neg c4] at H; exact absurd H Zq7
 ·rw [if_neg c3] at H; exact absurd H Zq7
def arboretref04_cell.f (k : Nat) (a0 : Int) : Option (List Int) := (arboretref01_Bytes.f k (Go.bits .and .u64 (IntKind.u64.wrap (a0)) 4294967295) 4).bind fun tbH => (some tbH)
set_option maxHeartbeats 8000000 in
set_option maxRecDepth 100000 in
theorem arboretref04_cell.calls (k : Nat) (a0 : Int) (r : List Int) (w : World) (h : arboretref04_cell.f k a0 = some r) :
  Calls Tryz.prog 24 #[.int .i64 a0] w fun e w' => ∃ v0_ : Value, e = .returned (v0_) ∧ Kd.R (Kd.int .u8) 5 w' w.heap.size (fun _ => True) v0_ r ∧ Below w.heap.size w w' := by
 have HB := Zq70; have H : ((arboretref01_Bytes.f k (Go.bits .and .u64 (IntKind.u64.wrap (a0)) 4294967295) 4).bind fun tbH => (some tbH)) = some r := h; clear h; replace H := Option.bind_eq_some_iff.mp H; obtain ⟨tbH, A20, H⟩ := H; replace H : (some tbH) = some r := H; have A2 := AK A20; clear A20; obtain rfl := Option.some.inj H; go_enter Tryz.func24, Tryz.ntmps24; (go_wp2_with (first | ((with_reducible refine gate_callee (f := 23) rfl ?_); refine goesL_ (some 6) rfl rfl Tryz.func23 Zq3 rfl #[.int .u64 (Go.bits .and .u64 (IntKind.u64.wrap (a0)) 4294967295), .int .i64 4] rfl Zq10 ?_; (with_reducible refine (arboretref01_Bytes.calls k (Go.bits .and .u64 (IntKind.u64.wrap (a0)) 4294967295) 4 tbH _ A2.out).mono ?_); rintro e w3 ⟨v390, rfl, ho0, hb⟩; refine ⟨_, rfl, ?_⟩; have n_ := Zn2 (AK (Kd.R_lower ho0 (below_size Zq6))) Zq61; clear HB; obtain ⟨HOcF, HB⟩ := n_; (try clear hb); (try clear ho0)))); go_ret; exact ⟨_, Zq11, by (with_reducible repeat (first | apply Kd.R_alloc | apply Kd.R_drewN | apply Kd.R_drew)); exact HOcF.out, Zq6⟩
def arboretref04_padded.l0 : Nat → List Int → Option (List Int)
 | 0, _ => none
 | k + 1, x3 => if ((x3.length : Int) % 4) = 0 then (some x3) else (if x3.length < 140737488355328 then (arboretref04_padded.l0 k (x3 ++ [0])) else (none))
def arboretref04_padded.f (k : Nat) (l0 : List Int) : Option (List Int) := (some (([] : List Int) : List Int)).bind fun yaG => (if yaG.length + l0.length < 140737488355328 then (arboretref04_padded.l0 k (yaG ++ l0)) else (none))
set_option maxHeartbeats 8000000 in
set_option maxRecDepth 100000 in
theorem arboretref04_padded.calls (k : Nat) (A0 : Option Addr) (c0 : Nat) (l0 : List Int) (r : List Int) (w : World) (hr0 : Kd.C (Kd.int .u8) w A0 l0.length l0) (hc0 : l0.length ≤ c0) (h : arboretref04_padded.f k l0 = some r) :
  Calls Tryz.prog 36 #[.slice A0 l0.length c0] w fun e w' => ∃ v0_ : Value, e = .returned (v0_) ∧ Kd.R (Kd.int .u8) 5 w' w.heap.size (fun _ => True) v0_ r ∧ Below w.heap.size w w' := by
 have HR0 := AK hr0; have HC0 := AK hc0; clear hr0 hc0; have HB := Zq70; have H : ((some (([] : List Int) : List Int)).bind fun yaG => (if yaG.length + l0.length < 140737488355328 then (arboretref04_padded.l0 k (yaG ++ l0)) else (none))) = some r := h; clear h
 obtain ⟨yaG, hyaG⟩ : ∃ y_ : List Int, y_ = (([] : List Int)) := ⟨_, rfl⟩
 replace H : (if yaG.length + l0.length < 140737488355328 then (arboretref04_padded.l0 k (yaG ++ l0)) else (none)) = some r := by first | (rw [hyaG]; with_reducible exact H) | (have H2_ := (Option.bind_some _ _).symm.trans H; rw [hyaG]; with_reducible exact H2_) | (have H2_ := (Option.bind_some _ _).symm.trans H; with_reducible exact H2_) | with_reducible exact H | (rw [hyaG]; exact H) | exact H
 have NyaG := AK hyaG; clear hyaG
 by_cases c2 : yaG.length + l0.length < 140737488355328
 ·rw [if_pos c2] at H; have LMc2 := AK c2; clear c2
  obtain ⟨ybl, hybl⟩ : ∃ y_ : List Int, y_ = (yaG ++ l0) := ⟨_, rfl⟩
  replace H : (arboretref04_padded.l0 k ybl) = some r := by first | (rw [hybl]; with_reducible exact H) | (have H2_ := (Option.bind_some _ _).symm.trans H; rw [hybl]; with_reducible exact H2_) | (have H2_ := (Option.bind_some _ _).symm.trans H; with_reducible exact H2_) | with_reducible exact H | (rw [hybl]; exact H) | exact H
  have Nybl := AK hybl; clear hybl; have H' := AK H; clear H; go_enter Tryz.func36, Tryz.ntmps36; go_wp2_with (first | ((with_reducible refine gate_dst (N := 4) rfl ?_); refine Kd.R_lit (Kd.int .u8) _ 5 ?hg (N := 4) ?hd (xs := ([] : List Int)) (inner := []) (ok := fun _ => True) (okp := fun _ => True) ?hr ?hp (fun _ hk => hk) trivial (Below.refl _ _) (Nat.le_refl _) Zq7 ?_; (case hd | hg => rfl); (case hr => first | (go_simp; done) | (go_simp; rfl)); (case hp => exact (Reps.none _ _)); intro v393 w3 ho4 hb hg_ hnew_; clear hg_ hnew_; (first | rw [← NyaG.out] at ho4 | (simp only [Int.reduceToNat] at ho4; rw [← NyaG.out] at ho4)); have n_ := Zn2 (AK (Kd.R_lower ho4 (below_size Zq6))) Zq61; clear HB; obtain ⟨HOcr, HB⟩ := n_; clear hb ho4) | ((with_reducible refine gate_builtin (b := .append) (xs := #[.tmp 4, .tmp 5]) rfl ?_); at_builtin; refine Kd.R_append_rows (Kd.int .u8) (w0 := w) w.heap.size rfl (.tmp 4) (.tmp 5) 32 5 (.int .u8 0) 1 rfl Tryz.underlying32 info5 rfl Zq2 Zq1 v393 yaG l0 _ _ _ (fun _ => True) (fun _ => False) rfl rfl ?aO ?aR (fun _ _ h => h) (fun _ h => h.elim) ?aF ?aB ?aS ?aL ?_; (case aR => repeat (first | exact (Kd.C_below HR0.out HB.out) | (with_reducible refine Kd.C_alloc ?_ _) | (with_reducible refine Kd.C_drewN ?_ _) | (with_reducible refine Kd.C_drew ?_))); (case aB => exact Zq6); (case aF => exact (fun _ _ => trivial)); (case aO => exact (by (with_reducible repeat (first | apply Kd.R_alloc | apply Kd.R_drewN | apply Kd.R_drew)); exact HOcr.out)); (case aS => exact (below_size Zq6)); (case aL => have := LMc2.out; omega); intro v396 w5 ho hb hg hat; rw [← Nybl.out] at ho; have n_ := Zn2 (AK (hb)) (AK (ho)); clear HB HOcr; obtain ⟨HB, HOcG⟩ := n_; clear ho hb hg hat))
  go_loopg [3] k (fun kq v3 w' => ∃ (x3_1 : List Int), Aside0 (arboretref04_padded.l0 kq x3_1 = some r) ∧ Aside0 (kq ≤ k) ∧ Aside0 (Kd.R (Kd.int .u8) 5 w' w.heap.size (fun _ => True) v3 x3_1) ∧ Aside0 (Below w.heap.size w w'))
  case atStart => exact ⟨(ybl), H', ⟨Nat.le_refl _⟩, ⟨by (with_reducible repeat (first | apply Kd.R_alloc | apply Kd.R_drewN | apply Kd.R_drew)); exact HOcG.out⟩, ⟨Zq6⟩⟩
  case round =>
   clear H'; obtain ⟨x3_1, HA, HK1, HO_3, HB⟩ := hrel
   cases gk with
   | zero => exact absurd HA.out (by simp [arboretref04_padded.l0])
   | succ k1 =>
    have H := HA.out; clear HA; simp only [arboretref04_padded.l0] at H
    by_cases c6 : ((x3_1.length : Int) % 4) = 0
    ·rw [if_pos c6] at H; obtain ⟨c6b0, c6b1⟩ := Zc0 c6; clear c6; obtain rfl := Option.some.inj H; obtain ⟨Ao7, co7, eo7⟩ := Kd.R_slice HO_3.out; subst eo7; go_wp2; go_ret; exact ⟨_, Zq11, by (with_reducible repeat (first | apply Kd.R_alloc | apply Kd.R_drewN | apply Kd.R_drew)); exact HO_3.out, Zq6⟩
    ·rw [if_neg c6] at H; obtain ⟨c6b0, c6b1⟩ := Zd0 c6
     by_cases c8 : x3_1.length < 140737488355328
     ·rw [if_pos c8] at H; have LMc8 := AK c8; clear c8
      obtain ⟨ybm, hybm⟩ : ∃ y_ : List Int, y_ = (x3_1 ++ [0]) := ⟨_, rfl⟩
      replace H : (arboretref04_padded.l0 k1 ybm) = some r := by first | (rw [hybm]; with_reducible exact H) | (have H2_ := (Option.bind_some _ _).symm.trans H; rw [hybm]; with_reducible exact H2_) | (have H2_ := (Option.bind_some _ _).symm.trans H; with_reducible exact H2_) | with_reducible exact H | (rw [hybm]; exact H) | exact H
      have Nybm := AK hybm; clear hybm; have H' := AK H; clear H; obtain ⟨Ao9, co9, eo9⟩ := Kd.R_slice HO_3.out; subst eo9; go_wp2_with (first | ((with_reducible refine gate_builtin (b := .append) (xs := #[.tmp 11, .tmp 12]) rfl ?_); at_builtin; refine Kd.R_append (Kd.int .u8) (w0 := w) w.heap.size rfl (.tmp 11) (.tmp 12) 32 5 (.int .u8 0) 1 rfl Tryz.underlying32 info5 rfl Zq2 Zq1 (.slice Ao9 x3_1.length co9) x3_1 0 [.int .u8 0] (fun _ => True) (fun _ => False) rfl rfl ?aP (fun _ hk => hk.elim) ?aF ?aO ?aB ?aS ?aL ?_; (case aP => exact rfl); (case aB => exact Zq6); (case aF => exact (fun _ _ => trivial)); (case aO => exact (by (with_reducible repeat (first | apply Kd.R_alloc | apply Kd.R_drewN | apply Kd.R_drew)); exact HO_3.out)); (case aS => exact (below_size Zq6)); (case aL => have := LMc8.out; omega); intro v399 w10 ho hb hg hat; rw [← Nybm.out] at ho; have n_ := Zn2 (AK (hb)) (AK (ho)); clear HB HO_3; obtain ⟨HB, HOcH⟩ := n_; clear ho hb hg hat))
      go_roundg k1
      case measure => have := HK1.out; omega
      case rel => exact ⟨(ybm), H', ⟨Zq14⟩, ⟨by (with_reducible repeat (first | apply Kd.R_alloc | apply Kd.R_drewN | apply Kd.R_drew)); exact HOcH.out⟩, ⟨Zq6⟩⟩
     ·rw [if_neg c8] at H; exact absurd H Zq7
 ·rw [if_neg c2] at H; exact absurd H Zq7
def arboretref04_where.l0 : Nat → List ByteArray → ByteArray → Int → Int → Int → Option (Int)
 | 0, _, _, _, _, _ => none
 | k + 1, x0, x1, x5, x8, x9 => if x9 < x8 then (if 0 ≤ x9 then (if x9 < (x0.length : Int) then (if (rdOf ByteArray.empty x0 x9).toList = x1.toList then (some x5) else (arboretref04_where.l0 k x0 x1 (wrap64 ((wrap64 (x5 + ((rdOf ByteArray.empty x0 x9).size : Int))) + 1)) x8 (wrap64 (x9 + 1)))) else (none)) else (none)) else (some x5)
def arboretref04_where.f (k : Nat) (l0 : List ByteArray) (a1 : ByteArray) : Option (Int) := arboretref04_where.l0 k l0 a1 0 (l0.length : Int) 0
set_option maxHeartbeats 8000000 in
set_option maxRecDepth 100000 in
theorem arboretref04_where.calls (k : Nat) (A0 : Option Addr) (c0 : Nat) (l0 : List ByteArray) (a1 : ByteArray) (r : Int) (w : World) (hr0 : Kd.C Kd.string w A0 l0.length l0) (hc0 : l0.length ≤ c0) (h : arboretref04_where.f k l0 a1 = some r) :
  Calls Tryz.prog 37 #[.slice A0 l0.length c0, .string a1] w fun e w' => e = .returned (.int .i64 r) ∧ Drawn0 w w' := by
 have HR0 := AK hr0; have HC0 := AK hc0; clear hr0 hc0; have H : (arboretref04_where.l0 k l0 a1 0 (l0.length : Int) 0) = some r := h; clear h; have H' := AK H; clear H; go_enter Tryz.func37, Tryz.ntmps37; go_wp2
 go_loopg [5, 9] k (fun kq v5 v9 w' => ∃ (x5_1 : Int) (x9_1 : Int), v5 = .int .i64 x5_1 ∧ v9 = .int .i64 x9_1 ∧ Aside0 (arboretref04_where.l0 kq l0 a1 x5_1 (l0.length : Int) x9_1 = some r) ∧ Aside0 (kq ≤ k) ∧ Drawn0 w w')
 case atStart => exact ⟨(0), (0), Zq4, Zq4, H', ⟨Nat.le_refl _⟩, Zq8⟩
 case round =>
  clear H'; obtain ⟨x5_1, x9_1, rfl, rfl, HA, HK1, ⟨m1, rfl⟩⟩ := hrel
  cases gk with
  | zero => exact absurd HA.out (by simp [arboretref04_where.l0])
  | succ k1 =>
   have H := HA.out; clear HA; simp only [arboretref04_where.l0] at H
   by_cases c3 : x9_1 < (l0.length : Int)
   ·rw [if_pos c3] at H; have c3b0 : decide (x9_1 < (l0.length : Int)) = true := decide_eq_true c3; clear c3
    by_cases c4 : 0 ≤ x9_1
    ·rw [if_pos c4] at H; have c4b0 : decide (0 ≤ x9_1) = true := decide_eq_true c4; clear c4
     by_cases c5 : x9_1 < (l0.length : Int)
     ·rw [if_pos c5] at H; have c5b0 : decide (x9_1 < (l0.length : Int)) = true := decide_eq_true c5; clear c5
      by_cases c6 : (rdOf ByteArray.empty l0 x9_1).toList = a1.toList
      ·rw [if_pos c6] at H; obtain ⟨c6b0, c6b1⟩ := Zc0 c6; clear c6; obtain rfl := Option.some.inj H; have p401 : 0 ≤ (x9_1 : Int) := of_decide_eq_true Zq5; have q401 : x9_1 < (l0.length : Int) := of_decide_eq_true Zq5; obtain ⟨adcs, e401, hx401_0⟩ := Kd.at_string HR0.out x9_1 p401 q401; cases e401; replace p401 := eq_true p401; replace q401 := eq_true q401; go_wp2; go_ret; exact ⟨Zq4, Zq8⟩
      ·rw [if_neg c6] at H; obtain ⟨c6b0, c6b1⟩ := Zd0 c6; have H' := AK H; clear H; have p401 : 0 ≤ (x9_1 : Int) := of_decide_eq_true Zq5; have q401 : x9_1 < (l0.length : Int) := of_decide_eq_true Zq5; obtain ⟨adcs, e401, hx401_0⟩ := Kd.at_string HR0.out x9_1 p401 q401; cases e401; replace p401 := eq_true p401; replace q401 := eq_true q401; have p402 : 0 ≤ (x9_1 : Int) := of_decide_eq_true Zq5; have q402 : x9_1 < (l0.length : Int) := of_decide_eq_true Zq5; obtain ⟨adcI, e402, hx402_0⟩ := Kd.at_string HR0.out x9_1 p402 q402
       obtain rfl : adcs = adcI := (by injection e402)
       replace p402 := eq_true p402; replace q402 := eq_true q402; go_wp2
       go_roundg k1
       case measure => have := HK1.out; omega
       case rel => exact ⟨(wrap64 ((wrap64 (x5_1 + ((rdOf ByteArray.empty l0 x9_1).size : Int))) + 1)), (wrap64 (x9_1 + 1)), Zq4, Zq4, H', ⟨Zq14⟩, Zq8⟩
     ·rw [if_neg c5] at H; exact absurd H Zq7
    ·rw [if_neg c4] at H; exact absurd H Zq7
   ·rw [if_neg c3] at H; have c3b0 : decide (x9_1 < (l0.length : Int)) = false := decide_eq_false c3; clear c3; obtain rfl := Option.some.inj H; go_wp2; go_ret; exact ⟨Zq4, Zq8⟩
set_option maxRecDepth 100000 in
theorem words_part.yes (ad : Addr) (m c : Nat) (i q : Int) (w : World) (h0 : 0 ≤ i) (h1 : i ≤ (m : Int)) (h2 : q ≤ (m : Int) - i) (hq : 0 < q) (hc : m ≤ c) (hm : m ≤ 9223372036854775807) :
  Calls Tryz.prog 65 #[.slice (some ad) m c, .int .i64 i, .int .i64 q] w fun e w' => e = .returned (.slice (if c = i.toNat then some ad else (some ad).map (·.add (i.toNat * 1))) ((i + q).toNat - i.toNat) (c - i.toNat)) ∧ w' = w := by
 have f1 : decide (i < 0) = false := by simp; omega
 have f2 : decide ((m : Int) < i) = false := by simp; omega
 have f3 : decide ((m : Int) - i < q) = false := by simp; omega
 obtain ⟨i0, hi0, _, hsz, _⟩ := info_parts info5; have hcut := cut_mid 32 5 .i64 .i64 Tryz.underlying32 hi0 1 hsz (some ad) m c i (i + q) h0 Zq1 Zq1 hc; go_enter Tryz.func65, Tryz.ntmps65; go_wp2; go_ret; exact ⟨rfl, rfl⟩
set_option maxRecDepth 100000 in
theorem words_part.no (B : Option Addr) (m c : Nat) (i q : Int) (w : World) (h : i < 0 ∨ (m : Int) < i ∨ (m : Int) - i < q) (hq : 0 < q) (hq1 : q ≤ 100) (hm : m ≤ 9223372036854775807) :
  Calls Tryz.prog 65 #[.slice B m c, .int .i64 i, .int .i64 q] w fun e w' => e = .returned (.slice none 0 0) ∧ w' = w := by
 by_cases a1 : i < 0
 ·have f1 : decide (i < 0) = true := by simp; omega
  clear h; go_enter Tryz.func65, Tryz.ntmps65; go_wp2; go_ret; exact ⟨rfl, rfl⟩
 ·have f1 : decide (i < 0) = false := by simp; omega
  by_cases a2 : (m : Int) < i
  ·have f2 : decide ((m : Int) < i) = true := by simp; omega
   clear h; go_enter Tryz.func65, Tryz.ntmps65; go_wp2; go_ret; exact ⟨rfl, rfl⟩
  ·have f2 : decide ((m : Int) < i) = false := by simp; omega
   have f3 : decide ((m : Int) - i < q) = true := by simp; omega
   clear h; go_enter Tryz.func65, Tryz.ntmps65; go_wp2; go_ret; exact ⟨rfl, rfl⟩
def words_number.l0 : Nat → Int → List Int → Int → Int → Option (Int)
 | 0, _, _, _, _ => none
 | k + 1, x3, x6, x7, x8 => if x8 < x7 then (if 0 ≤ x8 then (if x8 < (x6.length : Int) then (words_number.l0 k (Go.bits .or .u64 (IntKind.u64.wrap (x3 * 256)) (IntKind.u64.wrap (rd x6 x8))) x6 x7 (wrap64 (x8 + 1))) else (none)) else (none)) else (some x3)
def words_number.f (k : Nat) (l0 : List Int) : Option (Int) := words_number.l0 k 0 l0 (l0.length : Int) 0
set_option maxHeartbeats 8000000 in
set_option maxRecDepth 100000 in
theorem words_number.calls (k : Nat) (A0 : Option Addr) (c0 : Nat) (l0 : List Int) (r : Int) (w : World) (hr0 : Kd.C (Kd.int .u8) w A0 l0.length l0) (hc0 : l0.length ≤ c0) (h : words_number.f k l0 = some r) :
  Calls Tryz.prog 66 #[.slice A0 l0.length c0] w fun e w' => e = .returned (.int .u64 r) ∧ Drawn0 w w' := by
 have HR0 := AK hr0; have HC0 := AK hc0; clear hr0 hc0; have H : (words_number.l0 k 0 l0 (l0.length : Int) 0) = some r := h; clear h; have H' := AK H; clear H; go_enter Tryz.func66, Tryz.ntmps66; go_wp2
 go_loopg [3, 8] k (fun kq v3 v8 w' => ∃ (x3_1 : Int) (x8_1 : Int), v3 = .int .u64 x3_1 ∧ v8 = .int .i64 x8_1 ∧ Aside0 (words_number.l0 kq x3_1 l0 (l0.length : Int) x8_1 = some r) ∧ Aside0 (kq ≤ k) ∧ Drawn0 w w')
 case atStart => exact ⟨(0), (0), Zq4, Zq4, H', ⟨Nat.le_refl _⟩, Zq8⟩
 case round =>
  clear H'; obtain ⟨x3_1, x8_1, rfl, rfl, HA, HK1, ⟨m1, rfl⟩⟩ := hrel
  cases gk with
  | zero => exact absurd HA.out (by simp [words_number.l0])
  | succ k1 =>
   have H := HA.out; clear HA; simp only [words_number.l0] at H
   by_cases c2 : x8_1 < (l0.length : Int)
   ·rw [if_pos c2] at H; have c2b0 : decide (x8_1 < (l0.length : Int)) = true := decide_eq_true c2; clear c2
    by_cases c3 : 0 ≤ x8_1
    ·rw [if_pos c3] at H; have c3b0 : decide (0 ≤ x8_1) = true := decide_eq_true c3; clear c3
     by_cases c4 : x8_1 < (l0.length : Int)
     ·rw [if_pos c4] at H; have c4b0 : decide (x8_1 < (l0.length : Int)) = true := decide_eq_true c4; clear c4; have H' := AK H; clear H; have p303 : 0 ≤ (x8_1 : Int) := of_decide_eq_true Zq5; have q303 : x8_1 < (l0.length : Int) := of_decide_eq_true Zq5; obtain ⟨adcP, e303, hx303_0⟩ := Kd.at_int HR0.out x8_1 p303 q303; cases e303; replace p303 := eq_true p303; replace q303 := eq_true q303; go_wp2
      go_roundg k1
      case measure => have := HK1.out; omega
      case rel => exact ⟨(Go.bits .or .u64 (IntKind.u64.wrap (x3_1 * 256)) (IntKind.u64.wrap (rd l0 x8_1))), (wrap64 (x8_1 + 1)), Zq4, Zq4, H', ⟨Zq14⟩, Zq8⟩
     ·rw [if_neg c4] at H; exact absurd H Zq7
    ·rw [if_neg c3] at H; exact absurd H Zq7
   ·rw [if_neg c2] at H; have c2b0 : decide (x8_1 < (l0.length : Int)) = false := decide_eq_false c2; clear c2; obtain rfl := Option.some.inj H; go_wp2; go_ret; exact ⟨Zq4, Zq8⟩
def numb (l : List Int) : Int := l.foldl (fun v c => Go.bits .or .u64 (IntKind.u64.wrap (v * 256)) (IntKind.u64.wrap c)) 0
theorem numb_loop (l : List Int) (hl : l.length ≤ 9223372036854775806) (d : Nat) : ∀ (k : Nat) (v : Int) (i : Nat), i + d = l.length → d < k →
  words_number.l0 k v l (l.length : Int) (i : Int) = some ((l.drop i).foldl (fun v c => Go.bits .or .u64 (IntKind.u64.wrap (v * 256)) (IntKind.u64.wrap c)) v) := by
 induction d with
 | zero =>
  intro k v i hi hk
  obtain ⟨k, rfl⟩ : ∃ m, k = m + 1 := ⟨k - 1, Zq1⟩
  simp only [words_number.l0]; rw [if_neg Zq1, List.drop_of_length_le Zq1]; rfl
 | succ d ih =>
  intro k v i hi hk
  obtain ⟨k, rfl⟩ : ∃ m, k = m + 1 := ⟨k - 1, Zq1⟩
  simp only [words_number.l0]
  have hw : wrap64 ((i : Int) + 1) = ((i + 1 : Nat) : Int) := by unfold wrap64; omega
  rw [if_pos Zq1, if_pos Zq1, if_pos Zq1, hw, ih k _ (i + 1) Zq1 Zq1, List.drop_eq_getElem_cons (by omega : i < l.length), List.foldl_cons]
  simp [rd, List.getD_eq_getElem?_getD, List.getElem?_eq_getElem (by omega : i < l.length)]
theorem numb_f (l : List Int) (hl : l.length ≤ 9223372036854775806) : words_number.f (l.length + 1) l = some (numb l) := by
 have h := numb_loop l hl l.length (l.length + 1) 0 0 Zq1 Zq1
 simpa [words_number.f, numb] using h
def words_Get.f (l0 : List Int) (a1 : Int) : Option (Int × Bool) := if 0 ≤ a1 ∧ 4 ≤ (l0.length : Int) - a1 then (some (numb ((l0.take (a1 + 4).toNat).drop a1.toNat) % 4294967296, true)) else (some (0, false))
set_option maxRecDepth 100000 in
theorem words_Get.calls (A0 : Option Addr) (c0 : Nat) (l0 : List Int) (a1 : Int) (r1 : Int) (r2 : Bool) (w : World) (hr0 : Kd.C (Kd.int .u8) w A0 l0.length l0) (hc0 : l0.length ≤ c0) (h : words_Get.f l0 a1 = some (r1, r2)) :
  Calls Tryz.prog 53 #[.slice A0 l0.length c0, .int .i64 a1] w fun e w' => e = .returned (.tuple #[.int .u32 r1, .bool r2]) ∧ Drawn0 w w' := by
 have hm : l0.length ≤ 9223372036854775807 := hr0.2.1; unfold words_Get.f at h
 by_cases c : 0 ≤ a1 ∧ 4 ≤ (l0.length : Int) - a1
 ·rw [if_pos c] at h; simp only [Option.some.injEq, Prod.mk.injEq] at h; obtain ⟨rfl, rfl⟩ := h; obtain ⟨ad, rfl, _⟩ := hr0.2.2 Zq1; have hmid := Kd.C_mid (lo := a1.toNat) (hi := (a1 + 4).toNat) hr0 Zq1 Zq1 hc0
  have hlen : ((l0.take (a1 + 4).toNat).drop a1.toNat).length = 4 := by simp; omega
  obtain ⟨y, hy⟩ : ∃ y, y = (l0.take (a1 + 4).toNat).drop a1.toNat := ⟨_, rfl⟩
  rw [← hy] at hmid hlen
  have hsub : (a1 + 4).toNat - a1.toNat = y.length := by rw [hlen]; omega
  have h0 := c.1; have h1 := c.2
  have hno : c0 ≠ a1.toNat := by omega
  have Hp := words_part.yes ad l0.length c0 a1 4 w h0 Zq1 h1 Zq2 hc0 hm; rw [if_neg hno, hsub] at Hp; rw [if_neg hno] at hmid
  have hq : y.length ≤ c0 - a1.toNat := by rw [hlen]; omega
  have Hn := words_number.calls (y.length + 1) ((some ad).map (·.add (a1.toNat * 1))) (c0 - a1.toNat) y (numb y) w hmid hq (numb_f y (by rw [hlen]; decide)); have Hy := AK hy; clear hy c h0 h1 hno hmid hq hr0 hsub hlen
  obtain ⟨B, hB⟩ : ∃ B, B = ad.add (a1.toNat * 1) := ⟨_, rfl⟩
  simp only [Option.map_some] at Hp Hn; rw [← hB] at Hp Hn; clear hB
  have q := fun w' : World => run_neq_slice_nil_any (P := Tryz.prog) w' 32 5 (some B) y.length (c0 - a1.toNat) 0 0 Tryz.underlying32
  simp only [Option.isNone_some, Bool.not_false] at q; go_enter Tryz.func53, Tryz.ntmps53; go_wp2_with (first | (go_at_call 65; refine Hp.mono ?_; rintro e w' ⟨rfl, rfl⟩) | (go_at_call 66; refine Hn.mono ?_; rintro e w' ⟨rfl, ⟨nd, rfl⟩⟩))
  go_ret2
  exact ⟨by rw [Hy.out]; rfl, ⟨⟨_, rfl⟩⟩⟩
 ·rw [if_neg c] at h; simp only [Option.some.injEq, Prod.mk.injEq] at h; obtain ⟨rfl, rfl⟩ := h; have Hn := words_number.calls 1 none 0 [] 0 w ⟨rfl, Zq2, fun h0 => absurd h0 Zq2⟩ (Nat.le_refl 0) Zq2
  have q := fun w' : World => run_neq_slice_nil_any (P := Tryz.prog) w' 32 5 none 0 0 0 0 Tryz.underlying32
  simp only [Option.isNone_none, Bool.not_true] at q; simp only [List.length_nil] at Hn; have Hp := words_part.no A0 l0.length c0 a1 4 w Zq1 Zq2 Zq2 hm; clear c hr0; go_enter Tryz.func53, Tryz.ntmps53; go_wp2_with (first | (go_at_call 65; refine Hp.mono ?_; rintro e w' ⟨rfl, rfl⟩) | (go_at_call 66; refine Hn.mono ?_; rintro e w' ⟨rfl, ⟨nd, rfl⟩⟩))
  go_ret2
  exact ⟨rfl, ⟨⟨_, rfl⟩⟩⟩
def words_Get64.f (l0 : List Int) (a1 : Int) : Option (Int × Bool) := if 0 ≤ a1 ∧ 8 ≤ (l0.length : Int) - a1 then (some (numb ((l0.take (a1 + 8).toNat).drop a1.toNat), true)) else (some (0, false))
set_option maxRecDepth 100000 in
theorem words_Get64.calls (A0 : Option Addr) (c0 : Nat) (l0 : List Int) (a1 : Int) (r1 : Int) (r2 : Bool) (w : World) (hr0 : Kd.C (Kd.int .u8) w A0 l0.length l0) (hc0 : l0.length ≤ c0) (h : words_Get64.f l0 a1 = some (r1, r2)) :
  Calls Tryz.prog 55 #[.slice A0 l0.length c0, .int .i64 a1] w fun e w' => e = .returned (.tuple #[.int .u64 r1, .bool r2]) ∧ Drawn0 w w' := by
 have hm : l0.length ≤ 9223372036854775807 := hr0.2.1; unfold words_Get64.f at h
 by_cases c : 0 ≤ a1 ∧ 8 ≤ (l0.length : Int) - a1
 ·rw [if_pos c] at h; simp only [Option.some.injEq, Prod.mk.injEq] at h; obtain ⟨rfl, rfl⟩ := h; obtain ⟨ad, rfl, _⟩ := hr0.2.2 Zq1; have hmid := Kd.C_mid (lo := a1.toNat) (hi := (a1 + 8).toNat) hr0 Zq1 Zq1 hc0
  have hlen : ((l0.take (a1 + 8).toNat).drop a1.toNat).length = 8 := by simp; omega
  obtain ⟨y, hy⟩ : ∃ y, y = (l0.take (a1 + 8).toNat).drop a1.toNat := ⟨_, rfl⟩
  rw [← hy] at hmid hlen
  have hsub : (a1 + 8).toNat - a1.toNat = y.length := by rw [hlen]; omega
  have h0 := c.1; have h1 := c.2
  have hno : c0 ≠ a1.toNat := by omega
  have Hp := words_part.yes ad l0.length c0 a1 8 w h0 Zq1 h1 Zq2 hc0 hm; rw [if_neg hno, hsub] at Hp; rw [if_neg hno] at hmid
  have hq : y.length ≤ c0 - a1.toNat := by rw [hlen]; omega
  have Hn := words_number.calls (y.length + 1) ((some ad).map (·.add (a1.toNat * 1))) (c0 - a1.toNat) y (numb y) w hmid hq (numb_f y (by rw [hlen]; decide)); have Hy := AK hy; clear hy c h0 h1 hno hmid hq hr0 hsub hlen
  obtain ⟨B, hB⟩ : ∃ B, B = ad.add (a1.toNat * 1) := ⟨_, rfl⟩
  simp only [Option.map_some] at Hp Hn; rw [← hB] at Hp Hn; clear hB
  have q := fun w' : World => run_neq_slice_nil_any (P := Tryz.prog) w' 32 5 (some B) y.length (c0 - a1.toNat) 0 0 Tryz.underlying32
  simp only [Option.isNone_some, Bool.not_false] at q; go_enter Tryz.func55, Tryz.ntmps55; go_wp2_with (first | (go_at_call 65; refine Hp.mono ?_; rintro e w' ⟨rfl, rfl⟩) | (go_at_call 66; refine Hn.mono ?_; rintro e w' ⟨rfl, ⟨nd, rfl⟩⟩))
  go_ret2
  exact ⟨by rw [Hy.out]; rfl, ⟨⟨_, rfl⟩⟩⟩
 ·rw [if_neg c] at h; simp only [Option.some.injEq, Prod.mk.injEq] at h; obtain ⟨rfl, rfl⟩ := h; have Hn := words_number.calls 1 none 0 [] 0 w ⟨rfl, Zq2, fun h0 => absurd h0 Zq2⟩ (Nat.le_refl 0) Zq2
  have q := fun w' : World => run_neq_slice_nil_any (P := Tryz.prog) w' 32 5 none 0 0 0 0 Tryz.underlying32
  simp only [Option.isNone_none, Bool.not_true] at q; simp only [List.length_nil] at Hn; have Hp := words_part.no A0 l0.length c0 a1 8 w Zq1 Zq2 Zq2 hm; clear c hr0; go_enter Tryz.func55, Tryz.ntmps55; go_wp2_with (first | (go_at_call 65; refine Hp.mono ?_; rintro e w' ⟨rfl, rfl⟩) | (go_at_call 66; refine Hn.mono ?_; rintro e w' ⟨rfl, ⟨nd, rfl⟩⟩))
  go_ret2
  exact ⟨rfl, ⟨⟨_, rfl⟩⟩⟩
mutual
def decode_reserves.l0 : Nat → List Int → Int → List (S51) → Option ((List (S51)) × Int)
 | 0, _, _, _ => none
 | k + 1, x0, x1, x6 => (words_Get64.f x0 x1).bind fun btaA => ((words_Get64.f x0 (wrap64 (x1 + 8))).bind fun btaz => (if btaz.2 = true then (if btaA.1 = 0 then (decode_reserves.j1 k x0 x1 x6 btaA.1 btaz.1 (btaz.1 == 0)) else (decode_reserves.j1 k x0 x1 x6 btaA.1 btaz.1 false)) else (some (([] : List (S51)), 4))))
def decode_reserves.j1 : Nat → List Int → Int → List (S51) → Int → Int → Bool → Option ((List (S51)) × Int)
 | 0, _, _, _, _, _, _ => none
 | k + 1, x0, x1, x6, x7, x9, x29 => if x29 = true then (if (x6.length : Int) > 64 then (some (([] : List (S51)), 7)) else (some (x6, 0))) else (if x6.length < 8796093022208 then (decode_reserves.l0 k x0 (wrap64 (x1 + 16)) (x6 ++ [(⟨x7, x9⟩ : S51)])) else (none))
end
def decode_reserves.f (k : Nat) (l0 : List Int) (a1 : Int) : Option ((List (S51)) × Int) := decode_reserves.l0 k l0 a1 ([] : List (S51))
end Go.Proofs.YtkopmkinlanhoaaGreat.PE

namespace Go.Proofs.YtkopmkinlanhoaaGreat.PE
open Go.RowKit Go.Proofs.YtkopmkinlanhoaaGreatW.PrintWords Go.Proofs.YtkopmkinlanhoaaGreatW.PrintLast Go.Proofs.YtkopmkinlanhoaaGreatW.PrintMore
attribute [local go_sem] max2_int min2_int max_two min_two max_three min_three max_four min_four
attribute [local go_sem high] eqA51
set_option maxHeartbeats 8000000 in
set_option maxRecDepth 100000 in
theorem decode_reserves.calls (k : Nat) (A0 : Option Addr) (c0 : Nat) (l0 : List Int) (a1 : Int) (r1 : List (S51)) (r2 : Int) (w : World) (hr0 : Kd.C (Kd.int .u8) w A0 l0.length l0) (hc0 : l0.length ≤ c0) (h : decode_reserves.f k l0 a1 = some (r1, r2)) :
  Calls Tryz.prog 39 #[.slice A0 l0.length c0, .int .i64 a1] w fun e w' => ∃ v0_ : Value, e = .returned (.tuple #[v0_, .int .i64 r2]) ∧ Kd.R k51 51 w' w.heap.size (fun _ => True) v0_ r1 ∧ Below w.heap.size w w' := by
 have hu51 := Tryz.underlying51; have HR0 := AK hr0; have HC0 := AK hc0; clear hr0 hc0; have HB := Zq70; have H : (decode_reserves.l0 k l0 a1 ([] : List (S51))) = some (r1, r2) := h; clear h; have H' := AK H; clear H; go_enter Tryz.func39, Tryz.ntmps39; go_wp2
 go_loopg [1, 6] k (fun kq v1 v6 w' => ∃ (x1_1 : Int) (x6_1 : List (S51)), v1 = .int .i64 x1_1 ∧ Aside0 (decode_reserves.l0 kq l0 x1_1 x6_1 = some (r1, r2)) ∧ Aside0 (kq ≤ k) ∧ Aside0 (Kd.R k51 51 w' w.heap.size (fun _ => True) v6 x6_1) ∧ Aside0 (Below w.heap.size w w'))
 case atStart => exact ⟨(a1), (([] : List (S51))), Zq4, H', ⟨Nat.le_refl _⟩, ⟨Zq48⟩, ⟨Zq6⟩⟩
 case round =>
  clear H'; obtain ⟨x1_1, x6_1, rfl, HA, HK1, HO_6, HB⟩ := hrel
  cases gk with
  | zero => exact absurd HA.out (by simp [decode_reserves.l0])
  | succ k1 =>
   have H := HA.out; clear HA; simp only [decode_reserves.l0] at H; replace H := Option.bind_eq_some_iff.mp H; obtain ⟨⟨taA, tcu⟩, A30, H⟩ := H; replace H : ((words_Get64.f l0 (wrap64 (x1_1 + 8))).bind fun btaz => (if btaz.2 = true then (if taA = 0 then (decode_reserves.j1 k1 l0 x1_1 x6_1 taA btaz.1 (btaz.1 == 0)) else (decode_reserves.j1 k1 l0 x1_1 x6_1 taA btaz.1 false)) else (some (([] : List (S51)), 4)))) = some (r1, r2) := H; have A3 := AK A30; clear A30; replace H := Option.bind_eq_some_iff.mp H; obtain ⟨⟨taz, tcv⟩, A40, H⟩ := H; replace H : (if tcv = true then (if taA = 0 then (decode_reserves.j1 k1 l0 x1_1 x6_1 taA taz (taz == 0)) else (decode_reserves.j1 k1 l0 x1_1 x6_1 taA taz false)) else (some (([] : List (S51)), 4))) = some (r1, r2) := H; have A4 := AK A40; clear A40
   by_cases c5 : tcv = true
   ·subst c5
    have H1 : (if taA = 0 then (decode_reserves.j1 k1 l0 x1_1 x6_1 taA taz (taz == 0)) else (decode_reserves.j1 k1 l0 x1_1 x6_1 taA taz false)) = some (r1, r2) := by rw [if_pos rfl] at H; exact H
    clear H; have H := H1; clear H1; have HC6 := AK H; clear H
    go_upto_region 7 with (first | ((with_reducible refine gate_callee (f := 55) rfl ?_); refine goesL_ (some 16) rfl rfl Tryz.func55 Zq3 rfl #[.slice A0 l0.length c0, .int .i64 x1_1] rfl Zq10 ?_; (with_reducible refine (words_Get64.calls _ _ l0 x1_1 taA tcu _ ?side1 ?side2 A3.out).mono ?_); (case side1 => repeat (first | exact (Kd.C_below HR0.out HB.out) | (with_reducible refine Kd.C_alloc ?_ _) | (with_reducible refine Kd.C_drewN ?_ _) | (with_reducible refine Kd.C_drew ?_))); (case side2 => exact HC0.out); rintro e w' ⟨rfl, ⟨nd, rfl⟩⟩; refine ⟨_, rfl, ?_⟩) | ((with_reducible refine gate_callee (f := 55) rfl ?_); refine goesL_ (some 23) rfl rfl Tryz.func55 Zq3 rfl #[.slice A0 l0.length c0, .int .i64 (wrap64 (x1_1 + 8))] rfl Zq10 ?_; (with_reducible refine (words_Get64.calls _ _ l0 (wrap64 (x1_1 + 8)) taz true _ ?side1 ?side2 A4.out).mono ?_); (case side1 => repeat (first | exact (Kd.C_below HR0.out Zq6) | (with_reducible refine Kd.C_alloc ?_ _) | (with_reducible refine Kd.C_drewN ?_ _) | (with_reducible refine Kd.C_drew ?_))); (case side2 => exact HC0.out); rintro e w' ⟨rfl, ⟨nd, rfl⟩⟩; refine ⟨_, rfl, ?_⟩))
    (try simp only [Act.put, List.setIfInBounds_toArray, List.set_cons_zero, List.set_cons_succ])
    go_cut [29] (fun v29 wc => ∃ (kq : Nat) (x29_5 : Bool), v29 = .bool x29_5 ∧ Aside0 (decode_reserves.j1 kq l0 x1_1 x6_1 taA taz x29_5 = some (r1, r2)) ∧ Aside0 (kq ≤ k1) ∧ Aside0 (Kd.R k51 51 wc w.heap.size (fun _ => True) u6 x6_1) ∧ Aside0 (Below w.heap.size w wc))
    case first =>
     have H := HC6.out; clear HC6
     by_cases c7 : taA = 0
     ·rw [if_pos c7] at H; obtain ⟨c7b0, c7b1⟩ := Zc0 c7; clear c7; (first | rw [c7b0] | (simp only [i64_w, i32_w]; rw [c7b0]) | skip); have H' := AK H; clear H; go_wp2
      go_meet
      case rel => exact ⟨_, ((taz == 0)), Zq4, H', ⟨by have := HK1.out; first | omega | exact Nat.le_refl _⟩, ⟨Zq53⟩, ⟨Zq6⟩⟩
     ·rw [if_neg c7] at H; obtain ⟨c7b0, c7b1⟩ := Zd0 c7; (first | rw [c7b0] | (simp only [i64_w, i32_w]; rw [c7b0]) | skip); have H' := AK H; clear H; go_wp2
      go_meet
      case rel => exact ⟨_, (false), Zq4, H', ⟨by have := HK1.out; first | omega | exact Nat.le_refl _⟩, ⟨Zq53⟩, ⟨Zq6⟩⟩
    case rest =>
     clear HC6; (try clear c5); (try clear c7); (try clear c7b0); (try clear c7b1); obtain ⟨kq, x29_5, rfl, HA, HJ5, HO_6, HB⟩ := hcut
     cases kq with
     | zero => exact absurd HA.out (by simp [decode_reserves.j1])
     | succ kj5 =>
      have H := HA.out; clear HA; simp only [decode_reserves.j1] at H
      by_cases c8 : x29_5 = true
      ·subst c8
       have H1 : (if (x6_1.length : Int) > 64 then (some (([] : List (S51)), 7)) else (some (x6_1, 0))) = some (r1, r2) := by rw [if_pos rfl] at H; exact H
       clear H; have H := H1; clear H1
       by_cases c9 : (x6_1.length : Int) > 64
       ·rw [if_pos c9] at H; have c9b0 : decide (64 < (x6_1.length : Int)) = true := decide_eq_true c9; have c9b1 : decide (64 < x6_1.length) = true := decide_eq_true Zq1; clear c9; simp only [Option.some.injEq, Prod.mk.injEq] at H; obtain ⟨rfl, rfl⟩ := H; obtain ⟨Ao10, co10, eo10⟩ := Kd.R_slice HO_6.out; subst eo10; go_wp2
        go_ret2
        exact ⟨_, Zq11, Zq48, Zq6⟩
       ·rw [if_neg c9] at H; have c9b0 : decide (64 < (x6_1.length : Int)) = false := decide_eq_false c9; have c9b1 : decide (64 < x6_1.length) = false := decide_eq_false Zq1; clear c9; simp only [Option.some.injEq, Prod.mk.injEq] at H; obtain ⟨rfl, rfl⟩ := H; obtain ⟨Ao11, co11, eo11⟩ := Kd.R_slice HO_6.out; subst eo11; go_wp2
        go_ret2
        exact ⟨_, Zq11, Zq53, Zq6⟩
      ·replace c8 := Bool.eq_false_iff.mpr c8; subst c8
       have H1 : (if x6_1.length < 8796093022208 then (decode_reserves.l0 kj5 l0 (wrap64 (x1_1 + 16)) (x6_1 ++ [(⟨taA, taz⟩ : S51)])) else (none)) = some (r1, r2) := by rw [if_neg (show ¬ (false = true) by decide)] at H; exact H
       clear H; have H := H1; clear H1
       by_cases c12 : x6_1.length < 8796093022208
       ·rw [if_pos c12] at H; have LMc12 := AK c12; clear c12
        obtain ⟨ybn, hybn⟩ : ∃ y_ : List (S51), y_ = (x6_1 ++ [(⟨taA, taz⟩ : S51)]) := ⟨_, rfl⟩
        replace H : (decode_reserves.l0 kj5 l0 (wrap64 (x1_1 + 16)) ybn) = some (r1, r2) := by first | (rw [hybn]; with_reducible exact H) | (have H2_ := (Option.bind_some _ _).symm.trans H; rw [hybn]; with_reducible exact H2_) | (have H2_ := (Option.bind_some _ _).symm.trans H; with_reducible exact H2_) | with_reducible exact H | (rw [hybn]; exact H) | exact H
        have Nybn := AK hybn; clear hybn; have H' := AK H; clear H; go_wp2_with (first | ((with_reducible refine gate_builtin (b := .append) (xs := #[.tmp 40, .tmp 44]) rfl ?_); at_builtin; refine Kd.R_append k51 (w0 := w) w.heap.size rfl (.tmp 40) (.tmp 44) 23 51 (.agg #[(.int .u64 0), (.int .u64 0)]) 16 rfl Tryz.underlying23 info51 rfl Zq2 Zq1 u6 x6_1 (⟨taA, taz⟩ : S51) [.int .u64 taA, .int .u64 taz] (fun _ => True) (fun _ => False) rfl rfl ?aP (fun _ hk => hk.elim) ?aF ?aO ?aB ?aS ?aL ?_; (case aP => exact k51_mkM _ _ _ (⟨taA, taz⟩ : S51)); (case aB => exact Zq6); (case aF => exact (fun _ _ => trivial)); (case aO => exact Zq53); (case aS => exact (below_size Zq6)); (case aL => have := LMc12.out; omega); intro v309 w13 ho hb hg hat; rw [← Nybn.out] at ho; have n_ := Zn2 (AK (hb)) (AK (ho)); clear HB HO_6; obtain ⟨HB, HOcJ⟩ := n_; clear ho hb hg hat))
        go_roundg kj5
        case measure => have := HK1.out; have := HJ5.out; omega
        case rel => exact ⟨(wrap64 (x1_1 + 16)), (ybn), Zq4, H', ⟨by have := HK1.out; have := HJ5.out; omega⟩, ⟨by (with_reducible repeat (first | apply Kd.R_alloc | apply Kd.R_drewN | apply Kd.R_drew)); exact HOcJ.out⟩, ⟨Zq6⟩⟩
       ·rw [if_neg c12] at H; exact absurd H Zq7
   ·replace c5 := Bool.eq_false_iff.mpr c5; subst c5
    have H1 : (some (([] : List (S51)), 4)) = some (r1, r2) := by rw [if_neg (show ¬ (false = true) by decide)] at H; exact H
    clear H; have H := H1; clear H1; simp only [Option.some.injEq, Prod.mk.injEq] at H; obtain ⟨rfl, rfl⟩ := H; go_wp2_with (first | ((with_reducible refine gate_callee (f := 55) rfl ?_); refine goesL_ (some 16) rfl rfl Tryz.func55 Zq3 rfl #[.slice A0 l0.length c0, .int .i64 x1_1] rfl Zq10 ?_; (with_reducible refine (words_Get64.calls _ _ l0 x1_1 taA tcu _ ?side1 ?side2 A3.out).mono ?_); (case side1 => repeat (first | exact (Kd.C_below HR0.out HB.out) | (with_reducible refine Kd.C_alloc ?_ _) | (with_reducible refine Kd.C_drewN ?_ _) | (with_reducible refine Kd.C_drew ?_))); (case side2 => exact HC0.out); rintro e w' ⟨rfl, ⟨nd, rfl⟩⟩; refine ⟨_, rfl, ?_⟩) | ((with_reducible refine gate_callee (f := 55) rfl ?_); refine goesL_ (some 23) rfl rfl Tryz.func55 Zq3 rfl #[.slice A0 l0.length c0, .int .i64 (wrap64 (x1_1 + 8))] rfl Zq10 ?_; (with_reducible refine (words_Get64.calls _ _ l0 (wrap64 (x1_1 + 8)) taz false _ ?side1 ?side2 A4.out).mono ?_); (case side1 => repeat (first | exact (Kd.C_below HR0.out Zq6) | (with_reducible refine Kd.C_alloc ?_ _) | (with_reducible refine Kd.C_drewN ?_ _) | (with_reducible refine Kd.C_drew ?_))); (case side2 => exact HC0.out); rintro e w' ⟨rfl, ⟨nd, rfl⟩⟩; refine ⟨_, rfl, ?_⟩))
    go_ret2
    exact ⟨_, Zq11, Zq48, Zq6⟩
def bytes_IndexByte.f (l0 : List Int) (a1 : Int) : Option Int := if l0.length = 0 then none else some (Lib.indexByte (Lib.bytesOf l0) a1.toNat.toUInt8)
theorem bytes_IndexByte.calls (A0 : Option Addr) (c0 : Nat) (l0 : List Int) (a1 : Int) (r : Int) (w : World) (hr0 : Kd.C (Kd.int .u8) w A0 l0.length l0) (hc0 : l0.length ≤ c0) (h : bytes_IndexByte.f l0 a1 = some r) :
  Calls Tryz.prog 75 #[.slice A0 l0.length c0, .int .u8 a1] w fun e w' => e = .returned (.int .i64 r) ∧ Drawn0 w w' := by
 unfold bytes_IndexByte.f at h
 by_cases c : l0.length = 0
 ·rw [if_pos c] at h; cases h
 ·rw [if_neg c] at h; injection h with h; have hr := Kd.reads_of_C (enc := Value.int .u8) (d := (0 : Int)) (h1 := fun _ => rfl) hr0; obtain ⟨ad, rfl, hc⟩ := hr.2.2 Zq1; refine (Any.bytes_IndexByte_at Tryz.lays187 ad l0.length c0 l0 a1 w rfl (fun i hi => hc i hi)).mono ?_; rintro e w' ⟨rfl, rfl⟩; exact ⟨by rw [h], Drawn0.refl _⟩
def words_Text.j0 : Nat → List Int → Int → Bool → Option (ByteArray × Bool)
 | 0, _, _, _ => none
 | k + 1, x0, x1, x14 => if x14 = true then (some ((⟨#[]⟩ : ByteArray), false)) else (if 0 ≤ x1 then (if x1 ≤ (x0.length : Int) then ((bytes_IndexByte.f (x0.drop (x1 : Int).toNat) 0).bind fun tav => (if tav < 0 then (some ((⟨#[]⟩ : ByteArray), false)) else (if x1 ≤ (wrap64 (x1 + tav)) then (if (wrap64 (x1 + tav)) ≤ (x0.length : Int) then (some (strOfNums ((x0.take ((wrap64 (x1 + tav)) : Int).toNat).drop (x1 : Int).toNat), true)) else (none)) else (none)))) else (none)) else (none))
def words_Text.f (k : Nat) (l0 : List Int) (a1 : Int) : Option (ByteArray × Bool) := if a1 < 0 then (words_Text.j0 k l0 a1 true) else (words_Text.j0 k l0 a1 (decide (a1 ≥ (l0.length : Int))))
set_option maxHeartbeats 8000000 in
set_option maxRecDepth 100000 in
theorem words_Text.calls (k : Nat) (A0 : Option Addr) (c0 : Nat) (l0 : List Int) (a1 : Int) (r1 : ByteArray) (r2 : Bool) (w : World) (hr0 : Kd.C (Kd.int .u8) w A0 l0.length l0) (hc0 : l0.length ≤ c0) (h : words_Text.f k l0 a1 = some (r1, r2)) :
  Calls Tryz.prog 67 #[.slice A0 l0.length c0, .int .i64 a1] w fun e w' => e = .returned (.tuple #[.string r1, .bool r2]) ∧ Drawn0 w w' := by
 have HR0 := AK hr0; have HC0 := AK hc0; clear hr0 hc0; have H : (if a1 < 0 then (words_Text.j0 k l0 a1 true) else (words_Text.j0 k l0 a1 (decide (a1 ≥ (l0.length : Int))))) = some (r1, r2) := h; clear h; have HC3 := AK H; clear H; go_enter Tryz.func67, Tryz.ntmps67
 go_upto_region 1 with (fail)
 go_cut [14] (fun v14 wc => ∃ (kq : Nat) (x14_2 : Bool), v14 = .bool x14_2 ∧ Aside0 (words_Text.j0 kq l0 a1 x14_2 = some (r1, r2)) ∧ Aside0 (kq ≤ k) ∧ Drawn0 w wc)
 case first =>
  have H := HC3.out; clear HC3
  by_cases c4 : a1 < 0
  ·rw [if_pos c4] at H; have c4b0 : decide (a1 < 0) = true := decide_eq_true c4; clear c4; (first | rw [c4b0] | (simp only [i64_w, i32_w]; rw [c4b0]) | skip); have H' := AK H; clear H; go_wp2
   go_meet
   case rel => exact ⟨_, (true), Zq4, H', ⟨Zq24⟩, Zq8⟩
  ·rw [if_neg c4] at H; have c4b0 : decide (a1 < 0) = false := decide_eq_false c4; clear c4; (first | rw [c4b0] | (simp only [i64_w, i32_w]; rw [c4b0]) | skip); have H' := AK H; clear H; go_wp2
   go_meet
   case rel => exact ⟨_, (decide (a1 ≥ (l0.length : Int))), Zq4, H', ⟨Zq24⟩, Zq8⟩
 case rest =>
  clear HC3; (try clear c4b0); obtain ⟨kq, x14_2, rfl, HA, HJ2, ⟨mc2, rfl⟩⟩ := hcut
  cases kq with
  | zero => exact absurd HA.out (by simp [words_Text.j0])
  | succ kj2 =>
   have H := HA.out; clear HA; simp only [words_Text.j0] at H
   by_cases c5 : x14_2 = true
   ·subst c5
    have H1 : (some ((⟨#[]⟩ : ByteArray), false)) = some (r1, r2) := by rw [if_pos rfl] at H; exact H
    clear H; have H := H1; clear H1; simp only [Option.some.injEq, Prod.mk.injEq] at H; obtain ⟨rfl, rfl⟩ := H; go_wp2
    go_ret2
    exact ⟨Zq4, Zq8⟩
   ·replace c5 := Bool.eq_false_iff.mpr c5; subst c5
    have H1 : (if 0 ≤ a1 then (if a1 ≤ (l0.length : Int) then ((bytes_IndexByte.f (l0.drop (a1 : Int).toNat) 0).bind fun tav => (if tav < 0 then (some ((⟨#[]⟩ : ByteArray), false)) else (if a1 ≤ (wrap64 (a1 + tav)) then (if (wrap64 (a1 + tav)) ≤ (l0.length : Int) then (some (strOfNums ((l0.take ((wrap64 (a1 + tav)) : Int).toNat).drop (a1 : Int).toNat), true)) else (none)) else (none)))) else (none)) else (none)) = some (r1, r2) := by rw [if_neg (show ¬ (false = true) by decide)] at H; exact H
    clear H; have H := H1; clear H1
    by_cases c6 : 0 ≤ a1
    ·rw [if_pos c6] at H; have c6b0 := eq_true c6; have c6b1 : decide (0 ≤ a1) = true := decide_eq_true c6; clear c6
     by_cases c7 : a1 ≤ (l0.length : Int)
     ·rw [if_pos c7] at H; have c7b0 := eq_true c7; have c7b1 : decide (a1 ≤ (l0.length : Int)) = true := decide_eq_true c7; clear c7; replace H := Option.bind_eq_some_iff.mp H; obtain ⟨tav, A80, H⟩ := H; replace H : (if tav < 0 then (some ((⟨#[]⟩ : ByteArray), false)) else (if a1 ≤ (wrap64 (a1 + tav)) then (if (wrap64 (a1 + tav)) ≤ (l0.length : Int) then (some (strOfNums ((l0.take ((wrap64 (a1 + tav)) : Int).toNat).drop (a1 : Int).toNat), true)) else (none)) else (none))) = some (r1, r2) := H; have A8 := AK A80; clear A80
      by_cases c9 : tav < 0
      ·rw [if_pos c9] at H; have c9b0 : decide (tav < 0) = true := decide_eq_true c9; clear c9; simp only [Option.some.injEq, Prod.mk.injEq] at H; obtain ⟨rfl, rfl⟩ := H; obtain ⟨i010, hi010, _, hsz10, _⟩ := info_parts info5; obtain ⟨A10, hcut10, hA10, hC10⟩ := print_drop_of (P := Tryz.prog) (Value.int .u8) 0 32 5 .i64 Tryz.underlying32 hi010 hsz10 A0 c0 l0 a1 (of_decide_eq_true Zq5) (of_decide_eq_true Zq5) HC0.out; have HRbC := AK (Kd.C_of_reads (h1 := fun _ => rfl) (hA10 _ (Kd.reads_of_C HR0.out))); have HCbC := AK hC10; clear hA10 hC10 hi010 hsz10; go_wp2_with (first | ((with_reducible refine gate_callee (f := 75) rfl ?_); refine goesL_ (some 18) rfl rfl Tryz.func75 Zq3 rfl #[.slice A10 (l0.drop (a1 : Int).toNat).length (c0 - a1.toNat), .int .u8 0] rfl (by (try simp only [List.map_toArray, List.map_cons, List.map_nil]); first | done | (rw [show (l0.drop (a1 : Int).toNat).length = (l0.length - a1.toNat) from List.length_drop] <;> rfl) | rfl | (simp only [List.length_drop, List.length_take]; rfl)) ?_; (with_reducible refine (bytes_IndexByte.calls _ _ (l0.drop (a1 : Int).toNat) 0 tav _ ?side1 ?side2 A8.out).mono ?_); (case side1 => repeat (first | exact HRbC.out | (with_reducible refine Kd.C_alloc ?_ _) | (with_reducible refine Kd.C_drewN ?_ _) | (with_reducible refine Kd.C_drew ?_))); (case side2 => exact HCbC.out); rintro e w' ⟨rfl, ⟨nd, rfl⟩⟩; refine ⟨_, rfl, ?_⟩))
       go_ret2
       exact ⟨Zq4, Zq8⟩
      ·rw [if_neg c9] at H; have c9b0 : decide (tav < 0) = false := decide_eq_false c9; clear c9; have c11b0 := eq_true (of_decide_eq_true Zq5 : 0 ≤ a1)
       by_cases c12 : a1 ≤ (wrap64 (a1 + tav))
       ·rw [if_pos c12] at H; have c12b0 := eq_true c12; have c12b1 : decide (a1 ≤ (wrap64 (a1 + tav))) = true := decide_eq_true c12
        by_cases c13 : (wrap64 (a1 + tav)) ≤ (l0.length : Int)
        ·rw [if_pos c13] at H; have c13b0 := eq_true c13; have c13b1 : decide ((wrap64 (a1 + tav)) ≤ (l0.length : Int)) = true := decide_eq_true c13; simp only [Option.some.injEq, Prod.mk.injEq] at H; obtain ⟨rfl, rfl⟩ := H; obtain ⟨i014, hi014, _, hsz14, _⟩ := info_parts info5; obtain ⟨A14, hcut14, hA14, hC14⟩ := print_drop_of (P := Tryz.prog) (Value.int .u8) 0 32 5 .i64 Tryz.underlying32 hi014 hsz14 A0 c0 l0 a1 (of_decide_eq_true Zq5) (of_decide_eq_true Zq5) HC0.out; have HRbC := AK (Kd.C_of_reads (h1 := fun _ => rfl) (hA14 _ (Kd.reads_of_C HR0.out))); have HCbC := AK hC14; clear hA14 hC14 hi014 hsz14; go_wp2_with (first | ((with_reducible refine gate_callee (f := 75) rfl ?_); refine goesL_ (some 18) rfl rfl Tryz.func75 Zq3 rfl #[.slice A14 (l0.drop (a1 : Int).toNat).length (c0 - a1.toNat), .int .u8 0] rfl (by (try simp only [List.map_toArray, List.map_cons, List.map_nil]); first | done | (rw [show (l0.drop (a1 : Int).toNat).length = (l0.length - a1.toNat) from List.length_drop] <;> rfl) | rfl | (simp only [List.length_drop, List.length_take]; rfl)) ?_; (with_reducible refine (bytes_IndexByte.calls _ _ (l0.drop (a1 : Int).toNat) 0 tav _ ?side1 ?side2 A8.out).mono ?_); (case side1 => repeat (first | exact HRbC.out | (with_reducible refine Kd.C_alloc ?_ _) | (with_reducible refine Kd.C_drewN ?_ _) | (with_reducible refine Kd.C_drew ?_))); (case side2 => exact HCbC.out); rintro e w' ⟨rfl, ⟨nd, rfl⟩⟩; refine ⟨_, rfl, ?_⟩; obtain ⟨i015, hi015, _, hsz15, _⟩ := info_parts info5; obtain ⟨A15, hcut15, hA15, hC15⟩ := print_mid_of (P := Tryz.prog) (Value.int .u8) 0 32 5 .i64 .i64 Tryz.underlying32 hi015 hsz15 A0 c0 l0 a1 (wrap64 (a1 + tav)) (of_decide_eq_true Zq5) (by first | omega | exact of_decide_eq_true Zq5) (of_decide_eq_true Zq5) HC0.out; have HRch := AK (Kd.C_of_reads (h1 := fun _ => rfl) (hA15 _ (Kd.reads_of_C HR0.out))); have HCch := AK hC15; clear hA15 hC15 hi015 hsz15; have hcv16 := Kd.C_string (P := Tryz.prog) (A := A15) (c := (c0 - a1.toNat)) Tryz.underlying32 Tryz.underlying5 Tryz.underlying9 HRch.out; have hcv16d := fun nd_ : Nat => Kd.C_string (P := Tryz.prog) (A := A15) (c := (c0 - a1.toNat)) Tryz.underlying32 Tryz.underlying5 Tryz.underlying9 (Kd.C_drewN HRch.out nd_); have hcv16l : (((l0).take ((wrap64 (a1 + tav)) : Int).toNat).drop (a1 : Int).toNat).length = ((wrap64 (a1 + tav)) : Int).toNat - (a1 : Int).toNat := (by have q_ : (wrap64 (a1 + tav)) ≤ ((l0).length : Int) := of_decide_eq_true Zq5; simp only [List.length_drop, List.length_take]; omega); have hcv16e := hcv16d; (try rw [hcv16l] at hcv16); (try simp only [hcv16l] at hcv16e)))
         go_ret2
         exact ⟨Zq4, Zq8⟩
        ·rw [if_neg c13] at H; exact absurd H Zq7
       ·rw [if_neg c12] at H; exact absurd H Zq7
     ·rw [if_neg c7] at H; exact absurd H Zq7
    ·rw [if_neg c6] at H; exact absurd H Zq7
def bytes_Clone.f (l0 : List Int) : Option (List Int) := if l0.length < 140737488355328 then (some l0) else (none)
set_option maxRecDepth 100000 in
theorem bytes_Clone.calls (A0 : Option Addr) (c0 : Nat) (l0 : List Int) (r : List Int) (w : World) (hr0 : Kd.C (Kd.int .u8) w A0 l0.length l0) (hc0 : l0.length ≤ c0) (h : bytes_Clone.f l0 = some r) :
  Calls Tryz.prog 69 #[.slice A0 l0.length c0] w fun e w' => ∃ v0_ : Value, e = .returned (v0_) ∧ Kd.R (Kd.int .u8) 5 w' w.heap.size (fun _ => True) v0_ r ∧ Below w.heap.size w w' := by
 unfold bytes_Clone.f at h
 by_cases c3 : l0.length < 140737488355328
 ·rw [if_pos c3] at h; injection h with h; subst h; have HR0 := AK hr0; have HC0 := AK hc0; clear hr0 hc0; have HB := Zq70; have LMc3 := AK c3; clear c3
  cases A0 with
  | none =>
   have hn : l0 = [] := by
    cases l0 with
    | nil => rfl
    | cons x r =>
     obtain ⟨ad, he, _⟩ := HR0.out.2.2 Zq7; cases he
   subst hn
   have q := fun w' : World => Lib.run_eql_slice_nil (P := Tryz.prog) w' 32 5 none ([] : List Int).length c0 0 0 Tryz.underlying32
   simp only [Option.isNone_none, List.length_nil] at q; go_enter Tryz.func69, Tryz.ntmps69; go_wp2; go_ret; exact ⟨_, rfl, Kd.R_nil _ _ _ _ _, Below.refl _ _⟩
  | some x0 =>
   have q := fun w' : World => Lib.run_eql_slice_nil (P := Tryz.prog) w' 32 5 (some x0) l0.length c0 0 0 Tryz.underlying32
   simp only [Option.isNone_some] at q
   obtain ⟨y5, hy5⟩ : ∃ y_ : List Int, y_ = [] := ⟨_, rfl⟩
   have Ny5 := AK hy5; clear hy5
   obtain ⟨y7, hy7⟩ : ∃ y_ : List Int, y_ = y5 ++ l0 := ⟨_, rfl⟩
   have Ny7 := AK hy7; clear hy7; go_enter Tryz.func69, Tryz.ntmps69; (go_wp2_with (first | ((with_reducible refine gate_dst (N := 5) rfl ?_); refine Kd.R_lit (Kd.int .u8) _ 5 ?hg (N := 5) ?hd (xs := ([] : List Int)) (inner := []) (ok := fun _ => True) (okp := fun _ => True) ?hr ?hp (fun _ hk => hk) trivial (Below.refl _ _) (Nat.le_refl _) Zq7 ?_; (case hd | hg => rfl); (case hr => first | (go_simp; done) | (go_simp; rfl)); (case hp => exact (Reps.none _ _)); intro v5 w5 ho6 hb hg_ hnew_; clear hg_ hnew_; rw [← Ny5.out] at ho6; have n0_ := Zq116; have n2_ := Zq61; clear HB; have HO5 := n0_; have HB := n2_; clear n0_ n2_ hb ho6) | ((with_reducible refine gate_builtin (b := .append) (xs := #[.tmp 5, .tmp 6]) rfl ?_); at_builtin; refine Kd.R_append_rows (Kd.int .u8) (w0 := w) w.heap.size rfl (.tmp 5) (.tmp 6) 32 5 (.int .u8 0) 1 rfl Tryz.underlying32 info5 rfl Zq2 Zq1 v5 y5 l0 _ _ _ (fun _ => True) (fun _ => False) rfl rfl ?aO ?aR (fun _ _ h => h) (fun _ h => h.elim) (fun _ _ => trivial) ?aB ?aS ?aL ?_; (case aR => repeat (first | exact (Kd.C_below HR0.out HB.out) | (with_reducible refine Kd.C_alloc ?_ _) | (with_reducible refine Kd.C_drewN ?_ _) | (with_reducible refine Kd.C_drew ?_))); (case aB => exact Zq6); (case aO => exact (by (with_reducible repeat (first | apply Kd.R_alloc | apply Kd.R_drewN | apply Kd.R_drew)); exact HO5.out)); (case aS => exact (below_size Zq6)); (case aL => have := LMc3.out; rw [Ny5.out]; simp; omega); intro v7 w7 ho hb hg hat; rw [← Ny7.out] at ho; have n1_ := AK (hb); have n2_ := AK (ho); clear HB HO5; have HB := n1_; have HO7 := n2_; clear n1_ n2_ ho hb hg hat))); go_ret; exact ⟨_, rfl, by have e7 : y7 = l0 := (by rw [Ny7.out, Ny5.out]; rfl); rw [← e7]; (with_reducible repeat (first | apply Kd.R_alloc | apply Kd.R_drewN | apply Kd.R_drew)); exact HO7.out, Zq6⟩
 ·rw [if_neg c3] at h; cases h
def decode_within.f (a0 : Int) (a1 : Int) (a2 : Int) : Option (Bool) := if a0 ≥ 40 then (some (decide ((IntKind.u64.wrap ((IntKind.u64.wrap (a0)) + (IntKind.u64.wrap (a1)))) ≤ (IntKind.u64.wrap (a2))))) else (some false)
set_option maxHeartbeats 8000000 in
set_option maxRecDepth 100000 in
theorem decode_within.calls (a0 : Int) (a1 : Int) (a2 : Int) (r : Bool) (w : World) (h : decode_within.f a0 a1 a2 = some r) :
  Calls Tryz.prog 54 #[.int .u32 a0, .int .u32 a1, .int .i64 a2] w fun e w' => e = .returned (.bool r) ∧ Drawn0 w w' := by
 have H : (if a0 ≥ 40 then (some (decide ((IntKind.u64.wrap ((IntKind.u64.wrap (a0)) + (IntKind.u64.wrap (a1)))) ≤ (IntKind.u64.wrap (a2))))) else (some false)) = some r := h; clear h
 by_cases c4 : a0 ≥ 40
 ·rw [if_pos c4] at H; have c4b0 : decide (40 ≤ a0) = true := decide_eq_true c4; clear c4; obtain rfl := Option.some.inj H; go_enter Tryz.func54, Tryz.ntmps54; go_wp2; go_ret; exact ⟨Zq4, Zq8⟩
 ·rw [if_neg c4] at H; have c4b0 : decide (40 ≤ a0) = false := decide_eq_false c4; clear c4; obtain rfl := Option.some.inj H; go_enter Tryz.func54, Tryz.ntmps54; go_wp2; go_ret; exact ⟨Zq4, Zq8⟩
structure Hdr where (c0 c1 c2 c3 c4 c5 c6 c7 c8 c9 : Int)
def Hdr.zero : Hdr := ⟨0, 0, 0, 0, 0, 0, 0, 0, 0, 0⟩
def Hdr.val (h : Hdr) : Value := .agg #[.int .u32 h.c0, .int .u32 h.c1, .int .u32 h.c2, .int .u32 h.c3, .int .u32 h.c4, .int .u32 h.c5, .int .u32 h.c6, .int .u32 h.c7, .int .u32 h.c8, .int .u32 h.c9]
def cellAt (l : List Int) (i : Int) : Int := ((words_Get.f l i).getD (0, false)).1
def cellOk (l : List Int) (i : Int) : Bool := ((words_Get.f l i).getD (0, false)).2
theorem get_cell (l : List Int) (i : Int) : words_Get.f l i = some (cellAt l i, cellOk l i) := by
 have h : ∃ r, words_Get.f l i = some r := by unfold words_Get.f; split <;> exact ⟨_, rfl⟩
 obtain ⟨r, h⟩ := h; unfold cellAt cellOk; rw [h]; rfl
theorem cellAt_range (l : List Int) (i : Int) : 0 ≤ cellAt l i ∧ cellAt l i < 4294967296 := by
 unfold cellAt words_Get.f
 split
 ·simp only [Option.getD_some]; omega
 ·simp
def hdrOf (l : List Int) : Hdr := ⟨cellAt l 0, cellAt l 4, cellAt l 8, cellAt l 12, cellAt l 16, cellAt l 20, cellAt l 24, cellAt l 28, cellAt l 32, cellAt l 36⟩
def inB (a s n : Int) : Bool := if a ≥ 40 then decide ((IntKind.u64.wrap ((IntKind.u64.wrap a) + (IntKind.u64.wrap s))) ≤ (IntKind.u64.wrap n)) else false
theorem within_inB (a s n : Int) : decode_within.f a s n = some (inB a s n) := by
 unfold decode_within.f inB
 split <;> rfl
def hdrErr (h : Hdr) (n : Int) : Int :=
 if h.c0 = 3490578157 then (if h.c5 = 17 then (if h.c6 = 16 then (if h.c1 = n then (if inB h.c2 h.c9 n = true then (if inB h.c3 h.c8 n = true then (if inB h.c4 0 n = true then (if h.c4 % 8 = 0 then (if h.c2 % 4 = 0 then 0 else 4) else 4) else 4) else 4) else 4) else 4) else 3) else 3) else 2
def decode_Header.f (l : List Int) : Option (Hdr × Int) :=
 some (if l.length < 40 then (.zero, 4) else if 1048576 < l.length then (.zero, 4) else if hdrErr (hdrOf l) l.length = 0 then (hdrOf l, 0) else (.zero, hdrErr (hdrOf l) l.length))
def hcell (l : List Int) (i j : Nat) : Value := .int .u32 (if j < i then cellAt l (4 * (j : Int)) else 0)
def hcells (l : List Int) (i : Nat) : Array Value := #[hcell l i 0, hcell l i 1, hcell l i 2, hcell l i 3, hcell l i 4, hcell l i 5, hcell l i 6, hcell l i 7, hcell l i 8, hcell l i 9]
theorem hdr_next {l : List Int} {W : World} {g t : Nat} (i : Nat) (hi : i < 10) (h : W.heap[g]? = some (.cells (hcells l i) t (0, 0))) :
  (W.setCell ⟨g, i, none⟩ (.int .u32 (cellAt l (4 * (i : Int))))).heap[g]? = some (.cells (hcells l (i + 1)) t (0, 0)) := by
 refine blk_put h i _ ?_
 have : i = 0 ∨ i = 1 ∨ i = 2 ∨ i = 3 ∨ i = 4 ∨ i = 5 ∨ i = 6 ∨ i = 7 ∨ i = 8 ∨ i = 9 := by omega
 rcases this with rfl | rfl | rfl | rfl | rfl | rfl | rfl | rfl | rfl | rfl
 all_goals rfl
theorem end10 {w W : World} {t : Nat} (hb : Below w.heap.size w W) (h : W.heap[w.heap.size]? = some (.cells (hcells [] 0) t (0, 0))) (v0 v1 v2 v3 v4 v5 v6 v7 v8 v9 : Value) :
  Below w.heap.size w ((((((((((W.setCell ⟨w.heap.size, 0, none⟩ v0).setCell ⟨w.heap.size, 1, none⟩ v1).setCell ⟨w.heap.size, 2, none⟩ v2).setCell ⟨w.heap.size, 3, none⟩ v3).setCell ⟨w.heap.size, 4, none⟩ v4).setCell ⟨w.heap.size, 5, none⟩ v5).setCell ⟨w.heap.size, 6, none⟩ v6).setCell ⟨w.heap.size, 7, none⟩ v7).setCell ⟨w.heap.size, 8, none⟩ v8).setCell ⟨w.heap.size, 9, none⟩ v9) ∧ ((((((((((W.setCell ⟨w.heap.size, 0, none⟩ v0).setCell ⟨w.heap.size, 1, none⟩ v1).setCell ⟨w.heap.size, 2, none⟩ v2).setCell ⟨w.heap.size, 3, none⟩ v3).setCell ⟨w.heap.size, 4, none⟩ v4).setCell ⟨w.heap.size, 5, none⟩ v5).setCell ⟨w.heap.size, 6, none⟩ v6).setCell ⟨w.heap.size, 7, none⟩ v7).setCell ⟨w.heap.size, 8, none⟩ v8).setCell ⟨w.heap.size, 9, none⟩ v9).heap[w.heap.size]? = some (.cells #[v0, v1, v2, v3, v4, v5, v6, v7, v8, v9] t (0, 0)) := by
 refine ⟨?_, ?_⟩; (·exact ((((((((((hb.setCell (Nat.le_refl _) _).setCell (Nat.le_refl _) _).setCell (Nat.le_refl _) _).setCell (Nat.le_refl _) _).setCell (Nat.le_refl _) _).setCell (Nat.le_refl _) _).setCell (Nat.le_refl _) _).setCell (Nat.le_refl _) _).setCell (Nat.le_refl _) _).setCell (Nat.le_refl _) _))
 ·have q := (blk_set (blk_set (blk_set (blk_set (blk_set (blk_set (blk_set (blk_set (blk_set (blk_set h 0 v0) 1 v1) 2 v2) 3 v3) 4 v4) 5 v5) 6 v6) 7 v7) 8 v8) 9 v9)
  simpa [hcells] using q
set_option maxRecDepth 100000 in
set_option maxHeartbeats 4000000 in
theorem decode_Header.calls (A0 : Option Addr) (c0 : Nat) (l0 : List Int) (r1 : Hdr) (r2 : Int) (w : World) (hr0 : Kd.C (Kd.int .u8) w A0 l0.length l0) (hc0 : l0.length ≤ c0) (h : decode_Header.f l0 = some (r1, r2)) :
  Calls Tryz.prog 38 #[.slice A0 l0.length c0] w fun e w' => e = .returned (.tuple #[r1.val, .int .i64 r2]) ∧ Below w.heap.size w w' := by
 unfold decode_Header.f at h; replace h := Option.some.inj h
 have HB0 : ∀ cs cs', Below w.heap.size w ((w.alloc (.cells cs 78)).alloc (.cells cs' 78)) := fun cs cs' => below_alloc Zq59 _
 have HB := AK HB0; clear HB0
 by_cases c1 : l0.length < 40
 ·rw [if_pos c1] at h; obtain ⟨rfl, rfl⟩ := Prod.mk.inj h; clear h; go_enter Tryz.func38, Tryz.ntmps38; go_wp2; exact bodyPost_ret (v := .tuple #[Hdr.zero.val, .int .i64 4]) (by simp [results, Tryz.results38, go_sem, Hdr.val, Hdr.zero]) rfl ⟨rfl, HB.out _ _⟩
 ·rw [if_neg c1] at h; have c1b : decide ((l0.length : Int) < 40) = false := decide_eq_false Zq1
  by_cases c2 : 1048576 < l0.length
  ·rw [if_pos c2] at h; obtain ⟨rfl, rfl⟩ := Prod.mk.inj h; clear h; have c2b : decide (1048576 < (l0.length : Int)) = true := decide_eq_true Zq1; go_enter Tryz.func38, Tryz.ntmps38; go_wp2; exact bodyPost_ret (v := .tuple #[Hdr.zero.val, .int .i64 4]) (by simp [results, Tryz.results38, go_sem, Hdr.val, Hdr.zero]) rfl ⟨rfl, HB.out _ _⟩
  ·rw [if_neg c2] at h; have c2b : decide (1048576 < (l0.length : Int)) = false := decide_eq_false Zq1; have H := AK h; have HR0 := AK hr0; have HC0 := AK hc0; clear h hr0 hc0 c1 c2; go_enter Tryz.func38, Tryz.ntmps38; go_wp2
   go_loopg [15] 11 (fun kq v15 w' => ∃ i : Nat, v15 = .int .i64 (i : Int) ∧ Aside0 (i + kq = 11 ∧ i ≤ 10) ∧ Aside0 (Below w.heap.size w w') ∧ Aside0 (w'.heap[w.heap.size]? = some (.cells (hcells [] 0) 78 (0, 0))) ∧ Aside0 (w'.heap[w.heap.size + 1]? = some (.cells (hcells l0 i) 78 (0, 0))))
   case atStart => exact ⟨0, rfl, ⟨rfl, Zq2⟩, ⟨HB.out _ _⟩, ⟨blk_alloc (blk_new w _) _⟩, ⟨(by rw [show w.heap.size + 1 = (w.alloc (.cells (hcells [] 0) 78)).heap.size from (Array.size_push ..).symm]; exact blk_new _ _)⟩⟩
   case round =>
    obtain ⟨i, rfl, HI, HB, B0, B1⟩ := hrel
    by_cases ci : i < 10
    ·have HG := fun j : Int => get_cell l0 j
     have HCal := fun (j : Int) (W : World) (hC : Kd.C (Kd.int .u8) W A0 l0.length l0) => words_Get.calls A0 c0 l0 j (cellAt l0 j) (cellOk l0 j) W hC HC0.out (get_cell l0 j)
     have HCal := AK HCal; clear HG; have hi := HI.out
     cases gk with
     | zero => omega
     | succ k1 =>
      have k0 : wr.cell? ⟨w.heap.size + 1, i, none⟩ = some (.int .u32 0) := by
       have : i = 0 ∨ i = 1 ∨ i = 2 ∨ i = 3 ∨ i = 4 ∨ i = 5 ∨ i = 6 ∨ i = 7 ∨ i = 8 ∨ i = 9 := by omega
       rcases this with rfl | rfl | rfl | rfl | rfl | rfl | rfl | rfl | rfl | rfl
       all_goals exact (blk_cell B1.out _).trans rfl
      have kf : wr.frozen? ⟨w.heap.size + 1, i, none⟩ = false := blk_frozen B1.out i; have cib : decide ((i : Int) < 10) = true := decide_eq_true Zq1
      have hw1 : (4 : Int) * (i : Int) ≤ 36 := by omega
      have hw2 : (i : Int) ≤ 9 := by omega
      have hw3 : (0 : Int) ≤ (i : Int) := Int.natCast_nonneg i; clear hi; go_wp2_with (go_at_call 53; refine (HCal.out _ _ (by repeat (first | exact Kd.C_below HR0.out HB.out | (with_reducible refine Kd.C_drewN ?_ _) | (with_reducible refine Kd.C_drew ?_)))).mono ?_; rintro e w' ⟨rfl, ⟨nd, rfl⟩⟩)
      go_roundg k1
      case measure => omega
      case rel => exact ⟨i + 1, Zq4, ⟨by have := HI.out; omega, by have := HI.out; omega⟩, ⟨(pw_below_drewN HB.out nd).setCell Zq7 _⟩, ⟨blk_far (blk_drewN B0.out nd) Zq7 _⟩, ⟨hdr_next i Zq1 (blk_drewN B1.out nd)⟩⟩
    ·obtain rfl : i = 10 := by have := HI.out; omega
     obtain ⟨⟨d0, d1, d2, d3, d4, d5, d6, d7, d8, d9⟩, hd⟩ : ∃ d : Hdr, d = hdrOf l0 := ⟨_, rfl⟩
     have H1 := H.out; rw [← hd] at H1
     have B1' : wr.heap[w.heap.size + 1]? = some (.cells #[.int .u32 d0, .int .u32 d1, .int .u32 d2, .int .u32 d3, .int .u32 d4, .int .u32 d5, .int .u32 d6, .int .u32 d7, .int .u32 d8, .int .u32 d9] 78 (0, 0)) := by
      have e := B1.out
      have e2 : hcells l0 10 = #[.int .u32 d0, .int .u32 d1, .int .u32 d2, .int .u32 d3, .int .u32 d4, .int .u32 d5, .int .u32 d6, .int .u32 d7, .int .u32 d8, .int .u32 d9] := by
       have e3 := congrArg (fun x : Hdr => #[Value.int .u32 x.c0, .int .u32 x.c1, .int .u32 x.c2, .int .u32 x.c3, .int .u32 x.c4, .int .u32 x.c5, .int .u32 x.c6, .int .u32 x.c7, .int .u32 x.c8, .int .u32 x.c9]) hd; exact Eq.trans rfl e3.symm
      rw [e2] at e; exact e
     have n4 : 0 ≤ d4 ∧ d4 < 4294967296 := by
      have e3 : d4 = cellAt l0 16 := congrArg Hdr.c4 hd; have e4 := cellAt_range l0 16; rw [e3]; exact e4
     have n2 : 0 ≤ d2 ∧ d2 < 4294967296 := by
      have e3 : d2 = cellAt l0 8 := congrArg Hdr.c2 hd; have e4 := cellAt_range l0 8; rw [e3]; exact e4
     have n1 : 0 ≤ d1 ∧ d1 < 4294967296 := by
      have e3 : d1 = cellAt l0 4 := congrArg Hdr.c1 hd; have e4 := cellAt_range l0 4; rw [e3]; exact e4
     clear hd B1 H; have B1 := AK B1'; clear B1'; have H := AK H1; clear H1; have m0 : wr.cell? ⟨w.heap.size + 1, 0, none⟩ = some (.int .u32 d0) := (blk_cell B1.out 0).trans rfl; have m1 : wr.cell? ⟨w.heap.size + 1, 1, none⟩ = some (.int .u32 d1) := (blk_cell B1.out 1).trans rfl; have m2 : wr.cell? ⟨w.heap.size + 1, 2, none⟩ = some (.int .u32 d2) := (blk_cell B1.out 2).trans rfl; have m3 : wr.cell? ⟨w.heap.size + 1, 3, none⟩ = some (.int .u32 d3) := (blk_cell B1.out 3).trans rfl; have m4 : wr.cell? ⟨w.heap.size + 1, 4, none⟩ = some (.int .u32 d4) := (blk_cell B1.out 4).trans rfl; have m5 : wr.cell? ⟨w.heap.size + 1, 5, none⟩ = some (.int .u32 d5) := (blk_cell B1.out 5).trans rfl; have m6 : wr.cell? ⟨w.heap.size + 1, 6, none⟩ = some (.int .u32 d6) := (blk_cell B1.out 6).trans rfl; have m7 : wr.cell? ⟨w.heap.size + 1, 7, none⟩ = some (.int .u32 d7) := (blk_cell B1.out 7).trans rfl; have m8 : wr.cell? ⟨w.heap.size + 1, 8, none⟩ = some (.int .u32 d8) := (blk_cell B1.out 8).trans rfl; have m9 : wr.cell? ⟨w.heap.size + 1, 9, none⟩ = some (.int .u32 d9) := (blk_cell B1.out 9).trans rfl; have z0 : wr.cell? ⟨w.heap.size, 0, none⟩ = some (.int .u32 0) := (blk_cell B0.out 0).trans rfl; have f0 : wr.frozen? ⟨w.heap.size, 0, none⟩ = false := blk_frozen B0.out 0; have z1 : wr.cell? ⟨w.heap.size, 1, none⟩ = some (.int .u32 0) := (blk_cell B0.out 1).trans rfl; have f1 : wr.frozen? ⟨w.heap.size, 1, none⟩ = false := blk_frozen B0.out 1; have z2 : wr.cell? ⟨w.heap.size, 2, none⟩ = some (.int .u32 0) := (blk_cell B0.out 2).trans rfl; have f2 : wr.frozen? ⟨w.heap.size, 2, none⟩ = false := blk_frozen B0.out 2; have z3 : wr.cell? ⟨w.heap.size, 3, none⟩ = some (.int .u32 0) := (blk_cell B0.out 3).trans rfl; have f3 : wr.frozen? ⟨w.heap.size, 3, none⟩ = false := blk_frozen B0.out 3; have z4 : wr.cell? ⟨w.heap.size, 4, none⟩ = some (.int .u32 0) := (blk_cell B0.out 4).trans rfl; have f4 : wr.frozen? ⟨w.heap.size, 4, none⟩ = false := blk_frozen B0.out 4; have z5 : wr.cell? ⟨w.heap.size, 5, none⟩ = some (.int .u32 0) := (blk_cell B0.out 5).trans rfl; have f5 : wr.frozen? ⟨w.heap.size, 5, none⟩ = false := blk_frozen B0.out 5; have z6 : wr.cell? ⟨w.heap.size, 6, none⟩ = some (.int .u32 0) := (blk_cell B0.out 6).trans rfl; have f6 : wr.frozen? ⟨w.heap.size, 6, none⟩ = false := blk_frozen B0.out 6; have z7 : wr.cell? ⟨w.heap.size, 7, none⟩ = some (.int .u32 0) := (blk_cell B0.out 7).trans rfl; have f7 : wr.frozen? ⟨w.heap.size, 7, none⟩ = false := blk_frozen B0.out 7; have z8 : wr.cell? ⟨w.heap.size, 8, none⟩ = some (.int .u32 0) := (blk_cell B0.out 8).trans rfl; have f8 : wr.frozen? ⟨w.heap.size, 8, none⟩ = false := blk_frozen B0.out 8; have z9 : wr.cell? ⟨w.heap.size, 9, none⟩ = some (.int .u32 0) := (blk_cell B0.out 9).trans rfl; have f9 : wr.frozen? ⟨w.heap.size, 9, none⟩ = false := blk_frozen B0.out 9
     have hW := fun a s n W => decode_within.calls a s n (inB a s n) W (within_inB a s n)
     have HW := AK hW; clear hW; simp only [hdrErr] at H
     by_cases t0 : d0 = 3490578157
     ·have h := H.out; rw [if_pos t0] at h; clear H; have H := AK h; clear h; have t0b : (d0 != 3490578157) = false := bne_eq_false_iff_eq.mpr t0; clear t0
      by_cases t5 : d5 = 17
      ·have h := H.out; rw [if_pos t5] at h; clear H; have H := AK h; clear h; have t5b : (d5 != 17) = false := bne_eq_false_iff_eq.mpr t5; clear t5
       by_cases t6 : d6 = 16
       ·have h := H.out; rw [if_pos t6] at h; clear H; have H := AK h; clear h; have t6b : (d6 != 16) = false := bne_eq_false_iff_eq.mpr t6; clear t6
        by_cases t1 : d1 = (l0.length : Int)
        ·have h := H.out; rw [if_pos t1] at h; clear H; have H := AK h; clear h; have t1b : (d1 != (l0.length : Int)) = false := bne_eq_false_iff_eq.mpr t1; clear t1
         by_cases w2 : inB d2 d9 l0.length = true
         ·have h := H.out; rw [if_pos w2] at h; clear H; have H := AK h; clear h
          have w2b : (!inB d2 d9 l0.length) = false := by rw [w2]; rfl
          by_cases w3 : inB d3 d8 l0.length = true
          ·have h := H.out; rw [if_pos w3] at h; clear H; have H := AK h; clear h
           have w3b : (!inB d3 d8 l0.length) = false := by rw [w3]; rfl
           by_cases w4 : inB d4 0 l0.length = true
           ·have h := H.out; rw [if_pos w4] at h; clear H; have H := AK h; clear h
            have w4b : (!inB d4 0 l0.length) = false := by rw [w4]; rfl
            by_cases r4 : d4 % 8 = 0
            ·have h := H.out; rw [if_pos r4] at h; clear H; have H := AK h; clear h; have r4b : (d4 % 8 != 0) = false := bne_eq_false_iff_eq.mpr r4; clear r4
             by_cases r2 : d2 % 4 = 0
             ·have h := H.out; rw [if_pos r2] at h; clear H; have H := AK h; clear h; have r2b : (d2 % 4 != 0) = false := bne_eq_false_iff_eq.mpr r2; clear r2; have h := H.out; rw [if_pos rfl] at h; obtain ⟨rfl, rfl⟩ := Prod.mk.inj h; clear h H; (go_wp2_with (go_at_call 54; refine (HW.out _ _ _ _).mono ?_; rintro e w' ⟨rfl, ⟨nd, rfl⟩⟩)); exact bodyPost_ret (results_ct rfl _ _ w.heap.size 78 _ (0, 0) _ rfl (end10 (w := w) Zq17 Zq18 _ _ _ _ _ _ _ _ _ _).2 Tryz.underlying78 rfl Zq3) rfl ⟨rfl, (end10 (w := w) Zq17 Zq18 _ _ _ _ _ _ _ _ _ _).1⟩
             ·have h := H.out; rw [if_neg r2, if_neg Zq2] at h; obtain ⟨rfl, rfl⟩ := Prod.mk.inj h; clear h; have r2b : (d2 % 4 != 0) = true := bne_iff_ne.mpr r2; clear H; (go_wp2_with (go_at_call 54; refine (HW.out _ _ _ _).mono ?_; rintro e w' ⟨rfl, ⟨nd, rfl⟩⟩)); exact bodyPost_ret (results_ct rfl _ _ w.heap.size 78 _ (0, 0) _ rfl (end10 (w := w) Zq17 Zq18 _ _ _ _ _ _ _ _ _ _).2 Tryz.underlying78 rfl Zq3) rfl ⟨rfl, (end10 (w := w) Zq17 Zq18 _ _ _ _ _ _ _ _ _ _).1⟩
            ·have h := H.out; rw [if_neg r4, if_neg Zq2] at h; obtain ⟨rfl, rfl⟩ := Prod.mk.inj h; clear h; have r4b : (d4 % 8 != 0) = true := bne_iff_ne.mpr r4; clear H; (go_wp2_with (go_at_call 54; refine (HW.out _ _ _ _).mono ?_; rintro e w' ⟨rfl, ⟨nd, rfl⟩⟩)); exact bodyPost_ret (results_ct rfl _ _ w.heap.size 78 _ (0, 0) _ rfl (end10 (w := w) Zq17 Zq18 _ _ _ _ _ _ _ _ _ _).2 Tryz.underlying78 rfl Zq3) rfl ⟨rfl, (end10 (w := w) Zq17 Zq18 _ _ _ _ _ _ _ _ _ _).1⟩
           ·have h := H.out; rw [if_neg w4, if_neg Zq2] at h; obtain ⟨rfl, rfl⟩ := Prod.mk.inj h; clear h
            have w4f : inB d4 0 l0.length = false := by simpa using w4
            have w4b : (!inB d4 0 l0.length) = true := by rw [w4f]; rfl
            clear H; (go_wp2_with (go_at_call 54; refine (HW.out _ _ _ _).mono ?_; rintro e w' ⟨rfl, ⟨nd, rfl⟩⟩)); exact bodyPost_ret (results_ct rfl _ _ w.heap.size 78 _ (0, 0) _ rfl (end10 (w := w) Zq17 Zq18 _ _ _ _ _ _ _ _ _ _).2 Tryz.underlying78 rfl Zq3) rfl ⟨rfl, (end10 (w := w) Zq17 Zq18 _ _ _ _ _ _ _ _ _ _).1⟩
          ·have h := H.out; rw [if_neg w3, if_neg Zq2] at h; obtain ⟨rfl, rfl⟩ := Prod.mk.inj h; clear h
           have w3f : inB d3 d8 l0.length = false := by simpa using w3
           have w3b : (!inB d3 d8 l0.length) = true := by rw [w3f]; rfl
           clear H; (go_wp2_with (go_at_call 54; refine (HW.out _ _ _ _).mono ?_; rintro e w' ⟨rfl, ⟨nd, rfl⟩⟩)); exact bodyPost_ret (results_ct rfl _ _ w.heap.size 78 _ (0, 0) _ rfl (end10 (w := w) Zq17 Zq18 _ _ _ _ _ _ _ _ _ _).2 Tryz.underlying78 rfl Zq3) rfl ⟨rfl, (end10 (w := w) Zq17 Zq18 _ _ _ _ _ _ _ _ _ _).1⟩
         ·have h := H.out; rw [if_neg w2, if_neg Zq2] at h; obtain ⟨rfl, rfl⟩ := Prod.mk.inj h; clear h
          have w2f : inB d2 d9 l0.length = false := by simpa using w2
          have w2b : (!inB d2 d9 l0.length) = true := by rw [w2f]; rfl
          clear H; (go_wp2_with (go_at_call 54; refine (HW.out _ _ _ _).mono ?_; rintro e w' ⟨rfl, ⟨nd, rfl⟩⟩)); exact bodyPost_ret (results_ct rfl _ _ w.heap.size 78 _ (0, 0) _ rfl (end10 (w := w) Zq17 Zq18 _ _ _ _ _ _ _ _ _ _).2 Tryz.underlying78 rfl Zq3) rfl ⟨rfl, (end10 (w := w) Zq17 Zq18 _ _ _ _ _ _ _ _ _ _).1⟩
        ·have h := H.out; rw [if_neg t1, if_neg Zq2] at h; obtain ⟨rfl, rfl⟩ := Prod.mk.inj h; clear h; have t1b : (d1 != (l0.length : Int)) = true := bne_iff_ne.mpr t1; clear H; (go_wp2_with (go_at_call 54; refine (HW.out _ _ _ _).mono ?_; rintro e w' ⟨rfl, ⟨nd, rfl⟩⟩)); exact bodyPost_ret (results_ct rfl _ _ w.heap.size 78 _ (0, 0) _ rfl (end10 (w := w) Zq17 Zq18 _ _ _ _ _ _ _ _ _ _).2 Tryz.underlying78 rfl Zq3) rfl ⟨rfl, (end10 (w := w) Zq17 Zq18 _ _ _ _ _ _ _ _ _ _).1⟩
       ·have h := H.out; rw [if_neg t6, if_neg Zq2] at h; obtain ⟨rfl, rfl⟩ := Prod.mk.inj h; clear h; have t6b : (d6 != 16) = true := bne_iff_ne.mpr t6; clear H; (go_wp2_with (go_at_call 54; refine (HW.out _ _ _ _).mono ?_; rintro e w' ⟨rfl, ⟨nd, rfl⟩⟩)); exact bodyPost_ret (results_ct rfl _ _ w.heap.size 78 _ (0, 0) _ rfl (end10 (w := w) Zq17 Zq18 _ _ _ _ _ _ _ _ _ _).2 Tryz.underlying78 rfl Zq3) rfl ⟨rfl, (end10 (w := w) Zq17 Zq18 _ _ _ _ _ _ _ _ _ _).1⟩
      ·have h := H.out; rw [if_neg t5, if_neg Zq2] at h; obtain ⟨rfl, rfl⟩ := Prod.mk.inj h; clear h; have t5b : (d5 != 17) = true := bne_iff_ne.mpr t5; clear H; (go_wp2_with (go_at_call 54; refine (HW.out _ _ _ _).mono ?_; rintro e w' ⟨rfl, ⟨nd, rfl⟩⟩)); exact bodyPost_ret (results_ct rfl _ _ w.heap.size 78 _ (0, 0) _ rfl (end10 (w := w) Zq17 Zq18 _ _ _ _ _ _ _ _ _ _).2 Tryz.underlying78 rfl Zq3) rfl ⟨rfl, (end10 (w := w) Zq17 Zq18 _ _ _ _ _ _ _ _ _ _).1⟩
     ·have h := H.out; rw [if_neg t0, if_neg Zq2] at h; obtain ⟨rfl, rfl⟩ := Prod.mk.inj h; clear h; have t0b : (d0 != 3490578157) = true := bne_iff_ne.mpr t0; clear H; (go_wp2_with (go_at_call 54; refine (HW.out _ _ _ _).mono ?_; rintro e w' ⟨rfl, ⟨nd, rfl⟩⟩)); exact bodyPost_ret (results_ct rfl _ _ w.heap.size 78 _ (0, 0) _ rfl (end10 (w := w) Zq17 Zq18 _ _ _ _ _ _ _ _ _ _).2 Tryz.underlying78 rfl Zq3) rfl ⟨rfl, (end10 (w := w) Zq17 Zq18 _ _ _ _ _ _ _ _ _ _).1⟩
structure RdS (w0 W : World) (g : Nat) (sb st : Value) (at_ : Int) : Prop where
 bel : Below w0.heap.size w0 W
 lo : w0.heap.size ≤ g
 blk : W.heap[g]? = some (.cells #[sb, st, .int .i64 at_] 85 (0, 0))
section
variable {w0 W W2 : World} {g : Nat} {sb st : Value} {at_ : Int}
theorem RdS.below (h : RdS w0 W g sb st at_) (hb : Below W.heap.size W W2) : RdS w0 W2 g sb st at_ := ⟨h.bel.trans (hb.mono h.bel.size), h.lo, blk_below h.blk hb⟩
theorem RdS.drewN (h : RdS w0 W g sb st at_) (n : Nat) : RdS w0 (W.drewN n) g sb st at_ := ⟨pw_below_drewN h.bel n, h.lo, h.blk⟩
theorem RdS.move (h : RdS w0 W g sb st at_) (q : Int) : RdS w0 (W.setCell ⟨g, 2, none⟩ (.int .i64 q)) g sb st q := ⟨h.bel.setCell h.lo _, h.lo, blk_put h.blk 2 _ rfl⟩
end
structure RdM (w0 W W2 : World) (g : Nat) (sb st : Value) (q : Int) : Prop where
 st : RdS w0 W2 g sb st q
 kept : Kept W W2 (fun k => k = g)
theorem RdM.then_ {w0 W W2 W3 : World} {g : Nat} {sb st : Value} {q q' : Int} (h : RdM w0 W W2 g sb st q) (k : RdM w0 W2 W3 g sb st q') : RdM w0 W W3 g sb st q' := ⟨k.st, h.kept.then_ k.kept (fun _ hk => .inl hk)⟩
theorem RdM.refl {w0 W : World} {g : Nat} {sb st : Value} {q : Int} (h : RdS w0 W g sb st q) : RdM w0 W W g sb st q := ⟨h, Kept.refl _ _⟩
def nextAt (l : List Int) (i : Int) : Int := if cellOk l i = true then i + 4 else i
theorem cellOk_range (l : List Int) (i : Int) (h : cellOk l i = true) : 0 ≤ i ∧ i + 4 ≤ l.length := by
 unfold cellOk words_Get.f at h
 split at h
 ·next h0 => exact ⟨h0.1, Zq1⟩
 ·simp at h
set_option maxRecDepth 100000 in
set_option maxHeartbeats 1000000 in
theorem reader_cell.calls (Ab : Option Addr) (cb : Nat) (lb : List Int) (st : Value) (at_ : Int) (g : Nat) (w0 W : World) (hC : Kd.C (Kd.int .u8) w0 Ab lb.length lb) (hc : lb.length ≤ cb) (hS : RdS w0 W g (.slice Ab lb.length cb) st at_) :
  Calls Tryz.prog 56 #[.pointer (some ⟨g, 0, none⟩)] W fun e w' => e = .returned (.tuple #[.int .u32 (cellAt lb at_), .bool (cellOk lb at_)]) ∧ RdM w0 W w' g (.slice Ab lb.length cb) st (nextAt lb at_) := by
 have HS := AK hS; have HQ := AK (fun n : Nat => words_Get.calls Ab cb lb at_ (cellAt lb at_) (cellOk lb at_) (W.drewN n) (Kd.C_drewN (Kd.C_below hC hS.bel) n) hc (get_cell lb at_)); have k0 : W.cell? ⟨g, 0, none⟩ = some (.slice Ab lb.length cb) := (blk_cell hS.blk 0).trans rfl; have k2 : W.cell? ⟨g, 2, none⟩ = some (.int .i64 at_) := (blk_cell hS.blk 2).trans rfl; have kf : W.frozen? ⟨g, 2, none⟩ = false := blk_frozen hS.blk 2; have HM := AK hC.2.1
 have HN : Aside0 (nextAt lb at_ = if cellOk lb at_ = true then at_ + 4 else at_) := ⟨rfl⟩
 have HR := AK (cellOk_range lb at_); clear hC hc hS
 obtain ⟨b, hb⟩ : ∃ b, b = cellOk lb at_ := ⟨_, rfl⟩
 obtain ⟨v, hv⟩ : ∃ v, v = cellAt lb at_ := ⟨_, rfl⟩
 rw [← hb] at HQ HN HR; rw [← hv] at HQ; rw [← hb, ← hv]; clear hb hv
 cases b with
 | true =>
  replace HN : Aside0 (nextAt lb at_ = at_ + 4) := ⟨HN.out.trans (if_pos rfl)⟩
  have hr := HR.out rfl; have hm := HM.out
  have hw : Go.RowKit.wrap64 (at_ + 4) = at_ + 4 := by unfold Go.RowKit.wrap64; omega
  have h1 := hr.1
  have h2 : at_ + 4 ≤ 9223372036854775807 := by omega
  clear hr hm; go_enter Tryz.func56, Tryz.ntmps56; go_wp2
  go_quiet (first | (go_at_call 53; (with_reducible refine (HQ.out _).mono ?_); rintro e w' ⟨rfl, ⟨nd, rfl⟩⟩; (try first | exact ⟨rfl, _, World.drewN_drewN _ _ _⟩ | exact ⟨rfl, _, Eq.trans (World.drewN_drewN _ _ _) (congrArg (World.drewN _) (Nat.add_assoc _ _ _))⟩)))
  go_wp2
  go_ret2
  exact ⟨rfl, ⟨by rw [HN.out]; exact (HS.out.drewN _).move _, ((Kept.refl W (fun k => k = g)).drewN _).setCell (p := ⟨g, 2, none⟩) (.inl rfl) _⟩⟩
 | false =>
  replace HN : Aside0 (nextAt lb at_ = at_) := ⟨HN.out.trans (if_neg Zq2)⟩
  go_enter Tryz.func56, Tryz.ntmps56; go_wp2
  go_quiet (first | (go_at_call 53; (with_reducible refine (HQ.out _).mono ?_); rintro e w' ⟨rfl, ⟨nd, rfl⟩⟩; (try first | exact ⟨rfl, _, World.drewN_drewN _ _ _⟩ | exact ⟨rfl, _, Eq.trans (World.drewN_drewN _ _ _) (congrArg (World.drewN _) (Nat.add_assoc _ _ _))⟩)))
  go_wp2
  go_ret2
  exact ⟨rfl, ⟨by rw [HN.out]; exact HS.out.drewN _, (Kept.refl W _).drewN _⟩⟩
def tokF : Nat → List Int → Int → Option (Int × Bool × Int)
 | 0, _, _ => none
 | k + 1, l, i => if cellOk l i = true then (if cellAt l i = 4 then tokF k l (i + 4) else if cellAt l i = 1 then some (1, true, i + 4) else if cellAt l i = 3 then some (3, true, i + 4) else if cellAt l i = 2 then some (2, true, i + 4) else if cellAt l i = 9 then some (9, true, i + 4) else some (0, false, i + 4)) else some (0, false, i)
set_option maxRecDepth 100000 in
set_option maxHeartbeats 1000000 in
theorem reader_token.calls (k : Nat) (Ab : Option Addr) (cb : Nat) (lb : List Int) (st : Value) (at_ : Int) (g : Nat) (w0 W : World) (v : Int) (ok : Bool) (q : Int) (hC : Kd.C (Kd.int .u8) w0 Ab lb.length lb) (hc : lb.length ≤ cb) (hS : RdS w0 W g (.slice Ab lb.length cb) st at_) (h : tokF k lb at_ = some (v, ok, q)) :
  Calls Tryz.prog 40 #[.pointer (some ⟨g, 0, none⟩)] W fun e w' => e = .returned (.tuple #[.int .u32 v, .bool ok]) ∧ RdM w0 W w' g (.slice Ab lb.length cb) st q := by
 have H0 := AK h; have HC := AK hC; have HCC := AK hc; have HS := AK hS; clear h hC hc hS; go_enter Tryz.func40, Tryz.ntmps40; go_wp2
 go_loopg [4] k (fun kq v4 w' => ∃ i : Int, Aside0 (tokF kq lb i = some (v, ok, q)) ∧ Aside0 (RdM w0 W w' g (.slice Ab lb.length cb) st i))
 case atStart => exact ⟨at_, H0, ⟨RdM.refl HS.out⟩⟩
 case round =>
  clear H0; obtain ⟨i, HT, HM⟩ := hrel
  cases gk with
  | zero => exact absurd HT.out (by simp [tokF])
  | succ k1 =>
   have hT := HT.out; simp only [tokF] at hT; clear HT; have HQ := AK (reader_cell.calls Ab cb lb st i g w0 wr HC.out HCC.out HM.out.st)
   obtain ⟨b, hb⟩ : ∃ b, b = cellOk lb i := ⟨_, rfl⟩
   obtain ⟨c, hcv⟩ : ∃ c, c = cellAt lb i := ⟨_, rfl⟩
   have HN : Aside0 (nextAt lb i = if b = true then i + 4 else i) := ⟨by rw [hb]; rfl⟩
   rw [← hb, ← hcv] at HQ hT; clear hb hcv
   cases b with
   | false =>
    rw [if_neg Zq2] at hT
    replace HN : Aside0 (nextAt lb i = i) := ⟨HN.out.trans (if_neg Zq2)⟩
    obtain ⟨rfl, rfl, rfl⟩ : (0 : Int) = v ∧ false = ok ∧ i = q := by simpa using hT
    clear hT; go_wp2_with (go_at_call 56; refine HQ.out.mono ?_; rintro e w' ⟨rfl, hm⟩; have HM2 := AK (HM.out.then_ hm); clear hm)
    go_ret2
    exact ⟨rfl, Zq41⟩
   | true =>
    rw [if_pos rfl] at hT
    replace HN : Aside0 (nextAt lb i = i + 4) := ⟨HN.out.trans (if_pos rfl)⟩
    by_cases c4 : c = 4
    ·subst c4; rw [if_pos rfl] at hT; have HT := AK hT; clear hT; go_wp2_with (go_at_call 56; refine HQ.out.mono ?_; rintro e w' ⟨rfl, hm⟩; have HM2 := AK (HM.out.then_ hm); clear hm)
     go_roundg k1
     case measure => omega
     case rel => exact ⟨i + 4, HT, ⟨Zq41⟩⟩
    ·rw [if_neg c4] at hT; have b4 : (c == 4) = false := beq_eq_false_iff_ne.mpr c4
     by_cases c1 : c = 1
     ·subst c1; rw [if_pos rfl] at hT
      obtain ⟨rfl, rfl, rfl⟩ : (1 : Int) = v ∧ true = ok ∧ i + 4 = q := by simpa using hT
      clear hT; go_wp2_with (go_at_call 56; refine HQ.out.mono ?_; rintro e w' ⟨rfl, hm⟩; have HM2 := AK (HM.out.then_ hm); clear hm)
      go_ret2
      exact ⟨rfl, Zq41⟩
     ·rw [if_neg c1] at hT; have b1 : (c == 1) = false := beq_eq_false_iff_ne.mpr c1
      by_cases c3 : c = 3
      ·subst c3; rw [if_pos rfl] at hT
       obtain ⟨rfl, rfl, rfl⟩ : (3 : Int) = v ∧ true = ok ∧ i + 4 = q := by simpa using hT
       clear hT; go_wp2_with (go_at_call 56; refine HQ.out.mono ?_; rintro e w' ⟨rfl, hm⟩; have HM2 := AK (HM.out.then_ hm); clear hm)
       go_ret2
       exact ⟨rfl, Zq41⟩
      ·rw [if_neg c3] at hT; have b3 : (c == 3) = false := beq_eq_false_iff_ne.mpr c3
       by_cases c2 : c = 2
       ·subst c2; rw [if_pos rfl] at hT
        obtain ⟨rfl, rfl, rfl⟩ : (2 : Int) = v ∧ true = ok ∧ i + 4 = q := by simpa using hT
        clear hT; go_wp2_with (go_at_call 56; refine HQ.out.mono ?_; rintro e w' ⟨rfl, hm⟩; have HM2 := AK (HM.out.then_ hm); clear hm)
        go_ret2
        exact ⟨rfl, Zq41⟩
       ·rw [if_neg c2] at hT; have b2 : (c == 2) = false := beq_eq_false_iff_ne.mpr c2
        by_cases c9 : c = 9
        ·subst c9; rw [if_pos rfl] at hT
         obtain ⟨rfl, rfl, rfl⟩ : (9 : Int) = v ∧ true = ok ∧ i + 4 = q := by simpa using hT
         clear hT; go_wp2_with (go_at_call 56; refine HQ.out.mono ?_; rintro e w' ⟨rfl, hm⟩; have HM2 := AK (HM.out.then_ hm); clear hm)
         go_ret2
         exact ⟨rfl, Zq41⟩
        ·rw [if_neg c9] at hT; have b9 : (c == 9) = false := beq_eq_false_iff_ne.mpr c9
         obtain ⟨rfl, rfl, rfl⟩ : (0 : Int) = v ∧ false = ok ∧ i + 4 = q := by simpa using hT
         clear hT; go_wp2_with (go_at_call 56; refine HQ.out.mono ?_; rintro e w' ⟨rfl, hm⟩; have HM2 := AK (HM.out.then_ hm); clear hm)
         go_ret2
         exact ⟨rfl, Zq41⟩
def padN (n : Int) : Int := (words_Pad.f n).getD 0
theorem pad_f (n : Int) : words_Pad.f n = some (padN n) := by
 unfold padN words_Pad.f
 split <;> rfl
theorem padN_eq (n : Int) (h : 0 ≤ n) : padN n = (4 - n % 4) % 4 := by
 unfold padN words_Pad.f; rw [if_neg Zq1]; simp only [Option.getD_some]; rw [Int.tmod_eq_emod_of_nonneg h]
 have : Go.RowKit.wrap64 (4 - n % 4) = 4 - n % 4 := by unfold Go.RowKit.wrap64; omega
 rw [this, Int.tmod_eq_emod_of_nonneg Zq1]
def padOk (l : List Int) : Bool := ((Lib.countByte (Lib.bytesOf l) 0 : Int) == (l.length : Int))
def takeF (l : List Int) (i n : Int) : List Int × Bool × Int :=
 if n + padN n ≤ (l.length : Int) - i then ((l.take (i + n).toNat).drop i.toNat, padOk ((l.take (i + (n + padN n)).toNat).drop (i + n).toNat), i + (n + padN n)) else ([], false, i)
set_option maxRecDepth 100000 in
set_option maxHeartbeats 2000000 in
theorem reader_take.calls (ab : Addr) (cb : Nat) (lb : List Int) (st : Value) (at_ n : Int) (g : Nat) (w0 W : World) (hC : Kd.C (Kd.int .u8) w0 (some ab) lb.length lb) (hc : lb.length ≤ cb) (hS : RdS w0 W g (.slice (some ab) lb.length cb) st at_) (h0 : 0 ≤ at_) (h1 : at_ ≤ lb.length) (hn : 0 ≤ n) (hn1 : n ≤ 1099511627776) :
  Calls Tryz.prog 68 #[.pointer (some ⟨g, 0, none⟩), .int .i64 n] W fun e w' => ∃ (A : Option Addr) (c : Nat), e = .returned (.tuple #[.slice A (takeF lb at_ n).1.length c, .bool (takeF lb at_ n).2.1]) ∧ (takeF lb at_ n).1.length ≤ c ∧ Kd.C (Kd.int .u8) w0 A (takeF lb at_ n).1.length (takeF lb at_ n).1 ∧ RdM w0 W w' g (.slice (some ab) lb.length cb) st (takeF lb at_ n).2.2 := by
 have hp := padN_eq n hn; have hm := hC.2.1; have HPAD := AK (fun W => words_Pad.calls n (padN n) W (pad_f n))
 obtain ⟨p, hpe⟩ : ∃ p, p = padN n := ⟨_, rfl⟩
 have hp0 : 0 ≤ p ∧ p ≤ 3 := by omega
 have k0 : W.cell? ⟨g, 0, none⟩ = some (.slice (some ab) lb.length cb) := (blk_cell hS.blk 0).trans rfl; have k2 : W.cell? ⟨g, 2, none⟩ = some (.int .i64 at_) := (blk_cell hS.blk 2).trans rfl; have kf : W.frozen? ⟨g, 2, none⟩ = false := blk_frozen hS.blk 2; have fn : decide (n < 0) = false := decide_eq_false Zq1
 have s1 : IntKind.i64.wrap (n + p) = n + p := by rw [i64_w]; unfold Go.RowKit.wrap64; omega
 by_cases c : n + p ≤ (lb.length : Int) - at_
 ·have ht : takeF lb at_ n = ((lb.take (at_ + n).toNat).drop at_.toNat, padOk ((lb.take (at_ + (n + p)).toNat).drop (at_ + n).toNat), at_ + (n + p)) := by
   unfold takeF; rw [← hpe, if_pos c]
  rw [ht]; rw [← hpe] at HPAD; have f2 : decide ((lb.length : Int) - at_ < n + p) = false := decide_eq_false Zq1
  have s0 : IntKind.i64.wrap ((lb.length : Int) - at_) = (lb.length : Int) - at_ := by rw [i64_w]; unfold Go.RowKit.wrap64; omega
  have s2 : IntKind.i64.wrap (at_ + n) = at_ + n := by rw [i64_w]; unfold Go.RowKit.wrap64; omega
  have s3 : IntKind.i64.wrap (at_ + (n + p)) = at_ + (n + p) := by rw [i64_w]; unfold Go.RowKit.wrap64; omega
  obtain ⟨i0, hi0, hza, hsz, hzb⟩ := info_parts info5; have hcut1 := cut_mid 32 5 .i64 .i64 Tryz.underlying32 hi0 1 hsz (some ab) lb.length cb at_ (at_ + n) h0 Zq1 Zq1 hc; have hcut2 := cut_mid 32 5 .i64 .i64 Tryz.underlying32 hi0 1 hsz (some ab) lb.length cb (at_ + n) (at_ + (n + p)) Zq1 Zq1 Zq1 hc; have C1 := Kd.C_mid (lo := at_.toNat) (hi := (at_ + n).toNat) hC Zq1 Zq1 hc; have C2 := Kd.C_mid (lo := (at_ + n).toNat) (hi := (at_ + (n + p)).toNat) hC Zq1 Zq1 hc
  obtain ⟨A1, hA1⟩ : ∃ A1, A1 = (if cb = at_.toNat then some ab else (some ab).map (·.add (at_.toNat * 1))) := ⟨_, rfl⟩
  obtain ⟨a2, hA2⟩ : ∃ a2, some a2 = (if cb = (at_ + n).toNat then some ab else (some ab).map (·.add ((at_ + n).toNat * 1))) := by split <;> exact ⟨_, rfl⟩
  obtain ⟨y1, hy1⟩ : ∃ y, y = (lb.take (at_ + n).toNat).drop at_.toNat := ⟨_, rfl⟩
  obtain ⟨y2, hy2⟩ : ∃ y, y = (lb.take (at_ + (n + p)).toNat).drop (at_ + n).toNat := ⟨_, rfl⟩
  have l1 : (at_ + n).toNat - at_.toNat = y1.length := by rw [hy1, List.length_drop, List.length_take]; omega
  have l2 : (at_ + (n + p)).toNat - (at_ + n).toNat = y2.length := by rw [hy2, List.length_drop, List.length_take]; omega
  have q1 : y1.length ≤ cb - at_.toNat := by omega
  rw [show (Kd.int .u8).sz = 1 from rfl, ← hA1, ← hy1] at C1; rw [show (Kd.int .u8).sz = 1 from rfl, ← hA2, ← hy2] at C2; rw [← hA1, l1] at hcut1; rw [← hA2, l2] at hcut2; rw [← hy1, ← hy2]
  have HCT := AK (fun (W2 : World) (b2 : Nat) (hb : Below w0.heap.size w0 W2) (hz : W2.cell? ⟨b2, 0, none⟩ = some (.int .u8 0)) =>
   Tryz.bytes_Count_one_at a2 y2.length (cb - (at_ + n).toNat) b2 0 1 y2 0 W2 rfl (by
    have hr := Kd.reads_of_C (enc := Value.int .u8) (d := (0 : Int)) (h1 := fun _ => rfl) (Kd.C_below C2 hb); intro i hi; obtain ⟨ad, e, hc⟩ := hr.2.2 Zq1; injection e with e; subst e
    exact hc i hi) hz)
  have HS := AK hS; have HC1 := AK C1; have HQ1 := AK q1; have hat1 : 0 ≤ at_ := h0; clear C1 C2 hA1 hA2 hy1 hy2 l1 l2 q1 hp hpe hC hc hS ht hsz hi0 hm hza hzb
  show Calls Tryz.prog 68 #[.pointer (some ⟨g, 0, none⟩), .int .i64 n] W fun e w' => ∃ (A : Option Addr) (c : Nat), e = .returned (.tuple #[.slice A y1.length c, .bool (padOk y2)]) ∧ y1.length ≤ c ∧ Kd.C (Kd.int .u8) w0 A y1.length y1 ∧ RdM w0 W w' g (.slice (some ab) lb.length cb) st (at_ + (n + p))
  go_enter Tryz.func68, Tryz.ntmps68; go_wp2_with (go_at_call 49; refine (HPAD.out _).mono ?_; rintro e w' ⟨rfl, ⟨nd, rfl⟩⟩)
  go_quiet (fail)
  go_wp2
  go_quiet (fail)
  go_wp2_with (go_at_call 76; refine (HCT.out _ _ ?hb ?hz).mono ?_; (case hb => exact (((HS.out.drewN _).move _).below Zq59).bel); (case hz => go_simp); rintro e w' ⟨rfl, rfl⟩)
  go_ret2
  exact ⟨A1, _, rfl, HQ1.out, HC1.out, ⟨((HS.out.drewN _).move _).below Zq59, (((Kept.refl W (fun k => k = g)).drewN _).setCell (p := ⟨g, 2, none⟩) (.inl rfl) _).alloc _⟩⟩
 ·have ht : takeF lb at_ n = ([], false, at_) := by
   unfold takeF; rw [← hpe, if_neg c]
  rw [ht]; rw [← hpe] at HPAD; have f2 : decide ((lb.length : Int) - at_ < n + p) = true := decide_eq_true Zq1
  have s0 : IntKind.i64.wrap ((lb.length : Int) - at_) = (lb.length : Int) - at_ := by
   rw [i64_w]; unfold Go.RowKit.wrap64; omega
  have HS := AK hS; have hm0 := hm; clear hp hpe hC hc hS ht hm hm0
  show Calls Tryz.prog 68 #[.pointer (some ⟨g, 0, none⟩), .int .i64 n] W fun e w' => ∃ (A : Option Addr) (c : Nat), e = .returned (.tuple #[.slice A 0 c, .bool false]) ∧ 0 ≤ c ∧ Kd.C (Kd.int .u8) w0 A 0 [] ∧ RdM w0 W w' g (.slice (some ab) lb.length cb) st at_
  go_enter Tryz.func68, Tryz.ntmps68; go_wp2_with (go_at_call 49; refine (HPAD.out _).mono ?_; rintro e w' ⟨rfl, ⟨nd, rfl⟩⟩)
  go_quiet (fail)
  go_wp2
  go_ret2
  exact ⟨none, 0, rfl, Nat.le_refl _, Kd.C_nil _ _, ⟨(HS.out.drewN _).drewN _, ((Kept.refl W (fun k => k = g)).drewN _).drewN _⟩⟩
def knownB (hs : List ByteArray) (x : ByteArray) : Bool := decide (x.data.toList ∈ hs.map (·.data.toList))
end Go.Proofs.YtkopmkinlanhoaaGreat.PE

namespace Go.Proofs.YtkopmkinlanhoaaGreat.PE
open Go.RowKit Go.Proofs.YtkopmkinlanhoaaGreatW.PrintWords Go.Proofs.YtkopmkinlanhoaaGreatW.PrintLast Go.Proofs.YtkopmkinlanhoaaGreatW.PrintMore
attribute [local go_sem] max2_int min2_int max_two min_two max_three min_three max_four min_four
attribute [local go_sem high] eqA51
def MapS (w : World) (b : Nat) (hs : List ByteArray) : Prop := ∃ D : DataW Unit, w.ownsMap Tryz.prog 9 (plainElem Tryz.prog 4) b hs.length D ∧ Maps.IsMap D ∧ ∀ h : ByteArray, h.size ≤ maxLen → D.atKey (.string h.data.toList) (.lit (.bool false)) = .lit (.bool (knownB hs h))
theorem plainElem_bool_inv {H : Type} {P : Program} {e : TypeId} (he : P.underlying e = some .bool) {v : Value} {z : DataW H × List MemPlace} (h : plainElem P e v = some z) : ∃ a, v = .bool a ∧ z = (.lit (.bool a), []) := by
 unfold plainElem at h; rw [he] at h; cases v <;> simp at h; exact ⟨_, rfl, h.symm⟩
theorem zero_bool (w : World) : (zeroValue 4).run Tryz.prog w = .ok (.bool false) w := by kernel_rfl
theorem MapS.made (w : World) : MapS (w.alloc (.map #[] 0)) w.heap.size [] := ⟨.map [], World.ownsMap_made _ _ _ _, ⟨_, rfl⟩, fun h _ => by simp [DataW.atKey, knownB]⟩
theorem MapS.lt {w : World} {b : Nat} {hs : List ByteArray} (h : MapS w b hs) : b < w.heap.size := h.choose_spec.1.lt
theorem MapS.same {w w' : World} {b : Nat} {hs : List ByteArray} (h : MapS w b hs) (hk : w'.heap[b]? = w.heap[b]?) : MapS w' b hs := by
 obtain ⟨D, ⟨es, clock, hb, F, hs, hD⟩, hm, hat⟩ := h; exact ⟨D, ⟨es, clock, hk.trans hb, F, hs, hD⟩, hm, hat⟩
theorem keyOf_string_mk {P : Program} {k : TypeId} (hk : P.underlying k = some .string) {s : ByteArray} (hs : s.size ≤ maxLen) : keyOf P k (.string s) = some (.string s.data.toList) := by
 simp [keyOf, hk, mapKey, hs]
theorem MapS.look {w : World} {b : Nat} {hs : List ByteArray} (h : MapS w b hs) (x : ByteArray) (hx : x.size ≤ maxLen) : (Instr.lookup 90 (.map (some b)) (.string x) false).run Tryz.prog w = .ok (.bool (knownB hs x)) w := by
 obtain ⟨D, ho, _, hat⟩ := h; obtain ⟨v, ps, hrun, hv⟩ := ho.lookup (Maps.string_keyed Tryz.underlying9) Tryz.underlying90 (zero_bool _) (plainElem_bool Tryz.underlying4 false) (keyOf_string_mk Tryz.underlying9 hx); rw [hat x hx] at hv; obtain ⟨a, rfl, hz⟩ := plainElem_bool_inv Tryz.underlying4 hv; rw [hrun]; simp only [Prod.mk.injEq, DataW.lit.injEq, Lit.bool.injEq] at hz; rw [hz.1]
theorem ba_ext {x y : ByteArray} (h : x.data.toList = y.data.toList) : x = y := by
 obtain ⟨⟨x⟩⟩ := x; obtain ⟨⟨y⟩⟩ := y; simp only at h; rw [h]
theorem MapS.put {w : World} {b : Nat} {hs : List ByteArray} (h : MapS w b hs) (hn : hs.length < maxLen) (x : ByteArray) (hx : x.size ≤ maxLen) : ∃ w', (Instr.mapUpdate 90 (.map (some b)) (.string x) (.bool true)).run Tryz.prog w = .ok () w' ∧ MapS w' b (hs ++ [x]) ∧ w.grownBy w' (some b) := by
 obtain ⟨D, ho, hm, hat⟩ := h; obtain ⟨w', hrun, ho', hg⟩ := ho.update (Maps.string_keyed Tryz.underlying9) Tryz.underlying90 hn (keyOf_string_mk Tryz.underlying9 hx) (plainElem_bool Tryz.underlying4 true); refine ⟨w', hrun, ⟨_, by rw [List.length_append]; exact ho', ?_, fun y hy => ?_⟩, hg⟩; (·obtain ⟨es, rfl⟩ := hm; exact ⟨_, rfl⟩)
 ·by_cases e : y = x
  ·subst e; rw [Maps.atKey_put_same hm (by simp [WideAt.IsKeyLit])]
   simp [knownB]
  ·have e2 : ¬ y.data.toList = x.data.toList := fun h2 => e (ba_ext h2)
   rw [Maps.atKey_put_other (by simpa using e2), hat y hy]
   simp [knownB, e2]
theorem wpList_mapS {ops : Array Oper} {rest : List Oper} {o : Oper} {a : Act} {Q : Exit → Act → World → Prop} (W : World) (hg : o.guard = none) (m x v : Operand) (hop : o.op = Op.mapUpdate 90 m x v)
  (b : Nat) (hs : List ByteArray) (hm : a.eval m = .map (some b)) (h : MapS W b hs) (hn : hs.length < maxLen) (y : ByteArray) (hx : a.eval x = .string y) (hy : y.size ≤ maxLen) (hv : a.eval v = .bool true)
  (hK : ∀ w', MapS w' b (hs ++ [y]) → W.grownBy w' (some b) → wpList Tryz.prog ops Q rest (a.put o.dst undef) w') : wpList Tryz.prog ops Q (o :: rest) a W := by
 refine wpList_plain hg fun K' hK' => ?_
 obtain ⟨w', hrun, r1, r2⟩ := h.put hn y hy; unfold Oper.wp
 simp [execOp, hop, hm, hx, hv, hrun, Result.andThen]
 exact hK' _ _ (hK w' r1 r2)
theorem MapS.below {w w' : World} {b : Nat} {hs : List ByteArray} (h : MapS w b hs) (hb : Below w.heap.size w w') : MapS w' b hs := h.same (hb.block b h.lt)
theorem MapS.kept {w w' : World} {b : Nat} {hs : List ByteArray} {S : Nat → Prop} (h : MapS w b hs) (hk : Kept w w' S) (hn : ¬ S b) : MapS w' b hs := h.same (hk.2 b h.lt hn)
def openF (k : Nat) (l : List Int) (i : Int) (hs : List ByteArray) (d : Int) : Option (ByteArray × Int × Int) :=
 if 0 ≤ i ∧ i ≤ l.length then (words_Text.f k l i).bind fun t => if t.2 = true then (if (t.1.size : Int) < 1099511627776 then (if (takeF l i (t.1.size + 1)).2.1 = true then (if d > 16 then some (⟨#[]⟩, 6, (takeF l i (t.1.size + 1)).2.2) else (if d = 1 then some (decide (t.1.toList = ([] : List UInt8))) else if d > 1 then name_Node.f k t.1 else some true).bind fun b => if b = true then (if knownB hs t.1 = true then some (⟨#[]⟩, 9, (takeF l i (t.1.size + 1)).2.2) else if hs.length < 1099511627776 then some (t.1, 0, (takeF l i (t.1.size + 1)).2.2) else none) else some (⟨#[]⟩, 5, (takeF l i (t.1.size + 1)).2.2)) else some (⟨#[]⟩, 4, (takeF l i (t.1.size + 1)).2.2)) else none) else some (⟨#[]⟩, 4, i) else none
structure OpR (w0 W W2 : World) (g m : Nat) (sb st : Value) (q e : Int) (hs : List ByteArray) (s : ByteArray) : Prop where
 st : RdS w0 W2 g sb st q
 kept : Kept W W2 (fun k => k = g ∨ k = m)
 map : e = 0 → MapS W2 m (hs ++ [s])
theorem RdM.opR {w0 W W2 : World} {g m : Nat} {sb st : Value} {q e : Int} {hs : List ByteArray} {s : ByteArray} (h : RdM w0 W W2 g sb st q) (he : e ≠ 0) (n : Nat) : OpR w0 W (W2.drewN n) g m sb st q e hs s := ⟨h.st.drewN n, (h.kept.mono (fun _ hk => .inl hk)).drewN n, fun h0 => absurd h0 he⟩
theorem RdM.opR0 {w0 W W2 : World} {g m : Nat} {sb st : Value} {q e : Int} {hs : List ByteArray} {s : ByteArray} (h : RdM w0 W W2 g sb st q) (he : e ≠ 0) : OpR w0 W W2 g m sb st q e hs s := ⟨h.st, h.kept.mono (fun _ hk => .inl hk), fun h0 => absurd h0 he⟩
theorem RdS.grown {w0 W W2 : World} {g m : Nat} {sb st : Value} {q : Int} (h : RdS w0 W g sb st q) (hg : W.grownBy W2 (some m)) (hm : w0.heap.size ≤ m) (hne : g ≠ m) : RdS w0 W2 g sb st q := ⟨h.bel.grown hg h.bel.size (fun k hk => by injection hk with hk; omega), h.lo, blk_grown h.blk hg (fun e => hne (by injection e))⟩
set_option maxRecDepth 100000 in
set_option maxHeartbeats 2000000 in
theorem reader_open.calls (k : Nat) (ab : Addr) (cb : Nat) (lb : List Int) (st : Value) (at_ : Int) (hs : List ByteArray) (d : Int) (g m : Nat) (w0 W : World) (s1 : ByteArray) (e1 q1 : Int) (hC : Kd.C (Kd.int .u8) w0 (some ab) lb.length lb) (hc : lb.length ≤ cb) (hS : RdS w0 W g (.slice (some ab) lb.length cb) st at_) (hD : MapS W m hs) (hm : w0.heap.size ≤ m) (hne : g ≠ m) (h : openF k lb at_ hs d = some (s1, e1, q1)) :
  Calls Tryz.prog 57 #[.pointer (some ⟨g, 0, none⟩), .map (some m), .int .i64 d] W fun e w' => e = .returned (.tuple #[.string s1, .int .i64 e1]) ∧ OpR w0 W w' g m (.slice (some ab) lb.length cb) st q1 e1 hs s1 := by
 unfold openF at h
 by_cases hr : 0 ≤ at_ ∧ at_ ≤ lb.length
 case neg => rw [if_neg hr] at h; cases h
 rw [if_pos hr] at h; obtain ⟨⟨s, ok⟩, ht, h⟩ := Option.bind_eq_some_iff.mp h; have HT := AK (fun n : Nat => words_Text.calls k (some ab) cb lb at_ s ok (W.drewN n) (Kd.C_drewN (Kd.C_below hC hS.bel) n) hc ht); have k0 : W.cell? ⟨g, 0, none⟩ = some (.slice (some ab) lb.length cb) := (blk_cell hS.blk 0).trans rfl; have k2 : W.cell? ⟨g, 2, none⟩ = some (.int .i64 at_) := (blk_cell hS.blk 2).trans rfl; have HS := AK hS; clear ht
 cases ok with
 | false =>
  simp only at h; rw [if_neg Zq2] at h
  obtain ⟨rfl, rfl, rfl⟩ : (⟨#[]⟩ : ByteArray) = s1 ∧ (4 : Int) = e1 ∧ at_ = q1 := by simpa using h
  clear h hC hc hS hD hr; go_enter Tryz.func57, Tryz.ntmps57; go_wp2
  go_quiet (first | (go_at_call 67; (with_reducible refine (HT.out _).mono ?_); rintro e w' ⟨rfl, ⟨nd, rfl⟩⟩; (try first | exact ⟨rfl, _, World.drewN_drewN _ _ _⟩ | exact ⟨rfl, _, Eq.trans (World.drewN_drewN _ _ _) (congrArg (World.drewN _) (Nat.add_assoc _ _ _))⟩)))
  go_wp2
  go_ret2
  exact ⟨rfl, ((RdM.mk (HS.out.drewN _) ((Kept.refl W (fun k => k = g)).drewN _)).opR0 Zq2)⟩
 | true =>
  rw [if_pos rfl] at h
  by_cases hz : (s.size : Int) < 1099511627776
  case neg => rw [if_neg hz] at h; cases h
  rw [if_pos hz] at h; have HK := AK (fun W2 hS2 => reader_take.calls ab cb lb st at_ (s.size + 1) g w0 W2 hC hc hS2 hr.1 hr.2 Zq1 Zq1); have HD := AK (fun W2 (hk : Kept W W2 (fun k => k = g)) => hD.kept hk (fun e => hne e.symm))
  have HZ : Aside0 (s.size ≤ maxLen) := ⟨by unfold maxLen; omega⟩
  have hw1 : (s.size : Int) + 1 ≤ 1099511627776 := by omega
  have hw2 : (0 : Int) ≤ (s.size : Int) := Int.natCast_nonneg _
  obtain ⟨⟨y, ok2, q⟩, hy⟩ : ∃ y, y = takeF lb at_ (s.size + 1) := ⟨_, rfl⟩
  rw [← hy] at h HK; clear hy hC hc hS hD hr hz; simp only at h HK
  cases ok2 with
  | false =>
   rw [if_neg Zq2] at h
   obtain ⟨rfl, rfl, rfl⟩ : (⟨#[]⟩ : ByteArray) = s1 ∧ (4 : Int) = e1 ∧ q = q1 := by simpa using h
   clear h; go_enter Tryz.func57, Tryz.ntmps57; go_wp2
   go_quiet (first | (go_at_call 67; (with_reducible refine (HT.out _).mono ?_); rintro e w' ⟨rfl, ⟨nd, rfl⟩⟩; (try first | exact ⟨rfl, _, World.drewN_drewN _ _ _⟩ | exact ⟨rfl, _, Eq.trans (World.drewN_drewN _ _ _) (congrArg (World.drewN _) (Nat.add_assoc _ _ _))⟩)))
   go_wp2_with (first | (go_at_call 68; refine (HK.out _ (HS.out.drewN _)).mono ?_; rintro e w' ⟨A2, c2, rfl, hl, hC2, hm⟩; have HM := Zq62; (try have hlk0 := HLK.out _ HM.out.kept); (try have hlkn := fun n_ : Nat => HLK.out _ (HM.out.kept.drewN n_)); clear hm hl hC2) | (go_at_call 43; refine (HN.out _).mono ?_; rintro e w' ⟨rfl, ⟨nd2, rfl⟩⟩) | (at_mapUpdate; refine wpList_mapS _ rfl _ _ _ rfl m hs rfl (HD.out _ Zq28) HL.out s rfl HZ.out rfl ?_; intro w3 hm3 hg3; have HM3 := AK hm3; have HG3 := AK hg3; clear hm3 hg3))
   go_ret2
   exact ⟨rfl, HM.out.opR0 Zq2⟩
  | true =>
   rw [if_pos rfl] at h
   by_cases c16 : d > 16
   ·rw [if_pos c16] at h
    obtain ⟨rfl, rfl, rfl⟩ : (⟨#[]⟩ : ByteArray) = s1 ∧ (6 : Int) = e1 ∧ q = q1 := by simpa using h
    have c16b : decide (16 < d) = true := decide_eq_true c16; clear h c16; go_enter Tryz.func57, Tryz.ntmps57; go_wp2
    go_quiet (first | (go_at_call 67; (with_reducible refine (HT.out _).mono ?_); rintro e w' ⟨rfl, ⟨nd, rfl⟩⟩; (try first | exact ⟨rfl, _, World.drewN_drewN _ _ _⟩ | exact ⟨rfl, _, Eq.trans (World.drewN_drewN _ _ _) (congrArg (World.drewN _) (Nat.add_assoc _ _ _))⟩)))
    go_wp2_with (first | (go_at_call 68; refine (HK.out _ (HS.out.drewN _)).mono ?_; rintro e w' ⟨A2, c2, rfl, hl, hC2, hm⟩; have HM := Zq62; (try have hlk0 := HLK.out _ HM.out.kept); (try have hlkn := fun n_ : Nat => HLK.out _ (HM.out.kept.drewN n_)); clear hm hl hC2) | (go_at_call 43; refine (HN.out _).mono ?_; rintro e w' ⟨rfl, ⟨nd2, rfl⟩⟩) | (at_mapUpdate; refine wpList_mapS _ rfl _ _ _ rfl m hs rfl (HD.out _ Zq28) HL.out s rfl HZ.out rfl ?_; intro w3 hm3 hg3; have HM3 := AK hm3; have HG3 := AK hg3; clear hm3 hg3))
    go_ret2
    exact ⟨rfl, HM.out.opR0 Zq2⟩
   ·rw [if_neg c16] at h; have c16b : decide (16 < d) = false := decide_eq_false c16; clear c16; obtain ⟨b, hb, h⟩ := Option.bind_eq_some_iff.mp h
    by_cases d1 : d = 1
    ·subst d1; rw [if_pos rfl] at hb; obtain rfl := Option.some.inj hb; clear hb
     by_cases hz : s.toList = ([] : List UInt8)
     ·have hz0 : (s.toList == ([] : List UInt8)) = true := beq_iff_eq.mpr hz; have hz1 : (s.toList != ([] : List UInt8)) = false := bne_eq_false_iff_eq.mpr hz; rw [if_pos (decide_eq_true hz)] at h; clear hz
      cases hkb : knownB hs s with
      | true =>
       rw [if_pos hkb] at h
       obtain ⟨rfl, rfl, rfl⟩ : (⟨#[]⟩ : ByteArray) = s1 ∧ (9 : Int) = e1 ∧ q = q1 := by simpa using h
       clear h; have HLK := Zq72; rw [hkb] at HLK; go_enter Tryz.func57, Tryz.ntmps57; go_wp2
       go_quiet (first | (go_at_call 67; (with_reducible refine (HT.out _).mono ?_); rintro e w' ⟨rfl, ⟨nd, rfl⟩⟩; (try first | exact ⟨rfl, _, World.drewN_drewN _ _ _⟩ | exact ⟨rfl, _, Eq.trans (World.drewN_drewN _ _ _) (congrArg (World.drewN _) (Nat.add_assoc _ _ _))⟩)))
       go_wp2_with (first | (go_at_call 68; refine (HK.out _ (HS.out.drewN _)).mono ?_; rintro e w' ⟨A2, c2, rfl, hl, hC2, hm⟩; have HM := Zq62; (try have hlk0 := HLK.out _ HM.out.kept); (try have hlkn := fun n_ : Nat => HLK.out _ (HM.out.kept.drewN n_)); clear hm hl hC2) | (go_at_call 43; refine (HN.out _).mono ?_; rintro e w' ⟨rfl, ⟨nd2, rfl⟩⟩) | (at_mapUpdate; refine wpList_mapS _ rfl _ _ _ rfl m hs rfl (HD.out _ Zq28) HL.out s rfl HZ.out rfl ?_; intro w3 hm3 hg3; have HM3 := AK hm3; have HG3 := AK hg3; clear hm3 hg3))
       go_ret2
       exact ⟨rfl, by first | exact HM.out.opR Zq2 _ | exact HM.out.opR0 Zq2⟩
      | false =>
       rw [if_neg (by rw [hkb]; decide)] at h
       by_cases hl : hs.length < 1099511627776
       case neg => rw [if_neg hl] at h; cases h
       rw [if_pos hl] at h
       obtain ⟨rfl, rfl, rfl⟩ : s = s1 ∧ (0 : Int) = e1 ∧ q = q1 := by simpa using h
       have HL : Aside0 (hs.length < maxLen) := ⟨by unfold maxLen; omega⟩
       clear h hl; have HLK := Zq72; rw [hkb] at HLK; go_enter Tryz.func57, Tryz.ntmps57; go_wp2
       go_quiet (first | (go_at_call 67; (with_reducible refine (HT.out _).mono ?_); rintro e w' ⟨rfl, ⟨nd, rfl⟩⟩; (try first | exact ⟨rfl, _, World.drewN_drewN _ _ _⟩ | exact ⟨rfl, _, Eq.trans (World.drewN_drewN _ _ _) (congrArg (World.drewN _) (Nat.add_assoc _ _ _))⟩)))
       go_wp2_with (first | (go_at_call 68; refine (HK.out _ (HS.out.drewN _)).mono ?_; rintro e w' ⟨A2, c2, rfl, hl, hC2, hm⟩; have HM := Zq62; (try have hlk0 := HLK.out _ HM.out.kept); (try have hlkn := fun n_ : Nat => HLK.out _ (HM.out.kept.drewN n_)); clear hm hl hC2) | (go_at_call 43; refine (HN.out _).mono ?_; rintro e w' ⟨rfl, ⟨nd2, rfl⟩⟩) | (at_mapUpdate; refine wpList_mapS _ rfl _ _ _ rfl m hs rfl (HD.out _ Zq28) HL.out s rfl HZ.out rfl ?_; intro w3 hm3 hg3; have HM3 := AK hm3; have HG3 := AK hg3; clear hm3 hg3))
       go_ret2
       exact ⟨rfl, ⟨by have h2 := HM.out.st; repeat (first | exact RdS.grown (by first | exact h2 | exact h2.drewN _) HG3.out hm hne), Kept.of_grown HG3.out (by first | exact HM.out.kept.mono (fun _ hk => .inl hk) | exact (HM.out.kept.mono (fun _ hk => .inl hk)).drewN _) (fun k hk => .inl (.inr (by injection hk with hk; exact hk.symm))), fun _ => HM3.out⟩⟩
     ·have hz0 : (s.toList == ([] : List UInt8)) = false := beq_eq_false_iff_ne.mpr hz; have hz1 : (s.toList != ([] : List UInt8)) = true := bne_iff_ne.mpr hz; rw [if_neg (fun h0 => hz (of_decide_eq_true h0))] at h; clear hz
      obtain ⟨rfl, rfl, rfl⟩ : (⟨#[]⟩ : ByteArray) = s1 ∧ (5 : Int) = e1 ∧ q = q1 := by simpa using h
      clear h; go_enter Tryz.func57, Tryz.ntmps57; go_wp2
      go_quiet (first | (go_at_call 67; (with_reducible refine (HT.out _).mono ?_); rintro e w' ⟨rfl, ⟨nd, rfl⟩⟩; (try first | exact ⟨rfl, _, World.drewN_drewN _ _ _⟩ | exact ⟨rfl, _, Eq.trans (World.drewN_drewN _ _ _) (congrArg (World.drewN _) (Nat.add_assoc _ _ _))⟩)))
      go_wp2_with (first | (go_at_call 68; refine (HK.out _ (HS.out.drewN _)).mono ?_; rintro e w' ⟨A2, c2, rfl, hl, hC2, hm⟩; have HM := Zq62; (try have hlk0 := HLK.out _ HM.out.kept); (try have hlkn := fun n_ : Nat => HLK.out _ (HM.out.kept.drewN n_)); clear hm hl hC2) | (go_at_call 43; refine (HN.out _).mono ?_; rintro e w' ⟨rfl, ⟨nd2, rfl⟩⟩) | (at_mapUpdate; refine wpList_mapS _ rfl _ _ _ rfl m hs rfl (HD.out _ Zq28) HL.out s rfl HZ.out rfl ?_; intro w3 hm3 hg3; have HM3 := AK hm3; have HG3 := AK hg3; clear hm3 hg3))
      go_ret2
      exact ⟨rfl, HM.out.opR0 Zq2⟩
    ·rw [if_neg d1] at hb; have d1b : (d == 1) = false := beq_eq_false_iff_ne.mpr d1
     by_cases dg : d > 1
     ·rw [if_pos dg] at hb; have dgb : decide (1 < d) = true := decide_eq_true dg; have HN := AK (fun W2 => name_Node.calls k s b W2 hb); clear hb d1 dg
      cases b with
      | true =>
       rw [if_pos rfl] at h
       cases hkb : knownB hs s with
       | true =>
        rw [if_pos hkb] at h
        obtain ⟨rfl, rfl, rfl⟩ : (⟨#[]⟩ : ByteArray) = s1 ∧ (9 : Int) = e1 ∧ q = q1 := by simpa using h
        clear h; have HLK := Zq72; rw [hkb] at HLK; go_enter Tryz.func57, Tryz.ntmps57; go_wp2
        go_quiet (first | (go_at_call 67; (with_reducible refine (HT.out _).mono ?_); rintro e w' ⟨rfl, ⟨nd, rfl⟩⟩; (try first | exact ⟨rfl, _, World.drewN_drewN _ _ _⟩ | exact ⟨rfl, _, Eq.trans (World.drewN_drewN _ _ _) (congrArg (World.drewN _) (Nat.add_assoc _ _ _))⟩)))
        go_wp2_with (first | (go_at_call 68; refine (HK.out _ (HS.out.drewN _)).mono ?_; rintro e w' ⟨A2, c2, rfl, hl, hC2, hm⟩; have HM := Zq62; (try have hlk0 := HLK.out _ HM.out.kept); (try have hlkn := fun n_ : Nat => HLK.out _ (HM.out.kept.drewN n_)); clear hm hl hC2) | (go_at_call 43; refine (HN.out _).mono ?_; rintro e w' ⟨rfl, ⟨nd2, rfl⟩⟩) | (at_mapUpdate; refine wpList_mapS _ rfl _ _ _ rfl m hs rfl (HD.out _ Zq28) HL.out s rfl HZ.out rfl ?_; intro w3 hm3 hg3; have HM3 := AK hm3; have HG3 := AK hg3; clear hm3 hg3))
        go_ret2
        exact ⟨rfl, by first | exact HM.out.opR Zq2 _ | exact HM.out.opR0 Zq2⟩
       | false =>
        rw [if_neg (by rw [hkb]; decide)] at h
        by_cases hl : hs.length < 1099511627776
        case neg => rw [if_neg hl] at h; cases h
        rw [if_pos hl] at h
        obtain ⟨rfl, rfl, rfl⟩ : s = s1 ∧ (0 : Int) = e1 ∧ q = q1 := by simpa using h
        have HL : Aside0 (hs.length < maxLen) := ⟨by unfold maxLen; omega⟩
        clear h hl; have HLK := Zq72; rw [hkb] at HLK; go_enter Tryz.func57, Tryz.ntmps57; go_wp2
        go_quiet (first | (go_at_call 67; (with_reducible refine (HT.out _).mono ?_); rintro e w' ⟨rfl, ⟨nd, rfl⟩⟩; (try first | exact ⟨rfl, _, World.drewN_drewN _ _ _⟩ | exact ⟨rfl, _, Eq.trans (World.drewN_drewN _ _ _) (congrArg (World.drewN _) (Nat.add_assoc _ _ _))⟩)))
        go_wp2_with (first | (go_at_call 68; refine (HK.out _ (HS.out.drewN _)).mono ?_; rintro e w' ⟨A2, c2, rfl, hl, hC2, hm⟩; have HM := Zq62; (try have hlk0 := HLK.out _ HM.out.kept); (try have hlkn := fun n_ : Nat => HLK.out _ (HM.out.kept.drewN n_)); clear hm hl hC2) | (go_at_call 43; refine (HN.out _).mono ?_; rintro e w' ⟨rfl, ⟨nd2, rfl⟩⟩) | (at_mapUpdate; refine wpList_mapS _ rfl _ _ _ rfl m hs rfl (HD.out _ Zq28) HL.out s rfl HZ.out rfl ?_; intro w3 hm3 hg3; have HM3 := AK hm3; have HG3 := AK hg3; clear hm3 hg3))
        go_ret2
        exact ⟨rfl, ⟨by have h2 := HM.out.st; repeat (first | exact RdS.grown (by first | exact h2 | exact h2.drewN _) HG3.out hm hne), Kept.of_grown HG3.out (by first | exact HM.out.kept.mono (fun _ hk => .inl hk) | exact (HM.out.kept.mono (fun _ hk => .inl hk)).drewN _) (fun k hk => .inl (.inr (by injection hk with hk; exact hk.symm))), fun _ => HM3.out⟩⟩
      | false =>
       rw [if_neg Zq2] at h
       obtain ⟨rfl, rfl, rfl⟩ : (⟨#[]⟩ : ByteArray) = s1 ∧ (5 : Int) = e1 ∧ q = q1 := by simpa using h
       clear h; go_enter Tryz.func57, Tryz.ntmps57; go_wp2
       go_quiet (first | (go_at_call 67; (with_reducible refine (HT.out _).mono ?_); rintro e w' ⟨rfl, ⟨nd, rfl⟩⟩; (try first | exact ⟨rfl, _, World.drewN_drewN _ _ _⟩ | exact ⟨rfl, _, Eq.trans (World.drewN_drewN _ _ _) (congrArg (World.drewN _) (Nat.add_assoc _ _ _))⟩)))
       go_wp2_with (first | (go_at_call 68; refine (HK.out _ (HS.out.drewN _)).mono ?_; rintro e w' ⟨A2, c2, rfl, hl, hC2, hm⟩; have HM := Zq62; (try have hlk0 := HLK.out _ HM.out.kept); (try have hlkn := fun n_ : Nat => HLK.out _ (HM.out.kept.drewN n_)); clear hm hl hC2) | (go_at_call 43; refine (HN.out _).mono ?_; rintro e w' ⟨rfl, ⟨nd2, rfl⟩⟩) | (at_mapUpdate; refine wpList_mapS _ rfl _ _ _ rfl m hs rfl (HD.out _ Zq28) HL.out s rfl HZ.out rfl ?_; intro w3 hm3 hg3; have HM3 := AK hm3; have HG3 := AK hg3; clear hm3 hg3))
       go_ret2
       exact ⟨rfl, HM.out.opR Zq2 _⟩
     ·rw [if_neg dg] at hb; have dgb : decide (1 < d) = false := decide_eq_false dg; obtain rfl := Option.some.inj hb; rw [if_pos rfl] at h; clear hb d1 dg
      cases hkb : knownB hs s with
      | true =>
       rw [if_pos hkb] at h
       obtain ⟨rfl, rfl, rfl⟩ : (⟨#[]⟩ : ByteArray) = s1 ∧ (9 : Int) = e1 ∧ q = q1 := by simpa using h
       clear h; have HLK := Zq72; rw [hkb] at HLK; go_enter Tryz.func57, Tryz.ntmps57; go_wp2
       go_quiet (first | (go_at_call 67; (with_reducible refine (HT.out _).mono ?_); rintro e w' ⟨rfl, ⟨nd, rfl⟩⟩; (try first | exact ⟨rfl, _, World.drewN_drewN _ _ _⟩ | exact ⟨rfl, _, Eq.trans (World.drewN_drewN _ _ _) (congrArg (World.drewN _) (Nat.add_assoc _ _ _))⟩)))
       go_wp2_with (first | (go_at_call 68; refine (HK.out _ (HS.out.drewN _)).mono ?_; rintro e w' ⟨A2, c2, rfl, hl, hC2, hm⟩; have HM := Zq62; (try have hlk0 := HLK.out _ HM.out.kept); (try have hlkn := fun n_ : Nat => HLK.out _ (HM.out.kept.drewN n_)); clear hm hl hC2) | (go_at_call 43; refine (HN.out _).mono ?_; rintro e w' ⟨rfl, ⟨nd2, rfl⟩⟩) | (at_mapUpdate; refine wpList_mapS _ rfl _ _ _ rfl m hs rfl (HD.out _ Zq28) HL.out s rfl HZ.out rfl ?_; intro w3 hm3 hg3; have HM3 := AK hm3; have HG3 := AK hg3; clear hm3 hg3))
       go_ret2
       exact ⟨rfl, by first | exact HM.out.opR Zq2 _ | exact HM.out.opR0 Zq2⟩
      | false =>
       rw [if_neg (by rw [hkb]; decide)] at h
       by_cases hl : hs.length < 1099511627776
       case neg => rw [if_neg hl] at h; cases h
       rw [if_pos hl] at h
       obtain ⟨rfl, rfl, rfl⟩ : s = s1 ∧ (0 : Int) = e1 ∧ q = q1 := by simpa using h
       have HL : Aside0 (hs.length < maxLen) := ⟨by unfold maxLen; omega⟩
       clear h hl; have HLK := Zq72; rw [hkb] at HLK; go_enter Tryz.func57, Tryz.ntmps57; go_wp2
       go_quiet (first | (go_at_call 67; (with_reducible refine (HT.out _).mono ?_); rintro e w' ⟨rfl, ⟨nd, rfl⟩⟩; (try first | exact ⟨rfl, _, World.drewN_drewN _ _ _⟩ | exact ⟨rfl, _, Eq.trans (World.drewN_drewN _ _ _) (congrArg (World.drewN _) (Nat.add_assoc _ _ _))⟩)))
       go_wp2_with (first | (go_at_call 68; refine (HK.out _ (HS.out.drewN _)).mono ?_; rintro e w' ⟨A2, c2, rfl, hl, hC2, hm⟩; have HM := Zq62; (try have hlk0 := HLK.out _ HM.out.kept); (try have hlkn := fun n_ : Nat => HLK.out _ (HM.out.kept.drewN n_)); clear hm hl hC2) | (go_at_call 43; refine (HN.out _).mono ?_; rintro e w' ⟨rfl, ⟨nd2, rfl⟩⟩) | (at_mapUpdate; refine wpList_mapS _ rfl _ _ _ rfl m hs rfl (HD.out _ Zq28) HL.out s rfl HZ.out rfl ?_; intro w3 hm3 hg3; have HM3 := AK hm3; have HG3 := AK hg3; clear hm3 hg3))
       go_ret2
       exact ⟨rfl, ⟨by have h2 := HM.out.st; repeat (first | exact RdS.grown (by first | exact h2 | exact h2.drewN _) HG3.out hm hne), Kept.of_grown HG3.out (by first | exact HM.out.kept.mono (fun _ hk => .inl hk) | exact (HM.out.kept.mono (fun _ hk => .inl hk)).drewN _) (fun k hk => .inl (.inr (by injection hk with hk; exact hk.symm))), fun _ => HM3.out⟩⟩
def propF (k : Nat) (l lt : List Int) (i : Int) (hs : List ByteArray) : Option (S68 × Int × Int) :=
 if cellOk l i = true then (if cellOk l (i + 4) = true then
  (words_Text.f k lt (cellAt l (i + 4))).bind fun t =>
   if (takeF l (i + 4 + 4) (cellAt l i)).2.1 = true then (if t.2 = true then (if (t.1.size : Int) < 1099511627776 then (name_Prop.f k t.1).bind fun b => if b = true then (if knownB hs t.1 = true then some (z68, 9, (takeF l (i + 4 + 4) (cellAt l i)).2.2) else if hs.length < 1099511627776 then (bytes_Clone.f (takeF l (i + 4 + 4) (cellAt l i)).1).bind fun v => some (⟨t.1, v⟩, 0, (takeF l (i + 4 + 4) (cellAt l i)).2.2) else none) else some (z68, 5, (takeF l (i + 4 + 4) (cellAt l i)).2.2) else none) else some (z68, 4, (takeF l (i + 4 + 4) (cellAt l i)).2.2)) else some (z68, 4, (takeF l (i + 4 + 4) (cellAt l i)).2.2)
  else some (z68, 4, i + 4)) else some (z68, 4, nextAt l i)
theorem RdM.outer {w0 W W2 : World} {g : Nat} {sb st : Value} {q : Int} (h : RdM w0 W W2 g sb st q) (hg : g < W.heap.size) (h0 : w0.heap.size ≤ W.heap.size) (j : Nat) (u : Value) : RdM w0 W (W2.setCell ⟨W.heap.size, j, none⟩ u) g sb st q :=
 ⟨⟨h.st.bel.setCell h0 _, h.st.lo, blk_far h.st.blk (Nat.ne_of_lt hg) _⟩, h.kept.setCell (p := ⟨W.heap.size, j, none⟩) (.inr (Nat.le_refl _)) _⟩
theorem RdM.drewN {w0 W W2 : World} {g : Nat} {sb st : Value} {q : Int} (h : RdM w0 W W2 g sb st q) (n : Nat) : RdM w0 W (W2.drewN n) g sb st q := ⟨h.st.drewN n, h.kept.drewN n⟩
theorem OpR.outer {w0 W W2 : World} {g m : Nat} {sb st : Value} {q e : Int} {hs : List ByteArray} {s : ByteArray} (h : OpR w0 W W2 g m sb st q e hs s) (hg : g < W.heap.size) (hm : m < W.heap.size) (h0 : w0.heap.size ≤ W.heap.size) (j : Nat) (u : Value) : OpR w0 W (W2.setCell ⟨W.heap.size, j, none⟩ u) g m sb st q e hs s :=
 ⟨⟨h.st.bel.setCell h0 _, h.st.lo, blk_far h.st.blk (Nat.ne_of_lt hg) _⟩, h.kept.setCell (p := ⟨W.heap.size, j, none⟩) (.inr (Nat.le_refl _)) _, fun he => (h.map he).same (Below.heap_setCell W2 ⟨W.heap.size, j, none⟩ u m (Nat.ne_of_lt hm))⟩
theorem OpR.below {w0 W W2 W3 : World} {g m : Nat} {sb st : Value} {q e : Int} {hs : List ByteArray} {s : ByteArray} (h : OpR w0 W W2 g m sb st q e hs s) (hb : Below W2.heap.size W2 W3) : OpR w0 W W3 g m sb st q e hs s := ⟨h.st.below hb, h.kept.below hb, fun he => (h.map he).below hb⟩
theorem OpR.put {w0 W W2 W3 : World} {g m : Nat} {sb st : Value} {q : Int} {hs : List ByteArray} {s : ByteArray} (h : RdM w0 W W2 g sb st q) (hg : W2.grownBy W3 (some m)) (hM : MapS W3 m (hs ++ [s])) (hm : w0.heap.size ≤ m) (hne : g ≠ m) : OpR w0 W W3 g m sb st q 0 hs s :=
 ⟨h.st.grown hg hm hne, Kept.of_grown hg (h.kept.mono (fun _ hk => .inl hk)) (fun k hk => .inl (.inr (by injection hk with hk; exact hk.symm))), fun _ => hM⟩
theorem R_outer {w6 W2 : World} {B : Nat} {v : Value} {l : List Int} (h : Kd.R (Kd.int .u8) 5 W2 w6.heap.size (fun _ => True) v l) (hB : B < w6.heap.size) (j : Nat) (u : Value) : Kd.R (Kd.int .u8) 5 (W2.setCell ⟨B, j, none⟩ u) w6.heap.size (fun _ => True) v l :=
 Kd.R_mono (Kd.R_far (p := ⟨B, j, none⟩) (Kd.R_bound h) (fun k hk => by have := hk.2.1; simp only; omega) u) (fun _ _ => trivial)
set_option maxRecDepth 100000 in
set_option maxHeartbeats 4000000 in
theorem reader_prop.calls (k : Nat) (ab : Addr) (cb : Nat) (lb : List Int) (At : Option Addr) (ct : Nat) (lt : List Int) (at_ : Int) (hs : List ByteArray) (g m : Nat) (w0 W : World) (p1 : S68) (e1 q1 : Int) (hC : Kd.C (Kd.int .u8) w0 (some ab) lb.length lb) (hc : lb.length ≤ cb) (hCt : Kd.C (Kd.int .u8) w0 At lt.length lt) (hct : lt.length ≤ ct) (hS : RdS w0 W g (.slice (some ab) lb.length cb) (.slice At lt.length ct) at_) (hD : MapS W m hs) (hm : w0.heap.size ≤ m) (hne : g ≠ m) (h : propF k lb lt at_ hs = some (p1, e1, q1)) :
  Calls Tryz.prog 58 #[.pointer (some ⟨g, 0, none⟩), .map (some m)] W fun e w' => ∃ v : Value, e = .returned (.tuple #[.agg #[.string p1.f0, v], .int .i64 e1]) ∧ OpR w0 W w' g m (.slice (some ab) lb.length cb) (.slice At lt.length ct) q1 e1 hs p1.f0 ∧ Kd.R (Kd.int .u8) 5 w' W.heap.size (fun _ => True) v p1.f1 := by
 unfold propF at h; have HS := AK hS; have HG := AK (blk_lt hS.blk); have hS1 := hS.below (below_alloc (Below.refl W.heap.size W) (.cells #[.string ⟨#[]⟩, .slice none 0 0] 68)); have HM := AK (RdM.mk hS1 ((Kept.refl W (fun k => k = g)).alloc (.cells #[.string ⟨#[]⟩, .slice none 0 0] 68))); have BK := AK (blk_new W (.cells #[.string ⟨#[]⟩, .slice none 0 0] 68 (0, 0))); have HCEL := AK (fun i W2 hS2 => reader_cell.calls (some ab) cb lb (.slice At lt.length ct) i g w0 W2 hC hc hS2); have HCB := AK hC; have HCT := AK hCt; have HCC := AK hc; have HCCT := AK hct; have HD := AK (fun W2 (hk : Kept W W2 (fun k => k = g)) => hD.kept hk (fun e => hne e.symm)); have HLTM := AK hD.lt
 have N1 : Aside0 (nextAt lb at_ = if cellOk lb at_ = true then at_ + 4 else at_) := ⟨rfl⟩
 have N2 : Aside0 (nextAt lb (at_ + 4) = if cellOk lb (at_ + 4) = true then at_ + 4 + 4 else at_ + 4) := ⟨rfl⟩
 have R1 := AK (cellOk_range lb at_); have R2 := AK (cellOk_range lb (at_ + 4)); have V1 := cellAt_range lb at_; have V2 := cellAt_range lb (at_ + 4); clear hC hc hCt hct hS hD hS1
 cases ha : cellOk lb at_ with
 | false =>
  rw [if_neg (by rw [ha]; decide)] at h
  have N1 : Aside0 (nextAt lb at_ = at_) := ⟨N1.out.trans (if_neg (by rw [ha]; decide))⟩
  rw [N1.out] at h
  obtain ⟨rfl, rfl, rfl⟩ : z68 = p1 ∧ (4 : Int) = e1 ∧ at_ = q1 := by simpa using h
  have HC1 := HCEL.out at_; rw [ha, N1.out] at HC1; have HC1 := AK HC1; clear h HCEL N1 N2 R1 R2; go_enter Tryz.func58, Tryz.ntmps58; (go_wp2_with (go_at_call 56; refine (HC1.out _ HM.out.st).mono ?_; rintro e w1 ⟨rfl, hm⟩; have BK := Zq60; have HM := AK (HM.out.then_ hm); clear hm; have z0 : w1.cell? ⟨W.heap.size, 0, none⟩ = some (.string ⟨#[]⟩) := (blk_cell BK.out 0).trans rfl; have z1 : w1.cell? ⟨W.heap.size, 1, none⟩ = some (.slice none 0 0) := (blk_cell BK.out 1).trans rfl; have y0 : w1.frozen? ⟨W.heap.size, 0, none⟩ = false := blk_frozen BK.out 0; have y1 : w1.frozen? ⟨W.heap.size, 1, none⟩ = false := blk_frozen BK.out 1; have kx1 : w1.cell? ⟨g, 1, none⟩ = some (.slice At lt.length ct) := (blk_cell HM.out.st.blk 1).trans rfl)); refine bodyPost_ret (results_ct rfl _ _ W.heap.size 68 #[.string ⟨#[]⟩, .slice none 0 0] (0, 0) _ rfl Zq44 Tryz.underlying68 rfl Zq3) rfl ⟨.slice none 0 0, rfl, ?_, Kd.R_nil _ _ _ _ _⟩; exact RdM.opR0 (RdM.outer (RdM.outer Zq45 HG.out HS.out.bel.size 0 _) HG.out HS.out.bel.size 1 _) Zq2
 | true =>
  rw [if_pos ha] at h
  have N1 : Aside0 (nextAt lb at_ = at_ + 4) := ⟨N1.out.trans (if_pos ha)⟩
  have R1 := AK (R1.out ha); have HC1 := HCEL.out at_; rw [ha, N1.out] at HC1; have HC1 := AK HC1
  cases hb : cellOk lb (at_ + 4) with
  | false =>
   rw [if_neg (by rw [hb]; decide)] at h
   have N2 : Aside0 (nextAt lb (at_ + 4) = at_ + 4) := ⟨N2.out.trans (if_neg (by rw [hb]; decide))⟩
   obtain ⟨rfl, rfl, rfl⟩ : z68 = p1 ∧ (4 : Int) = e1 ∧ at_ + 4 = q1 := by simpa using h
   have HC2 := HCEL.out (at_ + 4); rw [hb, N2.out] at HC2; have HC2 := AK HC2; clear h HCEL N1 N2 R1 R2; go_enter Tryz.func58, Tryz.ntmps58; (go_wp2_with (first | (go_at_call 56; refine (HC1.out _ HM.out.st).mono ?_; rintro e w1 ⟨rfl, hm⟩; have BK := Zq60; have HM := AK (HM.out.then_ hm); clear hm; have z0 : w1.cell? ⟨W.heap.size, 0, none⟩ = some (.string ⟨#[]⟩) := (blk_cell BK.out 0).trans rfl; have z1 : w1.cell? ⟨W.heap.size, 1, none⟩ = some (.slice none 0 0) := (blk_cell BK.out 1).trans rfl; have y0 : w1.frozen? ⟨W.heap.size, 0, none⟩ = false := blk_frozen BK.out 0; have y1 : w1.frozen? ⟨W.heap.size, 1, none⟩ = false := blk_frozen BK.out 1; have kx1 : w1.cell? ⟨g, 1, none⟩ = some (.slice At lt.length ct) := (blk_cell HM.out.st.blk 1).trans rfl) | (go_at_call 56; refine (HC2.out _ HM.out.st).mono ?_; rintro e w2 ⟨rfl, hm⟩; have BK := Zq60; have HM := AK (HM.out.then_ hm); clear hm; have z0 : w2.cell? ⟨W.heap.size, 0, none⟩ = some (.string ⟨#[]⟩) := (blk_cell BK.out 0).trans rfl; have z1 : w2.cell? ⟨W.heap.size, 1, none⟩ = some (.slice none 0 0) := (blk_cell BK.out 1).trans rfl; have y0 : w2.frozen? ⟨W.heap.size, 0, none⟩ = false := blk_frozen BK.out 0; have y1 : w2.frozen? ⟨W.heap.size, 1, none⟩ = false := blk_frozen BK.out 1; have kx1 : w2.cell? ⟨g, 1, none⟩ = some (.slice At lt.length ct) := (blk_cell HM.out.st.blk 1).trans rfl))); refine bodyPost_ret (results_ct rfl _ _ W.heap.size 68 #[.string ⟨#[]⟩, .slice none 0 0] (0, 0) _ rfl Zq44 Tryz.underlying68 rfl Zq3) rfl ⟨.slice none 0 0, rfl, ?_, Kd.R_nil _ _ _ _ _⟩; exact RdM.opR0 (RdM.outer (RdM.outer Zq45 HG.out HS.out.bel.size 0 _) HG.out HS.out.bel.size 1 _) Zq2
  | true =>
   rw [if_pos hb] at h
   have N2 : Aside0 (nextAt lb (at_ + 4) = at_ + 4 + 4) := ⟨N2.out.trans (if_pos hb)⟩
   have R2 := AK (R2.out hb); have HC2 := HCEL.out (at_ + 4); rw [hb, N2.out] at HC2; have HC2 := AK HC2; obtain ⟨⟨s, fine⟩, hx, h⟩ := Option.bind_eq_some_iff.mp h; have HX := AK (fun W2 (hb : Below w0.heap.size w0 W2) => words_Text.calls k At ct lt (cellAt lb (at_ + 4)) s fine W2 (Kd.C_below HCT.out hb) HCCT.out hx); have HK := AK (fun W2 hS2 => reader_take.calls ab cb lb (.slice At lt.length ct) (at_ + 4 + 4) (cellAt lb at_) g w0 W2 HCB.out HCC.out hS2 (by have := R2.out; omega) (by have := R2.out; omega) V1.1 (by have := V1.2; omega)); have v10 := V1.1; have v11 := V1.2; have v20 := V2.1; have v21 := V2.2
   obtain ⟨⟨y, ok2, q⟩, hy⟩ : ∃ y, y = takeF lb (at_ + 4 + 4) (cellAt lb at_) := ⟨_, rfl⟩
   obtain ⟨c1, hc1⟩ : ∃ c, c = cellAt lb at_ := ⟨_, rfl⟩
   obtain ⟨c2, hc2⟩ : ∃ c, c = cellAt lb (at_ + 4) := ⟨_, rfl⟩
   rw [← hy] at h HK; rw [← hc1] at HC1 HK v10 v11; rw [← hc2] at HC2 HX v20 v21; clear hy hc1 hc2 hx HCEL N1 N2 R1 R2 V1 V2 ha hb; simp only at h HK
   cases ok2 with
   | false =>
    rw [if_neg Zq2] at h
    obtain ⟨rfl, rfl, rfl⟩ : z68 = p1 ∧ (4 : Int) = e1 ∧ q = q1 := by simpa using h
    clear h; go_enter Tryz.func58, Tryz.ntmps58; (go_wp2_with (first | (first | (go_at_call 56; refine (HC1.out _ HM.out.st).mono ?_; rintro e w1 ⟨rfl, hm⟩; have BK := Zq60; have HM := AK (HM.out.then_ hm); clear hm; have z0 : w1.cell? ⟨W.heap.size, 0, none⟩ = some (.string ⟨#[]⟩) := (blk_cell BK.out 0).trans rfl; have z1 : w1.cell? ⟨W.heap.size, 1, none⟩ = some (.slice none 0 0) := (blk_cell BK.out 1).trans rfl; have y0 : w1.frozen? ⟨W.heap.size, 0, none⟩ = false := blk_frozen BK.out 0; have y1 : w1.frozen? ⟨W.heap.size, 1, none⟩ = false := blk_frozen BK.out 1; have kx1 : w1.cell? ⟨g, 1, none⟩ = some (.slice At lt.length ct) := (blk_cell HM.out.st.blk 1).trans rfl) | (go_at_call 56; refine (HC2.out _ HM.out.st).mono ?_; rintro e w2 ⟨rfl, hm⟩; have BK := Zq60; have HM := AK (HM.out.then_ hm); clear hm; have z0 : w2.cell? ⟨W.heap.size, 0, none⟩ = some (.string ⟨#[]⟩) := (blk_cell BK.out 0).trans rfl; have z1 : w2.cell? ⟨W.heap.size, 1, none⟩ = some (.slice none 0 0) := (blk_cell BK.out 1).trans rfl; have y0 : w2.frozen? ⟨W.heap.size, 0, none⟩ = false := blk_frozen BK.out 0; have y1 : w2.frozen? ⟨W.heap.size, 1, none⟩ = false := blk_frozen BK.out 1; have kx1 : w2.cell? ⟨g, 1, none⟩ = some (.slice At lt.length ct) := (blk_cell HM.out.st.blk 1).trans rfl)) | (go_at_call 68; refine (HK.out _ HM.out.st).mono ?_; rintro e w3 ⟨A2, c2_, rfl, hl2, hC2, hm⟩; have HY := AK hC2; have HYL := AK hl2; clear hC2 hl2; have BK := Zq60; have HM := AK (HM.out.then_ hm); clear hm; have z0 : w3.cell? ⟨W.heap.size, 0, none⟩ = some (.string ⟨#[]⟩) := (blk_cell BK.out 0).trans rfl; have z1 : w3.cell? ⟨W.heap.size, 1, none⟩ = some (.slice none 0 0) := (blk_cell BK.out 1).trans rfl; have y0 : w3.frozen? ⟨W.heap.size, 0, none⟩ = false := blk_frozen BK.out 0; have y1 : w3.frozen? ⟨W.heap.size, 1, none⟩ = false := blk_frozen BK.out 1; have kx1 : w3.cell? ⟨g, 1, none⟩ = some (.slice At lt.length ct) := (blk_cell HM.out.st.blk 1).trans rfl; (try have hlk0 := HLK.out _ HM.out.kept); (try have hlkn := fun n_ : Nat => HLK.out _ (HM.out.kept.drewN n_))) | (go_at_call 67; refine (HX.out _ HM.out.st.bel).mono ?_; rintro e w4 ⟨rfl, ⟨nd, rfl⟩⟩) | (go_at_call 46; refine (HN.out _).mono ?_; rintro e w5 ⟨rfl, ⟨nd2, rfl⟩⟩))); refine bodyPost_ret (results_ct rfl _ _ W.heap.size 68 #[.string ⟨#[]⟩, .slice none 0 0] (0, 0) _ rfl Zq44 Tryz.underlying68 rfl Zq3) rfl ⟨.slice none 0 0, rfl, ?_, Kd.R_nil _ _ _ _ _⟩; exact RdM.opR0 (RdM.outer (RdM.outer Zq45 HG.out HS.out.bel.size 0 _) HG.out HS.out.bel.size 1 _) Zq2
   | true =>
    rw [if_pos rfl] at h
    cases fine with
    | false =>
     rw [if_neg Zq2] at h
     obtain ⟨rfl, rfl, rfl⟩ : z68 = p1 ∧ (4 : Int) = e1 ∧ q = q1 := by simpa using h
     clear h; go_enter Tryz.func58, Tryz.ntmps58; (go_wp2_with (first | (first | (go_at_call 56; refine (HC1.out _ HM.out.st).mono ?_; rintro e w1 ⟨rfl, hm⟩; have BK := Zq60; have HM := AK (HM.out.then_ hm); clear hm; have z0 : w1.cell? ⟨W.heap.size, 0, none⟩ = some (.string ⟨#[]⟩) := (blk_cell BK.out 0).trans rfl; have z1 : w1.cell? ⟨W.heap.size, 1, none⟩ = some (.slice none 0 0) := (blk_cell BK.out 1).trans rfl; have y0 : w1.frozen? ⟨W.heap.size, 0, none⟩ = false := blk_frozen BK.out 0; have y1 : w1.frozen? ⟨W.heap.size, 1, none⟩ = false := blk_frozen BK.out 1; have kx1 : w1.cell? ⟨g, 1, none⟩ = some (.slice At lt.length ct) := (blk_cell HM.out.st.blk 1).trans rfl) | (go_at_call 56; refine (HC2.out _ HM.out.st).mono ?_; rintro e w2 ⟨rfl, hm⟩; have BK := Zq60; have HM := AK (HM.out.then_ hm); clear hm; have z0 : w2.cell? ⟨W.heap.size, 0, none⟩ = some (.string ⟨#[]⟩) := (blk_cell BK.out 0).trans rfl; have z1 : w2.cell? ⟨W.heap.size, 1, none⟩ = some (.slice none 0 0) := (blk_cell BK.out 1).trans rfl; have y0 : w2.frozen? ⟨W.heap.size, 0, none⟩ = false := blk_frozen BK.out 0; have y1 : w2.frozen? ⟨W.heap.size, 1, none⟩ = false := blk_frozen BK.out 1; have kx1 : w2.cell? ⟨g, 1, none⟩ = some (.slice At lt.length ct) := (blk_cell HM.out.st.blk 1).trans rfl)) | (go_at_call 68; refine (HK.out _ HM.out.st).mono ?_; rintro e w3 ⟨A2, c2_, rfl, hl2, hC2, hm⟩; have HY := AK hC2; have HYL := AK hl2; clear hC2 hl2; have BK := Zq60; have HM := AK (HM.out.then_ hm); clear hm; have z0 : w3.cell? ⟨W.heap.size, 0, none⟩ = some (.string ⟨#[]⟩) := (blk_cell BK.out 0).trans rfl; have z1 : w3.cell? ⟨W.heap.size, 1, none⟩ = some (.slice none 0 0) := (blk_cell BK.out 1).trans rfl; have y0 : w3.frozen? ⟨W.heap.size, 0, none⟩ = false := blk_frozen BK.out 0; have y1 : w3.frozen? ⟨W.heap.size, 1, none⟩ = false := blk_frozen BK.out 1; have kx1 : w3.cell? ⟨g, 1, none⟩ = some (.slice At lt.length ct) := (blk_cell HM.out.st.blk 1).trans rfl; (try have hlk0 := HLK.out _ HM.out.kept); (try have hlkn := fun n_ : Nat => HLK.out _ (HM.out.kept.drewN n_))) | (go_at_call 67; refine (HX.out _ HM.out.st.bel).mono ?_; rintro e w4 ⟨rfl, ⟨nd, rfl⟩⟩) | (go_at_call 46; refine (HN.out _).mono ?_; rintro e w5 ⟨rfl, ⟨nd2, rfl⟩⟩))); refine bodyPost_ret (results_ct rfl _ _ W.heap.size 68 #[.string ⟨#[]⟩, .slice none 0 0] (0, 0) _ rfl Zq44 Tryz.underlying68 rfl Zq3) rfl ⟨.slice none 0 0, rfl, ?_, Kd.R_nil _ _ _ _ _⟩; exact RdM.opR0 (RdM.outer (RdM.outer Zq45 HG.out HS.out.bel.size 0 _) HG.out HS.out.bel.size 1 _) Zq2
    | true =>
     rw [if_pos rfl] at h
     by_cases hz : (s.size : Int) < 1099511627776
     case neg => rw [if_neg hz] at h; cases h
     rw [if_pos hz] at h
     have HZ : Aside0 (s.size ≤ maxLen) := ⟨by unfold maxLen; omega⟩
     obtain ⟨b, hb, h⟩ := Option.bind_eq_some_iff.mp h; have HN := AK (fun W2 => name_Prop.calls k s b W2 hb); clear hz hb
     cases b with
     | false =>
      rw [if_neg Zq2] at h
      obtain ⟨rfl, rfl, rfl⟩ : z68 = p1 ∧ (5 : Int) = e1 ∧ q = q1 := by simpa using h
      clear h; go_enter Tryz.func58, Tryz.ntmps58; (go_wp2_with (first | (first | (go_at_call 56; refine (HC1.out _ HM.out.st).mono ?_; rintro e w1 ⟨rfl, hm⟩; have BK := Zq60; have HM := AK (HM.out.then_ hm); clear hm; have z0 : w1.cell? ⟨W.heap.size, 0, none⟩ = some (.string ⟨#[]⟩) := (blk_cell BK.out 0).trans rfl; have z1 : w1.cell? ⟨W.heap.size, 1, none⟩ = some (.slice none 0 0) := (blk_cell BK.out 1).trans rfl; have y0 : w1.frozen? ⟨W.heap.size, 0, none⟩ = false := blk_frozen BK.out 0; have y1 : w1.frozen? ⟨W.heap.size, 1, none⟩ = false := blk_frozen BK.out 1; have kx1 : w1.cell? ⟨g, 1, none⟩ = some (.slice At lt.length ct) := (blk_cell HM.out.st.blk 1).trans rfl) | (go_at_call 56; refine (HC2.out _ HM.out.st).mono ?_; rintro e w2 ⟨rfl, hm⟩; have BK := Zq60; have HM := AK (HM.out.then_ hm); clear hm; have z0 : w2.cell? ⟨W.heap.size, 0, none⟩ = some (.string ⟨#[]⟩) := (blk_cell BK.out 0).trans rfl; have z1 : w2.cell? ⟨W.heap.size, 1, none⟩ = some (.slice none 0 0) := (blk_cell BK.out 1).trans rfl; have y0 : w2.frozen? ⟨W.heap.size, 0, none⟩ = false := blk_frozen BK.out 0; have y1 : w2.frozen? ⟨W.heap.size, 1, none⟩ = false := blk_frozen BK.out 1; have kx1 : w2.cell? ⟨g, 1, none⟩ = some (.slice At lt.length ct) := (blk_cell HM.out.st.blk 1).trans rfl)) | (go_at_call 68; refine (HK.out _ HM.out.st).mono ?_; rintro e w3 ⟨A2, c2_, rfl, hl2, hC2, hm⟩; have HY := AK hC2; have HYL := AK hl2; clear hC2 hl2; have BK := Zq60; have HM := AK (HM.out.then_ hm); clear hm; have z0 : w3.cell? ⟨W.heap.size, 0, none⟩ = some (.string ⟨#[]⟩) := (blk_cell BK.out 0).trans rfl; have z1 : w3.cell? ⟨W.heap.size, 1, none⟩ = some (.slice none 0 0) := (blk_cell BK.out 1).trans rfl; have y0 : w3.frozen? ⟨W.heap.size, 0, none⟩ = false := blk_frozen BK.out 0; have y1 : w3.frozen? ⟨W.heap.size, 1, none⟩ = false := blk_frozen BK.out 1; have kx1 : w3.cell? ⟨g, 1, none⟩ = some (.slice At lt.length ct) := (blk_cell HM.out.st.blk 1).trans rfl; (try have hlk0 := HLK.out _ HM.out.kept); (try have hlkn := fun n_ : Nat => HLK.out _ (HM.out.kept.drewN n_))) | (go_at_call 67; refine (HX.out _ HM.out.st.bel).mono ?_; rintro e w4 ⟨rfl, ⟨nd, rfl⟩⟩) | (go_at_call 46; refine (HN.out _).mono ?_; rintro e w5 ⟨rfl, ⟨nd2, rfl⟩⟩))); refine bodyPost_ret (results_ct rfl _ _ W.heap.size 68 #[.string ⟨#[]⟩, .slice none 0 0] (0, 0) _ rfl Zq44 Tryz.underlying68 rfl Zq3) rfl ⟨.slice none 0 0, rfl, ?_, Kd.R_nil _ _ _ _ _⟩; exact RdM.opR0 (RdM.outer (RdM.outer Zq45 HG.out HS.out.bel.size 0 _) HG.out HS.out.bel.size 1 _) Zq2
     | true =>
      rw [if_pos rfl] at h
      cases hkb : knownB hs s with
      | true =>
       rw [if_pos hkb] at h
       obtain ⟨rfl, rfl, rfl⟩ : z68 = p1 ∧ (9 : Int) = e1 ∧ q = q1 := by simpa using h
       clear h; have HLK := Zq72; rw [hkb] at HLK; go_enter Tryz.func58, Tryz.ntmps58; (go_wp2_with (first | (first | (go_at_call 56; refine (HC1.out _ HM.out.st).mono ?_; rintro e w1 ⟨rfl, hm⟩; have BK := Zq60; have HM := AK (HM.out.then_ hm); clear hm; have z0 : w1.cell? ⟨W.heap.size, 0, none⟩ = some (.string ⟨#[]⟩) := (blk_cell BK.out 0).trans rfl; have z1 : w1.cell? ⟨W.heap.size, 1, none⟩ = some (.slice none 0 0) := (blk_cell BK.out 1).trans rfl; have y0 : w1.frozen? ⟨W.heap.size, 0, none⟩ = false := blk_frozen BK.out 0; have y1 : w1.frozen? ⟨W.heap.size, 1, none⟩ = false := blk_frozen BK.out 1; have kx1 : w1.cell? ⟨g, 1, none⟩ = some (.slice At lt.length ct) := (blk_cell HM.out.st.blk 1).trans rfl) | (go_at_call 56; refine (HC2.out _ HM.out.st).mono ?_; rintro e w2 ⟨rfl, hm⟩; have BK := Zq60; have HM := AK (HM.out.then_ hm); clear hm; have z0 : w2.cell? ⟨W.heap.size, 0, none⟩ = some (.string ⟨#[]⟩) := (blk_cell BK.out 0).trans rfl; have z1 : w2.cell? ⟨W.heap.size, 1, none⟩ = some (.slice none 0 0) := (blk_cell BK.out 1).trans rfl; have y0 : w2.frozen? ⟨W.heap.size, 0, none⟩ = false := blk_frozen BK.out 0; have y1 : w2.frozen? ⟨W.heap.size, 1, none⟩ = false := blk_frozen BK.out 1; have kx1 : w2.cell? ⟨g, 1, none⟩ = some (.slice At lt.length ct) := (blk_cell HM.out.st.blk 1).trans rfl)) | (go_at_call 68; refine (HK.out _ HM.out.st).mono ?_; rintro e w3 ⟨A2, c2_, rfl, hl2, hC2, hm⟩; have HY := AK hC2; have HYL := AK hl2; clear hC2 hl2; have BK := Zq60; have HM := AK (HM.out.then_ hm); clear hm; have z0 : w3.cell? ⟨W.heap.size, 0, none⟩ = some (.string ⟨#[]⟩) := (blk_cell BK.out 0).trans rfl; have z1 : w3.cell? ⟨W.heap.size, 1, none⟩ = some (.slice none 0 0) := (blk_cell BK.out 1).trans rfl; have y0 : w3.frozen? ⟨W.heap.size, 0, none⟩ = false := blk_frozen BK.out 0; have y1 : w3.frozen? ⟨W.heap.size, 1, none⟩ = false := blk_frozen BK.out 1; have kx1 : w3.cell? ⟨g, 1, none⟩ = some (.slice At lt.length ct) := (blk_cell HM.out.st.blk 1).trans rfl; (try have hlk0 := HLK.out _ HM.out.kept); (try have hlkn := fun n_ : Nat => HLK.out _ (HM.out.kept.drewN n_))) | (go_at_call 67; refine (HX.out _ HM.out.st.bel).mono ?_; rintro e w4 ⟨rfl, ⟨nd, rfl⟩⟩) | (go_at_call 46; refine (HN.out _).mono ?_; rintro e w5 ⟨rfl, ⟨nd2, rfl⟩⟩))); refine bodyPost_ret (results_ct rfl _ _ W.heap.size 68 #[.string ⟨#[]⟩, .slice none 0 0] (0, 0) _ rfl Zq44 Tryz.underlying68 rfl Zq3) rfl ⟨.slice none 0 0, rfl, ?_, Kd.R_nil _ _ _ _ _⟩; exact RdM.opR0 (RdM.outer (RdM.outer Zq45 HG.out HS.out.bel.size 0 _) HG.out HS.out.bel.size 1 _) Zq2
      | false =>
       rw [if_neg (by rw [hkb]; decide)] at h
       by_cases hl : hs.length < 1099511627776
       case neg => rw [if_neg hl] at h; cases h
       rw [if_pos hl] at h; obtain ⟨v, hv, h⟩ := Option.bind_eq_some_iff.mp h
       obtain ⟨rfl, rfl, rfl⟩ : (⟨s, v⟩ : S68) = p1 ∧ (0 : Int) = e1 ∧ q = q1 := by simpa using h
       have HL : Aside0 (hs.length < maxLen) := ⟨by unfold maxLen; omega⟩
       have HV := AK hv; clear h hl hv; have HLK := Zq72; rw [hkb] at HLK; go_enter Tryz.func58, Tryz.ntmps58; (go_wp2_with (first | (at_mapUpdate; refine wpList_mapS _ rfl _ _ _ rfl m hs rfl (HD.out _ Zq28) HL.out s rfl HZ.out rfl ?_; intro w6 hm6 hg6; have HO := AK (OpR.put (RdM.drewN HM.out _) hg6 hm6 hm hne); have BK6 := AK (blk_grown (blk_drewN BK.out _) hg6 (fun e => Nat.ne_of_gt HLTM.out (by injection e))); clear hm6 hg6) | (go_at_call 69; refine (bytes_Clone.calls A2 c2_ y v _ (Kd.C_below HY.out HO.out.st.bel) HYL.out HV.out).mono ?_; rintro e w7 ⟨v0, rfl, hr7, hb7⟩; obtain ⟨Av, cv, rfl⟩ := Kd.R_slice hr7; have HR7 := AK hr7; have HO := AK (HO.out.below hb7); have HB6 := AK (blk_lt BK6.out); have BK := AK (blk_below BK6.out hb7); clear hr7 hb7; have z0 : w7.cell? ⟨W.heap.size, 0, none⟩ = some (.string ⟨#[]⟩) := (blk_cell BK.out 0).trans rfl; have z1 : w7.cell? ⟨W.heap.size, 1, none⟩ = some (.slice none 0 0) := (blk_cell BK.out 1).trans rfl; have y0 : w7.frozen? ⟨W.heap.size, 0, none⟩ = false := blk_frozen BK.out 0; have y1 : w7.frozen? ⟨W.heap.size, 1, none⟩ = false := blk_frozen BK.out 1) | (first | (go_at_call 56; refine (HC1.out _ HM.out.st).mono ?_; rintro e w1 ⟨rfl, hm⟩; have BK := Zq60; have HM := AK (HM.out.then_ hm); clear hm; have z0 : w1.cell? ⟨W.heap.size, 0, none⟩ = some (.string ⟨#[]⟩) := (blk_cell BK.out 0).trans rfl; have z1 : w1.cell? ⟨W.heap.size, 1, none⟩ = some (.slice none 0 0) := (blk_cell BK.out 1).trans rfl; have y0 : w1.frozen? ⟨W.heap.size, 0, none⟩ = false := blk_frozen BK.out 0; have y1 : w1.frozen? ⟨W.heap.size, 1, none⟩ = false := blk_frozen BK.out 1; have kx1 : w1.cell? ⟨g, 1, none⟩ = some (.slice At lt.length ct) := (blk_cell HM.out.st.blk 1).trans rfl) | (go_at_call 56; refine (HC2.out _ HM.out.st).mono ?_; rintro e w2 ⟨rfl, hm⟩; have BK := Zq60; have HM := AK (HM.out.then_ hm); clear hm; have z0 : w2.cell? ⟨W.heap.size, 0, none⟩ = some (.string ⟨#[]⟩) := (blk_cell BK.out 0).trans rfl; have z1 : w2.cell? ⟨W.heap.size, 1, none⟩ = some (.slice none 0 0) := (blk_cell BK.out 1).trans rfl; have y0 : w2.frozen? ⟨W.heap.size, 0, none⟩ = false := blk_frozen BK.out 0; have y1 : w2.frozen? ⟨W.heap.size, 1, none⟩ = false := blk_frozen BK.out 1; have kx1 : w2.cell? ⟨g, 1, none⟩ = some (.slice At lt.length ct) := (blk_cell HM.out.st.blk 1).trans rfl)) | (go_at_call 68; refine (HK.out _ HM.out.st).mono ?_; rintro e w3 ⟨A2, c2_, rfl, hl2, hC2, hm⟩; have HY := AK hC2; have HYL := AK hl2; clear hC2 hl2; have BK := Zq60; have HM := AK (HM.out.then_ hm); clear hm; have z0 : w3.cell? ⟨W.heap.size, 0, none⟩ = some (.string ⟨#[]⟩) := (blk_cell BK.out 0).trans rfl; have z1 : w3.cell? ⟨W.heap.size, 1, none⟩ = some (.slice none 0 0) := (blk_cell BK.out 1).trans rfl; have y0 : w3.frozen? ⟨W.heap.size, 0, none⟩ = false := blk_frozen BK.out 0; have y1 : w3.frozen? ⟨W.heap.size, 1, none⟩ = false := blk_frozen BK.out 1; have kx1 : w3.cell? ⟨g, 1, none⟩ = some (.slice At lt.length ct) := (blk_cell HM.out.st.blk 1).trans rfl; (try have hlk0 := HLK.out _ HM.out.kept); (try have hlkn := fun n_ : Nat => HLK.out _ (HM.out.kept.drewN n_))) | (go_at_call 67; refine (HX.out _ HM.out.st.bel).mono ?_; rintro e w4 ⟨rfl, ⟨nd, rfl⟩⟩) | (go_at_call 46; refine (HN.out _).mono ?_; rintro e w5 ⟨rfl, ⟨nd2, rfl⟩⟩))); refine bodyPost_ret (results_ct rfl _ _ W.heap.size 68 #[.string s, .slice Av v.length cv] (0, 0) _ rfl (by refine blk_put (cs := #[.string s, .slice none 0 0]) ?_ 1 _ rfl; refine blk_put (cs := #[.string ⟨#[]⟩, .slice none 0 0]) ?_ 0 _ rfl; exact BK.out) Tryz.underlying68 rfl Zq3) rfl ⟨.slice Av v.length cv, rfl, ?_, ?_⟩; (·exact OpR.outer (OpR.outer HO.out HG.out HLTM.out HS.out.bel.size 0 _) HG.out HLTM.out HS.out.bel.size 1 _); (·exact Kd.R_lower (R_outer (R_outer HR7.out HB6.out 0 _) HB6.out 1 _) (Nat.le_of_lt HB6.out))
mutual
/-- A node behind its BEGIN, what is wrong with it, and where the next byte is. -/
def nodeF : Nat → List Int → List Int → Int → List ByteArray → Int → Option (S27 × Int × Int)
 | 0, _, _, _, _, _ => none
 | k + 1, l, lt, i, hs, d => (openF k l i hs d).bind fun o => if o.2.1 = 0 then nodeL k l lt o.2.2 o.1 d [] [] else some (z27, o.2.1, o.2.2)
def nodeL : Nat → List Int → List Int → Int → ByteArray → Int → List S68 → List S27 → Option (S27 × Int × Int)
 | 0, _, _, _, _, _, _, _ => none
 | k + 1, l, lt, i, s, d, ps, ks => (tokF k l i).bind fun t =>
  if t.2.1 = true then (if t.1 = 9 then some (z27, 4, t.2.2) else if t.1 = 3 then (if 0 < ks.length then some (z27, 4, t.2.2) else
    (propF k l lt t.2.2 (ps.map (·.f0))).bind fun p => if p.2.1 = 0 then (if ps.length + 1 < 1099511627776 then nodeL k l lt p.2.2 s d (ps ++ [p.1]) ks else none) else some (z27, p.2.1, p.2.2))
   else if t.1 = 2 then some (⟨s, ps, ks⟩, 0, t.2.2)
   else (nodeF k l lt t.2.2 (ks.map (·.f0)) (wrap64 (d + 1))).bind fun x => if x.2.1 = 0 then (if ks.length + 1 < 1099511627776 then nodeL k l lt x.2.2 s d ps (ks ++ [x.1]) else none) else some (z27, x.2.1, x.2.2))
  else some (z27, 4, t.2.2)
end
structure NdC (w0 wL : World) (g gn g6 m mp mk : Nat) : Prop where
 bg : g < wL.heap.size
 bgn : gn < wL.heap.size
 b6 : g6 < wL.heap.size
 bm : m < wL.heap.size
 bmp : mp < wL.heap.size
 bmk : mk < wL.heap.size
 lon : w0.heap.size ≤ gn
 lop : w0.heap.size ≤ mp
 lok : w0.heap.size ≤ mk
 ggn : g ≠ gn
 ggp : g ≠ mp
 ggk : g ≠ mk
 gnp : gn ≠ mp
 gnk : gn ≠ mk
 pk : mp ≠ mk
 six : g6 ≠ g ∧ g6 ≠ gn ∧ g6 ≠ mp ∧ g6 ≠ mk
 mm : m ≠ g ∧ m ≠ gn ∧ m ≠ mp ∧ m ≠ mk
structure NdS (w0 wL W : World) (g gn mp mk : Nat) (sb st : Value) (i : Int) (s : ByteArray) (hp hk : List ByteArray) (A1 : Option Addr) (c1 : Nat) (ps : List S68) (A2 : Option Addr) (c2 : Nat) (ks : List S27) : Prop where
 rs : RdS w0 W g sb st i
 kept : Kept wL W (fun k => k = g ∨ k = mp ∨ k = mk ∨ k = gn)
 mP : MapS W mp hp
 mK : MapS W mk hk
 blk : W.heap[gn]? = some (.cells #[.string s, .slice A1 ps.length c1, .slice A2 ks.length c2] 27 (0, 0))
 rp : Kd.R k68 68 W wL.heap.size (fun _ => True) (.slice A1 ps.length c1) ps
 rk : Kd.R k27 27 W wL.heap.size (fun _ => True) (.slice A2 ks.length c2) ks
section
variable {w0 wL W W2 : World} {g gn g6 m mp mk : Nat} {sb st : Value} {i q : Int} {s : ByteArray} {hp hk : List ByteArray} {A1 A2 : Option Addr} {c1 c2 : Nat} {ps : List S68} {ks : List S27}
theorem NdS.moved (h : NdS w0 wL W g gn mp mk sb st i s hp hk A1 c1 ps A2 c2 ks) (C : NdC w0 wL g gn g6 m mp mk) (hm : RdM w0 W W2 g sb st q) : NdS w0 wL W2 g gn mp mk sb st q s hp hk A1 c1 ps A2 c2 ks :=
 ⟨hm.st, h.kept.then_ hm.kept (fun k hk => .inl (.inl hk)), h.mP.kept hm.kept (fun e => C.ggp e.symm), h.mK.kept hm.kept (fun e => C.ggk e.symm), blk_kept h.blk hm.kept (fun e => C.ggn e.symm),
  Kd.R_mono (Kd.R_kept (Kd.R_bound h.rp) hm.kept (fun k hk e => by have := C.bg; have := hk.2.1; omega)) (fun _ _ => trivial), Kd.R_mono (Kd.R_kept (Kd.R_bound h.rk) hm.kept (fun k hk e => by have := C.bg; have := hk.2.1; omega)) (fun _ _ => trivial)⟩
theorem NdS.below (h : NdS w0 wL W g gn mp mk sb st i s hp hk A1 c1 ps A2 c2 ks) (hb : Below W.heap.size W W2) : NdS w0 wL W2 g gn mp mk sb st i s hp hk A1 c1 ps A2 c2 ks :=
 ⟨h.rs.below hb, h.kept.below hb, h.mP.below hb, h.mK.below hb, blk_below h.blk hb, Kd.R_below h.rp hb, Kd.R_below h.rk hb⟩
theorem NdS.prop (h : NdS w0 wL W g gn mp mk sb st i s hp hk A1 c1 ps A2 c2 ks) (C : NdC w0 wL g gn g6 m mp mk) {nm : ByteArray} (ho : OpR w0 W W2 g mp sb st q 0 hp nm) : NdS w0 wL W2 g gn mp mk sb st q s (hp ++ [nm]) hk A1 c1 ps A2 c2 ks :=
 ⟨ho.st, h.kept.then_ ho.kept (fun k hk => .inl (hk.elim .inl (fun e => .inr (.inl e)))), ho.map rfl, h.mK.kept ho.kept (fun e => e.elim (fun e => C.ggk e.symm) (fun e => C.pk e.symm)), blk_kept h.blk ho.kept (fun e => e.elim (fun e => C.ggn e.symm) C.gnp),
  Kd.R_mono (Kd.R_kept (Kd.R_bound h.rp) ho.kept (fun k hk e => by have := C.bg; have := C.bmp; have := hk.2.1; omega)) (fun _ _ => trivial), Kd.R_mono (Kd.R_kept (Kd.R_bound h.rk) ho.kept (fun k hk e => by have := C.bg; have := C.bmp; have := hk.2.1; omega)) (fun _ _ => trivial)⟩
theorem NdS.kid (h : NdS w0 wL W g gn mp mk sb st i s hp hk A1 c1 ps A2 c2 ks) (C : NdC w0 wL g gn g6 m mp mk) {nm : ByteArray} (ho : OpR w0 W W2 g mk sb st q 0 hk nm) : NdS w0 wL W2 g gn mp mk sb st q s hp (hk ++ [nm]) A1 c1 ps A2 c2 ks :=
 ⟨ho.st, h.kept.then_ ho.kept (fun k hk => .inl (hk.elim .inl (fun e => .inr (.inr (.inl e))))), h.mP.kept ho.kept (fun e => e.elim (fun e => C.ggp e.symm) C.pk), ho.map rfl, blk_kept h.blk ho.kept (fun e => e.elim (fun e => C.ggn e.symm) C.gnk),
  Kd.R_mono (Kd.R_kept (Kd.R_bound h.rp) ho.kept (fun k hk e => by have := C.bg; have := C.bmk; have := hk.2.1; omega)) (fun _ _ => trivial), Kd.R_mono (Kd.R_kept (Kd.R_bound h.rk) ho.kept (fun k hk e => by have := C.bg; have := C.bmk; have := hk.2.1; omega)) (fun _ _ => trivial)⟩
theorem NdS.own (h : NdS w0 wL W g gn mp mk sb st i s hp hk A1 c1 ps A2 c2 ks) : ∀ k, (Value.slice A1 ps.length c1).ownBlock = some k → wL.heap.size ≤ k := Kd.R_base h.rp
theorem NdS.ownK (h : NdS w0 wL W g gn mp mk sb st i s hp hk A1 c1 ps A2 c2 ks) : ∀ k, (Value.slice A2 ks.length c2).ownBlock = some k → wL.heap.size ≤ k := Kd.R_base h.rk
theorem R_nil_grown {v : Value} {row : Option Nat} (h : Kd.R k27 27 W wL.heap.size (fun _ => True) v []) (hg : W.grownBy W2 row) (hne : v.ownBlock = none ∨ v.ownBlock ≠ row) : Kd.R k27 27 W2 wL.heap.size (fun _ => True) v [] := by
 obtain ⟨h0, inner, ho, hr⟩ := h; have hi : inner = [] := List.eq_nil_of_length_eq_zero (by rw [hr.1]; simp); subst hi; exact ⟨h0, [], own_other ho hg hne, Reps.none _ _⟩
theorem setFar (W : World) (gn j k : Nat) (u : Value) (hne : k ≠ gn) : (W.setCell ⟨gn, j, none⟩ u).heap[k]? = W.heap[k]? := Below.heap_setCell W ⟨gn, j, none⟩ u k hne
theorem NdS.addP (h : NdS w0 wL W g gn mp mk sb st i s hp hk A1 c1 ps A2 c2 []) (C : NdC w0 wL g gn g6 m mp mk) {p : S68} {A : Option Addr} {c : Nat}
  (hr : Kd.R k68 68 W2 wL.heap.size (fun _ => True) (.slice A (ps ++ [p]).length c) (ps ++ [p])) (hg : W.grownBy W2 (Value.slice A1 ps.length c1).ownBlock) :
  NdS w0 wL (W2.setCell ⟨gn, 1, none⟩ (.slice A (ps ++ [p]).length c)) g gn mp mk sb st i s hp hk A c (ps ++ [p]) A2 c2 [] := by
 have hno : ∀ k, k < wL.heap.size → some k ≠ (Value.slice A1 ps.length c1).ownBlock := fun k hk e => by have := h.own k e.symm; omega
 have hk2 : Kept wL W2 (fun k => k = g ∨ k = mp ∨ k = mk ∨ k = gn) := Kept.of_grown hg h.kept (fun k e => .inr (h.own k e))
 have hs : RdS w0 W2 g sb st i := ⟨h.rs.bel.grown hg h.rs.bel.size (fun k e => by have := h.own k e; have := C.lon; have := C.bgn; omega), h.rs.lo, blk_grown h.rs.blk hg (hno g C.bg)⟩
 have hb : W2.heap[gn]? = _ := blk_grown h.blk hg (hno gn C.bgn); refine ⟨⟨hs.bel.setCell C.lon _, hs.lo, blk_far hs.blk C.ggn _⟩, hk2.setCell (p := ⟨gn, 1, none⟩) (.inl (.inr (.inr (.inr rfl)))) _, ?_, ?_, blk_put hb 1 _ rfl, ?_, ?_⟩; (·exact (h.mP.same (hg.block mp h.mP.lt (fun e => hno mp C.bmp e))).same (setFar _ _ _ _ _ (Ne.symm C.gnp))); (·exact (h.mK.same (hg.block mk h.mK.lt (fun e => hno mk C.bmk e))).same (setFar _ _ _ _ _ (Ne.symm C.gnk))); (·exact Kd.R_mono (Kd.R_far (p := ⟨gn, 1, none⟩) (Kd.R_bound hr) (fun k hk => by have := hk.2.1; have := C.bgn; simp only; omega) _) (fun _ _ => trivial))
 ·have hn : (Value.slice A2 ([] : List S27).length c2).ownBlock = none ∨ (Value.slice A2 ([] : List S27).length c2).ownBlock ≠ (Value.slice A1 ps.length c1).ownBlock := by
   obtain ⟨i1, o1⟩ := Kd.R_own h.rk; obtain ⟨i2, o2⟩ := Kd.R_own h.rp; exact own_type_ne o1 o2 Zq2
  have hr2 := R_nil_grown h.rk hg hn; exact Kd.R_mono (Kd.R_far (p := ⟨gn, 1, none⟩) (Kd.R_bound hr2) (fun k hk => by have := hk.2.1; have := C.bgn; simp only; omega) _) (fun _ _ => trivial)
theorem NdS.addK (h : NdS w0 wL W g gn mp mk sb st i s hp hk A1 c1 ps A2 c2 ks) (C : NdC w0 wL g gn g6 m mp mk) {x : S27} {A : Option Addr} {c : Nat}
  (hr : Kd.R k27 27 W2 wL.heap.size (fun _ => True) (.slice A (ks ++ [x]).length c) (ks ++ [x])) (hg : W.grownBy W2 (Value.slice A2 ks.length c2).ownBlock) :
  NdS w0 wL (W2.setCell ⟨gn, 2, none⟩ (.slice A (ks ++ [x]).length c)) g gn mp mk sb st i s hp hk A1 c1 ps A c (ks ++ [x]) := by
 have hno : ∀ k, k < wL.heap.size → some k ≠ (Value.slice A2 ks.length c2).ownBlock := fun k hk e => by have := h.ownK k e.symm; omega
 have hk2 : Kept wL W2 (fun k => k = g ∨ k = mp ∨ k = mk ∨ k = gn) := Kept.of_grown hg h.kept (fun k e => .inr (h.ownK k e))
 have hs : RdS w0 W2 g sb st i := ⟨h.rs.bel.grown hg h.rs.bel.size (fun k e => by have := h.ownK k e; have := C.lon; have := C.bgn; omega), h.rs.lo, blk_grown h.rs.blk hg (hno g C.bg)⟩
 have hb : W2.heap[gn]? = _ := blk_grown h.blk hg (hno gn C.bgn); refine ⟨⟨hs.bel.setCell C.lon _, hs.lo, blk_far hs.blk C.ggn _⟩, hk2.setCell (p := ⟨gn, 2, none⟩) (.inl (.inr (.inr (.inr rfl)))) _, ?_, ?_, blk_put hb 2 _ rfl, ?_, ?_⟩; (·exact (h.mP.same (hg.block mp h.mP.lt (fun e => hno mp C.bmp e))).same (setFar _ _ _ _ _ (Ne.symm C.gnp))); (·exact (h.mK.same (hg.block mk h.mK.lt (fun e => hno mk C.bmk e))).same (setFar _ _ _ _ _ (Ne.symm C.gnk))); (·have hr2 := Kd.R_over h.rp h.rk Zq2 hg; exact Kd.R_mono (Kd.R_far (p := ⟨gn, 2, none⟩) (Kd.R_bound hr2) (fun k hk => by have := hk.2.1; have := C.bgn; simp only; omega) _) (fun _ _ => trivial)); (·exact Kd.R_mono (Kd.R_far (p := ⟨gn, 2, none⟩) (Kd.R_bound hr) (fun k hk => by have := hk.2.1; have := C.bgn; simp only; omega) _) (fun _ _ => trivial))
end
theorem info_prop : (Tryz.prog.info? 68).map (fun i => (i.zero, i.size, i.bytes)) = some (some (.agg #[.string ⟨#[]⟩, .slice none 0 0]), 2, 40) := by kernel_rfl
theorem info_node : (Tryz.prog.info? 27).map (fun i => (i.zero, i.size, i.bytes)) = some (some (.agg #[.string ⟨#[]⟩, .slice none 0 0, .slice none 0 0]), 3, 64) := by kernel_rfl
theorem R_made {α : Type} {d : Kd α} {e : Nat} {W1 W2 : World} {B b : Nat} {v : Value} {l : List α} (h : d.R e W1 B (fun _ => True) v l) (hb : Below W1.heap.size W1 W2) (hle : b ≤ B) : d.R e W2 b (fun k => B ≤ k) v l := Kd.R_lower (Kd.R_mono (Kd.R_bound (Kd.R_below h hb)) (fun _ hk => hk.2.1)) hle
end Go.Proofs.YtkopmkinlanhoaaGreat.PE

namespace Go.Proofs.YtkopmkinlanhoaaGreat.PE
open Go.RowKit Go.Proofs.YtkopmkinlanhoaaGreatW.PrintWords Go.Proofs.YtkopmkinlanhoaaGreatW.PrintLast Go.Proofs.YtkopmkinlanhoaaGreatW.PrintMore
attribute [local go_sem] max2_int min2_int max_two min_two max_three min_three max_four min_four
attribute [local go_sem high] eqA51
theorem NdS.err {w0 W wL W2 : World} {g gn m mp mk : Nat} {sb st : Value} {i : Int} {s nm : ByteArray} {hp hk hs : List ByteArray} {A1 A2 : Option Addr} {c1 c2 : Nat} {ps : List S68} {ks : List S27} {e : Int} (h : NdS w0 wL W2 g gn mp mk sb st i s hp hk A1 c1 ps A2 c2 ks) (hk0 : Kept W wL (fun k => k = g ∨ k = m)) (h1 : W.heap.size ≤ gn) (h2 : W.heap.size ≤ mp) (h3 : W.heap.size ≤ mk) (he : e ≠ 0) : OpR w0 W W2 g m sb st i e hs nm :=
 ⟨h.rs, hk0.then_ h.kept (fun k hk => by rcases hk with e | e | e | e; exact .inl (.inl e); exact .inr Zq1; exact .inr Zq1; exact .inr Zq1), fun h0 => absurd h0 he⟩
theorem OpR.trans_ {w0 W wL W1 W2 : World} {g gn m mp mk mo : Nat} {sb st : Value} {i q : Int} {s nm nm2 : ByteArray} {hp hk hs hq : List ByteArray} {A1 A2 : Option Addr} {c1 c2 : Nat} {ps : List S68} {ks : List S27} {e : Int} (h : NdS w0 wL W1 g gn mp mk sb st i s hp hk A1 c1 ps A2 c2 ks) (ho : OpR w0 W1 W2 g mo sb st q e hq nm2) (hmo : W.heap.size ≤ mo) (hk0 : Kept W wL (fun k => k = g ∨ k = m)) (h1 : W.heap.size ≤ gn) (h2 : W.heap.size ≤ mp) (h3 : W.heap.size ≤ mk) (he : e ≠ 0) : OpR w0 W W2 g m sb st q e hs nm :=
 ⟨ho.st, (hk0.then_ h.kept (fun k hk => by rcases hk with e | e | e | e; exact .inl (.inl e); exact .inr Zq1; exact .inr Zq1; exact .inr (by omega))).then_ ho.kept (fun k hk => by rcases hk with e | e; exact .inl (.inl e); exact .inr Zq1), fun h0 => absurd h0 he⟩
theorem NdS.ok {w0 W wL W2 : World} {g gn g6 m mp mk : Nat} {sb st : Value} {i : Int} {s : ByteArray} {hp hk hs : List ByteArray} {A1 A2 : Option Addr} {c1 c2 : Nat} {ps : List S68} {ks : List S27} (h : NdS w0 wL W2 g gn mp mk sb st i s hp hk A1 c1 ps A2 c2 ks) (C : NdC w0 wL g gn g6 m mp mk) (hk0 : Kept W wL (fun k => k = g ∨ k = m)) (h1 : W.heap.size ≤ gn) (h2 : W.heap.size ≤ mp) (h3 : W.heap.size ≤ mk) (hM : MapS wL m (hs ++ [s])) : OpR w0 W W2 g m sb st i 0 hs s :=
 ⟨h.rs, hk0.then_ h.kept (fun k hk => by rcases hk with e | e | e | e; exact .inl (.inl e); exact .inr Zq1; exact .inr Zq1; exact .inr Zq1), fun _ => hM.kept h.kept (fun e => by rcases e with e | e | e | e; exact C.mm.1 e; exact C.mm.2.2.1 e; exact C.mm.2.2.2 e; exact C.mm.2.1 e)⟩
theorem R_out3 {α : Type} {d : Kd α} {e : Nat} {W2 : World} {B b : Nat} {v : Value} {l : List α} (h : d.R e W2 b (fun _ => True) v l) (hB : B < b) (u0 u1 u2 : Value) : d.R e (((W2.setCell ⟨B, 0, none⟩ u0).setCell ⟨B, 1, none⟩ u1).setCell ⟨B, 2, none⟩ u2) b (fun _ => True) v l := by
 have one : ∀ {W3 : World} (j : Nat) (u : Value), d.R e W3 b (fun _ => True) v l → d.R e (W3.setCell ⟨B, j, none⟩ u) b (fun _ => True) v l := fun j u h => Kd.R_mono (Kd.R_far (p := ⟨B, j, none⟩) (Kd.R_bound h) (fun k hk => by have := hk.2.1; simp only; omega) u) (fun _ _ => trivial)
 exact one 2 u2 (one 1 u1 (one 0 u0 h))
attribute [local irreducible] Go.Calls in
set_option maxRecDepth 100000 in
set_option maxHeartbeats 8000000 in
theorem reader_node.calls (ab : Addr) (cb : Nat) (lb : List Int) (At : Option Addr) (ct : Nat) (lt : List Int) (g : Nat) (w0 : World) (hC : Aside0 (Kd.C (Kd.int .u8) w0 (some ab) lb.length lb)) (hcb : Aside0 (lb.length ≤ cb)) (hCt : Aside0 (Kd.C (Kd.int .u8) w0 At lt.length lt)) (hct : Aside0 (lt.length ≤ ct)) (k : Nat) :
  ∀ (at_ : Int) (hs : List ByteArray) (d : Int) (m : Nat) (W : World) (x1 : S27) (e1 q1 : Int) (hS : RdS w0 W g (.slice (some ab) lb.length cb) (.slice At lt.length ct) at_) (hD : MapS W m hs) (hm : w0.heap.size ≤ m) (hne : g ≠ m) (h : nodeF k lb lt at_ hs d = some (x1, e1, q1)),
  Calls Tryz.prog 41 #[.pointer (some ⟨g, 0, none⟩), .map (some m), .int .i64 d] W fun e w' => ∃ v1 v2 : Value, e = .returned (.tuple #[.agg #[.string x1.f0, v1, v2], .int .i64 e1]) ∧ OpR w0 W w' g m (.slice (some ab) lb.length cb) (.slice At lt.length ct) q1 e1 hs x1.f0 ∧ Kd.R k68 68 w' W.heap.size (fun _ => True) v1 x1.f1 ∧ Kd.R k27 27 w' W.heap.size (fun _ => True) v2 x1.f2 := by
 induction k using Nat.strongRecOn with
 | ind k ih =>
 intro at_ hs d m W x1 e1 q1 hS hD hm hne h
 cases k with
 | zero => simp [nodeF] at h
 | succ k =>
 rw [nodeF] at h; obtain ⟨⟨s, e0, q0⟩, ho, h⟩ := Option.bind_eq_some_iff.mp h; simp only at h; have IH := AK ih; have HS := AK hS; have HLTG := AK (blk_lt hS.blk); have HLTM := AK hD.lt; have HLOM := AK hm; have HNE := AK hne; have hS1 := hS.below (below_alloc (Below.refl W.heap.size W) (.cells #[.string ⟨#[]⟩, .slice none 0 0, .slice none 0 0] 27)); have hD1 := hD.below (below_alloc (Below.refl W.heap.size W) (.cells #[.string ⟨#[]⟩, .slice none 0 0, .slice none 0 0] 27)); have HO := AK (reader_open.calls k ab cb lb (.slice At lt.length ct) at_ hs d g m w0 _ s e0 q0 hC.out hcb.out hS1 hD1 hm hne ho); have BN := AK (blk_new W (.cells #[.string ⟨#[]⟩, .slice none 0 0, .slice none 0 0] 27 (0, 0))); clear ih hS hD hm hne ho hS1 hD1
 by_cases he : e0 = 0
 ·subst he; rw [if_pos rfl] at h; have H := AK h; clear h
  have hmk : ∀ W : World, (Instr.makeMap 90 none).run Tryz.prog W = .ok (.map (some W.heap.size)) (W.alloc (.map #[] 0)) := fun W => by kernel_rfl
  go_enter Tryz.func41, Tryz.ntmps41; (go_wp2_with (go_at_call 57; refine HO.out.mono ?_; rintro e w1 ⟨rfl, hx⟩; have HX := AK hx; have B1 := AK (blk_kept BN.out hx.kept (fun e => by have := HLTG.out; have := HLTM.out; omega)); have hsz := Nat.lt_of_lt_of_le (by simp : W.heap.size < (W.alloc (.cells #[.string ⟨#[]⟩, .slice none 0 0, .slice none 0 0] 27)).heap.size) hx.kept.1; clear hx)); have hsz2 : W.heap.size < w1.heap.size := hsz
  obtain ⟨wL, hwL⟩ : ∃ wL, wL = (((w1.alloc (.cells #[.string s, .slice none 0 0, .slice none 0 0] 27)).alloc (.map #[] 0)).alloc (.map #[] 0)) := ⟨_, rfl⟩
  have hL : wL.heap.size = w1.heap.size + 1 + 1 + 1 := by rw [hwL]; simp
  have hb1 : Below w1.heap.size w1 wL := by rw [hwL]; exact below_alloc (below_alloc Zq59 _) _
  have hlm := HLTM.out; have hlg := HLTG.out; have hlo := HLOM.out; have hbs := HS.out.bel.size; have hne := HNE.out
  have hNC : NdC w0 wL g w1.heap.size W.heap.size m (w1.heap.size + 1) (w1.heap.size + 1 + 1) :=
   ⟨Zq1, Zq1, Zq1, Zq1, Zq1, Zq1, Zq1, Zq1, Zq1, Zq1, Zq1, Zq1, Zq1, Zq1, Zq1, ⟨Zq1, Zq1, Zq1, Zq1⟩, ⟨Zq1, Zq1, Zq1, Zq1⟩⟩
  have hgn : wL.heap[w1.heap.size]? = some (.cells #[.string s, .slice none 0 0, .slice none 0 0] 27 (0, 0)) := by rw [hwL]; exact blk_alloc (blk_alloc (blk_new _ _) _) _
  have hmp : MapS wL (w1.heap.size + 1) [] := by
   have q := MapS.made (w1.alloc (.cells #[.string s, .slice none 0 0, .slice none 0 0] 27)); rw [show (w1.alloc (.cells #[.string s, .slice none 0 0, .slice none 0 0] 27)).heap.size = w1.heap.size + 1 by simp] at q; rw [hwL]; exact q.below Zq59
  have hmk2 : MapS wL (w1.heap.size + 1 + 1) [] := by
   have q := MapS.made ((w1.alloc (.cells #[.string s, .slice none 0 0, .slice none 0 0] 27)).alloc (.map #[] 0)); rw [show ((w1.alloc (.cells #[.string s, .slice none 0 0, .slice none 0 0] 27)).alloc (.map #[] 0)).heap.size = w1.heap.size + 1 + 1 by simp] at q; rw [hwL]; exact q
  have hst0 : NdS w0 wL wL g w1.heap.size (w1.heap.size + 1) (w1.heap.size + 1 + 1) (.slice (some ab) lb.length cb) (.slice At lt.length ct) q0 s (([] : List S68).map (·.f0)) (([] : List S27).map (·.f0)) none 0 [] none 0 [] :=
   ⟨HX.out.st.below hb1, Kept.refl _ _, hmp, hmk2, hgn, Kd.R_nil _ _ _ _ _, Kd.R_nil _ _ _ _ _⟩
  have hmm : MapS wL m (hs ++ [s]) := (HX.out.map rfl).below hb1; have hk0 : Kept W wL (fun k => k = g ∨ k = m) := ((((Kept.refl W _).alloc _).then_ HX.out.kept (fun _ hk => .inl hk))).below hb1; have hb6 : wL.heap[W.heap.size]? = some (.cells #[.string ⟨#[]⟩, .slice none 0 0, .slice none 0 0] 27 (0, 0)) := blk_below B1.out hb1; have NC := AK hNC; have HST := AK hst0; have HMM := AK hmm; have HK0 := AK hk0; have B6 := AK hb6; rw [← hwL]; clear hNC hst0 hmm hk0 hb6 hgn hmp hmk2 hb1 hL hmk HX BN HO B1 hwL hlm hlg hlo hbs hne hsz; generalize w1.heap.size = gn at NC HST hsz2 ⊢; have hWg : W.heap.size < gn := hsz2; have NC6 := AK (show ¬ (W.heap.size = g ∨ W.heap.size = gn + 1 ∨ W.heap.size = gn + 1 + 1 ∨ W.heap.size = gn) from fun e => by have := NC.out.six; omega); clear hsz2
  go_loopg [13] k (fun kq v13 w' => ∃ (i : Int) (A1 : Option Addr) (c1 : Nat) (ps : List S68) (A2 : Option Addr) (c2 : Nat) (ks : List S27), Aside0 (nodeL kq lb lt i s d ps ks = some (x1, e1, q1)) ∧ Aside0 (kq ≤ k) ∧ Aside0 (NdS w0 wL w' g gn (gn + 1) (gn + 1 + 1) (.slice (some ab) lb.length cb) (.slice At lt.length ct) i s (ps.map (·.f0)) (ks.map (·.f0)) A1 c1 ps A2 c2 ks))
  case atStart => exact ⟨q0, none, 0, [], none, 0, [], H, ⟨Nat.le_refl _⟩, HST⟩
  case round =>
   clear H HST; obtain ⟨i, A1, c1, ps, A2, c2, ks, HA, HKK, HN⟩ := hrel
   cases gk with
   | zero => exact absurd HA.out (by simp [nodeL])
   | succ k1 =>
    have h := HA.out; rw [nodeL] at h; clear HA; obtain ⟨⟨tv, tb, q⟩, ht, h⟩ := Option.bind_eq_some_iff.mp h; simp only at h; have HTK := AK ht; clear ht
    cases tb with
    | false =>
     rw [if_neg Zq2] at h
     obtain ⟨rfl, rfl, rfl⟩ : z27 = x1 ∧ (4 : Int) = e1 ∧ q = q1 := by simpa using h
     clear h; (go_wp2_with (go_at_call 40; refine (reader_token.calls k1 (some ab) cb lb (.slice At lt.length ct) i g w0 _ _ _ _ hC.out hcb.out HN.out.rs HTK.out).mono ?_; rintro e w2 ⟨rfl, hm⟩; have HN := Zq94; clear hm; have bz0 := HN.out.blk; have n0 : w2.cell? ⟨gn, 0, none⟩ = some (.string s) := (blk_cell bz0 0).trans rfl; have m0_ : w2.frozen? ⟨gn, 0, none⟩ = false := blk_frozen bz0 0; have n1 : w2.cell? ⟨gn, 1, none⟩ = some (.slice A1 ps.length c1) := (blk_cell bz0 1).trans rfl; have m1_ : w2.frozen? ⟨gn, 1, none⟩ = false := blk_frozen bz0 1; have n2 : w2.cell? ⟨gn, 2, none⟩ = some (.slice A2 ks.length c2) := (blk_cell bz0 2).trans rfl; have m2_ : w2.frozen? ⟨gn, 2, none⟩ = false := blk_frozen bz0 2; have rz0 := blk_kept B6.out HN.out.kept NC6.out; have z0 : w2.cell? ⟨W.heap.size, 0, none⟩ = some (.string ⟨#[]⟩) := (blk_cell rz0 0).trans rfl; have y0_ : w2.frozen? ⟨W.heap.size, 0, none⟩ = false := blk_frozen rz0 0; have z1 : w2.cell? ⟨W.heap.size, 1, none⟩ = some (.slice none 0 0) := (blk_cell rz0 1).trans rfl; have y1_ : w2.frozen? ⟨W.heap.size, 1, none⟩ = false := blk_frozen rz0 1; have z2 : w2.cell? ⟨W.heap.size, 2, none⟩ = some (.slice none 0 0) := (blk_cell rz0 2).trans rfl; have y2_ : w2.frozen? ⟨W.heap.size, 2, none⟩ = false := blk_frozen rz0 2; have BZ := AK rz0; clear bz0 rz0; have sz0 : W.heap.size < w2.heap.size := blk_lt BZ.out; have sz1 : gn < w2.heap.size := blk_lt HN.out.blk)); refine bodyPost_ret (results_ct rfl _ _ W.heap.size 27 #[.string ⟨#[]⟩, .slice none 0 0, .slice none 0 0] (0, 0) _ rfl Zq56 Tryz.underlying27 rfl Zq3) rfl ⟨.slice none 0 0, .slice none 0 0, rfl, ?_, Kd.R_nil _ _ _ _ _, Kd.R_nil _ _ _ _ _⟩; exact OpR.outer (OpR.outer (OpR.outer (HN.out.err HK0.out (Nat.le_of_lt hWg) Zq1 Zq1 Zq2) HLTG.out HLTM.out HS.out.bel.size 0 _) HLTG.out HLTM.out HS.out.bel.size 1 _) HLTG.out HLTM.out HS.out.bel.size 2 _
    | true =>
     rw [if_pos rfl] at h
     by_cases t9 : tv = 9
     ·subst t9; rw [if_pos rfl] at h
      obtain ⟨rfl, rfl, rfl⟩ : z27 = x1 ∧ (4 : Int) = e1 ∧ q = q1 := by simpa using h
      clear h; (go_wp2_with (go_at_call 40; refine (reader_token.calls k1 (some ab) cb lb (.slice At lt.length ct) i g w0 _ _ _ _ hC.out hcb.out HN.out.rs HTK.out).mono ?_; rintro e w2 ⟨rfl, hm⟩; have HN := Zq94; clear hm; have bz0 := HN.out.blk; have n0 : w2.cell? ⟨gn, 0, none⟩ = some (.string s) := (blk_cell bz0 0).trans rfl; have m0_ : w2.frozen? ⟨gn, 0, none⟩ = false := blk_frozen bz0 0; have n1 : w2.cell? ⟨gn, 1, none⟩ = some (.slice A1 ps.length c1) := (blk_cell bz0 1).trans rfl; have m1_ : w2.frozen? ⟨gn, 1, none⟩ = false := blk_frozen bz0 1; have n2 : w2.cell? ⟨gn, 2, none⟩ = some (.slice A2 ks.length c2) := (blk_cell bz0 2).trans rfl; have m2_ : w2.frozen? ⟨gn, 2, none⟩ = false := blk_frozen bz0 2; have rz0 := blk_kept B6.out HN.out.kept NC6.out; have z0 : w2.cell? ⟨W.heap.size, 0, none⟩ = some (.string ⟨#[]⟩) := (blk_cell rz0 0).trans rfl; have y0_ : w2.frozen? ⟨W.heap.size, 0, none⟩ = false := blk_frozen rz0 0; have z1 : w2.cell? ⟨W.heap.size, 1, none⟩ = some (.slice none 0 0) := (blk_cell rz0 1).trans rfl; have y1_ : w2.frozen? ⟨W.heap.size, 1, none⟩ = false := blk_frozen rz0 1; have z2 : w2.cell? ⟨W.heap.size, 2, none⟩ = some (.slice none 0 0) := (blk_cell rz0 2).trans rfl; have y2_ : w2.frozen? ⟨W.heap.size, 2, none⟩ = false := blk_frozen rz0 2; have BZ := AK rz0; clear bz0 rz0; have sz0 : W.heap.size < w2.heap.size := blk_lt BZ.out; have sz1 : gn < w2.heap.size := blk_lt HN.out.blk)); refine bodyPost_ret (results_ct rfl _ _ W.heap.size 27 #[.string ⟨#[]⟩, .slice none 0 0, .slice none 0 0] (0, 0) _ rfl Zq56 Tryz.underlying27 rfl Zq3) rfl ⟨.slice none 0 0, .slice none 0 0, rfl, ?_, Kd.R_nil _ _ _ _ _, Kd.R_nil _ _ _ _ _⟩; exact OpR.outer (OpR.outer (OpR.outer (HN.out.err HK0.out (Nat.le_of_lt hWg) Zq1 Zq1 Zq2) HLTG.out HLTM.out HS.out.bel.size 0 _) HLTG.out HLTM.out HS.out.bel.size 1 _) HLTG.out HLTM.out HS.out.bel.size 2 _
     ·rw [if_neg t9] at h; have t9b : (tv == 9) = false := beq_eq_false_iff_ne.mpr t9; clear t9
      by_cases t3 : tv = 3
      ·subst t3; rw [if_pos rfl] at h
       by_cases hk0_ : 0 < ks.length
       ·rw [if_pos hk0_] at h
        obtain ⟨rfl, rfl, rfl⟩ : z27 = x1 ∧ (4 : Int) = e1 ∧ q = q1 := by simpa using h
        have hkb1 : decide (0 < ks.length) = true := decide_eq_true hk0_; have hkb2 : decide ((0 : Int) < (ks.length : Int)) = true := decide_eq_true Zq1; clear h hk0_; (go_wp2_with (go_at_call 40; refine (reader_token.calls k1 (some ab) cb lb (.slice At lt.length ct) i g w0 _ _ _ _ hC.out hcb.out HN.out.rs HTK.out).mono ?_; rintro e w2 ⟨rfl, hm⟩; have HN := Zq94; clear hm; have bz0 := HN.out.blk; have n0 : w2.cell? ⟨gn, 0, none⟩ = some (.string s) := (blk_cell bz0 0).trans rfl; have m0_ : w2.frozen? ⟨gn, 0, none⟩ = false := blk_frozen bz0 0; have n1 : w2.cell? ⟨gn, 1, none⟩ = some (.slice A1 ps.length c1) := (blk_cell bz0 1).trans rfl; have m1_ : w2.frozen? ⟨gn, 1, none⟩ = false := blk_frozen bz0 1; have n2 : w2.cell? ⟨gn, 2, none⟩ = some (.slice A2 ks.length c2) := (blk_cell bz0 2).trans rfl; have m2_ : w2.frozen? ⟨gn, 2, none⟩ = false := blk_frozen bz0 2; have rz0 := blk_kept B6.out HN.out.kept NC6.out; have z0 : w2.cell? ⟨W.heap.size, 0, none⟩ = some (.string ⟨#[]⟩) := (blk_cell rz0 0).trans rfl; have y0_ : w2.frozen? ⟨W.heap.size, 0, none⟩ = false := blk_frozen rz0 0; have z1 : w2.cell? ⟨W.heap.size, 1, none⟩ = some (.slice none 0 0) := (blk_cell rz0 1).trans rfl; have y1_ : w2.frozen? ⟨W.heap.size, 1, none⟩ = false := blk_frozen rz0 1; have z2 : w2.cell? ⟨W.heap.size, 2, none⟩ = some (.slice none 0 0) := (blk_cell rz0 2).trans rfl; have y2_ : w2.frozen? ⟨W.heap.size, 2, none⟩ = false := blk_frozen rz0 2; have BZ := AK rz0; clear bz0 rz0; have sz0 : W.heap.size < w2.heap.size := blk_lt BZ.out; have sz1 : gn < w2.heap.size := blk_lt HN.out.blk)); refine bodyPost_ret (results_ct rfl _ _ W.heap.size 27 #[.string ⟨#[]⟩, .slice none 0 0, .slice none 0 0] (0, 0) _ rfl Zq56 Tryz.underlying27 rfl Zq3) rfl ⟨.slice none 0 0, .slice none 0 0, rfl, ?_, Kd.R_nil _ _ _ _ _, Kd.R_nil _ _ _ _ _⟩; exact OpR.outer (OpR.outer (OpR.outer (HN.out.err HK0.out (Nat.le_of_lt hWg) Zq1 Zq1 Zq2) HLTG.out HLTM.out HS.out.bel.size 0 _) HLTG.out HLTM.out HS.out.bel.size 1 _) HLTG.out HLTM.out HS.out.bel.size 2 _
       ·rw [if_neg hk0_] at h; obtain rfl : ks = [] := List.eq_nil_of_length_eq_zero Zq1; clear hk0_; obtain ⟨⟨p, pe, pq⟩, hp, h⟩ := Option.bind_eq_some_iff.mp h; simp only at h; have HP := AK hp; clear hp
        by_cases hpe : pe = 0
        ·subst hpe; rw [if_pos rfl] at h
         by_cases hl : ps.length + 1 < 1099511627776
         case neg => rw [if_neg hl] at h; cases h
         rw [if_pos hl] at h
         obtain ⟨y, hy⟩ : ∃ y, y = ps ++ [p] := ⟨_, rfl⟩
         have HH := AK (hy ▸ h); have Ny := AK hy; have HLIM := AK hl; clear h hy hl; go_wp2_with (first | (go_at_call 40; refine (reader_token.calls k1 (some ab) cb lb (.slice At lt.length ct) i g w0 _ _ _ _ hC.out hcb.out HN.out.rs HTK.out).mono ?_; rintro e w2 ⟨rfl, hm⟩; have HN := Zq94; clear hm; have bz0 := HN.out.blk; have n0 : w2.cell? ⟨gn, 0, none⟩ = some (.string s) := (blk_cell bz0 0).trans rfl; have m0_ : w2.frozen? ⟨gn, 0, none⟩ = false := blk_frozen bz0 0; have n1 : w2.cell? ⟨gn, 1, none⟩ = some (.slice A1 ps.length c1) := (blk_cell bz0 1).trans rfl; have m1_ : w2.frozen? ⟨gn, 1, none⟩ = false := blk_frozen bz0 1; have n2 : w2.cell? ⟨gn, 2, none⟩ = some (.slice A2 0 c2) := (blk_cell bz0 2).trans rfl; have m2_ : w2.frozen? ⟨gn, 2, none⟩ = false := blk_frozen bz0 2; have rz0 := blk_kept B6.out HN.out.kept NC6.out; have z0 : w2.cell? ⟨W.heap.size, 0, none⟩ = some (.string ⟨#[]⟩) := (blk_cell rz0 0).trans rfl; have y0_ : w2.frozen? ⟨W.heap.size, 0, none⟩ = false := blk_frozen rz0 0; have z1 : w2.cell? ⟨W.heap.size, 1, none⟩ = some (.slice none 0 0) := (blk_cell rz0 1).trans rfl; have y1_ : w2.frozen? ⟨W.heap.size, 1, none⟩ = false := blk_frozen rz0 1; have z2 : w2.cell? ⟨W.heap.size, 2, none⟩ = some (.slice none 0 0) := (blk_cell rz0 2).trans rfl; have y2_ : w2.frozen? ⟨W.heap.size, 2, none⟩ = false := blk_frozen rz0 2; have BZ := AK rz0; clear bz0 rz0; have sz0 : W.heap.size < w2.heap.size := blk_lt BZ.out; have sz1 : gn < w2.heap.size := blk_lt HN.out.blk) | (go_at_call 58; refine (reader_prop.calls k1 ab cb lb At ct lt q (ps.map (·.f0)) g (gn + 1) w0 _ _ _ _ hC.out hcb.out hCt.out hct.out HN.out.rs HN.out.mP NC.out.lop NC.out.ggp HP.out).mono ?_; rintro e w3 ⟨vp, rfl, hop, hrp⟩; obtain ⟨Ap, cp, rfl⟩ := Kd.R_slice hrp; have HLP := AK (Kd.R_lt HN.out.rp); have HW2 := AK HN.out.kept.1; have HN := AK (HN.out.prop NC.out hop); have HRP := AK hrp; clear hop hrp; have bz0 := HN.out.blk; have n0 : w3.cell? ⟨gn, 0, none⟩ = some (.string s) := (blk_cell bz0 0).trans rfl; have m0_ : w3.frozen? ⟨gn, 0, none⟩ = false := blk_frozen bz0 0; have n1 : w3.cell? ⟨gn, 1, none⟩ = some (.slice A1 ps.length c1) := (blk_cell bz0 1).trans rfl; have m1_ : w3.frozen? ⟨gn, 1, none⟩ = false := blk_frozen bz0 1; have n2 : w3.cell? ⟨gn, 2, none⟩ = some (.slice A2 0 c2) := (blk_cell bz0 2).trans rfl; have m2_ : w3.frozen? ⟨gn, 2, none⟩ = false := blk_frozen bz0 2; have rz0 := blk_kept B6.out HN.out.kept NC6.out; have z0 : w3.cell? ⟨W.heap.size, 0, none⟩ = some (.string ⟨#[]⟩) := (blk_cell rz0 0).trans rfl; have y0_ : w3.frozen? ⟨W.heap.size, 0, none⟩ = false := blk_frozen rz0 0; have z1 : w3.cell? ⟨W.heap.size, 1, none⟩ = some (.slice none 0 0) := (blk_cell rz0 1).trans rfl; have y1_ : w3.frozen? ⟨W.heap.size, 1, none⟩ = false := blk_frozen rz0 1; have z2 : w3.cell? ⟨W.heap.size, 2, none⟩ = some (.slice none 0 0) := (blk_cell rz0 2).trans rfl; have y2_ : w3.frozen? ⟨W.heap.size, 2, none⟩ = false := blk_frozen rz0 2; have BZ := AK rz0; clear bz0 rz0; have sz0 : W.heap.size < w3.heap.size := blk_lt BZ.out; have sz1 : gn < w3.heap.size := blk_lt HN.out.blk) | (at_builtin; refine Kd.R_append k68 (w0 := _) wL.heap.size rfl (.tmp 89) (.tmp 91) 24 68 (.agg #[.string ⟨#[]⟩, .slice none 0 0]) 40 rfl Tryz.underlying24 info_prop rfl Zq2 Zq1 (.slice A1 ps.length c1) ps p [.string p.f0, .slice Ap p.f1.length cp] (fun _ => True) (fun k => w2.heap.size ≤ k) rfl (Eq.trans (b := Value.slice (some (⟨w3.heap.size + 1, 0, none⟩ : Addr)) 1 1) rfl Zq7) (k68_mkM _ _ _ p (R_made HRP.out Zq59 HW2.out)) (fun k hk => ⟨trivial, fun e => by have := HLP.out k e.symm; omega⟩) (fun _ _ => trivial) (HN.out.below Zq59).rp (Below.refl _ _) (HN.out.below Zq59).kept.1 (by have := HLIM.out; omega) ?_; intro v13 w13 ho hb hg hat; rw [← Ny.out] at ho; obtain ⟨An, cn, rfl⟩ := Kd.R_slice ho; have HO13 := AK ho; have HG13 := AK hg; have HB13 := AK (blk_grown (HN.out.below Zq59).blk hg (fun e => by have := (HN.out.own gn e.symm); have := NC.out.bgn; omega)); have q1_ : w13.cell? ⟨gn, 1, none⟩ = some (.slice A1 ps.length c1) := (blk_cell HB13.out 1).trans rfl; have q2_ : w13.frozen? ⟨gn, 1, none⟩ = false := blk_frozen HB13.out 1; clear ho hb hg hat))
         go_roundg k1
         case measure => omega
         case rel => exact ⟨pq, An, cn, y, A2, c2, [], HH, ⟨by have := HKK.out; omega⟩, ⟨by
          have q := (HN.out.below Zq59).addP NC.out (by rw [← Ny.out]; exact HO13.out) HG13.out; rw [← Ny.out] at q; rw [show y.map (·.f0) = ps.map (·.f0) ++ [p.f0] from by rw [Ny.out]; simp]
          exact q⟩⟩
        ·rw [if_neg hpe] at h
         obtain ⟨rfl, rfl, rfl⟩ : z27 = x1 ∧ pe = e1 ∧ pq = q1 := by simpa using h
         have hpb : (pe != 0) = true := bne_iff_ne.mpr hpe; have HPE := AK hpe; clear h hpe; (go_wp2_with (first | (go_at_call 40; refine (reader_token.calls k1 (some ab) cb lb (.slice At lt.length ct) i g w0 _ _ _ _ hC.out hcb.out HN.out.rs HTK.out).mono ?_; rintro e w2 ⟨rfl, hm⟩; have HN := Zq94; clear hm; have bz0 := HN.out.blk; have n0 : w2.cell? ⟨gn, 0, none⟩ = some (.string s) := (blk_cell bz0 0).trans rfl; have m0_ : w2.frozen? ⟨gn, 0, none⟩ = false := blk_frozen bz0 0; have n1 : w2.cell? ⟨gn, 1, none⟩ = some (.slice A1 ps.length c1) := (blk_cell bz0 1).trans rfl; have m1_ : w2.frozen? ⟨gn, 1, none⟩ = false := blk_frozen bz0 1; have n2 : w2.cell? ⟨gn, 2, none⟩ = some (.slice A2 0 c2) := (blk_cell bz0 2).trans rfl; have m2_ : w2.frozen? ⟨gn, 2, none⟩ = false := blk_frozen bz0 2; have rz0 := blk_kept B6.out HN.out.kept NC6.out; have z0 : w2.cell? ⟨W.heap.size, 0, none⟩ = some (.string ⟨#[]⟩) := (blk_cell rz0 0).trans rfl; have y0_ : w2.frozen? ⟨W.heap.size, 0, none⟩ = false := blk_frozen rz0 0; have z1 : w2.cell? ⟨W.heap.size, 1, none⟩ = some (.slice none 0 0) := (blk_cell rz0 1).trans rfl; have y1_ : w2.frozen? ⟨W.heap.size, 1, none⟩ = false := blk_frozen rz0 1; have z2 : w2.cell? ⟨W.heap.size, 2, none⟩ = some (.slice none 0 0) := (blk_cell rz0 2).trans rfl; have y2_ : w2.frozen? ⟨W.heap.size, 2, none⟩ = false := blk_frozen rz0 2; have BZ := AK rz0; clear bz0 rz0; have sz0 : W.heap.size < w2.heap.size := blk_lt BZ.out; have sz1 : gn < w2.heap.size := blk_lt HN.out.blk) | (go_at_call 58; refine (reader_prop.calls k1 ab cb lb At ct lt q (ps.map (·.f0)) g (gn + 1) w0 _ _ _ _ hC.out hcb.out hCt.out hct.out HN.out.rs HN.out.mP NC.out.lop NC.out.ggp HP.out).mono ?_; rintro e w3 ⟨vp, rfl, hop, hrp⟩; obtain ⟨Ap, cp, rfl⟩ := Kd.R_slice hrp; have HOE := AK hop; have rz0 := blk_kept BZ.out hop.kept (fun e => e.elim NC.out.six.1 NC.out.six.2.2.1); have z0 : w3.cell? ⟨W.heap.size, 0, none⟩ = some (.string ⟨#[]⟩) := (blk_cell rz0 0).trans rfl; have y0_ : w3.frozen? ⟨W.heap.size, 0, none⟩ = false := blk_frozen rz0 0; have z1 : w3.cell? ⟨W.heap.size, 1, none⟩ = some (.slice none 0 0) := (blk_cell rz0 1).trans rfl; have y1_ : w3.frozen? ⟨W.heap.size, 1, none⟩ = false := blk_frozen rz0 1; have z2 : w3.cell? ⟨W.heap.size, 2, none⟩ = some (.slice none 0 0) := (blk_cell rz0 2).trans rfl; have y2_ : w3.frozen? ⟨W.heap.size, 2, none⟩ = false := blk_frozen rz0 2; have BZ := AK rz0; clear rz0; have sz0 : W.heap.size < w3.heap.size := blk_lt BZ.out; clear hop hrp))); refine bodyPost_ret (results_ct rfl _ _ W.heap.size 27 #[.string ⟨#[]⟩, .slice none 0 0, .slice none 0 0] (0, 0) _ rfl (by refine blk_alloc ?_ _; refine blk_put (cs := #[.string ⟨#[]⟩, .slice none 0 0, .slice none 0 0]) ?_ 2 _ rfl; refine blk_put (cs := #[.string ⟨#[]⟩, .slice none 0 0, .slice none 0 0]) ?_ 1 _ rfl; refine blk_put (cs := #[.string ⟨#[]⟩, .slice none 0 0, .slice none 0 0]) ?_ 0 _ rfl; exact BZ.out) Tryz.underlying27 rfl Zq3) rfl ⟨.slice none 0 0, .slice none 0 0, rfl, ?_, Kd.R_nil _ _ _ _ _, Kd.R_nil _ _ _ _ _⟩; exact OpR.below (OpR.outer (OpR.outer (OpR.outer (OpR.trans_ HN.out HOE.out Zq1 HK0.out (Nat.le_of_lt hWg) Zq1 Zq1 HPE.out) HLTG.out HLTM.out HS.out.bel.size 0 _) HLTG.out HLTM.out HS.out.bel.size 1 _) HLTG.out HLTM.out HS.out.bel.size 2 _) Zq59
      ·rw [if_neg t3] at h; have t3b : (tv == 3) = false := beq_eq_false_iff_ne.mpr t3; clear t3
       by_cases t2 : tv = 2
       ·subst t2; rw [if_pos rfl] at h
        obtain ⟨rfl, rfl, rfl⟩ : (⟨s, ps, ks⟩ : S27) = x1 ∧ (0 : Int) = e1 ∧ q = q1 := by simpa using h
        clear h; (go_wp2_with (go_at_call 40; refine (reader_token.calls k1 (some ab) cb lb (.slice At lt.length ct) i g w0 _ _ _ _ hC.out hcb.out HN.out.rs HTK.out).mono ?_; rintro e w2 ⟨rfl, hm⟩; have HN := Zq94; clear hm; have bz0 := HN.out.blk; have n0 : w2.cell? ⟨gn, 0, none⟩ = some (.string s) := (blk_cell bz0 0).trans rfl; have m0_ : w2.frozen? ⟨gn, 0, none⟩ = false := blk_frozen bz0 0; have n1 : w2.cell? ⟨gn, 1, none⟩ = some (.slice A1 ps.length c1) := (blk_cell bz0 1).trans rfl; have m1_ : w2.frozen? ⟨gn, 1, none⟩ = false := blk_frozen bz0 1; have n2 : w2.cell? ⟨gn, 2, none⟩ = some (.slice A2 ks.length c2) := (blk_cell bz0 2).trans rfl; have m2_ : w2.frozen? ⟨gn, 2, none⟩ = false := blk_frozen bz0 2; have rz0 := blk_kept B6.out HN.out.kept NC6.out; have z0 : w2.cell? ⟨W.heap.size, 0, none⟩ = some (.string ⟨#[]⟩) := (blk_cell rz0 0).trans rfl; have y0_ : w2.frozen? ⟨W.heap.size, 0, none⟩ = false := blk_frozen rz0 0; have z1 : w2.cell? ⟨W.heap.size, 1, none⟩ = some (.slice none 0 0) := (blk_cell rz0 1).trans rfl; have y1_ : w2.frozen? ⟨W.heap.size, 1, none⟩ = false := blk_frozen rz0 1; have z2 : w2.cell? ⟨W.heap.size, 2, none⟩ = some (.slice none 0 0) := (blk_cell rz0 2).trans rfl; have y2_ : w2.frozen? ⟨W.heap.size, 2, none⟩ = false := blk_frozen rz0 2; have BZ := AK rz0; clear bz0 rz0; have sz0 : W.heap.size < w2.heap.size := blk_lt BZ.out; have sz1 : gn < w2.heap.size := blk_lt HN.out.blk)); refine bodyPost_ret (results_ct rfl _ _ W.heap.size 27 #[.string s, .slice A1 ps.length c1, .slice A2 ks.length c2] (0, 0) _ rfl (by refine blk_put (cs := #[.string s, .slice A1 ps.length c1, .slice none 0 0]) ?_ 2 _ rfl; refine blk_put (cs := #[.string s, .slice none 0 0, .slice none 0 0]) ?_ 1 _ rfl; refine blk_put (cs := #[.string ⟨#[]⟩, .slice none 0 0, .slice none 0 0]) ?_ 0 _ rfl; exact BZ.out) Tryz.underlying27 rfl Zq3) rfl ⟨.slice A1 ps.length c1, .slice A2 ks.length c2, rfl, ?_, ?_, ?_⟩; (·exact OpR.outer (OpR.outer (OpR.outer (HN.out.ok NC.out HK0.out (Nat.le_of_lt hWg) Zq1 Zq1 HMM.out) HLTG.out HLTM.out HS.out.bel.size 0 _) HLTG.out HLTM.out HS.out.bel.size 1 _) HLTG.out HLTM.out HS.out.bel.size 2 _); (·exact Kd.R_lower (R_out3 HN.out.rp NC.out.b6 _ _ _) HK0.out.1); (·exact Kd.R_lower (R_out3 HN.out.rk NC.out.b6 _ _ _) HK0.out.1)
       ·rw [if_neg t2] at h; have t2b : (tv == 2) = false := beq_eq_false_iff_ne.mpr t2; clear t2; obtain ⟨⟨x, pe, pq⟩, hp, h⟩ := Option.bind_eq_some_iff.mp h; simp only at h; have HP := AK hp; have HKL := AK (show k1 < k + 1 by have := HKK.out; omega); have hwd := i64_w (d + 1); clear hp
        by_cases hpe : pe = 0
        ·subst hpe; rw [if_pos rfl] at h
         by_cases hl : ks.length + 1 < 1099511627776
         case neg => rw [if_neg hl] at h; cases h
         rw [if_pos hl] at h
         obtain ⟨y, hy⟩ : ∃ y, y = ks ++ [x] := ⟨_, rfl⟩
         have HH := AK (hy ▸ h); have Ny := AK hy; have HLIM := AK hl; clear h hy hl; go_wp2_with (first | (go_at_call 40; refine (reader_token.calls k1 (some ab) cb lb (.slice At lt.length ct) i g w0 _ _ _ _ hC.out hcb.out HN.out.rs HTK.out).mono ?_; rintro e w2 ⟨rfl, hm⟩; have HN := Zq94; clear hm; have bz0 := HN.out.blk; have n0 : w2.cell? ⟨gn, 0, none⟩ = some (.string s) := (blk_cell bz0 0).trans rfl; have m0_ : w2.frozen? ⟨gn, 0, none⟩ = false := blk_frozen bz0 0; have n1 : w2.cell? ⟨gn, 1, none⟩ = some (.slice A1 ps.length c1) := (blk_cell bz0 1).trans rfl; have m1_ : w2.frozen? ⟨gn, 1, none⟩ = false := blk_frozen bz0 1; have n2 : w2.cell? ⟨gn, 2, none⟩ = some (.slice A2 ks.length c2) := (blk_cell bz0 2).trans rfl; have m2_ : w2.frozen? ⟨gn, 2, none⟩ = false := blk_frozen bz0 2; have rz0 := blk_kept B6.out HN.out.kept NC6.out; have z0 : w2.cell? ⟨W.heap.size, 0, none⟩ = some (.string ⟨#[]⟩) := (blk_cell rz0 0).trans rfl; have y0_ : w2.frozen? ⟨W.heap.size, 0, none⟩ = false := blk_frozen rz0 0; have z1 : w2.cell? ⟨W.heap.size, 1, none⟩ = some (.slice none 0 0) := (blk_cell rz0 1).trans rfl; have y1_ : w2.frozen? ⟨W.heap.size, 1, none⟩ = false := blk_frozen rz0 1; have z2 : w2.cell? ⟨W.heap.size, 2, none⟩ = some (.slice none 0 0) := (blk_cell rz0 2).trans rfl; have y2_ : w2.frozen? ⟨W.heap.size, 2, none⟩ = false := blk_frozen rz0 2; have BZ := AK rz0; clear bz0 rz0; have sz0 : W.heap.size < w2.heap.size := blk_lt BZ.out; have sz1 : gn < w2.heap.size := blk_lt HN.out.blk) | (go_at_call 41; refine (IH.out k1 HKL.out q (ks.map (·.f0)) _ (gn + 1 + 1) _ _ _ _ HN.out.rs HN.out.mK NC.out.lok NC.out.ggk HP.out).mono ?_; rintro e w3 ⟨vp, vk, rfl, hop, hrp, hrk⟩; obtain ⟨Ap, cp, rfl⟩ := Kd.R_slice hrp; obtain ⟨Ak, ck, rfl⟩ := Kd.R_slice hrk; have HLP := AK (Kd.R_lt HN.out.rk); have HW2 := AK HN.out.kept.1; have HN := AK (HN.out.kid NC.out hop); have HRP := AK hrp; have HRK := AK hrk; clear hop hrp hrk; have bz0 := HN.out.blk; have n0 : w3.cell? ⟨gn, 0, none⟩ = some (.string s) := (blk_cell bz0 0).trans rfl; have m0_ : w3.frozen? ⟨gn, 0, none⟩ = false := blk_frozen bz0 0; have n1 : w3.cell? ⟨gn, 1, none⟩ = some (.slice A1 ps.length c1) := (blk_cell bz0 1).trans rfl; have m1_ : w3.frozen? ⟨gn, 1, none⟩ = false := blk_frozen bz0 1; have n2 : w3.cell? ⟨gn, 2, none⟩ = some (.slice A2 ks.length c2) := (blk_cell bz0 2).trans rfl; have m2_ : w3.frozen? ⟨gn, 2, none⟩ = false := blk_frozen bz0 2; have rz0 := blk_kept B6.out HN.out.kept NC6.out; have z0 : w3.cell? ⟨W.heap.size, 0, none⟩ = some (.string ⟨#[]⟩) := (blk_cell rz0 0).trans rfl; have y0_ : w3.frozen? ⟨W.heap.size, 0, none⟩ = false := blk_frozen rz0 0; have z1 : w3.cell? ⟨W.heap.size, 1, none⟩ = some (.slice none 0 0) := (blk_cell rz0 1).trans rfl; have y1_ : w3.frozen? ⟨W.heap.size, 1, none⟩ = false := blk_frozen rz0 1; have z2 : w3.cell? ⟨W.heap.size, 2, none⟩ = some (.slice none 0 0) := (blk_cell rz0 2).trans rfl; have y2_ : w3.frozen? ⟨W.heap.size, 2, none⟩ = false := blk_frozen rz0 2; have BZ := AK rz0; clear bz0 rz0; have sz0 : W.heap.size < w3.heap.size := blk_lt BZ.out; have sz1 : gn < w3.heap.size := blk_lt HN.out.blk) | (at_builtin; refine Kd.R_append k27 (w0 := _) wL.heap.size rfl (.tmp 52) (.tmp 54) 25 27 (.agg #[.string ⟨#[]⟩, .slice none 0 0, .slice none 0 0]) 64 rfl Tryz.underlying25 info_node rfl Zq2 Zq1 (.slice A2 ks.length c2) ks x [.string x.f0, .slice Ap x.f1.length cp, .slice Ak x.f2.length ck] (fun _ => True) (fun k => w2.heap.size ≤ k) rfl (Eq.trans (b := Value.slice (some (⟨w3.heap.size + 1, 0, none⟩ : Addr)) 1 1) rfl Zq7) (k27_mkM _ _ _ x (R_made HRP.out Zq59 HW2.out) (R_made HRK.out Zq59 HW2.out)) (fun k hk => ⟨trivial, fun e => by have := HLP.out k e.symm; omega⟩) (fun _ _ => trivial) (HN.out.below Zq59).rk (Below.refl _ _) (HN.out.below Zq59).kept.1 (by have := HLIM.out; omega) ?_; intro v13 w13 ho hb hg hat; rw [← Ny.out] at ho; obtain ⟨An, cn, rfl⟩ := Kd.R_slice ho; have HO13 := AK ho; have HG13 := AK hg; have HB13 := AK (blk_grown (HN.out.below Zq59).blk hg (fun e => by have := (HN.out.ownK gn e.symm); have := NC.out.bgn; omega)); have q1_ : w13.cell? ⟨gn, 2, none⟩ = some (.slice A2 ks.length c2) := (blk_cell HB13.out 2).trans rfl; have q2_ : w13.frozen? ⟨gn, 2, none⟩ = false := blk_frozen HB13.out 2; clear ho hb hg hat))
         go_roundg k1
         case measure => omega
         case rel => exact ⟨pq, A1, c1, ps, An, cn, y, HH, ⟨by have := HKK.out; omega⟩, ⟨by
          have q := (HN.out.below Zq59).addK NC.out (by rw [← Ny.out]; exact HO13.out) HG13.out; rw [← Ny.out] at q; rw [show y.map (·.f0) = ks.map (·.f0) ++ [x.f0] from by rw [Ny.out]; simp]
          exact q⟩⟩
        ·rw [if_neg hpe] at h
         obtain ⟨rfl, rfl, rfl⟩ : z27 = x1 ∧ pe = e1 ∧ pq = q1 := by simpa using h
         have hpb : (pe != 0) = true := bne_iff_ne.mpr hpe; have HPE := AK hpe; clear h hpe; (go_wp2_with (first | (go_at_call 40; refine (reader_token.calls k1 (some ab) cb lb (.slice At lt.length ct) i g w0 _ _ _ _ hC.out hcb.out HN.out.rs HTK.out).mono ?_; rintro e w2 ⟨rfl, hm⟩; have HN := Zq94; clear hm; have bz0 := HN.out.blk; have n0 : w2.cell? ⟨gn, 0, none⟩ = some (.string s) := (blk_cell bz0 0).trans rfl; have m0_ : w2.frozen? ⟨gn, 0, none⟩ = false := blk_frozen bz0 0; have n1 : w2.cell? ⟨gn, 1, none⟩ = some (.slice A1 ps.length c1) := (blk_cell bz0 1).trans rfl; have m1_ : w2.frozen? ⟨gn, 1, none⟩ = false := blk_frozen bz0 1; have n2 : w2.cell? ⟨gn, 2, none⟩ = some (.slice A2 ks.length c2) := (blk_cell bz0 2).trans rfl; have m2_ : w2.frozen? ⟨gn, 2, none⟩ = false := blk_frozen bz0 2; have rz0 := blk_kept B6.out HN.out.kept NC6.out; have z0 : w2.cell? ⟨W.heap.size, 0, none⟩ = some (.string ⟨#[]⟩) := (blk_cell rz0 0).trans rfl; have y0_ : w2.frozen? ⟨W.heap.size, 0, none⟩ = false := blk_frozen rz0 0; have z1 : w2.cell? ⟨W.heap.size, 1, none⟩ = some (.slice none 0 0) := (blk_cell rz0 1).trans rfl; have y1_ : w2.frozen? ⟨W.heap.size, 1, none⟩ = false := blk_frozen rz0 1; have z2 : w2.cell? ⟨W.heap.size, 2, none⟩ = some (.slice none 0 0) := (blk_cell rz0 2).trans rfl; have y2_ : w2.frozen? ⟨W.heap.size, 2, none⟩ = false := blk_frozen rz0 2; have BZ := AK rz0; clear bz0 rz0; have sz0 : W.heap.size < w2.heap.size := blk_lt BZ.out; have sz1 : gn < w2.heap.size := blk_lt HN.out.blk) | (go_at_call 41; refine (IH.out k1 HKL.out q (ks.map (·.f0)) _ (gn + 1 + 1) _ _ _ _ HN.out.rs HN.out.mK NC.out.lok NC.out.ggk HP.out).mono ?_; rintro e w3 ⟨vp, vk, rfl, hop, hrp, hrk⟩; obtain ⟨Ap, cp, rfl⟩ := Kd.R_slice hrp; obtain ⟨Ak, ck, rfl⟩ := Kd.R_slice hrk; have HOE := AK hop; have rz0 := blk_kept BZ.out hop.kept (fun e => e.elim NC.out.six.1 NC.out.six.2.2.2); have z0 : w3.cell? ⟨W.heap.size, 0, none⟩ = some (.string ⟨#[]⟩) := (blk_cell rz0 0).trans rfl; have y0_ : w3.frozen? ⟨W.heap.size, 0, none⟩ = false := blk_frozen rz0 0; have z1 : w3.cell? ⟨W.heap.size, 1, none⟩ = some (.slice none 0 0) := (blk_cell rz0 1).trans rfl; have y1_ : w3.frozen? ⟨W.heap.size, 1, none⟩ = false := blk_frozen rz0 1; have z2 : w3.cell? ⟨W.heap.size, 2, none⟩ = some (.slice none 0 0) := (blk_cell rz0 2).trans rfl; have y2_ : w3.frozen? ⟨W.heap.size, 2, none⟩ = false := blk_frozen rz0 2; have BZ := AK rz0; clear rz0; have sz0 : W.heap.size < w3.heap.size := blk_lt BZ.out; clear hop hrp hrk))); refine bodyPost_ret (results_ct rfl _ _ W.heap.size 27 #[.string ⟨#[]⟩, .slice none 0 0, .slice none 0 0] (0, 0) _ rfl (by refine blk_alloc ?_ _; refine blk_put (cs := #[.string ⟨#[]⟩, .slice none 0 0, .slice none 0 0]) ?_ 2 _ rfl; refine blk_put (cs := #[.string ⟨#[]⟩, .slice none 0 0, .slice none 0 0]) ?_ 1 _ rfl; refine blk_put (cs := #[.string ⟨#[]⟩, .slice none 0 0, .slice none 0 0]) ?_ 0 _ rfl; exact BZ.out) Tryz.underlying27 rfl Zq3) rfl ⟨.slice none 0 0, .slice none 0 0, rfl, ?_, Kd.R_nil _ _ _ _ _, Kd.R_nil _ _ _ _ _⟩; exact OpR.below (OpR.outer (OpR.outer (OpR.outer (OpR.trans_ HN.out HOE.out Zq1 HK0.out (Nat.le_of_lt hWg) Zq1 Zq1 HPE.out) HLTG.out HLTM.out HS.out.bel.size 0 _) HLTG.out HLTM.out HS.out.bel.size 1 _) HLTG.out HLTM.out HS.out.bel.size 2 _) Zq59
 ·rw [if_neg he] at h
  obtain ⟨rfl, rfl, rfl⟩ : z27 = x1 ∧ e0 = e1 ∧ q0 = q1 := by simpa using h
  clear h; have heb : (e0 != 0) = true := bne_iff_ne.mpr he; have HE := AK he; clear he; go_enter Tryz.func41, Tryz.ntmps41; (go_wp2_with (go_at_call 57; refine HO.out.mono ?_; rintro e w1 ⟨rfl, hx⟩; have HX := AK hx; have B1 := AK (blk_kept BN.out hx.kept (fun e => by have := HLTG.out; have := HLTM.out; omega)); have z0 : w1.cell? ⟨W.heap.size, 0, none⟩ = some (.string ⟨#[]⟩) := (blk_cell B1.out 0).trans rfl; have z1 : w1.cell? ⟨W.heap.size, 1, none⟩ = some (.slice none 0 0) := (blk_cell B1.out 1).trans rfl; have z2 : w1.cell? ⟨W.heap.size, 2, none⟩ = some (.slice none 0 0) := (blk_cell B1.out 2).trans rfl; have y0 : w1.frozen? ⟨W.heap.size, 0, none⟩ = false := blk_frozen B1.out 0; have y1 : w1.frozen? ⟨W.heap.size, 1, none⟩ = false := blk_frozen B1.out 1; have y2 : w1.frozen? ⟨W.heap.size, 2, none⟩ = false := blk_frozen B1.out 2; clear hx)); refine bodyPost_ret (results_ct rfl _ _ W.heap.size 27 #[.string ⟨#[]⟩, .slice none 0 0, .slice none 0 0] (0, 0) _ rfl (by refine blk_put (cs := #[.string ⟨#[]⟩, .slice none 0 0, .slice none 0 0]) ?_ 2 _ rfl; refine blk_put (cs := #[.string ⟨#[]⟩, .slice none 0 0, .slice none 0 0]) ?_ 1 _ rfl; refine blk_put (cs := #[.string ⟨#[]⟩, .slice none 0 0, .slice none 0 0]) ?_ 0 _ rfl; exact B1.out) Tryz.underlying27 rfl Zq3) rfl ⟨.slice none 0 0, .slice none 0 0, rfl, ?_, Kd.R_nil _ _ _ _ _, Kd.R_nil _ _ _ _ _⟩; exact OpR.outer (OpR.outer (OpR.outer (⟨HX.out.st, (((Kept.refl W _).alloc _).then_ HX.out.kept (fun _ hk => .inl hk)), fun h0 => absurd h0 HE.out⟩) HLTG.out HLTM.out HS.out.bel.size 0 _) HLTG.out HLTM.out HS.out.bel.size 1 _) HLTG.out HLTM.out HS.out.bel.size 2 _
set_option maxRecDepth 100000 in
set_option maxHeartbeats 4000000 in
theorem decode_Decode.err (A0 : Option Addr) (c0 : Nat) (l0 : List Int) (e : Int) (w : World) (hr0 : Kd.C (Kd.int .u8) w A0 l0.length l0) (hc0 : l0.length ≤ c0) (h : decode_Header.f l0 = some (.zero, e)) (he : e ≠ 0) :
  Calls Tryz.prog 25 #[.slice A0 l0.length c0] w fun e' w' => e' = .returned (.tuple #[.agg #[.int .u32 0, .slice none 0 0, .string ⟨#[]⟩, .slice none 0 0, .slice none 0 0], .int .i64 e]) ∧ Below w.heap.size w w' := by
 have q := fun (W : World) hC => decode_Header.calls A0 c0 l0 .zero e W hC hc0 h
 have eb : (e != 0) = true := bne_iff_ne.mpr he; have eb2 : (e == 0) = false := beq_eq_false_iff_ne.mpr he; have HR0 := AK hr0; have Q := AK q; clear q h hr0 he; go_enter Tryz.func25, Tryz.ntmps25; (go_wp2_with (go_at_call 38; refine (Q.out _ (Kd.C_below HR0.out Zq59)).mono ?_; simp only [Hdr.val, Hdr.zero]; rintro e w' ⟨rfl, hb⟩; have HB := AK hb; have HK := Zq93; have z0 : w'.cell? ⟨w.heap.size, 0, none⟩ = some (.int .u32 0) := (blk_cell HK.out 0).trans rfl; have f0 : w'.frozen? ⟨w.heap.size, 0, none⟩ = false := blk_frozen HK.out 0; have z1 : w'.cell? ⟨w.heap.size, 1, none⟩ = some (.slice none 0 0) := (blk_cell HK.out 1).trans rfl; have f1 : w'.frozen? ⟨w.heap.size, 1, none⟩ = false := blk_frozen HK.out 1; have z2 : w'.cell? ⟨w.heap.size, 2, none⟩ = some (.string ⟨#[]⟩) := (blk_cell HK.out 2).trans rfl; have f2 : w'.frozen? ⟨w.heap.size, 2, none⟩ = false := blk_frozen HK.out 2; have z3 : w'.cell? ⟨w.heap.size, 3, none⟩ = some (.slice none 0 0) := (blk_cell HK.out 3).trans rfl; have f3 : w'.frozen? ⟨w.heap.size, 3, none⟩ = false := blk_frozen HK.out 3; have z4 : w'.cell? ⟨w.heap.size, 4, none⟩ = some (.slice none 0 0) := (blk_cell HK.out 4).trans rfl; have f4 : w'.frozen? ⟨w.heap.size, 4, none⟩ = false := blk_frozen HK.out 4; have hlt : w.heap.size < w'.heap.size := blk_lt HK.out; clear hb)); refine bodyPost_ret (results_ct rfl _ _ w.heap.size 29 #[.int .u32 0, .slice none 0 0, .string ⟨#[]⟩, .slice none 0 0, .slice none 0 0] (0, 0) _ rfl (by refine blk_alloc ?_ _; refine blk_put (cs := #[.int .u32 0, .slice none 0 0, .string ⟨#[]⟩, .slice none 0 0, .slice none 0 0]) ?_ 4 _ rfl; refine blk_put (cs := #[.int .u32 0, .slice none 0 0, .string ⟨#[]⟩, .slice none 0 0, .slice none 0 0]) ?_ 3 _ rfl; refine blk_put (cs := #[.int .u32 0, .slice none 0 0, .string ⟨#[]⟩, .slice none 0 0, .slice none 0 0]) ?_ 2 _ rfl; refine blk_put (cs := #[.int .u32 0, .slice none 0 0, .string ⟨#[]⟩, .slice none 0 0, .slice none 0 0]) ?_ 1 _ rfl; refine blk_put (cs := #[.int .u32 0, .slice none 0 0, .string ⟨#[]⟩, .slice none 0 0, .slice none 0 0]) ?_ 0 _ rfl; exact HK.out) Tryz.underlying29 rfl Zq3) rfl ⟨rfl, ?_⟩; exact below_alloc ((((((below_step Zq59 HB.out).setCell (Nat.le_refl _) _).setCell (Nat.le_refl _) _).setCell (Nat.le_refl _) _).setCell (Nat.le_refl _) _).setCell (Nat.le_refl _) _) _
def cellB (v : Int) : List Int := [v / 16777216 % 256, v / 65536 % 256, v / 256 % 256, v % 256]
theorem cellB_length (v : Int) : (cellB v).length = 4 := rfl
theorem u64_small {x : Int} (h0 : 0 ≤ x) (h1 : x < 18446744073709551616) : IntKind.u64.wrap x = x := by
 simp only [IntKind.wrap, IntKind.bits, IntKind.signed]
 simp
 omega
theorem bytes_four (v : Int) (h0 : 0 ≤ v) (h1 : v < 18446744073709551616) : arboretref01_Bytes.f 5 v 4 = some (cellB v) := by
 have d : ∀ x : Int, 0 ≤ x → x < 18446744073709551616 → IntKind.u64.wrap (x.tdiv 256) = x / 256 := fun x h h' => by
  rw [Int.tdiv_eq_ediv_of_nonneg h, u64_small Zq1 Zq1]
 have m : ∀ x : Int, 0 ≤ x → x.tmod 256 % 256 = x % 256 := fun x h => by
  rw [Int.tmod_eq_emod_of_nonneg h]; omega
 have w3 : wrap64 (4 - 1) = 3 := by unfold wrap64; omega
 have w2 : wrap64 (3 - 1) = 2 := by unfold wrap64; omega
 have w1 : wrap64 (2 - 1) = 1 := by unfold wrap64; omega
 have w0 : wrap64 (1 - 1) = 0 := by unfold wrap64; omega
 have wm : wrap64 (0 - 1) = -1 := by unfold wrap64; omega
 have e1 : v / 256 / 256 = v / 65536 := by omega
 have e2 : v / 65536 / 256 = v / 16777216 := by omega
 unfold arboretref01_Bytes.f; rw [if_pos Zq2, if_pos Zq2, w3]; have l4 : (List.replicate (4 : Int).toNat (0 : Int)) = [0, 0, 0, 0] := rfl; rw [l4]; simp only [arboretref01_Bytes.l0]; rw [if_pos Zq2, if_pos Zq2, if_pos Zq2, w2, d v h0 h1, m v h0]; rw [if_pos Zq2, if_pos Zq2, if_pos Zq7, w1, d _ Zq1 Zq1, m _ Zq1, e1]; rw [if_pos Zq2, if_pos Zq2, if_pos Zq7, w0, d _ Zq1 Zq1, m _ Zq1, e2]; rw [if_pos Zq2, if_pos Zq2, if_pos Zq7, wm, m _ Zq1]; rw [if_neg Zq2]; rfl
theorem or_byte {x y : Int} (hx : 0 ≤ x) (hx1 : x < 72057594037927936) (hy : 0 ≤ y) (hy1 : y ≤ 255) : Go.bits .or .u64 (IntKind.u64.wrap (x * 256)) (IntKind.u64.wrap y) = x * 256 + y := by
 rw [u64_small Zq1 Zq1, u64_small hy Zq1]; exact Go.bits_join .u64 64 Zq2 (fun n h0 h1 => u64_small h0 (by simpa using h1)) 8 (x * 256) y Zq1 (by simp only [Int.reducePow]; omega) (by simp only [Int.reducePow]; omega) hy (by simp only [Int.reducePow]; omega) (by simp only [Int.reducePow]; omega)
theorem numb_four (a b c d : Int) (ha : 0 ≤ a ∧ a ≤ 255) (hb : 0 ≤ b ∧ b ≤ 255) (hc : 0 ≤ c ∧ c ≤ 255) (hd : 0 ≤ d ∧ d ≤ 255) : numb [a, b, c, d] = a * 16777216 + b * 65536 + c * 256 + d := by
 unfold numb; simp only [List.foldl_cons, List.foldl_nil]; rw [or_byte (x := 0) Zq1 Zq1 ha.1 ha.2]; rw [or_byte Zq1 Zq1 hb.1 hb.2, or_byte Zq1 Zq1 hc.1 hc.2, or_byte Zq1 Zq1 hd.1 hd.2]; omega
theorem numb_cellB (v : Int) (h0 : 0 ≤ v) (h1 : v < 4294967296) : numb (cellB v) = v := by
 unfold cellB; rw [numb_four _ _ _ _ Zq1 Zq1 Zq1 Zq1]; omega
theorem cellAt_mid (p q : List Int) (v : Int) (h0 : 0 ≤ v) (h1 : v < 4294967296) : words_Get.f (p ++ cellB v ++ q) (p.length : Int) = some (v, true) := by
 unfold words_Get.f; rw [if_pos ⟨Int.natCast_nonneg _, by simp only [List.length_append, cellB_length]; omega⟩]
 have e : (((p ++ cellB v ++ q).take ((p.length : Int) + 4).toNat).drop (p.length : Int).toNat) = cellB v := by
  have e1 : ((p.length : Int) + 4).toNat = (p ++ cellB v).length := by rw [List.length_append, cellB_length]; omega
  rw [e1, List.take_left, Int.toNat_natCast, List.drop_left]
 rw [e, numb_cellB v h0 h1]
 have : v % 4294967296 = v := by omega
 rw [this]
def partB (l : List Int) (a n : Int) : List Int := (l.take (a + n).toNat).drop a.toNat
def decode_Decode.f (k : Nat) (l : List Int) : Option (S29 × Int) :=
 (decode_Header.f l).bind fun h => if h.2 = 0 then
  (decode_reserves.f k l h.1.c4).bind fun r => if r.2 = 0 then
   (tokF k (partB l h.1.c2 h.1.c9) 0).bind fun t => if t.2.1 = true then (if t.1 = 1 then
    (nodeF k (partB l h.1.c2 h.1.c9) (partB l h.1.c3 h.1.c8) t.2.2 [] 1).bind fun x => if x.2.1 = 0 then
     (tokF k (partB l h.1.c2 h.1.c9) x.2.2).bind fun u => if u.2.1 = true then (if u.1 = 9 then (if u.2.2 = ((partB l h.1.c2 h.1.c9).length : Int) then
      (tree_Count.f k x.1.f0 x.1.f1 x.1.f2).bind fun c => if c.1 > 4096 then some (z29, 7) else if c.2 > 8192 then some (z29, 7) else some (⟨h.1.c7, r.1, x.1⟩, 0)
     else some (z29, 4)) else some (z29, 4)) else some (z29, 4)
    else some (z29, x.2.1)
   else some (z29, 4)) else some (z29, 4)
  else some (z29, r.2)
 else some (z29, h.2)
theorem header_ok {l : List Int} {h : Hdr} (hh : decode_Header.f l = some (h, 0)) : h = hdrOf l ∧ 40 ≤ l.length ∧ l.length ≤ 1048576 ∧ inB h.c2 h.c9 l.length = true ∧ inB h.c3 h.c8 l.length = true ∧ inB h.c4 0 l.length = true ∧ h.c1 = l.length := by
 unfold decode_Header.f at hh; replace hh := Option.some.inj hh
 by_cases c1 : l.length < 40
 ·rw [if_pos c1] at hh; simp at hh
 rw [if_neg c1] at hh
 by_cases c2 : 1048576 < l.length
 ·rw [if_pos c2] at hh; simp at hh
 rw [if_neg c2] at hh
 by_cases c3 : hdrErr (hdrOf l) l.length = 0
 ·rw [if_pos c3] at hh; obtain ⟨rfl, _⟩ := Prod.mk.inj hh; unfold hdrErr at c3; refine ⟨rfl, Zq1, Zq1, ?_⟩
  split at c3
  ·split at c3
   ·split at c3
    ·split at c3
     ·split at c3
      ·split at c3
       ·split at c3
        ·exact ⟨by assumption, by assumption, by assumption, by assumption⟩
        ·omega
       ·omega
      ·omega
     ·omega
    ·omega
   ·omega
  ·omega
 ·rw [if_neg c3] at hh; exact absurd (Prod.mk.inj hh).2 c3
theorem inB_le {a s n : Int} (h : inB a s n = true) (ha : 0 ≤ a ∧ a < 4294967296) (hs : 0 ≤ s ∧ s < 4294967296) (hn : 0 ≤ n ∧ n ≤ 1048576) : 40 ≤ a ∧ a + s ≤ n := by
 unfold inB at h
 split at h
 ·have h := of_decide_eq_true h; rw [u64_small (x := a) Zq1 Zq1, u64_small (x := s) Zq1 Zq1, u64_small (x := n) Zq1 Zq1, u64_small (x := a + s) Zq1 Zq1] at h; omega
 ·cases h
theorem R_keptg {α : Type} {d : Kd α} {e g B : Nat} {W W2 : World} {v : Value} {l : List α} (h : d.R e W B (fun _ => True) v l) (hk : Kept W W2 (fun k => k = g)) (hg : g < B) : d.R e W2 B (fun _ => True) v l :=
 Kd.R_mono (Kd.R_kept (Kd.R_bound h) hk (fun k hk e => by have := hk.2.1; omega)) (fun _ _ => trivial)
theorem R_out5 {α : Type} {d : Kd α} {e : Nat} {W2 : World} {B b : Nat} {v : Value} {l : List α} (h : d.R e W2 b (fun _ => True) v l) (hB : B < b) (u0 u1 u2 u3 u4 : Value) : d.R e (((((W2.setCell ⟨B, 0, none⟩ u0).setCell ⟨B, 1, none⟩ u1).setCell ⟨B, 2, none⟩ u2).setCell ⟨B, 3, none⟩ u3).setCell ⟨B, 4, none⟩ u4) b (fun _ => True) v l := by
 have one : ∀ {W3 : World} (j : Nat) (u : Value), d.R e W3 b (fun _ => True) v l → d.R e (W3.setCell ⟨B, j, none⟩ u) b (fun _ => True) v l := fun j u h => Kd.R_mono (Kd.R_far (p := ⟨B, j, none⟩) (Kd.R_bound h) (fun k hk => by have := hk.2.1; simp only; omega) u) (fun _ _ => trivial)
 exact one 4 u4 (one 3 u3 (one 2 u2 (one 1 u1 (one 0 u0 h))))
end Go.Proofs.YtkopmkinlanhoaaGreat.PE
