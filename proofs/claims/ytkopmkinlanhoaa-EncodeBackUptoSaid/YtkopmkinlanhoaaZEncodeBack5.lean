/- EncodeBack: texts of this session's, and what the kit's print laid for this seat, as far as the law's row uses them (Bk25, Bk26, PEStateEncodeBack, Same1, PureEncodeBack, LawEncodeBack). -/
import Derived.ProofKit
import Derived.OpenShut
import Derived.ShutString
import Derived.ChangeOld
import Derived.JoinedCond
import Derived.Deep.CondSized
import Derived.Test.YtkopmkinlanhoaaZEncodeBack4
set_option linter.unusedVariables false
set_option linter.unusedSimpArgs false
namespace Go.Proofs.Ytkopmkinlanhoaa.PE
open Go.RowKit Go.Proofs.YtkopmkinlanhoaaW.PrintWords Go.Proofs.YtkopmkinlanhoaaW.PrintLast Go.Proofs.YtkopmkinlanhoaaW.PrintMore
attribute [local go_sem] max2_int min2_int max_two min_two max_three min_three max_four min_four
set_option linter.unusedVariables false
set_option linter.unusedSimpArgs false
open Go.Proofs.Ytkopmkinlanhoaa.Aid Go.Proofs.Ytkopmkinlanhoaa.Rdr
structure TreeC (W : World) (t : S29) (A1 : Option Addr) (c1 : Nat) (A3 : Option Addr) (c3 : Nat) (A4 : Option Addr) (c4 : Nat) : Prop where
  r1 : Kd.C k82 W A1 t.f1.length t.f1
  l1 : t.f1.length ≤ c1
  r3 : Kd.C k63 W A3 t.f2.f1.length t.f2.f1
  l3 : t.f2.f1.length ≤ c3
  r4 : Kd.C k27 W A4 t.f2.f2.length t.f2.f2
  l4 : t.f2.f2.length ≤ c4
theorem TreeC.below {W W' : World} {t : S29} {A1 A3 A4 : Option Addr} {c1 c3 c4 : Nat} (h : TreeC W t A1 c1 A3 c3 A4 c4) (hb : Below W.heap.size W W') : TreeC W' t A1 c1 A3 c3 A4 c4 := ⟨Kd.C_below h.r1 hb, h.l1, Kd.C_below h.r3 hb, h.l3, Kd.C_below h.r4 hb, h.l4⟩
abbrev treeV (t : S29) (A1 : Option Addr) (c1 : Nat) (A3 : Option Addr) (c3 : Nat) (A4 : Option Addr) (c4 : Nat) : Value := .agg #[.int .u32 t.f0, .slice A1 t.f1.length c1, .string t.f2.f0, .slice A3 t.f2.f1.length c3, .slice A4 t.f2.f2.length c4]
def SameT (t : S29) : Prop := ∀ (A1 : Option Addr) (c1 : Nat) (A3 : Option Addr) (c3 : Nat) (A4 : Option Addr) (c4 : Nat) (B1 : Option Addr) (d1 : Nat) (B3 : Option Addr) (d3 : Nat) (B4 : Option Addr) (d4 : Nat) (W : World), TreeC W t A1 c1 A3 c3 A4 c4 → TreeC W t B1 d1 B3 d3 B4 d4 →
  Calls Try.prog 25 #[treeV t A1 c1 A3 c3 A4 c4, treeV t B1 d1 B3 d3 B4 d4] W fun e w' => e = .returned (.bool true) ∧ Below W.heap.size W w'
set_option maxRecDepth 100000 in
set_option maxHeartbeats 2000000 in
theorem back.calls (t : S29) (A1 : Option Addr) (c1 : Nat) (A3 : Option Addr) (c3 : Nat) (A4 : Option Addr) (c4 : Nat) (w : World) (hT : TreeC w t A1 c1 A3 c3 A4 c4) (ha : 0 ≤ t.f0 ∧ t.f0 < 4294967296) (k : Nat) (few : Bool) (hfew : arboretlaw03_Few.f k t.f0 t.f1 t.f2.f0 t.f2.f1 t.f2.f2 = some few)
    (r : List Int) (er : Int) (he : encode_Encode.f k t.f0 t.f1 t.f2.f0 t.f2.f1 t.f2.f2 = some (r, er)) (hcase : (er ≠ 0 ∧ r = []) ∨ (er = 0 ∧ decode_Decode.f k r = some (t, 0))) (hsame : SameT t) :
    Calls Try.prog 6 #[treeV t A1 c1 A3 c3 A4 c4] w fun e w' => e = .returned (.bool true) ∧ Below w.heap.size w w' := by
  have hu29 := Try.underlying29
  have hu27 := Try.underlying27
  have HT := Aside0.mk hT
  have HB0 := Aside0.mk (below_alloc (Below.refl w.heap.size w) (.cells #[.int .u32 t.f0, .slice A1 t.f1.length c1, .string t.f2.f0, .slice A3 t.f2.f1.length c3, .slice A4 t.f2.f2.length c4] 29))
  have HK := Aside0.mk (blk_new w (.cells #[.int .u32 t.f0, .slice A1 t.f1.length c1, .string t.f2.f0, .slice A3 t.f2.f1.length c3, .slice A4 t.f2.f2.length c4] 29 (0, 0)))
  have HAW := Aside0.mk awake05.calls
  have HF := Aside0.mk (fun (W : World) (hb : Below w.heap.size w W) => arboretlaw03_Few.calls k t.f0 A1 c1 t.f1 t.f2.f0 A3 c3 t.f2.f1 A4 c4 t.f2.f2 few W (hT.below hb).r1 hT.l1 (hT.below hb).r3 hT.l3 (hT.below hb).r4 hT.l4 hfew)
  have HE := Aside0.mk (fun (W : World) (hb : Below w.heap.size w W) => encode_Encode.calls k t.f0 A1 c1 t.f1 t.f2.f0 A3 c3 t.f2.f1 A4 c4 t.f2.f2 r er W (hT.below hb).r1 hT.l1 (hT.below hb).r3 hT.l3 (hT.below hb).r4 hT.l4 ha he)
  have HS := Aside0.mk hsame
  clear hT hfew he hsame
  cases few with
  | false =>
    go_enter Try.func6, Try.ntmps6
    go_wp2_with (first | (go_at_call 23; refine (HAW.out (w.alloc (.cells #[.int .u32 t.f0, .slice A1 t.f1.length c1, .string t.f2.f0, .slice A3 t.f2.f1.length c3, .slice A4 t.f2.f2.length c4] 29))).mono ?_; rintro e w1 ⟨rfl, hb⟩; have HB1 := Aside0.mk (below_step HB0.out hb); have HK := Aside0.mk (blk_below HK.out hb); have z0 : w1.cell? ⟨w.heap.size, 0, none⟩ = some (.int .u32 t.f0) := (blk_cell HK.out 0).trans rfl; have z1 : w1.cell? ⟨w.heap.size, 1, none⟩ = some (.slice A1 t.f1.length c1) := (blk_cell HK.out 1).trans rfl; have z2 : w1.cell? ⟨w.heap.size, 2, none⟩ = some (.string t.f2.f0) := (blk_cell HK.out 2).trans rfl; have z3 : w1.cell? ⟨w.heap.size, 3, none⟩ = some (.slice A3 t.f2.f1.length c3) := (blk_cell HK.out 3).trans rfl; have z4 : w1.cell? ⟨w.heap.size, 4, none⟩ = some (.slice A4 t.f2.f2.length c4) := (blk_cell HK.out 4).trans rfl; clear hb) | (go_at_call 19; refine (HF.out _ HB1.out).mono ?_; rintro e w2 ⟨rfl, hb⟩; have HB2 := Aside0.mk (below_step HB1.out hb); have HK := Aside0.mk (blk_below HK.out hb); have z0 : w2.cell? ⟨w.heap.size, 0, none⟩ = some (.int .u32 t.f0) := (blk_cell HK.out 0).trans rfl; have z1 : w2.cell? ⟨w.heap.size, 1, none⟩ = some (.slice A1 t.f1.length c1) := (blk_cell HK.out 1).trans rfl; have z2 : w2.cell? ⟨w.heap.size, 2, none⟩ = some (.string t.f2.f0) := (blk_cell HK.out 2).trans rfl; have z3 : w2.cell? ⟨w.heap.size, 3, none⟩ = some (.slice A3 t.f2.f1.length c3) := (blk_cell HK.out 3).trans rfl; have z4 : w2.cell? ⟨w.heap.size, 4, none⟩ = some (.slice A4 t.f2.f2.length c4) := (blk_cell HK.out 4).trans rfl; clear hb) | (go_at_call 23; refine (HAW.out w2).mono ?_; rintro e w3 ⟨rfl, hb⟩; have HB3 := Aside0.mk (below_step HB2.out hb); clear hb))
    refine bodyPost_ret (results_tmp rfl _ _ _) rfl ?_
    exact ⟨rfl, HB3.out⟩
  | true =>
    rcases hcase with ⟨h1, rfl⟩ | ⟨rfl, h2⟩
    · have b0 : (er == 0) = false := beq_eq_false_iff_ne.mpr h1
      have b1 : (er != 0) = true := bne_iff_ne.mpr h1
      go_enter Try.func6, Try.ntmps6
      go_wp2_with (first | (go_at_call 23; refine (HAW.out (w.alloc (.cells #[.int .u32 t.f0, .slice A1 t.f1.length c1, .string t.f2.f0, .slice A3 t.f2.f1.length c3, .slice A4 t.f2.f2.length c4] 29))).mono ?_; rintro e w1 ⟨rfl, hb⟩; have HB1 := Aside0.mk (below_step HB0.out hb); have HK := Aside0.mk (blk_below HK.out hb); have z0 : w1.cell? ⟨w.heap.size, 0, none⟩ = some (.int .u32 t.f0) := (blk_cell HK.out 0).trans rfl; have z1 : w1.cell? ⟨w.heap.size, 1, none⟩ = some (.slice A1 t.f1.length c1) := (blk_cell HK.out 1).trans rfl; have z2 : w1.cell? ⟨w.heap.size, 2, none⟩ = some (.string t.f2.f0) := (blk_cell HK.out 2).trans rfl; have z3 : w1.cell? ⟨w.heap.size, 3, none⟩ = some (.slice A3 t.f2.f1.length c3) := (blk_cell HK.out 3).trans rfl; have z4 : w1.cell? ⟨w.heap.size, 4, none⟩ = some (.slice A4 t.f2.f2.length c4) := (blk_cell HK.out 4).trans rfl; clear hb) | (go_at_call 19; refine (HF.out _ HB1.out).mono ?_; rintro e w2 ⟨rfl, hb⟩; have HB2 := Aside0.mk (below_step HB1.out hb); have HK := Aside0.mk (blk_below HK.out hb); have z0 : w2.cell? ⟨w.heap.size, 0, none⟩ = some (.int .u32 t.f0) := (blk_cell HK.out 0).trans rfl; have z1 : w2.cell? ⟨w.heap.size, 1, none⟩ = some (.slice A1 t.f1.length c1) := (blk_cell HK.out 1).trans rfl; have z2 : w2.cell? ⟨w.heap.size, 2, none⟩ = some (.string t.f2.f0) := (blk_cell HK.out 2).trans rfl; have z3 : w2.cell? ⟨w.heap.size, 3, none⟩ = some (.slice A3 t.f2.f1.length c3) := (blk_cell HK.out 3).trans rfl; have z4 : w2.cell? ⟨w.heap.size, 4, none⟩ = some (.slice A4 t.f2.f2.length c4) := (blk_cell HK.out 4).trans rfl; clear hb) | (go_at_call 24; refine (HE.out _ HB2.out).mono ?_; rintro e w3 ⟨v3, rfl, hr, hb⟩; obtain ⟨A6, c6, rfl, hc6, hC6⟩ := Kd.R_reads hr; have HB3 := Aside0.mk (below_step HB2.out hb); have HX3 := Aside0.mk (And.intro hC6 hc6); have HK := Aside0.mk (blk_below HK.out hb); have z0 : w3.cell? ⟨w.heap.size, 0, none⟩ = some (.int .u32 t.f0) := (blk_cell HK.out 0).trans rfl; have z1 : w3.cell? ⟨w.heap.size, 1, none⟩ = some (.slice A1 t.f1.length c1) := (blk_cell HK.out 1).trans rfl; have z2 : w3.cell? ⟨w.heap.size, 2, none⟩ = some (.string t.f2.f0) := (blk_cell HK.out 2).trans rfl; have z3 : w3.cell? ⟨w.heap.size, 3, none⟩ = some (.slice A3 t.f2.f1.length c3) := (blk_cell HK.out 3).trans rfl; have z4 : w3.cell? ⟨w.heap.size, 4, none⟩ = some (.slice A4 t.f2.f2.length c4) := (blk_cell HK.out 4).trans rfl; clear hr hb hC6 hc6))
      refine bodyPost_ret (results_tmp rfl _ _ _) rfl ?_
      exact ⟨rfl, HB3.out⟩
    · have HD := Aside0.mk h2
      clear h2
      go_enter Try.func6, Try.ntmps6
      go_wp2_with (first | (go_at_call 23; refine (HAW.out (w.alloc (.cells #[.int .u32 t.f0, .slice A1 t.f1.length c1, .string t.f2.f0, .slice A3 t.f2.f1.length c3, .slice A4 t.f2.f2.length c4] 29))).mono ?_; rintro e w1 ⟨rfl, hb⟩; have HB1 := Aside0.mk (below_step HB0.out hb); have HK := Aside0.mk (blk_below HK.out hb); have z0 : w1.cell? ⟨w.heap.size, 0, none⟩ = some (.int .u32 t.f0) := (blk_cell HK.out 0).trans rfl; have z1 : w1.cell? ⟨w.heap.size, 1, none⟩ = some (.slice A1 t.f1.length c1) := (blk_cell HK.out 1).trans rfl; have z2 : w1.cell? ⟨w.heap.size, 2, none⟩ = some (.string t.f2.f0) := (blk_cell HK.out 2).trans rfl; have z3 : w1.cell? ⟨w.heap.size, 3, none⟩ = some (.slice A3 t.f2.f1.length c3) := (blk_cell HK.out 3).trans rfl; have z4 : w1.cell? ⟨w.heap.size, 4, none⟩ = some (.slice A4 t.f2.f2.length c4) := (blk_cell HK.out 4).trans rfl; clear hb) | (go_at_call 19; refine (HF.out _ HB1.out).mono ?_; rintro e w2 ⟨rfl, hb⟩; have HB2 := Aside0.mk (below_step HB1.out hb); have HK := Aside0.mk (blk_below HK.out hb); have z0 : w2.cell? ⟨w.heap.size, 0, none⟩ = some (.int .u32 t.f0) := (blk_cell HK.out 0).trans rfl; have z1 : w2.cell? ⟨w.heap.size, 1, none⟩ = some (.slice A1 t.f1.length c1) := (blk_cell HK.out 1).trans rfl; have z2 : w2.cell? ⟨w.heap.size, 2, none⟩ = some (.string t.f2.f0) := (blk_cell HK.out 2).trans rfl; have z3 : w2.cell? ⟨w.heap.size, 3, none⟩ = some (.slice A3 t.f2.f1.length c3) := (blk_cell HK.out 3).trans rfl; have z4 : w2.cell? ⟨w.heap.size, 4, none⟩ = some (.slice A4 t.f2.f2.length c4) := (blk_cell HK.out 4).trans rfl; clear hb) | (go_at_call 24; refine (HE.out _ HB2.out).mono ?_; rintro e w3 ⟨v3, rfl, hr, hb⟩; obtain ⟨A6, c6, rfl, hc6, hC6⟩ := Kd.R_reads hr; have HB3 := Aside0.mk (below_step HB2.out hb); have HX3 := Aside0.mk (And.intro hC6 hc6); have HK := Aside0.mk (blk_below HK.out hb); have z0 : w3.cell? ⟨w.heap.size, 0, none⟩ = some (.int .u32 t.f0) := (blk_cell HK.out 0).trans rfl; have z1 : w3.cell? ⟨w.heap.size, 1, none⟩ = some (.slice A1 t.f1.length c1) := (blk_cell HK.out 1).trans rfl; have z2 : w3.cell? ⟨w.heap.size, 2, none⟩ = some (.string t.f2.f0) := (blk_cell HK.out 2).trans rfl; have z3 : w3.cell? ⟨w.heap.size, 3, none⟩ = some (.slice A3 t.f2.f1.length c3) := (blk_cell HK.out 3).trans rfl; have z4 : w3.cell? ⟨w.heap.size, 4, none⟩ = some (.slice A4 t.f2.f2.length c4) := (blk_cell HK.out 4).trans rfl; clear hr hb hC6 hc6) | (go_at_call 22; refine (decode_Decode.calls k A6 c6 r t 0 w3 HX3.out.1 HX3.out.2 HD.out).mono ?_; rintro e w4 ⟨vr, v1, v2, rfl, h1, h2, h3, hb⟩; obtain ⟨Ar, cr, rfl, hcr, hCr⟩ := Kd.R_reads h1; obtain ⟨Ap, cp, rfl, hcp, hCp⟩ := Kd.R_reads h2; obtain ⟨Ak, ck, rfl, hck, hCk⟩ := Kd.R_reads h3; have HB4 := Aside0.mk (below_step HB3.out hb); have HT4 := Aside0.mk (TreeC.mk hCr hcr hCp hcp hCk hck); have HK := Aside0.mk (blk_below HK.out hb); have z0 : w4.cell? ⟨w.heap.size, 0, none⟩ = some (.int .u32 t.f0) := (blk_cell HK.out 0).trans rfl; have z1 : w4.cell? ⟨w.heap.size, 1, none⟩ = some (.slice A1 t.f1.length c1) := (blk_cell HK.out 1).trans rfl; have z2 : w4.cell? ⟨w.heap.size, 2, none⟩ = some (.string t.f2.f0) := (blk_cell HK.out 2).trans rfl; have z3 : w4.cell? ⟨w.heap.size, 3, none⟩ = some (.slice A3 t.f2.f1.length c3) := (blk_cell HK.out 3).trans rfl; have z4 : w4.cell? ⟨w.heap.size, 4, none⟩ = some (.slice A4 t.f2.f2.length c4) := (blk_cell HK.out 4).trans rfl; have HKX := Aside0.mk (blk_alloc HK.out (.cells #[.int .u32 t.f0, .slice Ar t.f1.length cr, .string t.f2.f0, .slice Ap t.f2.f1.length cp, .slice Ak t.f2.f2.length ck] 29)); have HKY := Aside0.mk (blk_new w4 (.cells #[.int .u32 t.f0, .slice Ar t.f1.length cr, .string t.f2.f0, .slice Ap t.f2.f1.length cp, .slice Ak t.f2.f2.length ck] 29 (0, 0))); have u0 : (w4.alloc (.cells #[.int .u32 t.f0, .slice Ar t.f1.length cr, .string t.f2.f0, .slice Ap t.f2.f1.length cp, .slice Ak t.f2.f2.length ck] 29)).cell? ⟨w.heap.size, 0, none⟩ = some (.int .u32 t.f0) := (blk_cell HKX.out 0).trans rfl; have u1 : (w4.alloc (.cells #[.int .u32 t.f0, .slice Ar t.f1.length cr, .string t.f2.f0, .slice Ap t.f2.f1.length cp, .slice Ak t.f2.f2.length ck] 29)).cell? ⟨w.heap.size, 1, none⟩ = some (.slice A1 t.f1.length c1) := (blk_cell HKX.out 1).trans rfl; have u2 : (w4.alloc (.cells #[.int .u32 t.f0, .slice Ar t.f1.length cr, .string t.f2.f0, .slice Ap t.f2.f1.length cp, .slice Ak t.f2.f2.length ck] 29)).cell? ⟨w.heap.size, 2, none⟩ = some (.string t.f2.f0) := (blk_cell HKX.out 2).trans rfl; have u3 : (w4.alloc (.cells #[.int .u32 t.f0, .slice Ar t.f1.length cr, .string t.f2.f0, .slice Ap t.f2.f1.length cp, .slice Ak t.f2.f2.length ck] 29)).cell? ⟨w.heap.size, 3, none⟩ = some (.slice A3 t.f2.f1.length c3) := (blk_cell HKX.out 3).trans rfl; have u4 : (w4.alloc (.cells #[.int .u32 t.f0, .slice Ar t.f1.length cr, .string t.f2.f0, .slice Ap t.f2.f1.length cp, .slice Ak t.f2.f2.length ck] 29)).cell? ⟨w.heap.size, 4, none⟩ = some (.slice A4 t.f2.f2.length c4) := (blk_cell HKX.out 4).trans rfl; have y0 : (w4.alloc (.cells #[.int .u32 t.f0, .slice Ar t.f1.length cr, .string t.f2.f0, .slice Ap t.f2.f1.length cp, .slice Ak t.f2.f2.length ck] 29)).cell? ⟨w4.heap.size, 0, none⟩ = some (.int .u32 t.f0) := (blk_cell HKY.out 0).trans rfl; have y1 : (w4.alloc (.cells #[.int .u32 t.f0, .slice Ar t.f1.length cr, .string t.f2.f0, .slice Ap t.f2.f1.length cp, .slice Ak t.f2.f2.length ck] 29)).cell? ⟨w4.heap.size, 1, none⟩ = some (.slice Ar t.f1.length cr) := (blk_cell HKY.out 1).trans rfl; have y2 : (w4.alloc (.cells #[.int .u32 t.f0, .slice Ar t.f1.length cr, .string t.f2.f0, .slice Ap t.f2.f1.length cp, .slice Ak t.f2.f2.length ck] 29)).cell? ⟨w4.heap.size, 2, none⟩ = some (.string t.f2.f0) := (blk_cell HKY.out 2).trans rfl; have y3 : (w4.alloc (.cells #[.int .u32 t.f0, .slice Ar t.f1.length cr, .string t.f2.f0, .slice Ap t.f2.f1.length cp, .slice Ak t.f2.f2.length ck] 29)).cell? ⟨w4.heap.size, 3, none⟩ = some (.slice Ap t.f2.f1.length cp) := (blk_cell HKY.out 3).trans rfl; have y4 : (w4.alloc (.cells #[.int .u32 t.f0, .slice Ar t.f1.length cr, .string t.f2.f0, .slice Ap t.f2.f1.length cp, .slice Ak t.f2.f2.length ck] 29)).cell? ⟨w4.heap.size, 4, none⟩ = some (.slice Ak t.f2.f2.length ck) := (blk_cell HKY.out 4).trans rfl; clear h1 h2 h3 hb hCr hcr hCp hcp hCk hck) | (go_at_call 25; have hbx := below_alloc (Below.refl w4.heap.size w4) (.cells #[.int .u32 t.f0, .slice Ar t.f1.length cr, .string t.f2.f0, .slice Ap t.f2.f1.length cp, .slice Ak t.f2.f2.length ck] 29); refine (HS.out A1 c1 A3 c3 A4 c4 Ar cr Ap cp Ak ck (w4.alloc (.cells #[.int .u32 t.f0, .slice Ar t.f1.length cr, .string t.f2.f0, .slice Ap t.f2.f1.length cp, .slice Ak t.f2.f2.length ck] 29)) (HT.out.below (below_step HB4.out hbx)) (HT4.out.below hbx)).mono ?_; rintro e w5 ⟨rfl, hb⟩; have HB5 := Aside0.mk (below_step (below_step HB4.out hbx) hb); clear hb))
      refine bodyPost_ret (results_tmp rfl _ _ _) rfl ?_
      exact ⟨rfl, HB5.out⟩
end Go.Proofs.Ytkopmkinlanhoaa.PE

namespace Go.Proofs.Ytkopmkinlanhoaa.PE
open Go.RowKit Go.Proofs.YtkopmkinlanhoaaW.PrintWords Go.Proofs.YtkopmkinlanhoaaW.PrintLast Go.Proofs.YtkopmkinlanhoaaW.PrintMore
attribute [local go_sem] max2_int min2_int max_two min_two max_three min_three max_four min_four
set_option linter.unusedVariables false
set_option linter.unusedSimpArgs false
def BackFact (k : Nat) (t : S29) : Prop := (0 ≤ t.f0 ∧ t.f0 < 4294967296) ∧ ∃ few r er, arboretlaw03_Few.f k t.f0 t.f1 t.f2.f0 t.f2.f1 t.f2.f2 = some few ∧ encode_Encode.f k t.f0 t.f1 t.f2.f0 t.f2.f1 t.f2.f2 = some (r, er) ∧ ((er ≠ 0 ∧ r = []) ∨ (er = 0 ∧ decode_Decode.f k r = some (t, 0))) ∧ arboretref01_SameTree.f k t.f0 t.f1 t.f2.f0 t.f2.f1 t.f2.f2 t.f0 t.f1 t.f2.f0 t.f2.f1 t.f2.f2 = some true
noncomputable def arboretlaw05_EncodeBack.f (k : Nat) (a0 : Int) (l1 : List S82) (a2 : ByteArray) (l3 : List S63) (l4 : List S27) : Option Bool := @ite _ (BackFact k ⟨a0, l1, ⟨a2, l3, l4⟩⟩) (Classical.propDecidable _) (some true) none
theorem arboretlaw05_EncodeBack.calls (k : Nat) (a0 : Int) (A1 : Option Addr) (c1 : Nat) (l1 : List S82) (a2 : ByteArray) (A3 : Option Addr) (c3 : Nat) (l3 : List S63) (A4 : Option Addr) (c4 : Nat) (l4 : List S27) (r : Bool) (w : World)
    (hr1 : Kd.C k82 w A1 l1.length l1) (hc1 : l1.length ≤ c1) (hr3 : Kd.C k63 w A3 l3.length l3) (hc3 : l3.length ≤ c3) (hr4 : Kd.C k27 w A4 l4.length l4) (hc4 : l4.length ≤ c4) (h : arboretlaw05_EncodeBack.f k a0 l1 a2 l3 l4 = some r) :
    Calls Try.prog 6 #[.agg #[.int .u32 a0, .slice A1 l1.length c1, .string a2, .slice A3 l3.length c3, .slice A4 l4.length c4]] w fun e w' => e = .returned (.bool r) ∧ Below w.heap.size w w' := by
  unfold arboretlaw05_EncodeBack.f at h
  by_cases hf : BackFact k ⟨a0, l1, ⟨a2, l3, l4⟩⟩
  · rw [if_pos hf] at h
    obtain rfl := Option.some.inj h
    obtain ⟨ha, few, x, er, h1, h2, h3, h4⟩ := hf
    exact back.calls ⟨a0, l1, ⟨a2, l3, l4⟩⟩ A1 c1 A3 c3 A4 c4 w ⟨hr1, hc1, hr3, hc3, hr4, hc4⟩ ha k few h1 x er h2 h3 (fun A1 c1 A3 c3 A4 c4 B1 d1 B3 d3 B4 d4 W hA hB => arboretref01_SameTree.calls k a0 A1 c1 l1 a2 A3 c3 l3 A4 c4 l4 a0 B1 d1 l1 a2 B3 d3 l3 B4 d4 l4 true W hA.r1 hA.l1 hA.r3 hA.l3 hA.r4 hA.l4 hB.r1 hB.l1 hB.r3 hB.l3 hB.r4 hB.l4 h4)
  · rw [if_neg hf] at h
    cases h
end Go.Proofs.Ytkopmkinlanhoaa.PE

namespace Go.Proofs.Ytkopmkinlanhoaa.PE
open Go.RowKit Go.Proofs.Ytkopmkinlanhoaa.Rdr Go.Proofs.YtkopmkinlanhoaaW.PrintWords Go.Proofs.YtkopmkinlanhoaaW.PrintLast Go.Proofs.YtkopmkinlanhoaaW.PrintMore
def arboretlaw05_EncodeBack.Pure : Prop := ∀ (x0 : S29), bulk29 x0 ≤ 1048576 → good29 x0 → ∃ k, arboretlaw05_EncodeBack.f k x0.f0 x0.f1 x0.f2.f0 x0.f2.f1 x0.f2.f2 = some true
end Go.Proofs.Ytkopmkinlanhoaa.PE

namespace Go.Proofs.Ytkopmkinlanhoaa.PE
open Go.RowKit Go.Proofs.YtkopmkinlanhoaaW.PrintWords Go.Proofs.YtkopmkinlanhoaaW.PrintLast Go.Proofs.YtkopmkinlanhoaaW.PrintMore
attribute [local go_sem] max2_int min2_int max_two min_two max_three min_three max_four min_four
set_option linter.unusedVariables false
set_option linter.unusedSimpArgs false
open Go.Proofs.Ytkopmkinlanhoaa.Aid Go.Proofs.Ytkopmkinlanhoaa.Rdr
theorem same_refl (m : Nat) (hm : m ≤ 1048576) : ∀ x : S27, bulk27 x ≤ m → Ev (fun k => arboretref01_Same.f k x.f0 x.f1 x.f2 x.f0 x.f1 x.f2) true := by
  induction m with
  | zero => intro x hx; have := bulk_pos x; omega
  | succ m ih =>
    intro x hx
    have hk := bulk_kids x
    have hp := bulk_props x
    have kids : ∀ (j i : Nat), i + j = x.f2.length → Ev (fun k => arboretref01_Same.l1 k (x.f2.length : Int) (i : Int) x.f0 x.f1 x.f2 x.f0 x.f1 x.f2) true := by
      intro j
      induction j with
      | zero =>
        intro i hi
        refine Ev.succ ?_
        simp only [arboretref01_Same.l1]
        exact Ev.neg (by omega) (Ev.some _)
      | succ j ihj =>
        intro i hi
        have hw := step64 (i := i) (n := x.f2.length) (by omega) (by omega)
        have hmem := getN (xs := x.f2) (i := i) (by omega)
        have hbk := bulk_kid hmem
        refine Ev.succ ?_
        simp only [arboretref01_Same.l1, rdN, hw]
        exact Ev.pos (by omega) (Ev.pos (Int.natCast_nonneg i) (Ev.pos (by omega) (Ev.pos (by omega) (Ev.then (ih (by omega) _ (by omega)) (Ev.pos rfl (ihj (i + 1) (by omega)))))))
    have props : ∀ (j i : Nat), i + j = x.f1.length → Ev (fun k => arboretref01_Same.l0 k (x.f1.length : Int) (i : Int) x.f0 x.f1 x.f2 x.f0 x.f1 x.f2) true := by
      intro j
      induction j with
      | zero =>
        intro i hi
        refine Ev.succ ?_
        simp only [arboretref01_Same.l0]
        exact Ev.neg (by omega) (kids x.f2.length 0 (by omega))
      | succ j ihj =>
        intro i hi
        have hw := step64 (i := i) (n := x.f1.length) (by omega) (by omega)
        refine Ev.succ ?_
        simp only [arboretref01_Same.l0, rdP, hw]
        exact Ev.pos (by omega) (Ev.pos (Int.natCast_nonneg i) (Ev.pos (by omega) (Ev.pos (by omega) (Ev.pos trivial (Ev.pos trivial (ihj (i + 1) (by omega)))))))
    refine Ev.succ ?_
    have j0 : Ev (fun k => arboretref01_Same.j0 k false x.f0 x.f1 x.f2 x.f0 x.f1 x.f2) true := by
      refine Ev.succ ?_
      simp only [arboretref01_Same.j0]
      exact Ev.neg Bool.false_ne_true (props x.f1.length 0 (by omega))
    have e1 : ((x.f1.length : Int) != (x.f1.length : Int)) = false := by simp
    have e2 : ((x.f2.length : Int) != (x.f2.length : Int)) = false := by simp
    simp only [arboretref01_Same.f, e1, e2]
    simp only [if_true, Bool.false_eq_true, if_false]
    exact j0
theorem same_tree (a0 : Int) (l1 : List S82) (x : S27) (hx : bulk27 x ≤ 1048576) (hl : l1.length ≤ 1048576) : Ev (fun k => arboretref01_SameTree.f k a0 l1 x.f0 x.f1 x.f2 a0 l1 x.f0 x.f1 x.f2) true := by
  have loop : ∀ (j i : Nat), i + j = l1.length → Ev (fun k => arboretref01_SameTree.l0 k (l1.length : Int) (i : Int) a0 l1 x.f0 x.f1 x.f2 a0 l1 x.f0 x.f1 x.f2) true := by
    intro j
    induction j with
    | zero =>
      intro i hi
      refine Ev.succ ?_
      simp only [arboretref01_SameTree.l0]
      exact Ev.neg (by omega) (Ev.then (same_refl 1048576 (by omega) x hx) (Ev.some _))
    | succ j ihj =>
      intro i hi
      have hw := step64 (i := i) (n := l1.length) (by omega) (by omega)
      refine Ev.succ ?_
      simp only [arboretref01_SameTree.l0, hw]
      exact Ev.pos (by omega) (Ev.pos (Int.natCast_nonneg i) (Ev.pos (by omega) (Ev.pos (by omega) (Ev.neg (by simp) (ihj (i + 1) (by omega))))))
  have e1 : ((l1.length : Int) != (l1.length : Int)) = false := by simp
  have j0 : Ev (fun k => arboretref01_SameTree.j0 k false a0 l1 x.f0 x.f1 x.f2 a0 l1 x.f0 x.f1 x.f2) true := by
    refine Ev.succ ?_
    simp only [arboretref01_SameTree.j0]
    exact Ev.neg Bool.false_ne_true (loop l1.length 0 (by omega))
  unfold arboretref01_SameTree.f
  simp only [e1, if_true]
  exact j0
end Go.Proofs.Ytkopmkinlanhoaa.PE

set_option linter.unusedVariables false
set_option linter.unusedSimpArgs false
namespace Go.Proofs.Ytkopmkinlanhoaa.Pure
open Go.RowKit Go.Proofs.Ytkopmkinlanhoaa.PE Go.Proofs.Ytkopmkinlanhoaa.Rdr Go.Proofs.Ytkopmkinlanhoaa.Aid Go.Proofs.YtkopmkinlanhoaaW.PrintWords
theorem EncodeBack : arboretlaw05_EncodeBack.Pure := by
  intro t hb gt
  have hb2 : 1 + (sumB bulk82 t.f1 + 1) + bulk27 t.f2 + 1 ≤ 1048576 := hb
  have hx : bulk27 t.f2 ≤ 1048576 := by omega
  have hr : t.f1.length ≤ 1048576 := by
    have := sumB_len (B := bulk82) (fun r => by unfold bulk82; omega) t.f1
    omega
  obtain ⟨g0, g1, _⟩ := gt
  have ha := wf_u32.mp g0
  have hres : ∀ r ∈ t.f1, resOk r := fun r hr => by
    obtain ⟨q0, q1⟩ := g1 r hr
    have a := wf_u64.mp q0
    have b := wf_u64.mp q1
    exact ⟨a.1, by omega, b.1, by omega⟩
  obtain ⟨v, hv⟩ := few_ends t.f0 t.f1 t.f2 hx
  obtain ⟨r, e, he, hc⟩ := back_ev t.f0 (by omega) t.f1 hres t.f2 hx hr
  have hs := same_tree t.f0 t.f1 t.f2 hx hr
  obtain ⟨k1, hv⟩ := hv
  obtain ⟨k2, he⟩ := he
  obtain ⟨k3, hs⟩ := hs
  obtain ⟨k4, hd⟩ : ∃ k4, ∀ k, k4 ≤ k → ((e ≠ 0 ∧ r = []) ∨ (e = 0 ∧ decode_Decode.f k r = some (t, 0))) := by
    rcases hc with h | ⟨h1, _, k4, h2⟩
    · exact ⟨0, fun k _ => .inl h⟩
    · exact ⟨k4, fun k hk => .inr ⟨h1, h2 k hk⟩⟩
  refine ⟨k1 + k2 + k3 + k4, ?_⟩
  have hfact : BackFact (k1 + k2 + k3 + k4) t := ⟨⟨ha.1, by omega⟩, v, r, e, hv _ (by omega), he _ (by omega), hd _ (by omega), hs _ (by omega)⟩
  obtain ⟨a0, l1, ⟨a2, l3, l4⟩⟩ := t
  unfold arboretlaw05_EncodeBack.f
  exact if_pos hfact
end Go.Proofs.Ytkopmkinlanhoaa.Pure

namespace Go.Proofs.Ytkopmkinlanhoaa.encodeBack
open Go.ChangeShapes Go.WideShapes Go.ChangeAt Go.RowKit Go.Proofs.Ytkopmkinlanhoaa.Rdr Go.Proofs.Ytkopmkinlanhoaa.PE
open Go.ChangeMaps (open_string shut_string)
set_option linter.unusedVariables false
set_option linter.unusedSimpArgs false
theorem own : ownKnob Try.prog.godebug = none := by kernel_rfl
theorem laidOut : laidOutB Try.prog = true := by kernel_rfl
set_option maxRecDepth 100000 in
theorem contract (H : Type) (enc : TypeId × Value → H) (W : World) (base : Nat) (args : Array Value) (ds gs : List (DataW H)) (before : List MemPlace)
    (hval0 : ∀ (j : Nat) t v, Try.f6.params[j]? = some t → args[j]? = some v → Value.okWide Try.prog W .any base t v)
    (hW : DataW.Whole enc Try.prog Try.f6.params.toList Rows.encodeBackSpec.vars false W args.toList ds gs before) (hk : Rows.uptoSmall H (ds ++ gs) = true) :
    Calls Try.prog 6 args W fun e W' => ∃ v, e = .returned v ∧ Rows.encodeBackSpec.post enc Try.prog Try.f6 false true false false W args v W' := by
  have hval : ∀ (j : Nat) t v, Try.f6.params[j]? = some t → args[j]? = some v → Value.okWide Try.prog W .any base t v := hval0
  have hW' := hW
  obtain ⟨p, q, hA0, hV, rfl, hfz, hnd⟩ := hW
  have hA : DataW.TrodAll enc Try.prog W 0 (fun _ => true) true Try.f6.params.toList args.toList ds p := hA0
  rw [Try.params6] at hA hval
  obtain ⟨v0, vs0, d0, ds0, p0, q0, hargs, rfl, rfl, h0, tr0⟩ := trodAll_cons hA
  obtain ⟨rfl, rfl, rfl⟩ := trodAll_nil tr0
  obtain rfl : args = #[v0] := by cases args; simp_all
  obtain ⟨rfl, rfl⟩ := trodVars_none hV
  have hb := bound hk
  simp only [List.append_nil, Rows.uptoBulkAll, List.nil_append] at hb
  have k0 := h0
  have lt0 : ∀ x ∈ p0, x.block < W.heap.size := by obtain ⟨m, hm⟩ := k0; exact DataW.trod_lt m _ _ _ hm
  obtain ⟨cs0, rfl, hcs0⟩ : ∃ cs, v0 = .agg cs ∧ True := by
    have z := (hval 0 29 v0 rfl rfl)
    simp only [Value.okWide, Try.underlying29] at z
    obtain ⟨cs, hc, _⟩ := z
    exact ⟨cs, hc, trivial⟩
  obtain ⟨f0, hf0⟩ := h0
  obtain ⟨x0, K0, b0, g0⟩ := rd29 W f0 H enc f0 (Nat.le_refl _) _ _ hf0
  obtain ⟨A0_1, c0_1, A0_3, c0_3, A0_4, c0_4, e0, l0_1, r0_1, l0_3, r0_3, l0_4, r0_4⟩ := k29_open K0
  obtain ⟨cl0⟩ := cs0
  have e0' : cl0 = _ := e0
  subst e0'
  obtain ⟨k, hk_⟩ := Pure.EncodeBack x0 (by (try simp only [Rows.uptoBulk, Array.length_toList] at hb); first | omega | (simp only [ByteArray.size] at *; omega)) g0
  refine (arboretlaw05_EncodeBack.calls k x0.f0 A0_1 c0_1 x0.f1 x0.f2.f0 A0_3 c0_3 x0.f2.f1 A0_4 c0_4 x0.f2.f2 true W r0_1 l0_1 r0_3 l0_3 r0_4 l0_4 hk_).mono fun e W' ⟨he, bel0⟩ => ?_
  have bel : Below W.heap.size W W' := bel0
  subst he
  exact ⟨_, rfl, _, _, _, [], _, [], hW', trodAll_mk1 (shut_bool Try.underlying4 _), (trodAll_cons_mk (Below.trod laidOut (by kernel_rfl) (of_decide_eq_true (by kernel_rfl)) k0 bel lt0) trodAll_mk0), rfl, bel.frame _, fun h => by cases h⟩
set_option maxRecDepth 100000 in
theorem lifted (os : Os) (started : os.Started) (H : Type) (enc : TypeId × Value → H) (F : Stop.Interp) :
    ReturnsInHanded {} Try.checked os 6 .any ((Rows.OpenSpec.upto Rows.encodeBackSpec).pre6 enc Try.prog Try.f6 Rows.encodeBackUptoRow.domain false) (((Rows.OpenSpec.upto Rows.encodeBackSpec).at F).post enc Try.prog Try.f6 false true false false) := by
  refine returnsInHanded_of_cond (C := Try.checked) (s := Rows.OpenSpec.upto Rows.encodeBackSpec) (k := Rows.uptoSmall) rfl own started (by kernel_rfl) Try.func6
    (OpenSpec.witness (enc := enc) (C := Try.checked) (s := Rows.OpenSpec.upto Rows.encodeBackSpec) (k := Rows.uptoSmall) rfl false ⟨#[], #[.agg #[.int .u32 0, .slice none 0 0, .string ByteArray.empty, .slice none 0 0, .slice none 0 0]], []⟩ 16 (by kernel_rfl) (by kernel_rfl) (by kernel_rfl)
      (x := ([.agg [.lit (.int .u32 0), .nil, .agg [.lit (.string []), .nil, .nil]]], [], [])) (by kernel_rfl) rfl (by kernel_rfl)) ?_
  intro W base args ds gs before hval hW _ hk _
  exact contract H enc W base args ds gs before hval hW hk
theorem over : Rows.encodeBackUptoRow.holds Try.pinned (Rows.OpenSpec.upto Rows.encodeBackSpec) :=
  OpenClaim.holds_of_cond 6 Try.f6 rfl rfl rfl rfl rfl rfl rfl ⟨rfl, rfl, rfl, rfl, rfl⟩ rfl rfl rfl rfl rfl (by kernel_rfl) Try.func6 (by kernel_rfl)
    (of_decide_eq_true (by kernel_rfl)) (by unfold Func.isWrapper; first | (rw [if_pos (by decide +kernel)]; kernel_rfl) | (rw [if_neg (by decide +kernel)]; exact ⟨rfl, rfl⟩))
    (fun os started H enc _ F => lifted os started H enc F)
theorem proved : Rows.EncodeBackUptoSaid := over
end Go.Proofs.Ytkopmkinlanhoaa.encodeBack
namespace Go.Proofs.Ytkopmkinlanhoaa
theorem encodeBack_holds : Rows.EncodeBackUptoSaid := encodeBack.proved
end Go.Proofs.Ytkopmkinlanhoaa
