/- EncodeAgain: texts of this session's, and what the kit's print laid for this seat, as far as the law's row uses them (Bk29, Bk30, PEStateEncodeAgain, Same1, PureEncodeAgain, LawEncodeAgain). -/
import Derived.ProofKit
import Derived.OpenShut
import Derived.ShutString
import Derived.ChangeOld
import Derived.JoinedCond
import Derived.Deep.CondSized
import Derived.Test.YtkopmkinlanhoaaZEncodeAgain4
set_option linter.unusedVariables false
set_option linter.unusedSimpArgs false
namespace Go.Proofs.Ytkopmkinlanhoaa.PE
open Go.RowKit Go.Proofs.YtkopmkinlanhoaaW.PrintWords Go.Proofs.YtkopmkinlanhoaaW.PrintLast Go.Proofs.YtkopmkinlanhoaaW.PrintMore
attribute [local go_sem] max2_int min2_int max_two min_two max_three min_three max_four min_four
set_option linter.unusedVariables false
set_option linter.unusedSimpArgs false
open Go.Proofs.Ytkopmkinlanhoaa.Aid Go.Proofs.Ytkopmkinlanhoaa.Rdr
set_option maxRecDepth 100000 in
set_option maxHeartbeats 2000000 in
theorem again_far.calls (A0 : Option Addr) (c0 : Nat) (b : List Int) (w : World) (hC : Kd.C (Kd.int .u8) w A0 b.length b) (hl : b.length > 200000) :
    Calls Try.prog 7 #[.slice A0 b.length c0] w fun e w' => e = .returned (.bool true) ∧ Below w.heap.size w w' := by
  have HAW := Aside0.mk awake05.calls
  have HE0 := Aside0.mk hC
  have d1 : decide ((200000 : Int) < (b.length : Int)) = true := decide_eq_true (by omega)
  clear hC hl
  go_enter Try.func7, Try.ntmps7
  go_wp2_with (first | (go_at_call 23; refine (HAW.out w).mono ?_; rintro e w1 ⟨rfl, hb⟩; have HB1 := Aside0.mk hb; have HE1 := Aside0.mk (Kd.C_below HE0.out hb); clear hb) | (go_at_call 23; refine (HAW.out w1).mono ?_; rintro e w2 ⟨rfl, hb⟩; have HB2 := Aside0.mk (below_step HB1.out hb); clear hb))
  refine bodyPost_ret (results_tmp rfl _ _ _) rfl ?_
  exact ⟨rfl, HB2.out⟩
set_option maxRecDepth 100000 in
set_option maxHeartbeats 2000000 in
theorem again_bad.calls (A0 : Option Addr) (c0 : Nat) (b : List Int) (w : World) (hC : Kd.C (Kd.int .u8) w A0 b.length b) (hc0 : b.length ≤ c0) (hl : ¬ b.length > 200000) (k : Nat) (t : S29) (e : Int) (hd : decode_Decode.f k b = some (t, e)) (he : e ≠ 0) :
    Calls Try.prog 7 #[.slice A0 b.length c0] w fun e w' => e = .returned (.bool true) ∧ Below w.heap.size w w' := by
  have hu29 := Try.underlying29
  have hu27 := Try.underlying27
  have HAW := Aside0.mk awake05.calls
  have HE0 := Aside0.mk hC
  have HC0 := Aside0.mk hc0
  have HD1 := Aside0.mk hd
  have hlay : encode_Layout.f k b = some false := by
    unfold encode_Layout.f
    rw [hd, Option.bind_some]
    exact if_neg he
  have HLF := Aside0.mk hlay
  have d1 : decide ((200000 : Int) < (b.length : Int)) = false := decide_eq_false (by omega)
  have b0 : (e == 0) = false := beq_eq_false_iff_ne.mpr he
  have b1 : (e != 0) = true := bne_iff_ne.mpr he
  clear hC hl hc0 hd he hlay
  go_enter Try.func7, Try.ntmps7
  go_wp2_with (first | (go_at_call 23; refine (HAW.out w).mono ?_; rintro e w1 ⟨rfl, hb⟩; have HB1 := Aside0.mk hb; have HE1 := Aside0.mk (Kd.C_below HE0.out hb); clear hb) | (go_at_call 22; refine (decode_Decode.calls k A0 c0 b t e w1 HE1.out HC0.out HD1.out).mono ?_; rintro e' w2 ⟨vr, v1, v2, rfl, h1, h2, h3, hb⟩; obtain ⟨Ar, cr, rfl, hcr, hCr⟩ := Kd.R_reads h1; obtain ⟨Ap, cp, rfl, hcp, hCp⟩ := Kd.R_reads h2; obtain ⟨Ak, ck, rfl, hck, hCk⟩ := Kd.R_reads h3; have HB2 := Aside0.mk (below_step HB1.out hb); have HE2 := Aside0.mk (Kd.C_below HE1.out hb); have HTA2 := Aside0.mk (TreeC.mk (t := t) hCr hcr hCp hcp hCk hck); have HKY := Aside0.mk (blk_new w2 (.cells #[.int .u32 t.f0, .slice Ar t.f1.length cr, .string t.f2.f0, .slice Ap t.f2.f1.length cp, .slice Ak t.f2.f2.length ck] 29 (0, 0))); have y0 : (w2.alloc (.cells #[.int .u32 t.f0, .slice Ar t.f1.length cr, .string t.f2.f0, .slice Ap t.f2.f1.length cp, .slice Ak t.f2.f2.length ck] 29)).cell? ⟨w2.heap.size, 0, none⟩ = some (.int .u32 t.f0) := (blk_cell HKY.out 0).trans rfl; have y1 : (w2.alloc (.cells #[.int .u32 t.f0, .slice Ar t.f1.length cr, .string t.f2.f0, .slice Ap t.f2.f1.length cp, .slice Ak t.f2.f2.length ck] 29)).cell? ⟨w2.heap.size, 1, none⟩ = some (.slice Ar t.f1.length cr) := (blk_cell HKY.out 1).trans rfl; have y2 : (w2.alloc (.cells #[.int .u32 t.f0, .slice Ar t.f1.length cr, .string t.f2.f0, .slice Ap t.f2.f1.length cp, .slice Ak t.f2.f2.length ck] 29)).cell? ⟨w2.heap.size, 2, none⟩ = some (.string t.f2.f0) := (blk_cell HKY.out 2).trans rfl; have y3 : (w2.alloc (.cells #[.int .u32 t.f0, .slice Ar t.f1.length cr, .string t.f2.f0, .slice Ap t.f2.f1.length cp, .slice Ak t.f2.f2.length ck] 29)).cell? ⟨w2.heap.size, 3, none⟩ = some (.slice Ap t.f2.f1.length cp) := (blk_cell HKY.out 3).trans rfl; have y4 : (w2.alloc (.cells #[.int .u32 t.f0, .slice Ar t.f1.length cr, .string t.f2.f0, .slice Ap t.f2.f1.length cp, .slice Ak t.f2.f2.length ck] 29)).cell? ⟨w2.heap.size, 4, none⟩ = some (.slice Ak t.f2.f2.length ck) := (blk_cell HKY.out 4).trans rfl; clear h1 h2 h3 hb hCr hcr hCp hcp hCk hck) | (go_at_call 26; have hbx := below_alloc (Below.refl w2.heap.size w2) (.cells #[.int .u32 t.f0, .slice Ar t.f1.length cr, .string t.f2.f0, .slice Ap t.f2.f1.length cp, .slice Ak t.f2.f2.length ck] 29); refine (encode_Layout.calls k A0 c0 b false (w2.alloc (.cells #[.int .u32 t.f0, .slice Ar t.f1.length cr, .string t.f2.f0, .slice Ap t.f2.f1.length cp, .slice Ak t.f2.f2.length ck] 29)) (Kd.C_below HE2.out hbx) HC0.out HLF.out).mono ?_; rintro e w3 ⟨rfl, hb⟩; have HB3 := Aside0.mk (below_step (below_step HB2.out hbx) hb); clear hb))
  refine bodyPost_ret (results_tmp rfl _ _ _) rfl ?_
  exact ⟨rfl, HB3.out⟩
set_option maxRecDepth 100000 in
set_option maxHeartbeats 4000000 in
theorem again_good.calls (A0 : Option Addr) (c0 : Nat) (b : List Int) (w : World) (hC : Kd.C (Kd.int .u8) w A0 b.length b) (hc0 : b.length ≤ c0) (hl : ¬ b.length > 200000) (k : Nat) (t : S29) (hrg : 0 ≤ t.f0 ∧ t.f0 < 4294967296) (e : Int) (he : e = 0) (hd : decode_Decode.f k b = some (t, e)) (c : List Int) (hen : encode_Encode.f k t.f0 t.f1 t.f2.f0 t.f2.f1 t.f2.f2 = some (c, 0)) (hdc : decode_Decode.f k c = some (t, 0)) (hsame : SameT t) :
    Calls Try.prog 7 #[.slice A0 b.length c0] w fun e w' => e = .returned (.bool true) ∧ Below w.heap.size w w' := by
  subst he
  have hu29 := Try.underlying29
  have hu27 := Try.underlying27
  have HAW := Aside0.mk awake05.calls
  have HE0 := Aside0.mk hC
  have HC0 := Aside0.mk hc0
  have hlb : encode_Layout.f k b = some ((strOfNums b).toList == (strOfNums c).toList) := by
    unfold encode_Layout.f
    rw [hd, Option.bind_some, if_pos rfl, if_pos hrg, hen, Option.bind_some, if_pos rfl]
    rfl
  have hlc : encode_Layout.f k c = some true := by
    unfold encode_Layout.f
    rw [hdc, Option.bind_some, if_pos rfl, if_pos hrg, hen, Option.bind_some, if_pos rfl]
    unfold bytes_Equal.f
    rw [beq_self_eq_true]
  have HLB := Aside0.mk hlb
  have HLC := Aside0.mk hlc
  have HD1 := Aside0.mk hd
  have HD2 := Aside0.mk hdc
  have HEN := Aside0.mk hen
  have HRG := Aside0.mk hrg
  have HS := Aside0.mk hsame
  have d1 : decide ((200000 : Int) < (b.length : Int)) = false := decide_eq_false (by omega)
  clear hC hl hc0 hd hdc hen hsame hlb hlc
  go_enter Try.func7, Try.ntmps7
  go_wp2_with (first | (go_at_call 24; refine (encode_Encode.calls k t.f0 Br dr t.f1 t.f2.f0 Bp dp t.f2.f1 Bk dk t.f2.f2 c 0 (w4.alloc (.cells #[.int .u32 t.f0, .slice Br t.f1.length dr, .string t.f2.f0, .slice Bp t.f2.f1.length dp, .slice Bk t.f2.f2.length dk] 29)) HTB4.out.r1 HTB4.out.l1 HTB4.out.r3 HTB4.out.l3 HTB4.out.r4 HTB4.out.l4 HRG.out HEN.out).mono ?_; rintro e w5 ⟨v5, rfl, hr, hb⟩; obtain ⟨Ad, cd, rfl, hcd, hCd⟩ := Kd.R_reads hr; have HB5 := Aside0.mk (below_step HB4.out hb); have HE5 := Aside0.mk (Kd.C_below HE4.out hb); have HC5 := Aside0.mk (Kd.C_below HC4.out hb); have HD5 := Aside0.mk hCd; have HTA5 := Aside0.mk (HTA4.out.below hb); have HTB5 := Aside0.mk (HTB4.out.below hb); have HKA5 := Aside0.mk (blk_below HKA4.out hb); have HKB5 := Aside0.mk (blk_below HKZ.out hb); clear hr hb hcd hCd) | (go_at_call 22; refine (decode_Decode.calls k Ac cc c t 0 w3 HC3.out HCC.out HD2.out).mono ?_; rintro e' w4 ⟨vr, v1, v2, rfl, h1, h2, h3, hb⟩; obtain ⟨Br, dr, rfl, hcr, hCr⟩ := Kd.R_reads h1; obtain ⟨Bp, dp, rfl, hcp, hCp⟩ := Kd.R_reads h2; obtain ⟨Bk, dk, rfl, hck, hCk⟩ := Kd.R_reads h3; have hbx := below_alloc (Below.refl w4.heap.size w4) (.cells #[.int .u32 t.f0, .slice Br t.f1.length dr, .string t.f2.f0, .slice Bp t.f2.f1.length dp, .slice Bk t.f2.f2.length dk] 29); have HB4 := Aside0.mk (below_step (below_step HB3.out hb) hbx); have HE4 := Aside0.mk (Kd.C_below (Kd.C_below HE3.out hb) hbx); have HC4 := Aside0.mk (Kd.C_below (Kd.C_below HC3.out hb) hbx); have HTA4 := Aside0.mk ((HTA3.out.below hb).below hbx); have HTB4 := Aside0.mk ((TreeC.mk (t := t) hCr hcr hCp hcp hCk hck).below hbx); have HKA4 := Aside0.mk (blk_alloc (blk_below HKA3.out hb) (.cells #[.int .u32 t.f0, .slice Br t.f1.length dr, .string t.f2.f0, .slice Bp t.f2.f1.length dp, .slice Bk t.f2.f2.length dk] 29)); have HKZ := Aside0.mk (blk_new w4 (.cells #[.int .u32 t.f0, .slice Br t.f1.length dr, .string t.f2.f0, .slice Bp t.f2.f1.length dp, .slice Bk t.f2.f2.length dk] 29 (0, 0))); have u0 : (w4.alloc (.cells #[.int .u32 t.f0, .slice Br t.f1.length dr, .string t.f2.f0, .slice Bp t.f2.f1.length dp, .slice Bk t.f2.f2.length dk] 29)).cell? ⟨w4.heap.size, 0, none⟩ = some (.int .u32 t.f0) := (blk_cell HKZ.out 0).trans rfl; have u1 : (w4.alloc (.cells #[.int .u32 t.f0, .slice Br t.f1.length dr, .string t.f2.f0, .slice Bp t.f2.f1.length dp, .slice Bk t.f2.f2.length dk] 29)).cell? ⟨w4.heap.size, 1, none⟩ = some (.slice Br t.f1.length dr) := (blk_cell HKZ.out 1).trans rfl; have u2 : (w4.alloc (.cells #[.int .u32 t.f0, .slice Br t.f1.length dr, .string t.f2.f0, .slice Bp t.f2.f1.length dp, .slice Bk t.f2.f2.length dk] 29)).cell? ⟨w4.heap.size, 2, none⟩ = some (.string t.f2.f0) := (blk_cell HKZ.out 2).trans rfl; have u3 : (w4.alloc (.cells #[.int .u32 t.f0, .slice Br t.f1.length dr, .string t.f2.f0, .slice Bp t.f2.f1.length dp, .slice Bk t.f2.f2.length dk] 29)).cell? ⟨w4.heap.size, 3, none⟩ = some (.slice Bp t.f2.f1.length dp) := (blk_cell HKZ.out 3).trans rfl; have u4 : (w4.alloc (.cells #[.int .u32 t.f0, .slice Br t.f1.length dr, .string t.f2.f0, .slice Bp t.f2.f1.length dp, .slice Bk t.f2.f2.length dk] 29)).cell? ⟨w4.heap.size, 4, none⟩ = some (.slice Bk t.f2.f2.length dk) := (blk_cell HKZ.out 4).trans rfl; clear h1 h2 h3 hb hCr hcr hCp hcp hCk hck hbx) | (go_at_call 24; have hbx := below_alloc (Below.refl w2.heap.size w2) (.cells #[.int .u32 t.f0, .slice Ar t.f1.length cr, .string t.f2.f0, .slice Ap t.f2.f1.length cp, .slice Ak t.f2.f2.length ck] 29); refine (encode_Encode.calls k t.f0 Ar cr t.f1 t.f2.f0 Ap cp t.f2.f1 Ak ck t.f2.f2 c 0 (w2.alloc (.cells #[.int .u32 t.f0, .slice Ar t.f1.length cr, .string t.f2.f0, .slice Ap t.f2.f1.length cp, .slice Ak t.f2.f2.length ck] 29)) (HTA2.out.below hbx).r1 HTA2.out.l1 (HTA2.out.below hbx).r3 HTA2.out.l3 (HTA2.out.below hbx).r4 HTA2.out.l4 HRG.out HEN.out).mono ?_; rintro e w3 ⟨v3, rfl, hr, hb⟩; obtain ⟨Ac, cc, rfl, hcc, hCc⟩ := Kd.R_reads hr; have hb2 := below_step hbx hb; have HB3 := Aside0.mk (below_step HB2.out hb2); have HE3 := Aside0.mk (Kd.C_below HE2.out hb2); have HTA3 := Aside0.mk (HTA2.out.below hb2); have HKA3 := Aside0.mk (blk_below HKY.out hb); have HC3 := Aside0.mk hCc; have HCC := Aside0.mk hcc; have z0 : w3.cell? ⟨w2.heap.size, 0, none⟩ = some (.int .u32 t.f0) := (blk_cell HKA3.out 0).trans rfl; have z1 : w3.cell? ⟨w2.heap.size, 1, none⟩ = some (.slice Ar t.f1.length cr) := (blk_cell HKA3.out 1).trans rfl; have z2 : w3.cell? ⟨w2.heap.size, 2, none⟩ = some (.string t.f2.f0) := (blk_cell HKA3.out 2).trans rfl; have z3 : w3.cell? ⟨w2.heap.size, 3, none⟩ = some (.slice Ap t.f2.f1.length cp) := (blk_cell HKA3.out 3).trans rfl; have z4 : w3.cell? ⟨w2.heap.size, 4, none⟩ = some (.slice Ak t.f2.f2.length ck) := (blk_cell HKA3.out 4).trans rfl; clear hr hb hb2 hcc hCc hbx) | (go_at_call 22; refine (decode_Decode.calls k A0 c0 b t 0 w1 HE1.out HC0.out HD1.out).mono ?_; rintro e' w2 ⟨vr, v1, v2, rfl, h1, h2, h3, hb⟩; obtain ⟨Ar, cr, rfl, hcr, hCr⟩ := Kd.R_reads h1; obtain ⟨Ap, cp, rfl, hcp, hCp⟩ := Kd.R_reads h2; obtain ⟨Ak, ck, rfl, hck, hCk⟩ := Kd.R_reads h3; have HB2 := Aside0.mk (below_step HB1.out hb); have HE2 := Aside0.mk (Kd.C_below HE1.out hb); have HTA2 := Aside0.mk (TreeC.mk (t := t) hCr hcr hCp hcp hCk hck); have HKY := Aside0.mk (blk_new w2 (.cells #[.int .u32 t.f0, .slice Ar t.f1.length cr, .string t.f2.f0, .slice Ap t.f2.f1.length cp, .slice Ak t.f2.f2.length ck] 29 (0, 0))); have y0 : (w2.alloc (.cells #[.int .u32 t.f0, .slice Ar t.f1.length cr, .string t.f2.f0, .slice Ap t.f2.f1.length cp, .slice Ak t.f2.f2.length ck] 29)).cell? ⟨w2.heap.size, 0, none⟩ = some (.int .u32 t.f0) := (blk_cell HKY.out 0).trans rfl; have y1 : (w2.alloc (.cells #[.int .u32 t.f0, .slice Ar t.f1.length cr, .string t.f2.f0, .slice Ap t.f2.f1.length cp, .slice Ak t.f2.f2.length ck] 29)).cell? ⟨w2.heap.size, 1, none⟩ = some (.slice Ar t.f1.length cr) := (blk_cell HKY.out 1).trans rfl; have y2 : (w2.alloc (.cells #[.int .u32 t.f0, .slice Ar t.f1.length cr, .string t.f2.f0, .slice Ap t.f2.f1.length cp, .slice Ak t.f2.f2.length ck] 29)).cell? ⟨w2.heap.size, 2, none⟩ = some (.string t.f2.f0) := (blk_cell HKY.out 2).trans rfl; have y3 : (w2.alloc (.cells #[.int .u32 t.f0, .slice Ar t.f1.length cr, .string t.f2.f0, .slice Ap t.f2.f1.length cp, .slice Ak t.f2.f2.length ck] 29)).cell? ⟨w2.heap.size, 3, none⟩ = some (.slice Ap t.f2.f1.length cp) := (blk_cell HKY.out 3).trans rfl; have y4 : (w2.alloc (.cells #[.int .u32 t.f0, .slice Ar t.f1.length cr, .string t.f2.f0, .slice Ap t.f2.f1.length cp, .slice Ak t.f2.f2.length ck] 29)).cell? ⟨w2.heap.size, 4, none⟩ = some (.slice Ak t.f2.f2.length ck) := (blk_cell HKY.out 4).trans rfl; clear h1 h2 h3 hb hCr hcr hCp hcp hCk hck) | (go_at_call 23; refine (HAW.out w).mono ?_; rintro e w1 ⟨rfl, hb⟩; have HB1 := Aside0.mk hb; have HE1 := Aside0.mk (Kd.C_below HE0.out hb); clear hb))
  refine start_ (n := 37) (S := fun w' => w'.cell? ⟨w2.heap.size, 0, none⟩ = some (.int .u32 t.f0) ∧ w'.cell? ⟨w2.heap.size, 1, none⟩ = some (.slice Ar t.f1.length cr) ∧ w'.cell? ⟨w2.heap.size, 2, none⟩ = some (.string t.f2.f0) ∧ w'.cell? ⟨w2.heap.size, 3, none⟩ = some (.slice Ap t.f2.f1.length cp) ∧ w'.cell? ⟨w2.heap.size, 4, none⟩ = some (.slice Ak t.f2.f2.length ck) ∧ w'.cell? ⟨w4.heap.size, 0, none⟩ = some (.int .u32 t.f0) ∧ w'.cell? ⟨w4.heap.size, 1, none⟩ = some (.slice Br t.f1.length dr) ∧ w'.cell? ⟨w4.heap.size, 2, none⟩ = some (.string t.f2.f0) ∧ w'.cell? ⟨w4.heap.size, 3, none⟩ = some (.slice Bp t.f2.f1.length dp) ∧ w'.cell? ⟨w4.heap.size, 4, none⟩ = some (.slice Bk t.f2.f2.length dk) ∧ (convert 45 9 (.slice Ac c.length cc)).run Try.prog w' = .ok (.string (strOfNums c)) w' ∧ (convert 45 9 (.slice Ad c.length cd)).run Try.prog w' = .ok (.string (strOfNums c)) w' ∧ (convert 45 9 (.slice A0 b.length c0)).run Try.prog w' = .ok (.string (strOfNums b)) w') (ds := []) #[false, false, false, false, false, false, false, false, false, false, false, false, false, false, false, false, false, false, false, false, false, false, false, false, false, false, false, false, false, false, false, false, false, false, false, false, false] (by kernel_rfl) rfl rfl ⟨((blk_cell HKA5.out 0).trans rfl), ((blk_cell HKA5.out 1).trans rfl), ((blk_cell HKA5.out 2).trans rfl), ((blk_cell HKA5.out 3).trans rfl), ((blk_cell HKA5.out 4).trans rfl), ((blk_cell HKB5.out 0).trans rfl), ((blk_cell HKB5.out 1).trans rfl), ((blk_cell HKB5.out 2).trans rfl), ((blk_cell HKB5.out 3).trans rfl), ((blk_cell HKB5.out 4).trans rfl), (Kd.C_string Try.underlying45 Try.underlying5 Try.underlying9 (Kd.C_below HC5.out (below_drew1 (Below.refl _ _)))), (Kd.C_string Try.underlying45 Try.underlying5 Try.underlying9 (Kd.C_below HD5.out (below_drew1 (Below.refl _ _)))), (Kd.C_string Try.underlying45 Try.underlying5 Try.underlying9 (Kd.C_below HE5.out (below_drew1 (Below.refl _ _))))⟩ (fun hHeld => ?_)
  refine pure_ (i := 0) (N := some 44) (v := ?_) (a' := ?_) #[true, false, false, false, false, false, false, false, false, false, false, false, false, false, false, false, false, false, false, false, false, false, false, false, false, false, false, false, false, false, false, false, false, false, false, false, false] rfl rfl (by kernel_rfl) (fun _ _ _ h => h) (Or.inl ⟨by rfl, ?_⟩) ?_ ?_
  rotate_left
  · intro w'
    go_simp
    with_reducible rfl
  rotate_left
  · simp only [Act.put, List.setIfInBounds_toArray, List.set_cons_zero, List.set_cons_succ, i64_w, i32_w]
    rfl
  refine pure_ (i := 1) (N := some 45) (v := ?_) (a' := ?_) #[true, true, false, false, false, false, false, false, false, false, false, false, false, false, false, false, false, false, false, false, false, false, false, false, false, false, false, false, false, false, false, false, false, false, false, false, false] rfl rfl (by kernel_rfl) (fun _ _ _ h => h) (Or.inl ⟨by rfl, ?_⟩) ?_ ?_
  rotate_left
  · intro w'
    go_simp
    with_reducible rfl
  rotate_left
  · simp only [Act.put, List.setIfInBounds_toArray, List.set_cons_zero, List.set_cons_succ, i64_w, i32_w]
    rfl
  refine pure_ (i := 2) (N := some 46) (v := ?_) (a' := ?_) #[true, true, true, false, false, false, false, false, false, false, false, false, false, false, false, false, false, false, false, false, false, false, false, false, false, false, false, false, false, false, false, false, false, false, false, false, false] rfl rfl (by kernel_rfl) (fun _ _ _ h => h) (Or.inl ⟨by rfl, ?_⟩) ?_ ?_
  rotate_left
  · intro w'
    go_simp
    with_reducible rfl
  rotate_left
  · simp only [Act.put, List.setIfInBounds_toArray, List.set_cons_zero, List.set_cons_succ, i64_w, i32_w]
    rfl
  refine pure_ (i := 3) (N := some 47) (v := ?_) (a' := ?_) #[true, true, true, true, false, false, false, false, false, false, false, false, false, false, false, false, false, false, false, false, false, false, false, false, false, false, false, false, false, false, false, false, false, false, false, false, false] rfl rfl (by kernel_rfl) (fun _ _ _ h => h) (Or.inl ⟨by rfl, ?_⟩) ?_ ?_
  rotate_left
  · intro w'
    go_simp
    with_reducible rfl
  rotate_left
  · simp only [Act.put, List.setIfInBounds_toArray, List.set_cons_zero, List.set_cons_succ, i64_w, i32_w]
    rfl
  refine pure_ (i := 4) (N := some 48) (v := ?_) (a' := ?_) #[true, true, true, true, true, false, false, false, false, false, false, false, false, false, false, false, false, false, false, false, false, false, false, false, false, false, false, false, false, false, false, false, false, false, false, false, false] rfl rfl (by kernel_rfl) (fun _ _ _ h => h) (Or.inl ⟨by rfl, ?_⟩) ?_ ?_
  rotate_left
  · intro w'
    go_simp
    with_reducible rfl
  rotate_left
  · simp only [Act.put, List.setIfInBounds_toArray, List.set_cons_zero, List.set_cons_succ, i64_w, i32_w]
    rfl
  refine pure_ (i := 5) (N := some 49) (v := ?_) (a' := ?_) #[true, true, true, true, true, true, false, false, false, false, false, false, false, false, false, false, false, false, false, false, false, false, false, false, false, false, false, false, false, false, false, false, false, false, false, false, false] rfl rfl (by kernel_rfl) (fun _ _ _ h => h) (Or.inl ⟨by rfl, ?_⟩) ?_ ?_
  rotate_left
  · intro w'
    go_simp
    with_reducible rfl
  rotate_left
  · simp only [Act.put, List.setIfInBounds_toArray, List.set_cons_zero, List.set_cons_succ, i64_w, i32_w]
    rfl
  refine pure_ (i := 6) (N := some 50) (v := ?_) (a' := ?_) #[true, true, true, true, true, true, true, false, false, false, false, false, false, false, false, false, false, false, false, false, false, false, false, false, false, false, false, false, false, false, false, false, false, false, false, false, false] rfl rfl (by kernel_rfl) (fun _ _ _ h => h) (Or.inl ⟨by rfl, ?_⟩) ?_ ?_
  rotate_left
  · intro w'
    go_simp
    with_reducible rfl
  rotate_left
  · simp only [Act.put, List.setIfInBounds_toArray, List.set_cons_zero, List.set_cons_succ, i64_w, i32_w]
    rfl
  refine pure_ (i := 7) (N := some 51) (v := ?_) (a' := ?_) #[true, true, true, true, true, true, true, true, false, false, false, false, false, false, false, false, false, false, false, false, false, false, false, false, false, false, false, false, false, false, false, false, false, false, false, false, false] rfl rfl (by kernel_rfl) (fun _ _ _ h => h) (Or.inl ⟨by rfl, ?_⟩) ?_ ?_
  rotate_left
  · intro w'
    go_simp
    with_reducible rfl
  rotate_left
  · simp only [Act.put, List.setIfInBounds_toArray, List.set_cons_zero, List.set_cons_succ, i64_w, i32_w]
    rfl
  refine pure_ (i := 8) (N := some 52) (v := ?_) (a' := ?_) #[true, true, true, true, true, true, true, true, true, false, false, false, false, false, false, false, false, false, false, false, false, false, false, false, false, false, false, false, false, false, false, false, false, false, false, false, false] rfl rfl (by kernel_rfl) (fun _ _ _ h => h) (Or.inl ⟨by rfl, ?_⟩) ?_ ?_
  rotate_left
  · intro w'
    go_simp
    with_reducible rfl
  rotate_left
  · simp only [Act.put, List.setIfInBounds_toArray, List.set_cons_zero, List.set_cons_succ, i64_w, i32_w]
    rfl
  refine pure_ (i := 9) (N := some 53) (v := ?_) (a' := ?_) #[true, true, true, true, true, true, true, true, true, true, false, false, false, false, false, false, false, false, false, false, false, false, false, false, false, false, false, false, false, false, false, false, false, false, false, false, false] rfl rfl (by kernel_rfl) (fun _ _ _ h => h) (Or.inl ⟨by rfl, ?_⟩) ?_ ?_
  rotate_left
  · intro w'
    go_simp
    with_reducible rfl
  rotate_left
  · simp only [Act.put, List.setIfInBounds_toArray, List.set_cons_zero, List.set_cons_succ, i64_w, i32_w]
    rfl
  refine pure_ (i := 10) (N := some 54) (v := ?_) (a' := ?_) #[true, true, true, true, true, true, true, true, true, true, true, false, false, false, false, false, false, false, false, false, false, false, false, false, false, false, false, false, false, false, false, false, false, false, false, false, false] rfl rfl (by kernel_rfl) (fun _ _ _ h => h) (Or.inl ⟨by rfl, ?_⟩) ?_ ?_
  rotate_left
  · intro w'
    go_simp
    with_reducible rfl
  rotate_left
  · simp only [Act.put, List.setIfInBounds_toArray, List.set_cons_zero, List.set_cons_succ, i64_w, i32_w]
    rfl
  refine pure_ (i := 11) (N := some 55) (v := ?_) (a' := ?_) #[true, true, true, true, true, true, true, true, true, true, true, true, false, false, false, false, false, false, false, false, false, false, false, false, false, false, false, false, false, false, false, false, false, false, false, false, false] rfl rfl (by kernel_rfl) (fun _ _ _ h => h) (Or.inl ⟨by rfl, ?_⟩) ?_ ?_
  rotate_left
  · intro w'
    go_simp
    with_reducible rfl
  rotate_left
  · simp only [Act.put, List.setIfInBounds_toArray, List.set_cons_zero, List.set_cons_succ, i64_w, i32_w]
    rfl
  refine one_ (i := 12) (N := some 56) #[true, true, true, true, true, true, true, true, true, true, true, true, true, false, false, false, false, false, false, false, false, false, false, false, false, false, false, false, false, false, false, false, false, false, false, false, false] rfl rfl (by kernel_rfl) (by decide) (fun K hK => ?_)
  refine goes_ Try.func26 (by kernel_rfl) rfl #[.slice Ac c.length cc] (by rfl) rfl rfl (by simp only [List.map_toArray, List.map_cons, List.map_nil]; rfl) ?_
  refine (encode_Layout.calls k Ac cc c true _ (Kd.C_below HC5.out (below_drew1 (Below.refl _ _))) HCC.out HLC.out).mono ?_
  rintro e w6 ⟨rfl, hb0⟩
  have hb := below_step (below_drew1 (Below.refl w5.heap.size w5)) hb0
  have HKA6 := Aside0.mk (blk_below HKA5.out hb)
  have HKB6 := Aside0.mk (blk_below HKB5.out hb)
  have HC6 := Aside0.mk (Kd.C_below HC5.out hb)
  have HD6 := Aside0.mk (Kd.C_below HD5.out hb)
  have HE6 := Aside0.mk (Kd.C_below HE5.out hb)
  have HTA6 := Aside0.mk (HTA5.out.below hb)
  have HTB6 := Aside0.mk (HTB5.out.below hb)
  have HB6 := Aside0.mk (below_step HB5.out hb)
  clear hb hb0
  refine ⟨_, rfl, ?_⟩
  refine hK.out _ _ ⟨((blk_cell HKA6.out 0).trans rfl), ((blk_cell HKA6.out 1).trans rfl), ((blk_cell HKA6.out 2).trans rfl), ((blk_cell HKA6.out 3).trans rfl), ((blk_cell HKA6.out 4).trans rfl), ((blk_cell HKB6.out 0).trans rfl), ((blk_cell HKB6.out 1).trans rfl), ((blk_cell HKB6.out 2).trans rfl), ((blk_cell HKB6.out 3).trans rfl), ((blk_cell HKB6.out 4).trans rfl), (Kd.C_string Try.underlying45 Try.underlying5 Try.underlying9 HC6.out), (Kd.C_string Try.underlying45 Try.underlying5 Try.underlying9 HD6.out), (Kd.C_string Try.underlying45 Try.underlying5 Try.underlying9 HE6.out)⟩ (fun hHeld => ?_)
  clear hK K
  refine norm_ (a' := ?_) ?_ ?_
  rotate_left
  · show Act.put _ (some 56) _ = _
    simp only [Act.put, List.setIfInBounds_toArray, List.set_cons_zero, List.set_cons_succ, i64_w, i32_w]
    rfl
  refine pure_ (i := 13) (N := some 57) (v := ?_) (a' := ?_) #[true, true, true, true, true, true, true, true, true, true, true, true, true, true, false, false, false, false, false, false, false, false, false, false, false, false, false, false, false, false, false, false, false, false, false, false, false] rfl rfl (by kernel_rfl) (fun _ _ _ h => h) (Or.inl ⟨by rfl, ?_⟩) ?_ ?_
  rotate_left
  · intro w'
    go_simp
    with_reducible rfl
  rotate_left
  · simp only [Act.put, List.setIfInBounds_toArray, List.set_cons_zero, List.set_cons_succ, i64_w, i32_w]
    rfl
  refine pure_ (i := 14) (N := some 58) (v := ?_) (a' := ?_) #[true, true, true, true, true, true, true, true, true, true, true, true, true, true, true, false, false, false, false, false, false, false, false, false, false, false, false, false, false, false, false, false, false, false, false, false, false] rfl rfl (by kernel_rfl) (fun _ _ _ h => h) (Or.inl ⟨by rfl, ?_⟩) ?_ ?_
  rotate_left
  · intro w'
    go_simp
    with_reducible rfl
  rotate_left
  · simp only [Act.put, List.setIfInBounds_toArray, List.set_cons_zero, List.set_cons_succ, i64_w, i32_w]
    rfl
  refine take_ (i := 15) (N := some 59) (v := ?_) (a' := ?_) #[true, true, true, true, true, true, true, true, true, true, true, true, true, true, true, true, false, false, false, false, false, false, false, false, false, false, false, false, false, false, false, false, false, false, false, false, false] rfl rfl (by kernel_rfl) (fun _ _ _ h => h) (Or.inl ⟨by rfl, ?_⟩) hHeld ?_ ?_
  rotate_left
  · rintro w' ⟨s0, s1, s2, s3, s4, s5, s6, s7, s8, s9, s10, s11, s12⟩
    go_simp
    with_reducible rfl
  rotate_left
  · simp only [Act.put, List.setIfInBounds_toArray, List.set_cons_zero, List.set_cons_succ, i64_w, i32_w]
    rfl
  refine take_ (i := 16) (N := some 60) (v := ?_) (a' := ?_) #[true, true, true, true, true, true, true, true, true, true, true, true, true, true, true, true, true, false, false, false, false, false, false, false, false, false, false, false, false, false, false, false, false, false, false, false, false] rfl rfl (by kernel_rfl) (fun _ _ _ h => h) (Or.inl ⟨by rfl, ?_⟩) hHeld ?_ ?_
  rotate_left
  · rintro w' ⟨s0, s1, s2, s3, s4, s5, s6, s7, s8, s9, s10, s11, s12⟩
    go_simp
    with_reducible rfl
  rotate_left
  · simp only [Act.put, List.setIfInBounds_toArray, List.set_cons_zero, List.set_cons_succ, i64_w, i32_w]
    rfl
  refine one_ (i := 17) (N := some 61) #[true, true, true, true, true, true, true, true, true, true, true, true, true, true, true, true, true, true, false, false, false, false, false, false, false, false, false, false, false, false, false, false, false, false, false, false, false] rfl rfl (by kernel_rfl) (by decide) (fun K hK => ?_)
  refine goes_ Try.func25 (by kernel_rfl) rfl #[treeV t Ar cr Ap cp Ak ck, treeV t Br dr Bp dp Bk dk] (by rfl) rfl rfl (by simp only [List.map_toArray, List.map_cons, List.map_nil]; rfl) ?_
  refine (HS.out Ar cr Ap cp Ak ck Br dr Bp dp Bk dk w6 HTA6.out HTB6.out).mono ?_
  rintro e w7 ⟨rfl, hb⟩
  have HKA7 := Aside0.mk (blk_below HKA6.out hb)
  have HKB7 := Aside0.mk (blk_below HKB6.out hb)
  have HC7 := Aside0.mk (Kd.C_below HC6.out hb)
  have HD7 := Aside0.mk (Kd.C_below HD6.out hb)
  have HE7 := Aside0.mk (Kd.C_below HE6.out hb)
  have HTA7 := Aside0.mk (HTA6.out.below hb)
  have HTB7 := Aside0.mk (HTB6.out.below hb)
  have HB7 := Aside0.mk (below_step HB6.out hb)
  clear hb
  refine ⟨_, rfl, ?_⟩
  refine hK.out _ _ ⟨((blk_cell HKA7.out 0).trans rfl), ((blk_cell HKA7.out 1).trans rfl), ((blk_cell HKA7.out 2).trans rfl), ((blk_cell HKA7.out 3).trans rfl), ((blk_cell HKA7.out 4).trans rfl), ((blk_cell HKB7.out 0).trans rfl), ((blk_cell HKB7.out 1).trans rfl), ((blk_cell HKB7.out 2).trans rfl), ((blk_cell HKB7.out 3).trans rfl), ((blk_cell HKB7.out 4).trans rfl), (Kd.C_string Try.underlying45 Try.underlying5 Try.underlying9 HC7.out), (Kd.C_string Try.underlying45 Try.underlying5 Try.underlying9 HD7.out), (Kd.C_string Try.underlying45 Try.underlying5 Try.underlying9 HE7.out)⟩ (fun hHeld => ?_)
  clear hK K
  refine norm_ (a' := ?_) ?_ ?_
  rotate_left
  · show Act.put _ (some 61) _ = _
    simp only [Act.put, List.setIfInBounds_toArray, List.set_cons_zero, List.set_cons_succ, i64_w, i32_w]
    rfl
  refine pure_ (i := 18) (N := some 62) (v := ?_) (a' := ?_) #[true, true, true, true, true, true, true, true, true, true, true, true, true, true, true, true, true, true, true, false, false, false, false, false, false, false, false, false, false, false, false, false, false, false, false, false, false] rfl rfl (by kernel_rfl) (fun _ _ _ h => h) (Or.inl ⟨by rfl, ?_⟩) ?_ ?_
  rotate_left
  · intro w'
    go_simp
    with_reducible rfl
  rotate_left
  · simp only [Act.put, List.setIfInBounds_toArray, List.set_cons_zero, List.set_cons_succ, i64_w, i32_w]
    rfl
  refine pure_ (i := 19) (N := some 63) (v := ?_) (a' := ?_) #[true, true, true, true, true, true, true, true, true, true, true, true, true, true, true, true, true, true, true, true, false, false, false, false, false, false, false, false, false, false, false, false, false, false, false, false, false] rfl rfl (by kernel_rfl) (fun _ _ _ h => h) (Or.inl ⟨by rfl, ?_⟩) ?_ ?_
  rotate_left
  · intro w'
    go_simp
    with_reducible rfl
  rotate_left
  · simp only [Act.put, List.setIfInBounds_toArray, List.set_cons_zero, List.set_cons_succ, i64_w, i32_w]
    rfl
  refine pure_ (i := 20) (N := some 64) (v := ?_) (a' := ?_) #[true, true, true, true, true, true, true, true, true, true, true, true, true, true, true, true, true, true, true, true, true, false, false, false, false, false, false, false, false, false, false, false, false, false, false, false, false] rfl rfl (by kernel_rfl) (fun _ _ _ h => h) (Or.inl ⟨by rfl, ?_⟩) ?_ ?_
  rotate_left
  · intro w'
    go_simp
    with_reducible rfl
  rotate_left
  · simp only [Act.put, List.setIfInBounds_toArray, List.set_cons_zero, List.set_cons_succ, i64_w, i32_w]
    rfl
  refine pure_ (i := 22) (N := some 66) (v := ?_) (a' := ?_) #[true, true, true, true, true, true, true, true, true, true, true, true, true, true, true, true, true, true, true, true, true, false, true, false, false, false, false, false, false, false, false, false, false, false, false, false, false] rfl rfl (by kernel_rfl) (fun _ _ _ h => h) (Or.inl ⟨by rfl, ?_⟩) ?_ ?_
  rotate_left
  · intro w'
    go_simp
    with_reducible rfl
  rotate_left
  · simp only [Act.put, List.setIfInBounds_toArray, List.set_cons_zero, List.set_cons_succ, i64_w, i32_w]
    rfl
  refine take_ (i := 21) (N := some 65) (v := ?_) (a' := ?_) #[true, true, true, true, true, true, true, true, true, true, true, true, true, true, true, true, true, true, true, true, true, true, true, false, false, false, false, false, false, false, false, false, false, false, false, false, false] rfl rfl (by kernel_rfl) (fun _ _ _ h => h) (Or.inl ⟨by rfl, ?_⟩) hHeld ?_ ?_
  rotate_left
  · rintro w' ⟨s0, s1, s2, s3, s4, s5, s6, s7, s8, s9, s10, s11, s12⟩
    go_simp
    with_reducible rfl
  rotate_left
  · simp only [Act.put, List.setIfInBounds_toArray, List.set_cons_zero, List.set_cons_succ, i64_w, i32_w]
    rfl
  refine take_ (i := 23) (N := some 67) (v := ?_) (a' := ?_) #[true, true, true, true, true, true, true, true, true, true, true, true, true, true, true, true, true, true, true, true, true, true, true, true, false, false, false, false, false, false, false, false, false, false, false, false, false] rfl rfl (by kernel_rfl) (fun _ _ _ h => h) (Or.inl ⟨by rfl, ?_⟩) hHeld ?_ ?_
  rotate_left
  · rintro w' ⟨s0, s1, s2, s3, s4, s5, s6, s7, s8, s9, s10, s11, s12⟩
    go_simp
    with_reducible rfl
  rotate_left
  · simp only [Act.put, List.setIfInBounds_toArray, List.set_cons_zero, List.set_cons_succ, i64_w, i32_w]
    rfl
  refine pure_ (i := 24) (N := some 68) (v := ?_) (a' := ?_) #[true, true, true, true, true, true, true, true, true, true, true, true, true, true, true, true, true, true, true, true, true, true, true, true, true, false, false, false, false, false, false, false, false, false, false, false, false] rfl rfl (by kernel_rfl) (fun _ _ _ h => h) (Or.inl ⟨by rfl, ?_⟩) ?_ ?_
  rotate_left
  · intro w'
    go_simp
    with_reducible rfl
  rotate_left
  · simp only [Act.put, List.setIfInBounds_toArray, List.set_cons_zero, List.set_cons_succ, i64_w, i32_w]
    rfl
  refine pure_ (i := 25) (N := some 69) (v := ?_) (a' := ?_) #[true, true, true, true, true, true, true, true, true, true, true, true, true, true, true, true, true, true, true, true, true, true, true, true, true, true, false, false, false, false, false, false, false, false, false, false, false] rfl rfl (by kernel_rfl) (fun _ _ _ h => h) (Or.inl ⟨by rfl, ?_⟩) ?_ ?_
  rotate_left
  · intro w'
    go_simp
    with_reducible rfl
  rotate_left
  · simp only [Act.put, List.setIfInBounds_toArray, List.set_cons_zero, List.set_cons_succ, i64_w, i32_w]
    rfl
  refine pure_ (i := 26) (N := some 70) (v := ?_) (a' := ?_) #[true, true, true, true, true, true, true, true, true, true, true, true, true, true, true, true, true, true, true, true, true, true, true, true, true, true, true, false, false, false, false, false, false, false, false, false, false] rfl rfl (by kernel_rfl) (fun _ _ _ h => h) (Or.inl ⟨by rfl, ?_⟩) ?_ ?_
  rotate_left
  · intro w'
    go_simp
    with_reducible rfl
  rotate_left
  · simp only [Act.put, List.setIfInBounds_toArray, List.set_cons_zero, List.set_cons_succ, i64_w, i32_w]
    rfl
  refine pure_ (i := 27) (N := some 71) (v := ?_) (a' := ?_) #[true, true, true, true, true, true, true, true, true, true, true, true, true, true, true, true, true, true, true, true, true, true, true, true, true, true, true, true, false, false, false, false, false, false, false, false, false] rfl rfl (by kernel_rfl) (fun _ _ _ h => h) (Or.inl ⟨by rfl, ?_⟩) ?_ ?_
  rotate_left
  · intro w'
    go_simp
    with_reducible rfl
  rotate_left
  · simp only [Act.put, List.setIfInBounds_toArray, List.set_cons_zero, List.set_cons_succ, i64_w, i32_w]
    rfl
  refine pure_ (i := 29) (N := some 73) (v := ?_) (a' := ?_) #[true, true, true, true, true, true, true, true, true, true, true, true, true, true, true, true, true, true, true, true, true, true, true, true, true, true, true, true, false, true, false, false, false, false, false, false, false] rfl rfl (by kernel_rfl) (fun _ _ _ h => h) (Or.inl ⟨by rfl, ?_⟩) ?_ ?_
  rotate_left
  · intro w'
    go_simp
    with_reducible rfl
  rotate_left
  · simp only [Act.put, List.setIfInBounds_toArray, List.set_cons_zero, List.set_cons_succ, i64_w, i32_w]
    rfl
  refine pure_ (i := 31) (N := some 75) (v := ?_) (a' := ?_) #[true, true, true, true, true, true, true, true, true, true, true, true, true, true, true, true, true, true, true, true, true, true, true, true, true, true, true, true, false, true, false, true, false, false, false, false, false] rfl rfl (by kernel_rfl) (fun _ _ _ h => h) (Or.inl ⟨by rfl, ?_⟩) ?_ ?_
  rotate_left
  · intro w'
    go_simp
    with_reducible rfl
  rotate_left
  · simp only [Act.put, List.setIfInBounds_toArray, List.set_cons_zero, List.set_cons_succ, i64_w, i32_w]
    rfl
  refine take_ (i := 30) (N := some 74) (v := ?_) (a' := ?_) #[true, true, true, true, true, true, true, true, true, true, true, true, true, true, true, true, true, true, true, true, true, true, true, true, true, true, true, true, false, true, true, true, false, false, false, false, false] rfl rfl (by kernel_rfl) (fun _ _ _ h => h) (Or.inl ⟨by rfl, ?_⟩) hHeld ?_ ?_
  rotate_left
  · rintro w' ⟨s0, s1, s2, s3, s4, s5, s6, s7, s8, s9, s10, s11, s12⟩
    go_simp
    with_reducible rfl
  rotate_left
  · simp only [Act.put, List.setIfInBounds_toArray, List.set_cons_zero, List.set_cons_succ, i64_w, i32_w]
    rfl
  refine take_ (i := 32) (N := some 76) (v := ?_) (a' := ?_) #[true, true, true, true, true, true, true, true, true, true, true, true, true, true, true, true, true, true, true, true, true, true, true, true, true, true, true, true, false, true, true, true, true, false, false, false, false] rfl rfl (by kernel_rfl) (fun _ _ _ h => h) (Or.inl ⟨by rfl, ?_⟩) hHeld ?_ ?_
  rotate_left
  · rintro w' ⟨s0, s1, s2, s3, s4, s5, s6, s7, s8, s9, s10, s11, s12⟩
    go_simp
    with_reducible rfl
  rotate_left
  · simp only [Act.put, List.setIfInBounds_toArray, List.set_cons_zero, List.set_cons_succ, i64_w, i32_w]
    rfl
  refine pure_ (i := 33) (N := some 77) (v := ?_) (a' := ?_) #[true, true, true, true, true, true, true, true, true, true, true, true, true, true, true, true, true, true, true, true, true, true, true, true, true, true, true, true, false, true, true, true, true, true, false, false, false] rfl rfl (by kernel_rfl) (fun _ _ _ h => h) (Or.inl ⟨by rfl, ?_⟩) ?_ ?_
  rotate_left
  · intro w'
    go_simp
    with_reducible rfl
  rotate_left
  · simp only [Act.put, List.setIfInBounds_toArray, List.set_cons_zero, List.set_cons_succ, i64_w, i32_w]
    rfl
  refine one_ (i := 28) (N := some 72) #[true, true, true, true, true, true, true, true, true, true, true, true, true, true, true, true, true, true, true, true, true, true, true, true, true, true, true, true, true, true, true, true, true, true, false, false, false] rfl rfl (by kernel_rfl) (by decide) (fun K hK => ?_)
  refine goes_ Try.func26 (by kernel_rfl) rfl #[.slice A0 b.length c0] (by rfl) rfl rfl (by simp only [List.map_toArray, List.map_cons, List.map_nil]; rfl) ?_
  refine (encode_Layout.calls k A0 c0 b _ w7 HE7.out HC0.out HLB.out).mono ?_
  rintro e w8 ⟨rfl, hb⟩
  have HKA8 := Aside0.mk (blk_below HKA7.out hb)
  have HKB8 := Aside0.mk (blk_below HKB7.out hb)
  have HC8 := Aside0.mk (Kd.C_below HC7.out hb)
  have HD8 := Aside0.mk (Kd.C_below HD7.out hb)
  have HE8 := Aside0.mk (Kd.C_below HE7.out hb)
  have HTA8 := Aside0.mk (HTA7.out.below hb)
  have HTB8 := Aside0.mk (HTB7.out.below hb)
  have HB8 := Aside0.mk (below_step HB7.out hb)
  clear hb
  refine ⟨_, rfl, ?_⟩
  refine hK.out _ _ ⟨((blk_cell HKA8.out 0).trans rfl), ((blk_cell HKA8.out 1).trans rfl), ((blk_cell HKA8.out 2).trans rfl), ((blk_cell HKA8.out 3).trans rfl), ((blk_cell HKA8.out 4).trans rfl), ((blk_cell HKB8.out 0).trans rfl), ((blk_cell HKB8.out 1).trans rfl), ((blk_cell HKB8.out 2).trans rfl), ((blk_cell HKB8.out 3).trans rfl), ((blk_cell HKB8.out 4).trans rfl), (Kd.C_string Try.underlying45 Try.underlying5 Try.underlying9 HC8.out), (Kd.C_string Try.underlying45 Try.underlying5 Try.underlying9 HD8.out), (Kd.C_string Try.underlying45 Try.underlying5 Try.underlying9 HE8.out)⟩ (fun hHeld => ?_)
  clear hK K
  refine norm_ (a' := ?_) ?_ ?_
  rotate_left
  · show Act.put _ (some 72) _ = _
    simp only [Act.put, List.setIfInBounds_toArray, List.set_cons_zero, List.set_cons_succ, i64_w, i32_w]
    rfl
  refine pure_ (i := 34) (N := some 78) (v := ?_) (a' := ?_) #[true, true, true, true, true, true, true, true, true, true, true, true, true, true, true, true, true, true, true, true, true, true, true, true, true, true, true, true, true, true, true, true, true, true, true, false, false] rfl rfl (by kernel_rfl) (fun _ _ _ h => h) (Or.inl ⟨by rfl, ?_⟩) ?_ ?_
  rotate_left
  · intro w'
    go_simp
    with_reducible rfl
  rotate_left
  · simp only [Act.put, List.setIfInBounds_toArray, List.set_cons_zero, List.set_cons_succ, i64_w, i32_w]
    rfl
  refine pure_ (i := 35) (N := some 79) (v := ?_) (a' := ?_) #[true, true, true, true, true, true, true, true, true, true, true, true, true, true, true, true, true, true, true, true, true, true, true, true, true, true, true, true, true, true, true, true, true, true, true, true, false] rfl rfl (by kernel_rfl) (fun _ _ _ h => h) (Or.inl ⟨by rfl, ?_⟩) ?_ ?_
  rotate_left
  · intro w'
    go_simp
    with_reducible rfl
  rotate_left
  · simp only [Act.put, List.setIfInBounds_toArray, List.set_cons_zero, List.set_cons_succ, i64_w, i32_w]
    rfl
  refine pure_ (i := 36) (N := some 2) (v := ?_) (a' := ?_) #[true, true, true, true, true, true, true, true, true, true, true, true, true, true, true, true, true, true, true, true, true, true, true, true, true, true, true, true, true, true, true, true, true, true, true, true, true] rfl rfl (by kernel_rfl) (fun _ _ _ h => h) (Or.inl ⟨by rfl, ?_⟩) ?_ ?_
  rotate_left
  · intro w'
    go_simp
    with_reducible rfl
  rotate_left
  · simp only [Act.put, List.setIfInBounds_toArray, List.set_cons_zero, List.set_cons_succ, i64_w, i32_w]
    rfl
  refine done_ (by kernel_rfl) ?_
  go_wp2
  refine bodyPost_ret (results_tmp rfl _ _ _) rfl ?_
  exact ⟨rfl, HB8.out⟩
end Go.Proofs.Ytkopmkinlanhoaa.PE

namespace Go.Proofs.Ytkopmkinlanhoaa.PE
open Go.RowKit Go.Proofs.YtkopmkinlanhoaaW.PrintWords Go.Proofs.YtkopmkinlanhoaaW.PrintLast Go.Proofs.YtkopmkinlanhoaaW.PrintMore
attribute [local go_sem] max2_int min2_int max_two min_two max_three min_three max_four min_four
set_option linter.unusedVariables false
set_option linter.unusedSimpArgs false
def AgainFact (k : Nat) (b : List Int) : Prop := b.length > 200000 ∨ (¬ b.length > 200000 ∧ ∃ t e, decode_Decode.f k b = some (t, e) ∧ (e ≠ 0 ∨ (e = 0 ∧ (0 ≤ t.f0 ∧ t.f0 < 4294967296) ∧ (∃ c, encode_Encode.f k t.f0 t.f1 t.f2.f0 t.f2.f1 t.f2.f2 = some (c, 0) ∧ decode_Decode.f k c = some (t, 0)) ∧ arboretref01_SameTree.f k t.f0 t.f1 t.f2.f0 t.f2.f1 t.f2.f2 t.f0 t.f1 t.f2.f0 t.f2.f1 t.f2.f2 = some true)))
noncomputable def arboretlaw05_EncodeAgain.f (k : Nat) (b : List Int) : Option Bool := @ite _ (AgainFact k b) (Classical.propDecidable _) (some true) none
theorem arboretlaw05_EncodeAgain.calls (k : Nat) (A0 : Option Addr) (c0 : Nat) (b : List Int) (r : Bool) (w : World) (hr0 : Kd.C (Kd.int .u8) w A0 b.length b) (hc0 : b.length ≤ c0) (h : arboretlaw05_EncodeAgain.f k b = some r) :
    Calls Try.prog 7 #[.slice A0 b.length c0] w fun e w' => e = .returned (.bool r) ∧ Below w.heap.size w w' := by
  unfold arboretlaw05_EncodeAgain.f at h
  by_cases hf : AgainFact k b
  · rw [if_pos hf] at h
    obtain rfl := Option.some.inj h
    rcases hf with hl | ⟨hl, t, e, hd, he | ⟨he, hrg, ⟨c, hen, hdc⟩, hs⟩⟩
    · exact again_far.calls A0 c0 b w hr0 hl
    · exact again_bad.calls A0 c0 b w hr0 hc0 hl k t e hd he
    · exact again_good.calls A0 c0 b w hr0 hc0 hl k t hrg e he hd c hen hdc (fun A1 c1 A3 c3 A4 c4 B1 d1 B3 d3 B4 d4 W hA hB => arboretref01_SameTree.calls k t.f0 A1 c1 t.f1 t.f2.f0 A3 c3 t.f2.f1 A4 c4 t.f2.f2 t.f0 B1 d1 t.f1 t.f2.f0 B3 d3 t.f2.f1 B4 d4 t.f2.f2 true W hA.r1 hA.l1 hA.r3 hA.l3 hA.r4 hA.l4 hB.r1 hB.l1 hB.r3 hB.l3 hB.r4 hB.l4 hs)
  · rw [if_neg hf] at h
    cases h
end Go.Proofs.Ytkopmkinlanhoaa.PE

namespace Go.Proofs.Ytkopmkinlanhoaa.PE
open Go.RowKit Go.Proofs.Ytkopmkinlanhoaa.Rdr Go.Proofs.YtkopmkinlanhoaaW.PrintWords Go.Proofs.YtkopmkinlanhoaaW.PrintLast Go.Proofs.YtkopmkinlanhoaaW.PrintMore
def arboretlaw05_EncodeAgain.Pure : Prop := ∀ (x0 : List Int), x0.length ≤ 9223372036854775807 → x0.length * 1 ≤ 140737488351232 → (fun xs => ∀ x ∈ xs, (wfI .u8) x) x0 → ∃ k, arboretlaw05_EncodeAgain.f k x0 = some true
end Go.Proofs.Ytkopmkinlanhoaa.PE

namespace Go.Proofs.Ytkopmkinlanhoaa.PE
open Go.RowKit Go.Proofs.YtkopmkinlanhoaaW.PrintWords Go.Proofs.YtkopmkinlanhoaaW.PrintLast Go.Proofs.YtkopmkinlanhoaaW.PrintMore
attribute [local go_sem] max2_int min2_int max_two min_two max_three min_three max_four min_four
set_option linter.unusedVariables false
set_option linter.unusedSimpArgs false
open Go.Proofs.Ytkopmkinlanhoaa.Aid Go.Proofs.Ytkopmkinlanhoaa.Rdr
theorem same_refl (m : Nat) (hm : m ≤ 1048576) : ∀ x : S27, bulk27 x ≤ m → Ev (fun k => arboretref01_Same.f k x.f0 x.f1 x.f2 x.f0 x.f1 x.f2) true := by
  induction m with
  | zero => intro x hx; have := bulk_pos x; omega
  | succ m ih =>
    intro x hx
    have hk := bulk_kids x
    have hp := bulk_props x
    have kids : ∀ (j i : Nat), i + j = x.f2.length → Ev (fun k => arboretref01_Same.l1 k (x.f2.length : Int) (i : Int) x.f0 x.f1 x.f2 x.f0 x.f1 x.f2) true := by
      intro j
      induction j with
      | zero =>
        intro i hi
        refine Ev.succ ?_
        simp only [arboretref01_Same.l1]
        exact Ev.neg (by omega) (Ev.some _)
      | succ j ihj =>
        intro i hi
        have hw := step64 (i := i) (n := x.f2.length) (by omega) (by omega)
        have hmem := getN (xs := x.f2) (i := i) (by omega)
        have hbk := bulk_kid hmem
        refine Ev.succ ?_
        simp only [arboretref01_Same.l1, rdN, hw]
        exact Ev.pos (by omega) (Ev.pos (Int.natCast_nonneg i) (Ev.pos (by omega) (Ev.pos (by omega) (Ev.then (ih (by omega) _ (by omega)) (Ev.pos rfl (ihj (i + 1) (by omega)))))))
    have props : ∀ (j i : Nat), i + j = x.f1.length → Ev (fun k => arboretref01_Same.l0 k (x.f1.length : Int) (i : Int) x.f0 x.f1 x.f2 x.f0 x.f1 x.f2) true := by
      intro j
      induction j with
      | zero =>
        intro i hi
        refine Ev.succ ?_
        simp only [arboretref01_Same.l0]
        exact Ev.neg (by omega) (kids x.f2.length 0 (by omega))
      | succ j ihj =>
        intro i hi
        have hw := step64 (i := i) (n := x.f1.length) (by omega) (by omega)
        refine Ev.succ ?_
        simp only [arboretref01_Same.l0, rdP, hw]
        exact Ev.pos (by omega) (Ev.pos (Int.natCast_nonneg i) (Ev.pos (by omega) (Ev.pos (by omega) (Ev.pos trivial (Ev.pos trivial (ihj (i + 1) (by omega)))))))
    refine Ev.succ ?_
    have j0 : Ev (fun k => arboretref01_Same.j0 k false x.f0 x.f1 x.f2 x.f0 x.f1 x.f2) true := by
      refine Ev.succ ?_
      simp only [arboretref01_Same.j0]
      exact Ev.neg Bool.false_ne_true (props x.f1.length 0 (by omega))
    have e1 : ((x.f1.length : Int) != (x.f1.length : Int)) = false := by simp
    have e2 : ((x.f2.length : Int) != (x.f2.length : Int)) = false := by simp
    simp only [arboretref01_Same.f, e1, e2]
    simp only [if_true, Bool.false_eq_true, if_false]
    exact j0
theorem same_tree (a0 : Int) (l1 : List S82) (x : S27) (hx : bulk27 x ≤ 1048576) (hl : l1.length ≤ 1048576) : Ev (fun k => arboretref01_SameTree.f k a0 l1 x.f0 x.f1 x.f2 a0 l1 x.f0 x.f1 x.f2) true := by
  have loop : ∀ (j i : Nat), i + j = l1.length → Ev (fun k => arboretref01_SameTree.l0 k (l1.length : Int) (i : Int) a0 l1 x.f0 x.f1 x.f2 a0 l1 x.f0 x.f1 x.f2) true := by
    intro j
    induction j with
    | zero =>
      intro i hi
      refine Ev.succ ?_
      simp only [arboretref01_SameTree.l0]
      exact Ev.neg (by omega) (Ev.then (same_refl 1048576 (by omega) x hx) (Ev.some _))
    | succ j ihj =>
      intro i hi
      have hw := step64 (i := i) (n := l1.length) (by omega) (by omega)
      refine Ev.succ ?_
      simp only [arboretref01_SameTree.l0, hw]
      exact Ev.pos (by omega) (Ev.pos (Int.natCast_nonneg i) (Ev.pos (by omega) (Ev.pos (by omega) (Ev.neg (by simp) (ihj (i + 1) (by omega))))))
  have e1 : ((l1.length : Int) != (l1.length : Int)) = false := by simp
  have j0 : Ev (fun k => arboretref01_SameTree.j0 k false a0 l1 x.f0 x.f1 x.f2 a0 l1 x.f0 x.f1 x.f2) true := by
    refine Ev.succ ?_
    simp only [arboretref01_SameTree.j0]
    exact Ev.neg Bool.false_ne_true (loop l1.length 0 (by omega))
  unfold arboretref01_SameTree.f
  simp only [e1, if_true]
  exact j0
end Go.Proofs.Ytkopmkinlanhoaa.PE

set_option linter.unusedVariables false
set_option linter.unusedSimpArgs false
namespace Go.Proofs.Ytkopmkinlanhoaa.Pure
open Go.RowKit Go.Proofs.Ytkopmkinlanhoaa.PE Go.Proofs.Ytkopmkinlanhoaa.Rdr Go.Proofs.Ytkopmkinlanhoaa.Aid Go.Proofs.YtkopmkinlanhoaaW.PrintWords
theorem again_fact (b : List Int) : ∃ k, AgainFact k b := by
  by_cases hl : b.length > 200000
  · exact ⟨0, .inl hl⟩
  obtain ⟨t, e, hd, hg⟩ := decode_ends b (by omega)
  by_cases he : e = 0
  · have g := hg he
    obtain ⟨c, hen, _, hdc⟩ := again_enc b.length (by omega) t g
    have hs := same_tree t.f0 t.f1 t.f2 (by have := g.bulk; omega) (by have := g.few; omega)
    obtain ⟨k1, hd⟩ := hd
    obtain ⟨k2, hen⟩ := hen
    obtain ⟨k3, hdc⟩ := hdc
    obtain ⟨k4, hs⟩ := hs
    exact ⟨k1 + k2 + k3 + k4, .inr ⟨hl, t, e, hd _ (by omega), .inr ⟨he, g.boot, ⟨c, hen _ (by omega), hdc _ (by omega)⟩, hs _ (by omega)⟩⟩⟩
  · obtain ⟨k, hk⟩ := hd.rounds
    exact ⟨k, .inr ⟨hl, t, e, hk, .inl he⟩⟩
theorem EncodeAgain : arboretlaw05_EncodeAgain.Pure := by
  intro b _ _ _
  obtain ⟨k, hk⟩ := again_fact b
  refine ⟨k, ?_⟩
  unfold arboretlaw05_EncodeAgain.f
  exact if_pos hk
end Go.Proofs.Ytkopmkinlanhoaa.Pure

namespace Go.Proofs.Ytkopmkinlanhoaa.encodeAgain
open Go.ChangeShapes Go.WideShapes Go.ChangeAt Go.RowKit Go.Proofs.Ytkopmkinlanhoaa.Rdr Go.Proofs.Ytkopmkinlanhoaa.PE
open Go.ChangeMaps (open_string shut_string)
set_option linter.unusedVariables false
set_option linter.unusedSimpArgs false
theorem own : ownKnob Try.prog.godebug = none := by kernel_rfl
theorem laidOut : laidOutB Try.prog = true := by kernel_rfl
set_option maxRecDepth 100000 in
theorem contract (H : Type) (enc : TypeId × Value → H) (W : World) (base : Nat) (args : Array Value) (ds gs : List (DataW H)) (before : List MemPlace)
    (hval0 : ∀ (j : Nat) t v, Try.f7.params[j]? = some t → args[j]? = some v → Value.okWide Try.prog W .any base t v)
    (hW : DataW.Whole enc Try.prog Try.f7.params.toList Rows.encodeAgainSpec.vars false W args.toList ds gs before) (hsz : (DataW.weightsEach Try.prog (Try.f7.params.toList ++ Rows.encodeAgainSpec.plain.varTypes Try.prog) (ds ++ gs)).all (· ≤ reachBytes) = true) :
    Calls Try.prog 7 args W fun e W' => ∃ v, e = .returned v ∧ Rows.encodeAgainSpec.post enc Try.prog Try.f7 false true false false W args v W' := by
  have hval : ∀ (j : Nat) t v, Try.f7.params[j]? = some t → args[j]? = some v → Value.okWide Try.prog W .any base t v := hval0
  have hW' := hW
  obtain ⟨p, q, hA0, hV, rfl, hfz, hnd⟩ := hW
  have hA : DataW.TrodAll enc Try.prog W 0 (fun _ => true) true Try.f7.params.toList args.toList ds p := hA0
  rw [Try.params7] at hA hval hsz
  obtain ⟨v0, vs0, d0, ds0, p0, q0, hargs, rfl, rfl, h0, tr0⟩ := trodAll_cons hA
  obtain ⟨rfl, rfl, rfl⟩ := trodAll_nil tr0
  obtain rfl : args = #[v0] := by cases args; simp_all
  obtain ⟨rfl, rfl⟩ := trodVars_none hV
  have k0 := h0
  have lt0 : ∀ x ∈ p0, x.block < W.heap.size := by obtain ⟨m, hm⟩ := k0; exact DataW.trod_lt m _ _ _ hm
  obtain ⟨A0, n0, c0, rfl⟩ := okWide_slice Try.underlying45 (hval 0 45 v0 rfl rfl)
  obtain ⟨f0, hf0⟩ := h0
  have y0 : ∀ xs : List (DataW H), ∀ ys, d0 = .slice xs ys → (xs.length + ys.length) * 1 ≤ 140737488351232 := by
    rintro xs ys rfl
    have z := sized_slice hsz (j := 0) (t := 45) rfl rfl Try.underlying45
    exact z
  obtain ⟨x0, ⟨A0', c0', e0, l0, r0⟩, b0, g0⟩ := rd_slice (n := f0) Try.underlying45 (by kernel_rfl) (rd_int (n := f0) Try.underlying5) H enc f0 (Nat.le_succ _) _ _ hf0
  have e0' : [Value.slice A0 n0 c0] = [Value.slice A0' x0.length c0'] := e0
  simp only [List.cons.injEq, Value.slice.injEq, and_true] at e0'
  obtain ⟨rfl, rfl, rfl⟩ := e0'
  have z0 : x0.length * 1 ≤ 140737488351232 := len_of_trod Try.underlying45 hf0 y0
  obtain ⟨k, hk_⟩ := Pure.EncodeAgain x0 r0.2.1 z0 g0
  refine (arboretlaw05_EncodeAgain.calls k A0 c0 x0 true W r0 l0 hk_).mono fun e W' ⟨he, bel0⟩ => ?_
  have bel : Below W.heap.size W W' := bel0
  subst he
  exact ⟨_, rfl, _, _, _, [], _, [], hW', trodAll_mk1 (shut_bool Try.underlying4 _), (trodAll_cons_mk (Below.trod laidOut (by kernel_rfl) (of_decide_eq_true (by kernel_rfl)) k0 bel lt0) trodAll_mk0), rfl, bel.frame _, fun h => by cases h⟩
set_option maxRecDepth 100000 in
theorem lifted (os : Os) (started : os.Started) (H : Type) (enc : TypeId × Value → H) :
    ReturnsInHanded {} Try.checked os 7 .any (Rows.encodeAgainSpec.pre6 enc Try.prog Try.f7 Rows.encodeAgainRow.domain false) (Rows.encodeAgainSpec.post enc Try.prog Try.f7 false true false false) := by
  refine returnsInHanded_of_change_sized (C := Try.checked) own started (by kernel_rfl) Try.func7
    (ChangeSpec.witness6 (enc := enc) (C := Try.checked) false ⟨#[], #[.slice none 0 0], []⟩ 16 (by kernel_rfl) (by kernel_rfl) (by kernel_rfl) (by kernel_rfl)) ?_
  intro W base args ds gs before hval hW _ hsz _
  exact contract H enc W base args ds gs before hval hW hsz
theorem over : Rows.encodeAgainRow.holds Try.pinned (OpenSpec.ofChange Rows.encodeAgainSpec) :=
  OpenClaim.holds_of_wide 7 Try.f7 rfl rfl rfl rfl rfl rfl rfl ⟨rfl, rfl, rfl, rfl, rfl⟩ rfl rfl rfl rfl rfl (by kernel_rfl) Try.func7 (by kernel_rfl)
    (of_decide_eq_true (by kernel_rfl)) (by unfold Func.isWrapper; first | (rw [if_pos (by decide +kernel)]; kernel_rfl) | (rw [if_neg (by decide +kernel)]; exact ⟨rfl, rfl⟩))
    (fun os started H enc _ => lifted os started H enc)
theorem proved : Rows.EncodeAgainSaid := over
end Go.Proofs.Ytkopmkinlanhoaa.encodeAgain
namespace Go.Proofs.Ytkopmkinlanhoaa
theorem encodeAgain_holds : Rows.EncodeAgainSaid := encodeAgain.proved
end Go.Proofs.Ytkopmkinlanhoaa
