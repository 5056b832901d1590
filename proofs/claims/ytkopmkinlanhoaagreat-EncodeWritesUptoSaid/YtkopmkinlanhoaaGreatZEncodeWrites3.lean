/- EncodeWrites: texts of this session's, and what the kit's print laid for this seat, as far as the law's row uses them (PEx0, Rdr, PEKinds, Aid, Tree, Blob1, Blob1, Blob1). -/
import Derived.Test.YtkopmkinlanhoaaGreatZEncodeWrites2
set_option linter.unusedVariables false
set_option linter.unusedSimpArgs false
namespace Go.Proofs.YtkopmkinlanhoaaGreat.PE
open Go.RowKit Go.Proofs.YtkopmkinlanhoaaGreatW.PrintWords Go.Proofs.YtkopmkinlanhoaaGreatW.PrintLast Go.Proofs.YtkopmkinlanhoaaGreatW.PrintMore
attribute [local go_sem] max2_int min2_int max_two min_two max_three min_three max_four min_four
attribute [local go_sem high] eqA51
set_option maxRecDepth 100000 in
set_option maxHeartbeats 8000000 in
theorem decode_Decode.calls (k : Nat) (A0 : Option Addr) (c0 : Nat) (l0 : List Int) (r1 : S29) (r2 : Int) (w : World) (hr0 : Kd.C (Kd.int .u8) w A0 l0.length l0) (hc0 : l0.length ≤ c0) (hfun : decode_Decode.f k l0 = some (r1, r2)) :
  Calls Tryz.prog 25 #[.slice A0 l0.length c0] w fun e' w' => ∃ vr v1 v2 : Value, e' = .returned (.tuple #[.agg #[.int .u32 r1.f0, vr, .string r1.f2.f0, v1, v2], .int .i64 r2]) ∧ Kd.R k51 51 w' w.heap.size (fun _ => True) vr r1.f1 ∧ Kd.R k68 68 w' w.heap.size (fun _ => True) v1 r1.f2.f1 ∧ Kd.R k27 27 w' w.heap.size (fun _ => True) v2 r1.f2.f2 ∧ Below w.heap.size w w' := by
 unfold decode_Decode.f at hfun; obtain ⟨⟨h, e⟩, hh, hfun⟩ := Option.bind_eq_some_iff.mp hfun; simp only at hfun
 by_cases he : e = 0
 case neg =>
  rw [if_neg he] at hfun
  obtain ⟨rfl, rfl⟩ : z29 = r1 ∧ e = r2 := by simpa using hfun
  have hz : h = .zero := by
   unfold decode_Header.f at hh; replace hh := Option.some.inj hh
   split at hh
   ·exact (Prod.mk.inj hh).1.symm
   ·split at hh
    ·exact (Prod.mk.inj hh).1.symm
    ·split at hh
     ·exact absurd (Prod.mk.inj hh).2.symm he
     ·exact (Prod.mk.inj hh).1.symm
  subst hz; refine (decode_Decode.err A0 c0 l0 e w hr0 hc0 hh he).mono ?_; rintro e' w' ⟨rfl, hb⟩; exact ⟨_, _, _, rfl, Kd.R_nil _ _ _ _ _, Kd.R_nil _ _ _ _ _, Kd.R_nil _ _ _ _ _, hb⟩
 subst he; rw [if_pos rfl] at hfun; obtain ⟨rfl, hl1, hl2, hi1, hi2, hi3, _⟩ := header_ok hh; have g2 := cellAt_range l0 8; have g9 := cellAt_range l0 36; have g3 := cellAt_range l0 12; have g8 := cellAt_range l0 32; have g4 := cellAt_range l0 16; have b1 := inB_le hi1 g2 g9 ⟨Zq1, Zq1⟩; have b2 := inB_le hi2 g3 g8 ⟨Zq1, Zq1⟩; have b3 := inB_le hi3 g4 ⟨Zq2, Zq2⟩ ⟨Zq1, Zq1⟩
 obtain ⟨h, hhd⟩ : ∃ h : Hdr, h = hdrOf l0 := ⟨_, rfl⟩
 replace g2 : 0 ≤ h.c2 ∧ h.c2 < 4294967296 := by rw [hhd]; exact g2
 replace g9 : 0 ≤ h.c9 ∧ h.c9 < 4294967296 := by rw [hhd]; exact g9
 replace g3 : 0 ≤ h.c3 ∧ h.c3 < 4294967296 := by rw [hhd]; exact g3
 replace g8 : 0 ≤ h.c8 ∧ h.c8 < 4294967296 := by rw [hhd]; exact g8
 replace g4 : 0 ≤ h.c4 ∧ h.c4 < 4294967296 := by rw [hhd]; exact g4
 replace b1 : 40 ≤ h.c2 ∧ h.c2 + h.c9 ≤ l0.length := by rw [hhd]; exact b1
 replace b2 : 40 ≤ h.c3 ∧ h.c3 + h.c8 ≤ l0.length := by rw [hhd]; exact b2
 rw [← hhd] at hh hfun; clear hhd hi1 hi2 hi3 b3; have HHD := AK (fun (W : World) hC => decode_Header.calls A0 c0 l0 h 0 W hC hc0 hh); obtain ⟨⟨rs, re⟩, hr, hfun⟩ := Option.bind_eq_some_iff.mp hfun; simp only at hfun; have HRS := AK (fun (W : World) hC => decode_reserves.calls k A0 c0 l0 h.c4 rs re W hC hc0 hr); have HR0 := AK hr0; have HC0 := AK hc0; have g40 := g4.1; have g41 := g4.2; clear hh hr hr0 hc0
 by_cases hre : re = 0
 case neg =>
  rw [if_neg hre] at hfun
  obtain ⟨rfl, rfl⟩ : z29 = r1 ∧ re = r2 := by simpa using hfun
  have hreb : (re != 0) = true := bne_iff_ne.mpr hre; clear hfun hre; go_enter Tryz.func25, Tryz.ntmps25; (go_wp2_with (first | (go_at_call 38; refine (HHD.out _ (Kd.C_below HR0.out Zq59)).mono ?_; simp only [Hdr.val]; rintro e w1 ⟨rfl, hb⟩; have HB := AK (below_step (below_alloc (Below.refl w.heap.size w) _) hb); have HK := Zq93; have HH := Zq101; clear hb; have z0 : w1.cell? ⟨w.heap.size, 0, none⟩ = some (.int .u32 0) := (blk_cell HK.out 0).trans rfl; have f0 : w1.frozen? ⟨w.heap.size, 0, none⟩ = false := blk_frozen HK.out 0; have z1 : w1.cell? ⟨w.heap.size, 1, none⟩ = some (.slice none 0 0) := (blk_cell HK.out 1).trans rfl; have f1 : w1.frozen? ⟨w.heap.size, 1, none⟩ = false := blk_frozen HK.out 1; have z2 : w1.cell? ⟨w.heap.size, 2, none⟩ = some (.string ⟨#[]⟩) := (blk_cell HK.out 2).trans rfl; have f2 : w1.frozen? ⟨w.heap.size, 2, none⟩ = false := blk_frozen HK.out 2; have z3 : w1.cell? ⟨w.heap.size, 3, none⟩ = some (.slice none 0 0) := (blk_cell HK.out 3).trans rfl; have f3 : w1.frozen? ⟨w.heap.size, 3, none⟩ = false := blk_frozen HK.out 3; have z4 : w1.cell? ⟨w.heap.size, 4, none⟩ = some (.slice none 0 0) := (blk_cell HK.out 4).trans rfl; have f4 : w1.frozen? ⟨w.heap.size, 4, none⟩ = false := blk_frozen HK.out 4; have hlt : w.heap.size < w1.heap.size := blk_lt HK.out) | (go_at_call 39; refine (HRS.out _ (Kd.C_below HR0.out (below_alloc HB.out _))).mono ?_; rintro e w2 ⟨vr, rfl, hvr, hb⟩; obtain ⟨Ar, cr, rfl⟩ := Kd.R_slice hvr; have HVR := Zq115; have HK := AK (blk_below (blk_alloc HK.out _) hb); have HH := AK (blk_below HH.out hb); have HB := AK (below_step (below_alloc HB.out _) hb); clear hvr hb; have z0 : w2.cell? ⟨w.heap.size, 0, none⟩ = some (.int .u32 0) := (blk_cell HK.out 0).trans rfl; have f0 : w2.frozen? ⟨w.heap.size, 0, none⟩ = false := blk_frozen HK.out 0; have z1 : w2.cell? ⟨w.heap.size, 1, none⟩ = some (.slice none 0 0) := (blk_cell HK.out 1).trans rfl; have f1 : w2.frozen? ⟨w.heap.size, 1, none⟩ = false := blk_frozen HK.out 1; have z2 : w2.cell? ⟨w.heap.size, 2, none⟩ = some (.string ⟨#[]⟩) := (blk_cell HK.out 2).trans rfl; have f2 : w2.frozen? ⟨w.heap.size, 2, none⟩ = false := blk_frozen HK.out 2; have z3 : w2.cell? ⟨w.heap.size, 3, none⟩ = some (.slice none 0 0) := (blk_cell HK.out 3).trans rfl; have f3 : w2.frozen? ⟨w.heap.size, 3, none⟩ = false := blk_frozen HK.out 3; have z4 : w2.cell? ⟨w.heap.size, 4, none⟩ = some (.slice none 0 0) := (blk_cell HK.out 4).trans rfl; have f4 : w2.frozen? ⟨w.heap.size, 4, none⟩ = false := blk_frozen HK.out 4; have hlt : w.heap.size < w2.heap.size := blk_lt HK.out; have hh2 : w2.cell? ⟨w1.heap.size, 2, none⟩ = some (.int .u32 h.c2) := (blk_cell HH.out 2).trans rfl; have hh3 : w2.cell? ⟨w1.heap.size, 3, none⟩ = some (.int .u32 h.c3) := (blk_cell HH.out 3).trans rfl; have hh4 : w2.cell? ⟨w1.heap.size, 4, none⟩ = some (.int .u32 h.c4) := (blk_cell HH.out 4).trans rfl; have hh7 : w2.cell? ⟨w1.heap.size, 7, none⟩ = some (.int .u32 h.c7) := (blk_cell HH.out 7).trans rfl; have hh8 : w2.cell? ⟨w1.heap.size, 8, none⟩ = some (.int .u32 h.c8) := (blk_cell HH.out 8).trans rfl; have hh9 : w2.cell? ⟨w1.heap.size, 9, none⟩ = some (.int .u32 h.c9) := (blk_cell HH.out 9).trans rfl; have hlt2 : w1.heap.size < w2.heap.size := blk_lt HH.out))); refine bodyPost_ret (results_ct rfl _ _ w.heap.size 29 #[.int .u32 0, .slice none 0 0, .string ⟨#[]⟩, .slice none 0 0, .slice none 0 0] (0, 0) _ rfl (by refine blk_put (cs := #[.int .u32 0, .slice none 0 0, .string ⟨#[]⟩, .slice none 0 0, .slice none 0 0]) ?_ 4 _ rfl; refine blk_put (cs := #[.int .u32 0, .slice none 0 0, .string ⟨#[]⟩, .slice none 0 0, .slice none 0 0]) ?_ 3 _ rfl; refine blk_put (cs := #[.int .u32 0, .slice none 0 0, .string ⟨#[]⟩, .slice none 0 0, .slice none 0 0]) ?_ 2 _ rfl; refine blk_put (cs := #[.int .u32 0, .slice none 0 0, .string ⟨#[]⟩, .slice none 0 0, .slice none 0 0]) ?_ 1 _ rfl; refine blk_put (cs := #[.int .u32 0, .slice none 0 0, .string ⟨#[]⟩, .slice none 0 0, .slice none 0 0]) ?_ 0 _ rfl; exact HK.out) Tryz.underlying29 rfl Zq3) rfl ⟨_, _, _, rfl, Kd.R_nil _ _ _ _ _, Kd.R_nil _ _ _ _ _, Kd.R_nil _ _ _ _ _, ?_⟩; exact (((((HB.out.setCell (Nat.le_refl _) _).setCell (Nat.le_refl _) _).setCell (Nat.le_refl _) _).setCell (Nat.le_refl _) _).setCell (Nat.le_refl _) _)
 subst hre; rw [if_pos rfl] at hfun; obtain ⟨i0, hi0, hza, hsz, hzb⟩ := info_parts info5; have hcut1 := cut_mid 32 5 .u32 .u32 Tryz.underlying32 hi0 1 hsz A0 l0.length c0 h.c2 (h.c2 + h.c9) Zq1 Zq1 Zq1 HC0.out; have hcut2 := cut_mid 32 5 .u32 .u32 Tryz.underlying32 hi0 1 hsz A0 l0.length c0 h.c3 (h.c3 + h.c8) Zq1 Zq1 Zq1 HC0.out
 have s1 : IntKind.u32.wrap (h.c2 + h.c9) = h.c2 + h.c9 := by simp only [IntKind.wrap, IntKind.bits, IntKind.signed]; simp; omega
 have s2 : IntKind.u32.wrap (h.c3 + h.c8) = h.c3 + h.c8 := by simp only [IntKind.wrap, IntKind.bits, IntKind.signed]; simp; omega
 have C1 := Kd.C_mid (lo := h.c2.toNat) (hi := (h.c2 + h.c9).toNat) HR0.out Zq1 Zq1 HC0.out; have C2 := Kd.C_mid (lo := h.c3.toNat) (hi := (h.c3 + h.c8).toNat) HR0.out Zq1 Zq1 HC0.out; obtain ⟨a0, ha0, _⟩ := HR0.out.2.2 Zq1
 obtain ⟨ab, hab⟩ : ∃ ab, some ab = (if c0 = h.c2.toNat then A0 else A0.map (·.add (h.c2.toNat * 1))) := by rw [ha0]; split <;> exact ⟨_, rfl⟩
 obtain ⟨At, hAt⟩ : ∃ At, At = (if c0 = h.c3.toNat then A0 else A0.map (·.add (h.c3.toNat * 1))) := ⟨_, rfl⟩
 obtain ⟨lb, hlb⟩ : ∃ y, y = partB l0 h.c2 h.c9 := ⟨_, rfl⟩
 obtain ⟨lt, hlt_⟩ : ∃ y, y = partB l0 h.c3 h.c8 := ⟨_, rfl⟩
 have L1 : (h.c2 + h.c9).toNat - h.c2.toNat = lb.length := by rw [hlb]; unfold partB; rw [List.length_drop, List.length_take]; omega
 have L2 : (h.c3 + h.c8).toNat - h.c3.toNat = lt.length := by rw [hlt_]; unfold partB; rw [List.length_drop, List.length_take]; omega
 rw [← hab, L1] at hcut1; rw [← hAt, L2] at hcut2; rw [show (Kd.int .u8).sz = 1 from rfl, ← hab, show (l0.take (h.c2 + h.c9).toNat).drop h.c2.toNat = lb from hlb.symm] at C1; rw [show (Kd.int .u8).sz = 1 from rfl, ← hAt, show (l0.take (h.c3 + h.c8).toNat).drop h.c3.toNat = lt from hlt_.symm] at C2
 obtain ⟨cb, hcb⟩ : ∃ cb, cb = c0 - h.c2.toNat := ⟨_, rfl⟩
 obtain ⟨ct, hct⟩ : ∃ ct, ct = c0 - h.c3.toNat := ⟨_, rfl⟩
 have hc00 := HC0.out; have HCB := AK (show lb.length ≤ cb by omega); have HCT := AK (show lt.length ≤ ct by omega); rw [← hcb] at hcut1; rw [← hct] at hcut2; have HB1 := AK C1; have HT1 := AK C2; rw [← hlb, ← hlt_] at hfun; have HFUN := AK hfun; clear hc00 hcb hct L1 L2 C1 C2 hab hAt hlb hlt_ ha0 hza hsz hzb hi0 hfun b1 b2 g2 g9 g3 g8 g4; go_enter Tryz.func25, Tryz.ntmps25; go_wp2_with (first | (go_at_call 38; refine (HHD.out _ (Kd.C_below HR0.out Zq59)).mono ?_; simp only [Hdr.val]; rintro e w1 ⟨rfl, hb⟩; have HB := AK (below_step (below_alloc (Below.refl w.heap.size w) _) hb); have HK := Zq93; have HH := Zq101; clear hb; have z0 : w1.cell? ⟨w.heap.size, 0, none⟩ = some (.int .u32 0) := (blk_cell HK.out 0).trans rfl; have f0 : w1.frozen? ⟨w.heap.size, 0, none⟩ = false := blk_frozen HK.out 0; have z1 : w1.cell? ⟨w.heap.size, 1, none⟩ = some (.slice none 0 0) := (blk_cell HK.out 1).trans rfl; have f1 : w1.frozen? ⟨w.heap.size, 1, none⟩ = false := blk_frozen HK.out 1; have z2 : w1.cell? ⟨w.heap.size, 2, none⟩ = some (.string ⟨#[]⟩) := (blk_cell HK.out 2).trans rfl; have f2 : w1.frozen? ⟨w.heap.size, 2, none⟩ = false := blk_frozen HK.out 2; have z3 : w1.cell? ⟨w.heap.size, 3, none⟩ = some (.slice none 0 0) := (blk_cell HK.out 3).trans rfl; have f3 : w1.frozen? ⟨w.heap.size, 3, none⟩ = false := blk_frozen HK.out 3; have z4 : w1.cell? ⟨w.heap.size, 4, none⟩ = some (.slice none 0 0) := (blk_cell HK.out 4).trans rfl; have f4 : w1.frozen? ⟨w.heap.size, 4, none⟩ = false := blk_frozen HK.out 4; have hlt : w.heap.size < w1.heap.size := blk_lt HK.out) | (go_at_call 39; refine (HRS.out _ (Kd.C_below HR0.out (below_alloc HB.out _))).mono ?_; rintro e w2 ⟨vr, rfl, hvr, hb⟩; obtain ⟨Ar, cr, rfl⟩ := Kd.R_slice hvr; have HVR := Zq115; have HK := AK (blk_below (blk_alloc HK.out _) hb); have HH := AK (blk_below HH.out hb); have HB := AK (below_step (below_alloc HB.out _) hb); clear hvr hb; have z0 : w2.cell? ⟨w.heap.size, 0, none⟩ = some (.int .u32 0) := (blk_cell HK.out 0).trans rfl; have f0 : w2.frozen? ⟨w.heap.size, 0, none⟩ = false := blk_frozen HK.out 0; have z1 : w2.cell? ⟨w.heap.size, 1, none⟩ = some (.slice none 0 0) := (blk_cell HK.out 1).trans rfl; have f1 : w2.frozen? ⟨w.heap.size, 1, none⟩ = false := blk_frozen HK.out 1; have z2 : w2.cell? ⟨w.heap.size, 2, none⟩ = some (.string ⟨#[]⟩) := (blk_cell HK.out 2).trans rfl; have f2 : w2.frozen? ⟨w.heap.size, 2, none⟩ = false := blk_frozen HK.out 2; have z3 : w2.cell? ⟨w.heap.size, 3, none⟩ = some (.slice none 0 0) := (blk_cell HK.out 3).trans rfl; have f3 : w2.frozen? ⟨w.heap.size, 3, none⟩ = false := blk_frozen HK.out 3; have z4 : w2.cell? ⟨w.heap.size, 4, none⟩ = some (.slice none 0 0) := (blk_cell HK.out 4).trans rfl; have f4 : w2.frozen? ⟨w.heap.size, 4, none⟩ = false := blk_frozen HK.out 4; have hlt : w.heap.size < w2.heap.size := blk_lt HK.out; have hh2 : w2.cell? ⟨w1.heap.size, 2, none⟩ = some (.int .u32 h.c2) := (blk_cell HH.out 2).trans rfl; have hh3 : w2.cell? ⟨w1.heap.size, 3, none⟩ = some (.int .u32 h.c3) := (blk_cell HH.out 3).trans rfl; have hh4 : w2.cell? ⟨w1.heap.size, 4, none⟩ = some (.int .u32 h.c4) := (blk_cell HH.out 4).trans rfl; have hh7 : w2.cell? ⟨w1.heap.size, 7, none⟩ = some (.int .u32 h.c7) := (blk_cell HH.out 7).trans rfl; have hh8 : w2.cell? ⟨w1.heap.size, 8, none⟩ = some (.int .u32 h.c8) := (blk_cell HH.out 8).trans rfl; have hh9 : w2.cell? ⟨w1.heap.size, 9, none⟩ = some (.int .u32 h.c9) := (blk_cell HH.out 9).trans rfl; have hlt2 : w1.heap.size < w2.heap.size := blk_lt HH.out))
 go_still_tail 19, Zq3
 change wpList _ _ _ _ _ w2.drew
 have HBb := AK (below_drew1 HB.out); have HKb := AK (blk_drew HK.out); have HHb := AK (blk_drew HH.out); have HVb := AK (Kd.R_drew HVR.out); clear HB HK HH HVR z0 z1 z2 z3 z4 f0 f1 f2 f3 f4 hlt hh2 hh3 hh4 hh7 hh8 hh9 hlt2; generalize w2.drew = wb at HBb HKb HHb HVb ⊢; generalize w1.heap.size = gh at HHb ⊢; have HCb := AK (Kd.C_below HB1.out HBb.out); have HTb := AK (Kd.C_below HT1.out HBb.out); have HS0 := AK (RdS.mk (st := .slice At lt.length ct) (below_alloc (Below.refl wb.heap.size wb) (.cells #[.slice (some ab) lb.length cb, .slice At lt.length ct, .int .i64 0] 85)) (Nat.le_refl wb.heap.size) (blk_new wb (.cells #[.slice (some ab) lb.length cb, .slice At lt.length ct, .int .i64 0] 85 (0, 0)))); have hwg : w.heap.size ≤ wb.heap.size := HBb.out.size; have hgh : gh < wb.heap.size := blk_lt HHb.out; have hwb : w.heap.size < wb.heap.size := blk_lt HKb.out
 have hmk : ∀ W : World, (Instr.makeMap 90 none).run Tryz.prog W = .ok (.map (some W.heap.size)) (W.alloc (.map #[] 0)) := fun W => by kernel_rfl
 have hfun := HFUN.out; clear HFUN; obtain ⟨⟨tv, tb, tq⟩, htk, hfun⟩ := Option.bind_eq_some_iff.mp hfun; simp only at hfun; have HTK := AK htk; clear htk
 cases tb with
 | false =>
  rw [if_neg Zq2] at hfun
  obtain ⟨rfl, rfl⟩ : z29 = r1 ∧ (4 : Int) = r2 := by simpa using hfun
  clear hfun; (go_wp2_with (go_at_call 40; refine (reader_token.calls k (some ab) cb lb (.slice At lt.length ct) 0 wb.heap.size wb _ _ _ _ HCb.out HCB.out HS0.out HTK.out).mono ?_; rintro e w3 ⟨rfl, hm⟩; have HS := AK hm.st; have hg3 : wb.heap.size < w3.heap.size := blk_lt HS.out.blk; clear hm; have HK := Zq65; have HB := Zq64; have HH := Zq66; have z0 : w3.cell? ⟨w.heap.size, 0, none⟩ = some (.int .u32 0) := (blk_cell HK.out 0).trans rfl; have f0 : w3.frozen? ⟨w.heap.size, 0, none⟩ = false := blk_frozen HK.out 0; have z1 : w3.cell? ⟨w.heap.size, 1, none⟩ = some (.slice none 0 0) := (blk_cell HK.out 1).trans rfl; have f1 : w3.frozen? ⟨w.heap.size, 1, none⟩ = false := blk_frozen HK.out 1; have z2 : w3.cell? ⟨w.heap.size, 2, none⟩ = some (.string ⟨#[]⟩) := (blk_cell HK.out 2).trans rfl; have f2 : w3.frozen? ⟨w.heap.size, 2, none⟩ = false := blk_frozen HK.out 2; have z3 : w3.cell? ⟨w.heap.size, 3, none⟩ = some (.slice none 0 0) := (blk_cell HK.out 3).trans rfl; have f3 : w3.frozen? ⟨w.heap.size, 3, none⟩ = false := blk_frozen HK.out 3; have z4 : w3.cell? ⟨w.heap.size, 4, none⟩ = some (.slice none 0 0) := (blk_cell HK.out 4).trans rfl; have f4 : w3.frozen? ⟨w.heap.size, 4, none⟩ = false := blk_frozen HK.out 4; have hlt : w.heap.size < w3.heap.size := blk_lt HK.out; have hh2 : w3.cell? ⟨gh, 2, none⟩ = some (.int .u32 h.c2) := (blk_cell HH.out 2).trans rfl; have hh3 : w3.cell? ⟨gh, 3, none⟩ = some (.int .u32 h.c3) := (blk_cell HH.out 3).trans rfl; have hh4 : w3.cell? ⟨gh, 4, none⟩ = some (.int .u32 h.c4) := (blk_cell HH.out 4).trans rfl; have hh7 : w3.cell? ⟨gh, 7, none⟩ = some (.int .u32 h.c7) := (blk_cell HH.out 7).trans rfl; have hh8 : w3.cell? ⟨gh, 8, none⟩ = some (.int .u32 h.c8) := (blk_cell HH.out 8).trans rfl; have hh9 : w3.cell? ⟨gh, 9, none⟩ = some (.int .u32 h.c9) := (blk_cell HH.out 9).trans rfl; have kr0 : w3.cell? ⟨wb.heap.size, 0, none⟩ = some (.slice (some ab) lb.length cb) := (blk_cell HS.out.blk 0).trans rfl)); refine bodyPost_ret (results_ct rfl _ _ w.heap.size 29 #[.int .u32 0, .slice none 0 0, .string ⟨#[]⟩, .slice none 0 0, .slice none 0 0] (0, 0) _ rfl Zq39 Tryz.underlying29 rfl Zq3) rfl ⟨_, _, _, rfl, Kd.R_nil _ _ _ _ _, Kd.R_nil _ _ _ _ _, Kd.R_nil _ _ _ _ _, ?_⟩
  repeat (first | (with_reducible exact HB.out) | (with_reducible refine below_alloc ?_ _) | (with_reducible refine pw_below_drewN ?_ _) | (refine Below.setCell ?_ (by exact Nat.le_refl _) _))
 | true =>
  rw [if_pos rfl] at hfun
  by_cases t1 : tv = 1
  case neg =>
   rw [if_neg t1] at hfun
   obtain ⟨rfl, rfl⟩ : z29 = r1 ∧ (4 : Int) = r2 := by simpa using hfun
   have t1b : (tv != 1) = true := bne_iff_ne.mpr t1; clear hfun t1; (go_wp2_with (go_at_call 40; refine (reader_token.calls k (some ab) cb lb (.slice At lt.length ct) 0 wb.heap.size wb _ _ _ _ HCb.out HCB.out HS0.out HTK.out).mono ?_; rintro e w3 ⟨rfl, hm⟩; have HS := AK hm.st; have hg3 : wb.heap.size < w3.heap.size := blk_lt HS.out.blk; clear hm; have HK := Zq65; have HB := Zq64; have HH := Zq66; have z0 : w3.cell? ⟨w.heap.size, 0, none⟩ = some (.int .u32 0) := (blk_cell HK.out 0).trans rfl; have f0 : w3.frozen? ⟨w.heap.size, 0, none⟩ = false := blk_frozen HK.out 0; have z1 : w3.cell? ⟨w.heap.size, 1, none⟩ = some (.slice none 0 0) := (blk_cell HK.out 1).trans rfl; have f1 : w3.frozen? ⟨w.heap.size, 1, none⟩ = false := blk_frozen HK.out 1; have z2 : w3.cell? ⟨w.heap.size, 2, none⟩ = some (.string ⟨#[]⟩) := (blk_cell HK.out 2).trans rfl; have f2 : w3.frozen? ⟨w.heap.size, 2, none⟩ = false := blk_frozen HK.out 2; have z3 : w3.cell? ⟨w.heap.size, 3, none⟩ = some (.slice none 0 0) := (blk_cell HK.out 3).trans rfl; have f3 : w3.frozen? ⟨w.heap.size, 3, none⟩ = false := blk_frozen HK.out 3; have z4 : w3.cell? ⟨w.heap.size, 4, none⟩ = some (.slice none 0 0) := (blk_cell HK.out 4).trans rfl; have f4 : w3.frozen? ⟨w.heap.size, 4, none⟩ = false := blk_frozen HK.out 4; have hlt : w.heap.size < w3.heap.size := blk_lt HK.out; have hh2 : w3.cell? ⟨gh, 2, none⟩ = some (.int .u32 h.c2) := (blk_cell HH.out 2).trans rfl; have hh3 : w3.cell? ⟨gh, 3, none⟩ = some (.int .u32 h.c3) := (blk_cell HH.out 3).trans rfl; have hh4 : w3.cell? ⟨gh, 4, none⟩ = some (.int .u32 h.c4) := (blk_cell HH.out 4).trans rfl; have hh7 : w3.cell? ⟨gh, 7, none⟩ = some (.int .u32 h.c7) := (blk_cell HH.out 7).trans rfl; have hh8 : w3.cell? ⟨gh, 8, none⟩ = some (.int .u32 h.c8) := (blk_cell HH.out 8).trans rfl; have hh9 : w3.cell? ⟨gh, 9, none⟩ = some (.int .u32 h.c9) := (blk_cell HH.out 9).trans rfl; have kr0 : w3.cell? ⟨wb.heap.size, 0, none⟩ = some (.slice (some ab) lb.length cb) := (blk_cell HS.out.blk 0).trans rfl)); refine bodyPost_ret (results_ct rfl _ _ w.heap.size 29 #[.int .u32 0, .slice none 0 0, .string ⟨#[]⟩, .slice none 0 0, .slice none 0 0] (0, 0) _ rfl Zq39 Tryz.underlying29 rfl Zq3) rfl ⟨_, _, _, rfl, Kd.R_nil _ _ _ _ _, Kd.R_nil _ _ _ _ _, Kd.R_nil _ _ _ _ _, ?_⟩
   repeat (first | (with_reducible exact HB.out) | (with_reducible refine below_alloc ?_ _) | (with_reducible refine pw_below_drewN ?_ _) | (refine Below.setCell ?_ (by exact Nat.le_refl _) _))
  subst t1; rw [if_pos rfl] at hfun; obtain ⟨⟨x, xe, xq⟩, hnd, hfun⟩ := Option.bind_eq_some_iff.mp hfun; simp only at hfun; have HND := AK hnd; clear hnd
  by_cases hxe : xe = 0
  case neg =>
   rw [if_neg hxe] at hfun
   obtain ⟨rfl, rfl⟩ : z29 = r1 ∧ xe = r2 := by simpa using hfun
   have hxb : (xe != 0) = true := bne_iff_ne.mpr hxe; clear hfun hxe; (go_wp2_with (first | (go_at_call 40; refine (reader_token.calls k (some ab) cb lb (.slice At lt.length ct) 0 wb.heap.size wb _ _ _ _ HCb.out HCB.out HS0.out HTK.out).mono ?_; rintro e w3 ⟨rfl, hm⟩; have HS := AK hm.st; have hg3 : wb.heap.size < w3.heap.size := blk_lt HS.out.blk; clear hm; have HK := Zq65; have HB := Zq64; have HH := Zq66; have z0 : w3.cell? ⟨w.heap.size, 0, none⟩ = some (.int .u32 0) := (blk_cell HK.out 0).trans rfl; have f0 : w3.frozen? ⟨w.heap.size, 0, none⟩ = false := blk_frozen HK.out 0; have z1 : w3.cell? ⟨w.heap.size, 1, none⟩ = some (.slice none 0 0) := (blk_cell HK.out 1).trans rfl; have f1 : w3.frozen? ⟨w.heap.size, 1, none⟩ = false := blk_frozen HK.out 1; have z2 : w3.cell? ⟨w.heap.size, 2, none⟩ = some (.string ⟨#[]⟩) := (blk_cell HK.out 2).trans rfl; have f2 : w3.frozen? ⟨w.heap.size, 2, none⟩ = false := blk_frozen HK.out 2; have z3 : w3.cell? ⟨w.heap.size, 3, none⟩ = some (.slice none 0 0) := (blk_cell HK.out 3).trans rfl; have f3 : w3.frozen? ⟨w.heap.size, 3, none⟩ = false := blk_frozen HK.out 3; have z4 : w3.cell? ⟨w.heap.size, 4, none⟩ = some (.slice none 0 0) := (blk_cell HK.out 4).trans rfl; have f4 : w3.frozen? ⟨w.heap.size, 4, none⟩ = false := blk_frozen HK.out 4; have hlt : w.heap.size < w3.heap.size := blk_lt HK.out; have hh2 : w3.cell? ⟨gh, 2, none⟩ = some (.int .u32 h.c2) := (blk_cell HH.out 2).trans rfl; have hh3 : w3.cell? ⟨gh, 3, none⟩ = some (.int .u32 h.c3) := (blk_cell HH.out 3).trans rfl; have hh4 : w3.cell? ⟨gh, 4, none⟩ = some (.int .u32 h.c4) := (blk_cell HH.out 4).trans rfl; have hh7 : w3.cell? ⟨gh, 7, none⟩ = some (.int .u32 h.c7) := (blk_cell HH.out 7).trans rfl; have hh8 : w3.cell? ⟨gh, 8, none⟩ = some (.int .u32 h.c8) := (blk_cell HH.out 8).trans rfl; have hh9 : w3.cell? ⟨gh, 9, none⟩ = some (.int .u32 h.c9) := (blk_cell HH.out 9).trans rfl; have kr0 : w3.cell? ⟨wb.heap.size, 0, none⟩ = some (.slice (some ab) lb.length cb) := (blk_cell HS.out.blk 0).trans rfl) | (go_at_call 41; refine (reader_node.calls ab cb lb At ct lt wb.heap.size wb ⟨HCb.out⟩ ⟨HCB.out⟩ ⟨HTb.out⟩ ⟨HCT.out⟩ k tq [] 1 _ _ _ _ _ (HS.out.below Zq59) (MapS.made _) HS.out.bel.size Zq100 HND.out).mono ?_; rintro e w4 ⟨v1, v2, rfl, hop, hr1, hr2⟩; obtain ⟨A1, c1, rfl⟩ := Kd.R_slice hr1; obtain ⟨A2, c2, rfl⟩ := Kd.R_slice hr2; have HR1 := AK hr1; have HR2 := AK hr2; have HS := AK hop.st; clear hop hr1 hr2; have HK := Zq65; have HB := Zq64; have HH := Zq66; have z0 : w4.cell? ⟨w.heap.size, 0, none⟩ = some (.int .u32 0) := (blk_cell HK.out 0).trans rfl; have f0 : w4.frozen? ⟨w.heap.size, 0, none⟩ = false := blk_frozen HK.out 0; have z1 : w4.cell? ⟨w.heap.size, 1, none⟩ = some (.slice none 0 0) := (blk_cell HK.out 1).trans rfl; have f1 : w4.frozen? ⟨w.heap.size, 1, none⟩ = false := blk_frozen HK.out 1; have z2 : w4.cell? ⟨w.heap.size, 2, none⟩ = some (.string ⟨#[]⟩) := (blk_cell HK.out 2).trans rfl; have f2 : w4.frozen? ⟨w.heap.size, 2, none⟩ = false := blk_frozen HK.out 2; have z3 : w4.cell? ⟨w.heap.size, 3, none⟩ = some (.slice none 0 0) := (blk_cell HK.out 3).trans rfl; have f3 : w4.frozen? ⟨w.heap.size, 3, none⟩ = false := blk_frozen HK.out 3; have z4 : w4.cell? ⟨w.heap.size, 4, none⟩ = some (.slice none 0 0) := (blk_cell HK.out 4).trans rfl; have f4 : w4.frozen? ⟨w.heap.size, 4, none⟩ = false := blk_frozen HK.out 4; have hlt : w.heap.size < w4.heap.size := blk_lt HK.out; have hh2 : w4.cell? ⟨gh, 2, none⟩ = some (.int .u32 h.c2) := (blk_cell HH.out 2).trans rfl; have hh3 : w4.cell? ⟨gh, 3, none⟩ = some (.int .u32 h.c3) := (blk_cell HH.out 3).trans rfl; have hh4 : w4.cell? ⟨gh, 4, none⟩ = some (.int .u32 h.c4) := (blk_cell HH.out 4).trans rfl; have hh7 : w4.cell? ⟨gh, 7, none⟩ = some (.int .u32 h.c7) := (blk_cell HH.out 7).trans rfl; have hh8 : w4.cell? ⟨gh, 8, none⟩ = some (.int .u32 h.c8) := (blk_cell HH.out 8).trans rfl; have hh9 : w4.cell? ⟨gh, 9, none⟩ = some (.int .u32 h.c9) := (blk_cell HH.out 9).trans rfl; have kr0 : w4.cell? ⟨wb.heap.size, 0, none⟩ = some (.slice (some ab) lb.length cb) := (blk_cell HS.out.blk 0).trans rfl))); refine bodyPost_ret (results_ct rfl _ _ w.heap.size 29 #[.int .u32 0, .slice none 0 0, .string ⟨#[]⟩, .slice none 0 0, .slice none 0 0] (0, 0) _ rfl Zq39 Tryz.underlying29 rfl Zq3) rfl ⟨_, _, _, rfl, Kd.R_nil _ _ _ _ _, Kd.R_nil _ _ _ _ _, Kd.R_nil _ _ _ _ _, ?_⟩
   repeat (first | (with_reducible exact HB.out) | (with_reducible refine below_alloc ?_ _) | (with_reducible refine pw_below_drewN ?_ _) | (refine Below.setCell ?_ (by exact Nat.le_refl _) _))
  subst hxe; rw [if_pos rfl] at hfun; obtain ⟨⟨uv, ub, uq⟩, htk2, hfun⟩ := Option.bind_eq_some_iff.mp hfun; simp only at hfun; have HTK2 := AK htk2; clear htk2
  cases ub with
  | false =>
   rw [if_neg Zq2] at hfun
   obtain ⟨rfl, rfl⟩ : z29 = r1 ∧ (4 : Int) = r2 := by simpa using hfun
   clear hfun
   go_wp2_with (first | (go_at_call 40; refine (reader_token.calls k (some ab) cb lb (.slice At lt.length ct) 0 wb.heap.size wb _ _ _ _ HCb.out HCB.out HS0.out HTK.out).mono ?_; rintro e w3 ⟨rfl, hm⟩; have HS := AK hm.st; have hg3 : wb.heap.size < w3.heap.size := blk_lt HS.out.blk; clear hm; have HK := Zq65; have HB := Zq64; have HH := Zq66; have z0 : w3.cell? ⟨w.heap.size, 0, none⟩ = some (.int .u32 0) := (blk_cell HK.out 0).trans rfl; have f0 : w3.frozen? ⟨w.heap.size, 0, none⟩ = false := blk_frozen HK.out 0; have z1 : w3.cell? ⟨w.heap.size, 1, none⟩ = some (.slice none 0 0) := (blk_cell HK.out 1).trans rfl; have f1 : w3.frozen? ⟨w.heap.size, 1, none⟩ = false := blk_frozen HK.out 1; have z2 : w3.cell? ⟨w.heap.size, 2, none⟩ = some (.string ⟨#[]⟩) := (blk_cell HK.out 2).trans rfl; have f2 : w3.frozen? ⟨w.heap.size, 2, none⟩ = false := blk_frozen HK.out 2; have z3 : w3.cell? ⟨w.heap.size, 3, none⟩ = some (.slice none 0 0) := (blk_cell HK.out 3).trans rfl; have f3 : w3.frozen? ⟨w.heap.size, 3, none⟩ = false := blk_frozen HK.out 3; have z4 : w3.cell? ⟨w.heap.size, 4, none⟩ = some (.slice none 0 0) := (blk_cell HK.out 4).trans rfl; have f4 : w3.frozen? ⟨w.heap.size, 4, none⟩ = false := blk_frozen HK.out 4; have hlt : w.heap.size < w3.heap.size := blk_lt HK.out; have hh2 : w3.cell? ⟨gh, 2, none⟩ = some (.int .u32 h.c2) := (blk_cell HH.out 2).trans rfl; have hh3 : w3.cell? ⟨gh, 3, none⟩ = some (.int .u32 h.c3) := (blk_cell HH.out 3).trans rfl; have hh4 : w3.cell? ⟨gh, 4, none⟩ = some (.int .u32 h.c4) := (blk_cell HH.out 4).trans rfl; have hh7 : w3.cell? ⟨gh, 7, none⟩ = some (.int .u32 h.c7) := (blk_cell HH.out 7).trans rfl; have hh8 : w3.cell? ⟨gh, 8, none⟩ = some (.int .u32 h.c8) := (blk_cell HH.out 8).trans rfl; have hh9 : w3.cell? ⟨gh, 9, none⟩ = some (.int .u32 h.c9) := (blk_cell HH.out 9).trans rfl; have kr0 : w3.cell? ⟨wb.heap.size, 0, none⟩ = some (.slice (some ab) lb.length cb) := (blk_cell HS.out.blk 0).trans rfl) | (go_at_call 41; refine (reader_node.calls ab cb lb At ct lt wb.heap.size wb ⟨HCb.out⟩ ⟨HCB.out⟩ ⟨HTb.out⟩ ⟨HCT.out⟩ k tq [] 1 _ _ _ _ _ (HS.out.below Zq59) (MapS.made _) HS.out.bel.size Zq100 HND.out).mono ?_; rintro e w4 ⟨v1, v2, rfl, hop, hr1, hr2⟩; obtain ⟨A1, c1, rfl⟩ := Kd.R_slice hr1; obtain ⟨A2, c2, rfl⟩ := Kd.R_slice hr2; have HR1 := AK hr1; have HR2 := AK hr2; have HS := AK hop.st; clear hop hr1 hr2; have HK := Zq65; have HB := Zq64; have HH := Zq66; have z0 : w4.cell? ⟨w.heap.size, 0, none⟩ = some (.int .u32 0) := (blk_cell HK.out 0).trans rfl; have f0 : w4.frozen? ⟨w.heap.size, 0, none⟩ = false := blk_frozen HK.out 0; have z1 : w4.cell? ⟨w.heap.size, 1, none⟩ = some (.slice none 0 0) := (blk_cell HK.out 1).trans rfl; have f1 : w4.frozen? ⟨w.heap.size, 1, none⟩ = false := blk_frozen HK.out 1; have z2 : w4.cell? ⟨w.heap.size, 2, none⟩ = some (.string ⟨#[]⟩) := (blk_cell HK.out 2).trans rfl; have f2 : w4.frozen? ⟨w.heap.size, 2, none⟩ = false := blk_frozen HK.out 2; have z3 : w4.cell? ⟨w.heap.size, 3, none⟩ = some (.slice none 0 0) := (blk_cell HK.out 3).trans rfl; have f3 : w4.frozen? ⟨w.heap.size, 3, none⟩ = false := blk_frozen HK.out 3; have z4 : w4.cell? ⟨w.heap.size, 4, none⟩ = some (.slice none 0 0) := (blk_cell HK.out 4).trans rfl; have f4 : w4.frozen? ⟨w.heap.size, 4, none⟩ = false := blk_frozen HK.out 4; have hlt : w.heap.size < w4.heap.size := blk_lt HK.out; have hh2 : w4.cell? ⟨gh, 2, none⟩ = some (.int .u32 h.c2) := (blk_cell HH.out 2).trans rfl; have hh3 : w4.cell? ⟨gh, 3, none⟩ = some (.int .u32 h.c3) := (blk_cell HH.out 3).trans rfl; have hh4 : w4.cell? ⟨gh, 4, none⟩ = some (.int .u32 h.c4) := (blk_cell HH.out 4).trans rfl; have hh7 : w4.cell? ⟨gh, 7, none⟩ = some (.int .u32 h.c7) := (blk_cell HH.out 7).trans rfl; have hh8 : w4.cell? ⟨gh, 8, none⟩ = some (.int .u32 h.c8) := (blk_cell HH.out 8).trans rfl; have hh9 : w4.cell? ⟨gh, 9, none⟩ = some (.int .u32 h.c9) := (blk_cell HH.out 9).trans rfl; have kr0 : w4.cell? ⟨wb.heap.size, 0, none⟩ = some (.slice (some ab) lb.length cb) := (blk_cell HS.out.blk 0).trans rfl) | (go_at_call 40; refine (reader_token.calls k (some ab) cb lb (.slice At lt.length ct) _ wb.heap.size wb _ _ _ _ HCb.out HCB.out (HS.out.below Zq59) HTK2.out).mono ?_; rintro e w5 ⟨rfl, hm⟩; have HN5 := Zq63; have HR1 := Zq117; have HR2 := Zq118; have HS := AK hm.st; clear hm; have HK := Zq65; have HB := Zq64; have HH := Zq66; have z0 : w5.cell? ⟨w.heap.size, 0, none⟩ = some (.int .u32 0) := (blk_cell HK.out 0).trans rfl; have f0 : w5.frozen? ⟨w.heap.size, 0, none⟩ = false := blk_frozen HK.out 0; have z1 : w5.cell? ⟨w.heap.size, 1, none⟩ = some (.slice none 0 0) := (blk_cell HK.out 1).trans rfl; have f1 : w5.frozen? ⟨w.heap.size, 1, none⟩ = false := blk_frozen HK.out 1; have z2 : w5.cell? ⟨w.heap.size, 2, none⟩ = some (.string ⟨#[]⟩) := (blk_cell HK.out 2).trans rfl; have f2 : w5.frozen? ⟨w.heap.size, 2, none⟩ = false := blk_frozen HK.out 2; have z3 : w5.cell? ⟨w.heap.size, 3, none⟩ = some (.slice none 0 0) := (blk_cell HK.out 3).trans rfl; have f3 : w5.frozen? ⟨w.heap.size, 3, none⟩ = false := blk_frozen HK.out 3; have z4 : w5.cell? ⟨w.heap.size, 4, none⟩ = some (.slice none 0 0) := (blk_cell HK.out 4).trans rfl; have f4 : w5.frozen? ⟨w.heap.size, 4, none⟩ = false := blk_frozen HK.out 4; have hlt : w.heap.size < w5.heap.size := blk_lt HK.out; have hh2 : w5.cell? ⟨gh, 2, none⟩ = some (.int .u32 h.c2) := (blk_cell HH.out 2).trans rfl; have hh3 : w5.cell? ⟨gh, 3, none⟩ = some (.int .u32 h.c3) := (blk_cell HH.out 3).trans rfl; have hh4 : w5.cell? ⟨gh, 4, none⟩ = some (.int .u32 h.c4) := (blk_cell HH.out 4).trans rfl; have hh7 : w5.cell? ⟨gh, 7, none⟩ = some (.int .u32 h.c7) := (blk_cell HH.out 7).trans rfl; have hh8 : w5.cell? ⟨gh, 8, none⟩ = some (.int .u32 h.c8) := (blk_cell HH.out 8).trans rfl; have hh9 : w5.cell? ⟨gh, 9, none⟩ = some (.int .u32 h.c9) := (blk_cell HH.out 9).trans rfl; have kr0 : w5.cell? ⟨wb.heap.size, 0, none⟩ = some (.slice (some ab) lb.length cb) := (blk_cell HS.out.blk 0).trans rfl; have kr2 : w5.cell? ⟨wb.heap.size, 2, none⟩ = some (.int .i64 uq) := (blk_cell HS.out.blk 2).trans rfl; have kn0 : w5.cell? ⟨w4.heap.size, 0, none⟩ = some (.string x.f0) := (blk_cell HN5.out 0).trans rfl; have kn1 : w5.cell? ⟨w4.heap.size, 1, none⟩ = some (.slice A1 x.f1.length c1) := (blk_cell HN5.out 1).trans rfl; have kn2 : w5.cell? ⟨w4.heap.size, 2, none⟩ = some (.slice A2 x.f2.length c2) := (blk_cell HN5.out 2).trans rfl))
   go_quiet (fail)
   go_wp2; refine bodyPost_ret (results_ct rfl _ _ w.heap.size 29 #[.int .u32 0, .slice none 0 0, .string ⟨#[]⟩, .slice none 0 0, .slice none 0 0] (0, 0) _ rfl Zq39 Tryz.underlying29 rfl Zq3) rfl ⟨_, _, _, rfl, Kd.R_nil _ _ _ _ _, Kd.R_nil _ _ _ _ _, Kd.R_nil _ _ _ _ _, ?_⟩
   repeat (first | (with_reducible exact HB.out) | (with_reducible refine below_alloc ?_ _) | (with_reducible refine pw_below_drewN ?_ _) | (refine Below.setCell ?_ (by exact Nat.le_refl _) _))
  | true =>
   rw [if_pos rfl] at hfun
   by_cases u9 : uv = 9
   case neg =>
    rw [if_neg u9] at hfun
    obtain ⟨rfl, rfl⟩ : z29 = r1 ∧ (4 : Int) = r2 := by simpa using hfun
    have u9b : (uv != 9) = true := bne_iff_ne.mpr u9; clear hfun u9
    go_wp2_with (first | (go_at_call 40; refine (reader_token.calls k (some ab) cb lb (.slice At lt.length ct) 0 wb.heap.size wb _ _ _ _ HCb.out HCB.out HS0.out HTK.out).mono ?_; rintro e w3 ⟨rfl, hm⟩; have HS := AK hm.st; have hg3 : wb.heap.size < w3.heap.size := blk_lt HS.out.blk; clear hm; have HK := Zq65; have HB := Zq64; have HH := Zq66; have z0 : w3.cell? ⟨w.heap.size, 0, none⟩ = some (.int .u32 0) := (blk_cell HK.out 0).trans rfl; have f0 : w3.frozen? ⟨w.heap.size, 0, none⟩ = false := blk_frozen HK.out 0; have z1 : w3.cell? ⟨w.heap.size, 1, none⟩ = some (.slice none 0 0) := (blk_cell HK.out 1).trans rfl; have f1 : w3.frozen? ⟨w.heap.size, 1, none⟩ = false := blk_frozen HK.out 1; have z2 : w3.cell? ⟨w.heap.size, 2, none⟩ = some (.string ⟨#[]⟩) := (blk_cell HK.out 2).trans rfl; have f2 : w3.frozen? ⟨w.heap.size, 2, none⟩ = false := blk_frozen HK.out 2; have z3 : w3.cell? ⟨w.heap.size, 3, none⟩ = some (.slice none 0 0) := (blk_cell HK.out 3).trans rfl; have f3 : w3.frozen? ⟨w.heap.size, 3, none⟩ = false := blk_frozen HK.out 3; have z4 : w3.cell? ⟨w.heap.size, 4, none⟩ = some (.slice none 0 0) := (blk_cell HK.out 4).trans rfl; have f4 : w3.frozen? ⟨w.heap.size, 4, none⟩ = false := blk_frozen HK.out 4; have hlt : w.heap.size < w3.heap.size := blk_lt HK.out; have hh2 : w3.cell? ⟨gh, 2, none⟩ = some (.int .u32 h.c2) := (blk_cell HH.out 2).trans rfl; have hh3 : w3.cell? ⟨gh, 3, none⟩ = some (.int .u32 h.c3) := (blk_cell HH.out 3).trans rfl; have hh4 : w3.cell? ⟨gh, 4, none⟩ = some (.int .u32 h.c4) := (blk_cell HH.out 4).trans rfl; have hh7 : w3.cell? ⟨gh, 7, none⟩ = some (.int .u32 h.c7) := (blk_cell HH.out 7).trans rfl; have hh8 : w3.cell? ⟨gh, 8, none⟩ = some (.int .u32 h.c8) := (blk_cell HH.out 8).trans rfl; have hh9 : w3.cell? ⟨gh, 9, none⟩ = some (.int .u32 h.c9) := (blk_cell HH.out 9).trans rfl; have kr0 : w3.cell? ⟨wb.heap.size, 0, none⟩ = some (.slice (some ab) lb.length cb) := (blk_cell HS.out.blk 0).trans rfl) | (go_at_call 41; refine (reader_node.calls ab cb lb At ct lt wb.heap.size wb ⟨HCb.out⟩ ⟨HCB.out⟩ ⟨HTb.out⟩ ⟨HCT.out⟩ k tq [] 1 _ _ _ _ _ (HS.out.below Zq59) (MapS.made _) HS.out.bel.size Zq100 HND.out).mono ?_; rintro e w4 ⟨v1, v2, rfl, hop, hr1, hr2⟩; obtain ⟨A1, c1, rfl⟩ := Kd.R_slice hr1; obtain ⟨A2, c2, rfl⟩ := Kd.R_slice hr2; have HR1 := AK hr1; have HR2 := AK hr2; have HS := AK hop.st; clear hop hr1 hr2; have HK := Zq65; have HB := Zq64; have HH := Zq66; have z0 : w4.cell? ⟨w.heap.size, 0, none⟩ = some (.int .u32 0) := (blk_cell HK.out 0).trans rfl; have f0 : w4.frozen? ⟨w.heap.size, 0, none⟩ = false := blk_frozen HK.out 0; have z1 : w4.cell? ⟨w.heap.size, 1, none⟩ = some (.slice none 0 0) := (blk_cell HK.out 1).trans rfl; have f1 : w4.frozen? ⟨w.heap.size, 1, none⟩ = false := blk_frozen HK.out 1; have z2 : w4.cell? ⟨w.heap.size, 2, none⟩ = some (.string ⟨#[]⟩) := (blk_cell HK.out 2).trans rfl; have f2 : w4.frozen? ⟨w.heap.size, 2, none⟩ = false := blk_frozen HK.out 2; have z3 : w4.cell? ⟨w.heap.size, 3, none⟩ = some (.slice none 0 0) := (blk_cell HK.out 3).trans rfl; have f3 : w4.frozen? ⟨w.heap.size, 3, none⟩ = false := blk_frozen HK.out 3; have z4 : w4.cell? ⟨w.heap.size, 4, none⟩ = some (.slice none 0 0) := (blk_cell HK.out 4).trans rfl; have f4 : w4.frozen? ⟨w.heap.size, 4, none⟩ = false := blk_frozen HK.out 4; have hlt : w.heap.size < w4.heap.size := blk_lt HK.out; have hh2 : w4.cell? ⟨gh, 2, none⟩ = some (.int .u32 h.c2) := (blk_cell HH.out 2).trans rfl; have hh3 : w4.cell? ⟨gh, 3, none⟩ = some (.int .u32 h.c3) := (blk_cell HH.out 3).trans rfl; have hh4 : w4.cell? ⟨gh, 4, none⟩ = some (.int .u32 h.c4) := (blk_cell HH.out 4).trans rfl; have hh7 : w4.cell? ⟨gh, 7, none⟩ = some (.int .u32 h.c7) := (blk_cell HH.out 7).trans rfl; have hh8 : w4.cell? ⟨gh, 8, none⟩ = some (.int .u32 h.c8) := (blk_cell HH.out 8).trans rfl; have hh9 : w4.cell? ⟨gh, 9, none⟩ = some (.int .u32 h.c9) := (blk_cell HH.out 9).trans rfl; have kr0 : w4.cell? ⟨wb.heap.size, 0, none⟩ = some (.slice (some ab) lb.length cb) := (blk_cell HS.out.blk 0).trans rfl) | (go_at_call 40; refine (reader_token.calls k (some ab) cb lb (.slice At lt.length ct) _ wb.heap.size wb _ _ _ _ HCb.out HCB.out (HS.out.below Zq59) HTK2.out).mono ?_; rintro e w5 ⟨rfl, hm⟩; have HN5 := Zq63; have HR1 := Zq117; have HR2 := Zq118; have HS := AK hm.st; clear hm; have HK := Zq65; have HB := Zq64; have HH := Zq66; have z0 : w5.cell? ⟨w.heap.size, 0, none⟩ = some (.int .u32 0) := (blk_cell HK.out 0).trans rfl; have f0 : w5.frozen? ⟨w.heap.size, 0, none⟩ = false := blk_frozen HK.out 0; have z1 : w5.cell? ⟨w.heap.size, 1, none⟩ = some (.slice none 0 0) := (blk_cell HK.out 1).trans rfl; have f1 : w5.frozen? ⟨w.heap.size, 1, none⟩ = false := blk_frozen HK.out 1; have z2 : w5.cell? ⟨w.heap.size, 2, none⟩ = some (.string ⟨#[]⟩) := (blk_cell HK.out 2).trans rfl; have f2 : w5.frozen? ⟨w.heap.size, 2, none⟩ = false := blk_frozen HK.out 2; have z3 : w5.cell? ⟨w.heap.size, 3, none⟩ = some (.slice none 0 0) := (blk_cell HK.out 3).trans rfl; have f3 : w5.frozen? ⟨w.heap.size, 3, none⟩ = false := blk_frozen HK.out 3; have z4 : w5.cell? ⟨w.heap.size, 4, none⟩ = some (.slice none 0 0) := (blk_cell HK.out 4).trans rfl; have f4 : w5.frozen? ⟨w.heap.size, 4, none⟩ = false := blk_frozen HK.out 4; have hlt : w.heap.size < w5.heap.size := blk_lt HK.out; have hh2 : w5.cell? ⟨gh, 2, none⟩ = some (.int .u32 h.c2) := (blk_cell HH.out 2).trans rfl; have hh3 : w5.cell? ⟨gh, 3, none⟩ = some (.int .u32 h.c3) := (blk_cell HH.out 3).trans rfl; have hh4 : w5.cell? ⟨gh, 4, none⟩ = some (.int .u32 h.c4) := (blk_cell HH.out 4).trans rfl; have hh7 : w5.cell? ⟨gh, 7, none⟩ = some (.int .u32 h.c7) := (blk_cell HH.out 7).trans rfl; have hh8 : w5.cell? ⟨gh, 8, none⟩ = some (.int .u32 h.c8) := (blk_cell HH.out 8).trans rfl; have hh9 : w5.cell? ⟨gh, 9, none⟩ = some (.int .u32 h.c9) := (blk_cell HH.out 9).trans rfl; have kr0 : w5.cell? ⟨wb.heap.size, 0, none⟩ = some (.slice (some ab) lb.length cb) := (blk_cell HS.out.blk 0).trans rfl; have kr2 : w5.cell? ⟨wb.heap.size, 2, none⟩ = some (.int .i64 uq) := (blk_cell HS.out.blk 2).trans rfl; have kn0 : w5.cell? ⟨w4.heap.size, 0, none⟩ = some (.string x.f0) := (blk_cell HN5.out 0).trans rfl; have kn1 : w5.cell? ⟨w4.heap.size, 1, none⟩ = some (.slice A1 x.f1.length c1) := (blk_cell HN5.out 1).trans rfl; have kn2 : w5.cell? ⟨w4.heap.size, 2, none⟩ = some (.slice A2 x.f2.length c2) := (blk_cell HN5.out 2).trans rfl))
    go_quiet (fail)
    go_wp2; refine bodyPost_ret (results_ct rfl _ _ w.heap.size 29 #[.int .u32 0, .slice none 0 0, .string ⟨#[]⟩, .slice none 0 0, .slice none 0 0] (0, 0) _ rfl Zq39 Tryz.underlying29 rfl Zq3) rfl ⟨_, _, _, rfl, Kd.R_nil _ _ _ _ _, Kd.R_nil _ _ _ _ _, Kd.R_nil _ _ _ _ _, ?_⟩
    repeat (first | (with_reducible exact HB.out) | (with_reducible refine below_alloc ?_ _) | (with_reducible refine pw_below_drewN ?_ _) | (refine Below.setCell ?_ (by exact Nat.le_refl _) _))
   subst u9; rw [if_pos rfl] at hfun
   by_cases uo : uq = (lb.length : Int)
   case neg =>
    rw [if_neg uo] at hfun
    obtain ⟨rfl, rfl⟩ : z29 = r1 ∧ (4 : Int) = r2 := by simpa using hfun
    have uob : (uq != (lb.length : Int)) = true := bne_iff_ne.mpr uo; clear hfun uo
    go_wp2_with (first | (go_at_call 40; refine (reader_token.calls k (some ab) cb lb (.slice At lt.length ct) 0 wb.heap.size wb _ _ _ _ HCb.out HCB.out HS0.out HTK.out).mono ?_; rintro e w3 ⟨rfl, hm⟩; have HS := AK hm.st; have hg3 : wb.heap.size < w3.heap.size := blk_lt HS.out.blk; clear hm; have HK := Zq65; have HB := Zq64; have HH := Zq66; have z0 : w3.cell? ⟨w.heap.size, 0, none⟩ = some (.int .u32 0) := (blk_cell HK.out 0).trans rfl; have f0 : w3.frozen? ⟨w.heap.size, 0, none⟩ = false := blk_frozen HK.out 0; have z1 : w3.cell? ⟨w.heap.size, 1, none⟩ = some (.slice none 0 0) := (blk_cell HK.out 1).trans rfl; have f1 : w3.frozen? ⟨w.heap.size, 1, none⟩ = false := blk_frozen HK.out 1; have z2 : w3.cell? ⟨w.heap.size, 2, none⟩ = some (.string ⟨#[]⟩) := (blk_cell HK.out 2).trans rfl; have f2 : w3.frozen? ⟨w.heap.size, 2, none⟩ = false := blk_frozen HK.out 2; have z3 : w3.cell? ⟨w.heap.size, 3, none⟩ = some (.slice none 0 0) := (blk_cell HK.out 3).trans rfl; have f3 : w3.frozen? ⟨w.heap.size, 3, none⟩ = false := blk_frozen HK.out 3; have z4 : w3.cell? ⟨w.heap.size, 4, none⟩ = some (.slice none 0 0) := (blk_cell HK.out 4).trans rfl; have f4 : w3.frozen? ⟨w.heap.size, 4, none⟩ = false := blk_frozen HK.out 4; have hlt : w.heap.size < w3.heap.size := blk_lt HK.out; have hh2 : w3.cell? ⟨gh, 2, none⟩ = some (.int .u32 h.c2) := (blk_cell HH.out 2).trans rfl; have hh3 : w3.cell? ⟨gh, 3, none⟩ = some (.int .u32 h.c3) := (blk_cell HH.out 3).trans rfl; have hh4 : w3.cell? ⟨gh, 4, none⟩ = some (.int .u32 h.c4) := (blk_cell HH.out 4).trans rfl; have hh7 : w3.cell? ⟨gh, 7, none⟩ = some (.int .u32 h.c7) := (blk_cell HH.out 7).trans rfl; have hh8 : w3.cell? ⟨gh, 8, none⟩ = some (.int .u32 h.c8) := (blk_cell HH.out 8).trans rfl; have hh9 : w3.cell? ⟨gh, 9, none⟩ = some (.int .u32 h.c9) := (blk_cell HH.out 9).trans rfl; have kr0 : w3.cell? ⟨wb.heap.size, 0, none⟩ = some (.slice (some ab) lb.length cb) := (blk_cell HS.out.blk 0).trans rfl) | (go_at_call 41; refine (reader_node.calls ab cb lb At ct lt wb.heap.size wb ⟨HCb.out⟩ ⟨HCB.out⟩ ⟨HTb.out⟩ ⟨HCT.out⟩ k tq [] 1 _ _ _ _ _ (HS.out.below Zq59) (MapS.made _) HS.out.bel.size Zq100 HND.out).mono ?_; rintro e w4 ⟨v1, v2, rfl, hop, hr1, hr2⟩; obtain ⟨A1, c1, rfl⟩ := Kd.R_slice hr1; obtain ⟨A2, c2, rfl⟩ := Kd.R_slice hr2; have HR1 := AK hr1; have HR2 := AK hr2; have HS := AK hop.st; clear hop hr1 hr2; have HK := Zq65; have HB := Zq64; have HH := Zq66; have z0 : w4.cell? ⟨w.heap.size, 0, none⟩ = some (.int .u32 0) := (blk_cell HK.out 0).trans rfl; have f0 : w4.frozen? ⟨w.heap.size, 0, none⟩ = false := blk_frozen HK.out 0; have z1 : w4.cell? ⟨w.heap.size, 1, none⟩ = some (.slice none 0 0) := (blk_cell HK.out 1).trans rfl; have f1 : w4.frozen? ⟨w.heap.size, 1, none⟩ = false := blk_frozen HK.out 1; have z2 : w4.cell? ⟨w.heap.size, 2, none⟩ = some (.string ⟨#[]⟩) := (blk_cell HK.out 2).trans rfl; have f2 : w4.frozen? ⟨w.heap.size, 2, none⟩ = false := blk_frozen HK.out 2; have z3 : w4.cell? ⟨w.heap.size, 3, none⟩ = some (.slice none 0 0) := (blk_cell HK.out 3).trans rfl; have f3 : w4.frozen? ⟨w.heap.size, 3, none⟩ = false := blk_frozen HK.out 3; have z4 : w4.cell? ⟨w.heap.size, 4, none⟩ = some (.slice none 0 0) := (blk_cell HK.out 4).trans rfl; have f4 : w4.frozen? ⟨w.heap.size, 4, none⟩ = false := blk_frozen HK.out 4; have hlt : w.heap.size < w4.heap.size := blk_lt HK.out; have hh2 : w4.cell? ⟨gh, 2, none⟩ = some (.int .u32 h.c2) := (blk_cell HH.out 2).trans rfl; have hh3 : w4.cell? ⟨gh, 3, none⟩ = some (.int .u32 h.c3) := (blk_cell HH.out 3).trans rfl; have hh4 : w4.cell? ⟨gh, 4, none⟩ = some (.int .u32 h.c4) := (blk_cell HH.out 4).trans rfl; have hh7 : w4.cell? ⟨gh, 7, none⟩ = some (.int .u32 h.c7) := (blk_cell HH.out 7).trans rfl; have hh8 : w4.cell? ⟨gh, 8, none⟩ = some (.int .u32 h.c8) := (blk_cell HH.out 8).trans rfl; have hh9 : w4.cell? ⟨gh, 9, none⟩ = some (.int .u32 h.c9) := (blk_cell HH.out 9).trans rfl; have kr0 : w4.cell? ⟨wb.heap.size, 0, none⟩ = some (.slice (some ab) lb.length cb) := (blk_cell HS.out.blk 0).trans rfl) | (go_at_call 40; refine (reader_token.calls k (some ab) cb lb (.slice At lt.length ct) _ wb.heap.size wb _ _ _ _ HCb.out HCB.out (HS.out.below Zq59) HTK2.out).mono ?_; rintro e w5 ⟨rfl, hm⟩; have HN5 := Zq63; have HR1 := Zq117; have HR2 := Zq118; have HS := AK hm.st; clear hm; have HK := Zq65; have HB := Zq64; have HH := Zq66; have z0 : w5.cell? ⟨w.heap.size, 0, none⟩ = some (.int .u32 0) := (blk_cell HK.out 0).trans rfl; have f0 : w5.frozen? ⟨w.heap.size, 0, none⟩ = false := blk_frozen HK.out 0; have z1 : w5.cell? ⟨w.heap.size, 1, none⟩ = some (.slice none 0 0) := (blk_cell HK.out 1).trans rfl; have f1 : w5.frozen? ⟨w.heap.size, 1, none⟩ = false := blk_frozen HK.out 1; have z2 : w5.cell? ⟨w.heap.size, 2, none⟩ = some (.string ⟨#[]⟩) := (blk_cell HK.out 2).trans rfl; have f2 : w5.frozen? ⟨w.heap.size, 2, none⟩ = false := blk_frozen HK.out 2; have z3 : w5.cell? ⟨w.heap.size, 3, none⟩ = some (.slice none 0 0) := (blk_cell HK.out 3).trans rfl; have f3 : w5.frozen? ⟨w.heap.size, 3, none⟩ = false := blk_frozen HK.out 3; have z4 : w5.cell? ⟨w.heap.size, 4, none⟩ = some (.slice none 0 0) := (blk_cell HK.out 4).trans rfl; have f4 : w5.frozen? ⟨w.heap.size, 4, none⟩ = false := blk_frozen HK.out 4; have hlt : w.heap.size < w5.heap.size := blk_lt HK.out; have hh2 : w5.cell? ⟨gh, 2, none⟩ = some (.int .u32 h.c2) := (blk_cell HH.out 2).trans rfl; have hh3 : w5.cell? ⟨gh, 3, none⟩ = some (.int .u32 h.c3) := (blk_cell HH.out 3).trans rfl; have hh4 : w5.cell? ⟨gh, 4, none⟩ = some (.int .u32 h.c4) := (blk_cell HH.out 4).trans rfl; have hh7 : w5.cell? ⟨gh, 7, none⟩ = some (.int .u32 h.c7) := (blk_cell HH.out 7).trans rfl; have hh8 : w5.cell? ⟨gh, 8, none⟩ = some (.int .u32 h.c8) := (blk_cell HH.out 8).trans rfl; have hh9 : w5.cell? ⟨gh, 9, none⟩ = some (.int .u32 h.c9) := (blk_cell HH.out 9).trans rfl; have kr0 : w5.cell? ⟨wb.heap.size, 0, none⟩ = some (.slice (some ab) lb.length cb) := (blk_cell HS.out.blk 0).trans rfl; have kr2 : w5.cell? ⟨wb.heap.size, 2, none⟩ = some (.int .i64 uq) := (blk_cell HS.out.blk 2).trans rfl; have kn0 : w5.cell? ⟨w4.heap.size, 0, none⟩ = some (.string x.f0) := (blk_cell HN5.out 0).trans rfl; have kn1 : w5.cell? ⟨w4.heap.size, 1, none⟩ = some (.slice A1 x.f1.length c1) := (blk_cell HN5.out 1).trans rfl; have kn2 : w5.cell? ⟨w4.heap.size, 2, none⟩ = some (.slice A2 x.f2.length c2) := (blk_cell HN5.out 2).trans rfl))
    go_quiet (fail)
    go_wp2; refine bodyPost_ret (results_ct rfl _ _ w.heap.size 29 #[.int .u32 0, .slice none 0 0, .string ⟨#[]⟩, .slice none 0 0, .slice none 0 0] (0, 0) _ rfl Zq39 Tryz.underlying29 rfl Zq3) rfl ⟨_, _, _, rfl, Kd.R_nil _ _ _ _ _, Kd.R_nil _ _ _ _ _, Kd.R_nil _ _ _ _ _, ?_⟩
    repeat (first | (with_reducible exact HB.out) | (with_reducible refine below_alloc ?_ _) | (with_reducible refine pw_below_drewN ?_ _) | (refine Below.setCell ?_ (by exact Nat.le_refl _) _))
   rw [if_pos uo] at hfun; have uob : (uq != (lb.length : Int)) = false := bne_eq_false_iff_eq.mpr uo; clear uo; obtain ⟨⟨ca, cc⟩, hcnt, hfun⟩ := Option.bind_eq_some_iff.mp hfun; simp only at hfun; have HCN := AK hcnt; clear hcnt
   by_cases n1 : ca > 4096
   ·rw [if_pos n1] at hfun
    obtain ⟨rfl, rfl⟩ : z29 = r1 ∧ (7 : Int) = r2 := by simpa using hfun
    have n1b : decide (4096 < ca) = true := decide_eq_true n1; clear hfun n1
    go_wp2_with (first | (go_at_call 40; refine (reader_token.calls k (some ab) cb lb (.slice At lt.length ct) 0 wb.heap.size wb _ _ _ _ HCb.out HCB.out HS0.out HTK.out).mono ?_; rintro e w3 ⟨rfl, hm⟩; have HS := AK hm.st; have hg3 : wb.heap.size < w3.heap.size := blk_lt HS.out.blk; clear hm; have HK := Zq65; have HB := Zq64; have HH := Zq66; have z0 : w3.cell? ⟨w.heap.size, 0, none⟩ = some (.int .u32 0) := (blk_cell HK.out 0).trans rfl; have f0 : w3.frozen? ⟨w.heap.size, 0, none⟩ = false := blk_frozen HK.out 0; have z1 : w3.cell? ⟨w.heap.size, 1, none⟩ = some (.slice none 0 0) := (blk_cell HK.out 1).trans rfl; have f1 : w3.frozen? ⟨w.heap.size, 1, none⟩ = false := blk_frozen HK.out 1; have z2 : w3.cell? ⟨w.heap.size, 2, none⟩ = some (.string ⟨#[]⟩) := (blk_cell HK.out 2).trans rfl; have f2 : w3.frozen? ⟨w.heap.size, 2, none⟩ = false := blk_frozen HK.out 2; have z3 : w3.cell? ⟨w.heap.size, 3, none⟩ = some (.slice none 0 0) := (blk_cell HK.out 3).trans rfl; have f3 : w3.frozen? ⟨w.heap.size, 3, none⟩ = false := blk_frozen HK.out 3; have z4 : w3.cell? ⟨w.heap.size, 4, none⟩ = some (.slice none 0 0) := (blk_cell HK.out 4).trans rfl; have f4 : w3.frozen? ⟨w.heap.size, 4, none⟩ = false := blk_frozen HK.out 4; have hlt : w.heap.size < w3.heap.size := blk_lt HK.out; have hh2 : w3.cell? ⟨gh, 2, none⟩ = some (.int .u32 h.c2) := (blk_cell HH.out 2).trans rfl; have hh3 : w3.cell? ⟨gh, 3, none⟩ = some (.int .u32 h.c3) := (blk_cell HH.out 3).trans rfl; have hh4 : w3.cell? ⟨gh, 4, none⟩ = some (.int .u32 h.c4) := (blk_cell HH.out 4).trans rfl; have hh7 : w3.cell? ⟨gh, 7, none⟩ = some (.int .u32 h.c7) := (blk_cell HH.out 7).trans rfl; have hh8 : w3.cell? ⟨gh, 8, none⟩ = some (.int .u32 h.c8) := (blk_cell HH.out 8).trans rfl; have hh9 : w3.cell? ⟨gh, 9, none⟩ = some (.int .u32 h.c9) := (blk_cell HH.out 9).trans rfl; have kr0 : w3.cell? ⟨wb.heap.size, 0, none⟩ = some (.slice (some ab) lb.length cb) := (blk_cell HS.out.blk 0).trans rfl) | (go_at_call 41; refine (reader_node.calls ab cb lb At ct lt wb.heap.size wb ⟨HCb.out⟩ ⟨HCB.out⟩ ⟨HTb.out⟩ ⟨HCT.out⟩ k tq [] 1 _ _ _ _ _ (HS.out.below Zq59) (MapS.made _) HS.out.bel.size Zq100 HND.out).mono ?_; rintro e w4 ⟨v1, v2, rfl, hop, hr1, hr2⟩; obtain ⟨A1, c1, rfl⟩ := Kd.R_slice hr1; obtain ⟨A2, c2, rfl⟩ := Kd.R_slice hr2; have HR1 := AK hr1; have HR2 := AK hr2; have HS := AK hop.st; clear hop hr1 hr2; have HK := Zq65; have HB := Zq64; have HH := Zq66; have z0 : w4.cell? ⟨w.heap.size, 0, none⟩ = some (.int .u32 0) := (blk_cell HK.out 0).trans rfl; have f0 : w4.frozen? ⟨w.heap.size, 0, none⟩ = false := blk_frozen HK.out 0; have z1 : w4.cell? ⟨w.heap.size, 1, none⟩ = some (.slice none 0 0) := (blk_cell HK.out 1).trans rfl; have f1 : w4.frozen? ⟨w.heap.size, 1, none⟩ = false := blk_frozen HK.out 1; have z2 : w4.cell? ⟨w.heap.size, 2, none⟩ = some (.string ⟨#[]⟩) := (blk_cell HK.out 2).trans rfl; have f2 : w4.frozen? ⟨w.heap.size, 2, none⟩ = false := blk_frozen HK.out 2; have z3 : w4.cell? ⟨w.heap.size, 3, none⟩ = some (.slice none 0 0) := (blk_cell HK.out 3).trans rfl; have f3 : w4.frozen? ⟨w.heap.size, 3, none⟩ = false := blk_frozen HK.out 3; have z4 : w4.cell? ⟨w.heap.size, 4, none⟩ = some (.slice none 0 0) := (blk_cell HK.out 4).trans rfl; have f4 : w4.frozen? ⟨w.heap.size, 4, none⟩ = false := blk_frozen HK.out 4; have hlt : w.heap.size < w4.heap.size := blk_lt HK.out; have hh2 : w4.cell? ⟨gh, 2, none⟩ = some (.int .u32 h.c2) := (blk_cell HH.out 2).trans rfl; have hh3 : w4.cell? ⟨gh, 3, none⟩ = some (.int .u32 h.c3) := (blk_cell HH.out 3).trans rfl; have hh4 : w4.cell? ⟨gh, 4, none⟩ = some (.int .u32 h.c4) := (blk_cell HH.out 4).trans rfl; have hh7 : w4.cell? ⟨gh, 7, none⟩ = some (.int .u32 h.c7) := (blk_cell HH.out 7).trans rfl; have hh8 : w4.cell? ⟨gh, 8, none⟩ = some (.int .u32 h.c8) := (blk_cell HH.out 8).trans rfl; have hh9 : w4.cell? ⟨gh, 9, none⟩ = some (.int .u32 h.c9) := (blk_cell HH.out 9).trans rfl; have kr0 : w4.cell? ⟨wb.heap.size, 0, none⟩ = some (.slice (some ab) lb.length cb) := (blk_cell HS.out.blk 0).trans rfl) | (go_at_call 40; refine (reader_token.calls k (some ab) cb lb (.slice At lt.length ct) _ wb.heap.size wb _ _ _ _ HCb.out HCB.out (HS.out.below Zq59) HTK2.out).mono ?_; rintro e w5 ⟨rfl, hm⟩; have HN5 := Zq63; have HR1 := Zq117; have HR2 := Zq118; have HS := AK hm.st; clear hm; have HK := Zq65; have HB := Zq64; have HH := Zq66; have z0 : w5.cell? ⟨w.heap.size, 0, none⟩ = some (.int .u32 0) := (blk_cell HK.out 0).trans rfl; have f0 : w5.frozen? ⟨w.heap.size, 0, none⟩ = false := blk_frozen HK.out 0; have z1 : w5.cell? ⟨w.heap.size, 1, none⟩ = some (.slice none 0 0) := (blk_cell HK.out 1).trans rfl; have f1 : w5.frozen? ⟨w.heap.size, 1, none⟩ = false := blk_frozen HK.out 1; have z2 : w5.cell? ⟨w.heap.size, 2, none⟩ = some (.string ⟨#[]⟩) := (blk_cell HK.out 2).trans rfl; have f2 : w5.frozen? ⟨w.heap.size, 2, none⟩ = false := blk_frozen HK.out 2; have z3 : w5.cell? ⟨w.heap.size, 3, none⟩ = some (.slice none 0 0) := (blk_cell HK.out 3).trans rfl; have f3 : w5.frozen? ⟨w.heap.size, 3, none⟩ = false := blk_frozen HK.out 3; have z4 : w5.cell? ⟨w.heap.size, 4, none⟩ = some (.slice none 0 0) := (blk_cell HK.out 4).trans rfl; have f4 : w5.frozen? ⟨w.heap.size, 4, none⟩ = false := blk_frozen HK.out 4; have hlt : w.heap.size < w5.heap.size := blk_lt HK.out; have hh2 : w5.cell? ⟨gh, 2, none⟩ = some (.int .u32 h.c2) := (blk_cell HH.out 2).trans rfl; have hh3 : w5.cell? ⟨gh, 3, none⟩ = some (.int .u32 h.c3) := (blk_cell HH.out 3).trans rfl; have hh4 : w5.cell? ⟨gh, 4, none⟩ = some (.int .u32 h.c4) := (blk_cell HH.out 4).trans rfl; have hh7 : w5.cell? ⟨gh, 7, none⟩ = some (.int .u32 h.c7) := (blk_cell HH.out 7).trans rfl; have hh8 : w5.cell? ⟨gh, 8, none⟩ = some (.int .u32 h.c8) := (blk_cell HH.out 8).trans rfl; have hh9 : w5.cell? ⟨gh, 9, none⟩ = some (.int .u32 h.c9) := (blk_cell HH.out 9).trans rfl; have kr0 : w5.cell? ⟨wb.heap.size, 0, none⟩ = some (.slice (some ab) lb.length cb) := (blk_cell HS.out.blk 0).trans rfl; have kr2 : w5.cell? ⟨wb.heap.size, 2, none⟩ = some (.int .i64 uq) := (blk_cell HS.out.blk 2).trans rfl; have kn0 : w5.cell? ⟨w4.heap.size, 0, none⟩ = some (.string x.f0) := (blk_cell HN5.out 0).trans rfl; have kn1 : w5.cell? ⟨w4.heap.size, 1, none⟩ = some (.slice A1 x.f1.length c1) := (blk_cell HN5.out 1).trans rfl; have kn2 : w5.cell? ⟨w4.heap.size, 2, none⟩ = some (.slice A2 x.f2.length c2) := (blk_cell HN5.out 2).trans rfl))
    go_quiet (fail)
    (go_wp2_with (go_at_call 28; refine (tree_Count.calls k x.f0 A1 c1 x.f1 A2 c2 x.f2 ca cc _ (Kd.C_below (Kd.R_reads' HR1.out).2.2 Zq46) (Kd.R_reads' HR1.out).2.1 (Kd.C_below (Kd.R_reads' HR2.out).2.2 Zq46) (Kd.R_reads' HR2.out).2.1 HCN.out).mono ?_; rintro e w6 ⟨rfl, hb6⟩; have HB6 := AK hb6; have HN6 := AK (blk_below (blk_drewN HN5.out _) hb6); have HK := AK (blk_below (blk_drewN HK.out _) hb6); have HH := AK (blk_below (blk_drewN HH.out _) hb6); have HR1 := AK (Kd.R_below (Kd.R_drewN HR1.out _) hb6); have HR2 := AK (Kd.R_below (Kd.R_drewN HR2.out _) hb6); have HB := AK (below_step (pw_below_drewN HB.out _) hb6); have HBB := AK (below_step (pw_below_drewN HS.out.bel _) hb6); clear hb6; have z0 : w6.cell? ⟨w.heap.size, 0, none⟩ = some (.int .u32 0) := (blk_cell HK.out 0).trans rfl; have f0 : w6.frozen? ⟨w.heap.size, 0, none⟩ = false := blk_frozen HK.out 0; have z1 : w6.cell? ⟨w.heap.size, 1, none⟩ = some (.slice none 0 0) := (blk_cell HK.out 1).trans rfl; have f1 : w6.frozen? ⟨w.heap.size, 1, none⟩ = false := blk_frozen HK.out 1; have z2 : w6.cell? ⟨w.heap.size, 2, none⟩ = some (.string ⟨#[]⟩) := (blk_cell HK.out 2).trans rfl; have f2 : w6.frozen? ⟨w.heap.size, 2, none⟩ = false := blk_frozen HK.out 2; have z3 : w6.cell? ⟨w.heap.size, 3, none⟩ = some (.slice none 0 0) := (blk_cell HK.out 3).trans rfl; have f3 : w6.frozen? ⟨w.heap.size, 3, none⟩ = false := blk_frozen HK.out 3; have z4 : w6.cell? ⟨w.heap.size, 4, none⟩ = some (.slice none 0 0) := (blk_cell HK.out 4).trans rfl; have f4 : w6.frozen? ⟨w.heap.size, 4, none⟩ = false := blk_frozen HK.out 4; have hlt : w.heap.size < w6.heap.size := blk_lt HK.out; have hh2 : w6.cell? ⟨gh, 2, none⟩ = some (.int .u32 h.c2) := (blk_cell HH.out 2).trans rfl; have hh3 : w6.cell? ⟨gh, 3, none⟩ = some (.int .u32 h.c3) := (blk_cell HH.out 3).trans rfl; have hh4 : w6.cell? ⟨gh, 4, none⟩ = some (.int .u32 h.c4) := (blk_cell HH.out 4).trans rfl; have hh7 : w6.cell? ⟨gh, 7, none⟩ = some (.int .u32 h.c7) := (blk_cell HH.out 7).trans rfl; have hh8 : w6.cell? ⟨gh, 8, none⟩ = some (.int .u32 h.c8) := (blk_cell HH.out 8).trans rfl; have hh9 : w6.cell? ⟨gh, 9, none⟩ = some (.int .u32 h.c9) := (blk_cell HH.out 9).trans rfl; have kn0 : w6.cell? ⟨w4.heap.size, 0, none⟩ = some (.string x.f0) := (blk_cell HN6.out 0).trans rfl; have kn1 : w6.cell? ⟨w4.heap.size, 1, none⟩ = some (.slice A1 x.f1.length c1) := (blk_cell HN6.out 1).trans rfl; have kn2 : w6.cell? ⟨w4.heap.size, 2, none⟩ = some (.slice A2 x.f2.length c2) := (blk_cell HN6.out 2).trans rfl)); refine bodyPost_ret (results_ct rfl _ _ w.heap.size 29 #[.int .u32 0, .slice none 0 0, .string ⟨#[]⟩, .slice none 0 0, .slice none 0 0] (0, 0) _ rfl Zq39 Tryz.underlying29 rfl Zq3) rfl ⟨_, _, _, rfl, Kd.R_nil _ _ _ _ _, Kd.R_nil _ _ _ _ _, Kd.R_nil _ _ _ _ _, ?_⟩
    repeat (first | (with_reducible exact HB.out) | (with_reducible refine below_alloc ?_ _) | (with_reducible refine pw_below_drewN ?_ _) | (refine Below.setCell ?_ (by exact Nat.le_refl _) _))
   ·rw [if_neg n1] at hfun; have n1b : decide (4096 < ca) = false := decide_eq_false n1; clear n1
    by_cases n2 : cc > 8192
    ·rw [if_pos n2] at hfun
     obtain ⟨rfl, rfl⟩ : z29 = r1 ∧ (7 : Int) = r2 := by simpa using hfun
     have n2b : decide (8192 < cc) = true := decide_eq_true n2; clear hfun n2
     go_wp2_with (first | (go_at_call 40; refine (reader_token.calls k (some ab) cb lb (.slice At lt.length ct) 0 wb.heap.size wb _ _ _ _ HCb.out HCB.out HS0.out HTK.out).mono ?_; rintro e w3 ⟨rfl, hm⟩; have HS := AK hm.st; have hg3 : wb.heap.size < w3.heap.size := blk_lt HS.out.blk; clear hm; have HK := Zq65; have HB := Zq64; have HH := Zq66; have z0 : w3.cell? ⟨w.heap.size, 0, none⟩ = some (.int .u32 0) := (blk_cell HK.out 0).trans rfl; have f0 : w3.frozen? ⟨w.heap.size, 0, none⟩ = false := blk_frozen HK.out 0; have z1 : w3.cell? ⟨w.heap.size, 1, none⟩ = some (.slice none 0 0) := (blk_cell HK.out 1).trans rfl; have f1 : w3.frozen? ⟨w.heap.size, 1, none⟩ = false := blk_frozen HK.out 1; have z2 : w3.cell? ⟨w.heap.size, 2, none⟩ = some (.string ⟨#[]⟩) := (blk_cell HK.out 2).trans rfl; have f2 : w3.frozen? ⟨w.heap.size, 2, none⟩ = false := blk_frozen HK.out 2; have z3 : w3.cell? ⟨w.heap.size, 3, none⟩ = some (.slice none 0 0) := (blk_cell HK.out 3).trans rfl; have f3 : w3.frozen? ⟨w.heap.size, 3, none⟩ = false := blk_frozen HK.out 3; have z4 : w3.cell? ⟨w.heap.size, 4, none⟩ = some (.slice none 0 0) := (blk_cell HK.out 4).trans rfl; have f4 : w3.frozen? ⟨w.heap.size, 4, none⟩ = false := blk_frozen HK.out 4; have hlt : w.heap.size < w3.heap.size := blk_lt HK.out; have hh2 : w3.cell? ⟨gh, 2, none⟩ = some (.int .u32 h.c2) := (blk_cell HH.out 2).trans rfl; have hh3 : w3.cell? ⟨gh, 3, none⟩ = some (.int .u32 h.c3) := (blk_cell HH.out 3).trans rfl; have hh4 : w3.cell? ⟨gh, 4, none⟩ = some (.int .u32 h.c4) := (blk_cell HH.out 4).trans rfl; have hh7 : w3.cell? ⟨gh, 7, none⟩ = some (.int .u32 h.c7) := (blk_cell HH.out 7).trans rfl; have hh8 : w3.cell? ⟨gh, 8, none⟩ = some (.int .u32 h.c8) := (blk_cell HH.out 8).trans rfl; have hh9 : w3.cell? ⟨gh, 9, none⟩ = some (.int .u32 h.c9) := (blk_cell HH.out 9).trans rfl; have kr0 : w3.cell? ⟨wb.heap.size, 0, none⟩ = some (.slice (some ab) lb.length cb) := (blk_cell HS.out.blk 0).trans rfl) | (go_at_call 41; refine (reader_node.calls ab cb lb At ct lt wb.heap.size wb ⟨HCb.out⟩ ⟨HCB.out⟩ ⟨HTb.out⟩ ⟨HCT.out⟩ k tq [] 1 _ _ _ _ _ (HS.out.below Zq59) (MapS.made _) HS.out.bel.size Zq100 HND.out).mono ?_; rintro e w4 ⟨v1, v2, rfl, hop, hr1, hr2⟩; obtain ⟨A1, c1, rfl⟩ := Kd.R_slice hr1; obtain ⟨A2, c2, rfl⟩ := Kd.R_slice hr2; have HR1 := AK hr1; have HR2 := AK hr2; have HS := AK hop.st; clear hop hr1 hr2; have HK := Zq65; have HB := Zq64; have HH := Zq66; have z0 : w4.cell? ⟨w.heap.size, 0, none⟩ = some (.int .u32 0) := (blk_cell HK.out 0).trans rfl; have f0 : w4.frozen? ⟨w.heap.size, 0, none⟩ = false := blk_frozen HK.out 0; have z1 : w4.cell? ⟨w.heap.size, 1, none⟩ = some (.slice none 0 0) := (blk_cell HK.out 1).trans rfl; have f1 : w4.frozen? ⟨w.heap.size, 1, none⟩ = false := blk_frozen HK.out 1; have z2 : w4.cell? ⟨w.heap.size, 2, none⟩ = some (.string ⟨#[]⟩) := (blk_cell HK.out 2).trans rfl; have f2 : w4.frozen? ⟨w.heap.size, 2, none⟩ = false := blk_frozen HK.out 2; have z3 : w4.cell? ⟨w.heap.size, 3, none⟩ = some (.slice none 0 0) := (blk_cell HK.out 3).trans rfl; have f3 : w4.frozen? ⟨w.heap.size, 3, none⟩ = false := blk_frozen HK.out 3; have z4 : w4.cell? ⟨w.heap.size, 4, none⟩ = some (.slice none 0 0) := (blk_cell HK.out 4).trans rfl; have f4 : w4.frozen? ⟨w.heap.size, 4, none⟩ = false := blk_frozen HK.out 4; have hlt : w.heap.size < w4.heap.size := blk_lt HK.out; have hh2 : w4.cell? ⟨gh, 2, none⟩ = some (.int .u32 h.c2) := (blk_cell HH.out 2).trans rfl; have hh3 : w4.cell? ⟨gh, 3, none⟩ = some (.int .u32 h.c3) := (blk_cell HH.out 3).trans rfl; have hh4 : w4.cell? ⟨gh, 4, none⟩ = some (.int .u32 h.c4) := (blk_cell HH.out 4).trans rfl; have hh7 : w4.cell? ⟨gh, 7, none⟩ = some (.int .u32 h.c7) := (blk_cell HH.out 7).trans rfl; have hh8 : w4.cell? ⟨gh, 8, none⟩ = some (.int .u32 h.c8) := (blk_cell HH.out 8).trans rfl; have hh9 : w4.cell? ⟨gh, 9, none⟩ = some (.int .u32 h.c9) := (blk_cell HH.out 9).trans rfl; have kr0 : w4.cell? ⟨wb.heap.size, 0, none⟩ = some (.slice (some ab) lb.length cb) := (blk_cell HS.out.blk 0).trans rfl) | (go_at_call 40; refine (reader_token.calls k (some ab) cb lb (.slice At lt.length ct) _ wb.heap.size wb _ _ _ _ HCb.out HCB.out (HS.out.below Zq59) HTK2.out).mono ?_; rintro e w5 ⟨rfl, hm⟩; have HN5 := Zq63; have HR1 := Zq117; have HR2 := Zq118; have HS := AK hm.st; clear hm; have HK := Zq65; have HB := Zq64; have HH := Zq66; have z0 : w5.cell? ⟨w.heap.size, 0, none⟩ = some (.int .u32 0) := (blk_cell HK.out 0).trans rfl; have f0 : w5.frozen? ⟨w.heap.size, 0, none⟩ = false := blk_frozen HK.out 0; have z1 : w5.cell? ⟨w.heap.size, 1, none⟩ = some (.slice none 0 0) := (blk_cell HK.out 1).trans rfl; have f1 : w5.frozen? ⟨w.heap.size, 1, none⟩ = false := blk_frozen HK.out 1; have z2 : w5.cell? ⟨w.heap.size, 2, none⟩ = some (.string ⟨#[]⟩) := (blk_cell HK.out 2).trans rfl; have f2 : w5.frozen? ⟨w.heap.size, 2, none⟩ = false := blk_frozen HK.out 2; have z3 : w5.cell? ⟨w.heap.size, 3, none⟩ = some (.slice none 0 0) := (blk_cell HK.out 3).trans rfl; have f3 : w5.frozen? ⟨w.heap.size, 3, none⟩ = false := blk_frozen HK.out 3; have z4 : w5.cell? ⟨w.heap.size, 4, none⟩ = some (.slice none 0 0) := (blk_cell HK.out 4).trans rfl; have f4 : w5.frozen? ⟨w.heap.size, 4, none⟩ = false := blk_frozen HK.out 4; have hlt : w.heap.size < w5.heap.size := blk_lt HK.out; have hh2 : w5.cell? ⟨gh, 2, none⟩ = some (.int .u32 h.c2) := (blk_cell HH.out 2).trans rfl; have hh3 : w5.cell? ⟨gh, 3, none⟩ = some (.int .u32 h.c3) := (blk_cell HH.out 3).trans rfl; have hh4 : w5.cell? ⟨gh, 4, none⟩ = some (.int .u32 h.c4) := (blk_cell HH.out 4).trans rfl; have hh7 : w5.cell? ⟨gh, 7, none⟩ = some (.int .u32 h.c7) := (blk_cell HH.out 7).trans rfl; have hh8 : w5.cell? ⟨gh, 8, none⟩ = some (.int .u32 h.c8) := (blk_cell HH.out 8).trans rfl; have hh9 : w5.cell? ⟨gh, 9, none⟩ = some (.int .u32 h.c9) := (blk_cell HH.out 9).trans rfl; have kr0 : w5.cell? ⟨wb.heap.size, 0, none⟩ = some (.slice (some ab) lb.length cb) := (blk_cell HS.out.blk 0).trans rfl; have kr2 : w5.cell? ⟨wb.heap.size, 2, none⟩ = some (.int .i64 uq) := (blk_cell HS.out.blk 2).trans rfl; have kn0 : w5.cell? ⟨w4.heap.size, 0, none⟩ = some (.string x.f0) := (blk_cell HN5.out 0).trans rfl; have kn1 : w5.cell? ⟨w4.heap.size, 1, none⟩ = some (.slice A1 x.f1.length c1) := (blk_cell HN5.out 1).trans rfl; have kn2 : w5.cell? ⟨w4.heap.size, 2, none⟩ = some (.slice A2 x.f2.length c2) := (blk_cell HN5.out 2).trans rfl))
     go_quiet (fail)
     (go_wp2_with (go_at_call 28; refine (tree_Count.calls k x.f0 A1 c1 x.f1 A2 c2 x.f2 ca cc _ (Kd.C_below (Kd.R_reads' HR1.out).2.2 Zq46) (Kd.R_reads' HR1.out).2.1 (Kd.C_below (Kd.R_reads' HR2.out).2.2 Zq46) (Kd.R_reads' HR2.out).2.1 HCN.out).mono ?_; rintro e w6 ⟨rfl, hb6⟩; have HB6 := AK hb6; have HN6 := AK (blk_below (blk_drewN HN5.out _) hb6); have HK := AK (blk_below (blk_drewN HK.out _) hb6); have HH := AK (blk_below (blk_drewN HH.out _) hb6); have HR1 := AK (Kd.R_below (Kd.R_drewN HR1.out _) hb6); have HR2 := AK (Kd.R_below (Kd.R_drewN HR2.out _) hb6); have HB := AK (below_step (pw_below_drewN HB.out _) hb6); have HBB := AK (below_step (pw_below_drewN HS.out.bel _) hb6); clear hb6; have z0 : w6.cell? ⟨w.heap.size, 0, none⟩ = some (.int .u32 0) := (blk_cell HK.out 0).trans rfl; have f0 : w6.frozen? ⟨w.heap.size, 0, none⟩ = false := blk_frozen HK.out 0; have z1 : w6.cell? ⟨w.heap.size, 1, none⟩ = some (.slice none 0 0) := (blk_cell HK.out 1).trans rfl; have f1 : w6.frozen? ⟨w.heap.size, 1, none⟩ = false := blk_frozen HK.out 1; have z2 : w6.cell? ⟨w.heap.size, 2, none⟩ = some (.string ⟨#[]⟩) := (blk_cell HK.out 2).trans rfl; have f2 : w6.frozen? ⟨w.heap.size, 2, none⟩ = false := blk_frozen HK.out 2; have z3 : w6.cell? ⟨w.heap.size, 3, none⟩ = some (.slice none 0 0) := (blk_cell HK.out 3).trans rfl; have f3 : w6.frozen? ⟨w.heap.size, 3, none⟩ = false := blk_frozen HK.out 3; have z4 : w6.cell? ⟨w.heap.size, 4, none⟩ = some (.slice none 0 0) := (blk_cell HK.out 4).trans rfl; have f4 : w6.frozen? ⟨w.heap.size, 4, none⟩ = false := blk_frozen HK.out 4; have hlt : w.heap.size < w6.heap.size := blk_lt HK.out; have hh2 : w6.cell? ⟨gh, 2, none⟩ = some (.int .u32 h.c2) := (blk_cell HH.out 2).trans rfl; have hh3 : w6.cell? ⟨gh, 3, none⟩ = some (.int .u32 h.c3) := (blk_cell HH.out 3).trans rfl; have hh4 : w6.cell? ⟨gh, 4, none⟩ = some (.int .u32 h.c4) := (blk_cell HH.out 4).trans rfl; have hh7 : w6.cell? ⟨gh, 7, none⟩ = some (.int .u32 h.c7) := (blk_cell HH.out 7).trans rfl; have hh8 : w6.cell? ⟨gh, 8, none⟩ = some (.int .u32 h.c8) := (blk_cell HH.out 8).trans rfl; have hh9 : w6.cell? ⟨gh, 9, none⟩ = some (.int .u32 h.c9) := (blk_cell HH.out 9).trans rfl; have kn0 : w6.cell? ⟨w4.heap.size, 0, none⟩ = some (.string x.f0) := (blk_cell HN6.out 0).trans rfl; have kn1 : w6.cell? ⟨w4.heap.size, 1, none⟩ = some (.slice A1 x.f1.length c1) := (blk_cell HN6.out 1).trans rfl; have kn2 : w6.cell? ⟨w4.heap.size, 2, none⟩ = some (.slice A2 x.f2.length c2) := (blk_cell HN6.out 2).trans rfl)); refine bodyPost_ret (results_ct rfl _ _ w.heap.size 29 #[.int .u32 0, .slice none 0 0, .string ⟨#[]⟩, .slice none 0 0, .slice none 0 0] (0, 0) _ rfl Zq39 Tryz.underlying29 rfl Zq3) rfl ⟨_, _, _, rfl, Kd.R_nil _ _ _ _ _, Kd.R_nil _ _ _ _ _, Kd.R_nil _ _ _ _ _, ?_⟩
     repeat (first | (with_reducible exact HB.out) | (with_reducible refine below_alloc ?_ _) | (with_reducible refine pw_below_drewN ?_ _) | (refine Below.setCell ?_ (by exact Nat.le_refl _) _))
    ·rw [if_neg n2] at hfun; have n2b : decide (8192 < cc) = false := decide_eq_false n2
     obtain ⟨rfl, rfl⟩ : (⟨h.c7, rs, x⟩ : S29) = r1 ∧ (0 : Int) = r2 := by simpa using hfun
     clear hfun n2
     go_wp2_with (first | (go_at_call 40; refine (reader_token.calls k (some ab) cb lb (.slice At lt.length ct) 0 wb.heap.size wb _ _ _ _ HCb.out HCB.out HS0.out HTK.out).mono ?_; rintro e w3 ⟨rfl, hm⟩; have HS := AK hm.st; have hg3 : wb.heap.size < w3.heap.size := blk_lt HS.out.blk; clear hm; have HK := Zq65; have HB := Zq64; have HH := Zq66; have z0 : w3.cell? ⟨w.heap.size, 0, none⟩ = some (.int .u32 0) := (blk_cell HK.out 0).trans rfl; have f0 : w3.frozen? ⟨w.heap.size, 0, none⟩ = false := blk_frozen HK.out 0; have z1 : w3.cell? ⟨w.heap.size, 1, none⟩ = some (.slice none 0 0) := (blk_cell HK.out 1).trans rfl; have f1 : w3.frozen? ⟨w.heap.size, 1, none⟩ = false := blk_frozen HK.out 1; have z2 : w3.cell? ⟨w.heap.size, 2, none⟩ = some (.string ⟨#[]⟩) := (blk_cell HK.out 2).trans rfl; have f2 : w3.frozen? ⟨w.heap.size, 2, none⟩ = false := blk_frozen HK.out 2; have z3 : w3.cell? ⟨w.heap.size, 3, none⟩ = some (.slice none 0 0) := (blk_cell HK.out 3).trans rfl; have f3 : w3.frozen? ⟨w.heap.size, 3, none⟩ = false := blk_frozen HK.out 3; have z4 : w3.cell? ⟨w.heap.size, 4, none⟩ = some (.slice none 0 0) := (blk_cell HK.out 4).trans rfl; have f4 : w3.frozen? ⟨w.heap.size, 4, none⟩ = false := blk_frozen HK.out 4; have hlt : w.heap.size < w3.heap.size := blk_lt HK.out; have hh2 : w3.cell? ⟨gh, 2, none⟩ = some (.int .u32 h.c2) := (blk_cell HH.out 2).trans rfl; have hh3 : w3.cell? ⟨gh, 3, none⟩ = some (.int .u32 h.c3) := (blk_cell HH.out 3).trans rfl; have hh4 : w3.cell? ⟨gh, 4, none⟩ = some (.int .u32 h.c4) := (blk_cell HH.out 4).trans rfl; have hh7 : w3.cell? ⟨gh, 7, none⟩ = some (.int .u32 h.c7) := (blk_cell HH.out 7).trans rfl; have hh8 : w3.cell? ⟨gh, 8, none⟩ = some (.int .u32 h.c8) := (blk_cell HH.out 8).trans rfl; have hh9 : w3.cell? ⟨gh, 9, none⟩ = some (.int .u32 h.c9) := (blk_cell HH.out 9).trans rfl; have kr0 : w3.cell? ⟨wb.heap.size, 0, none⟩ = some (.slice (some ab) lb.length cb) := (blk_cell HS.out.blk 0).trans rfl) | (go_at_call 41; refine (reader_node.calls ab cb lb At ct lt wb.heap.size wb ⟨HCb.out⟩ ⟨HCB.out⟩ ⟨HTb.out⟩ ⟨HCT.out⟩ k tq [] 1 _ _ _ _ _ (HS.out.below Zq59) (MapS.made _) HS.out.bel.size Zq100 HND.out).mono ?_; rintro e w4 ⟨v1, v2, rfl, hop, hr1, hr2⟩; obtain ⟨A1, c1, rfl⟩ := Kd.R_slice hr1; obtain ⟨A2, c2, rfl⟩ := Kd.R_slice hr2; have HR1 := AK hr1; have HR2 := AK hr2; have HS := AK hop.st; clear hop hr1 hr2; have HK := Zq65; have HB := Zq64; have HH := Zq66; have z0 : w4.cell? ⟨w.heap.size, 0, none⟩ = some (.int .u32 0) := (blk_cell HK.out 0).trans rfl; have f0 : w4.frozen? ⟨w.heap.size, 0, none⟩ = false := blk_frozen HK.out 0; have z1 : w4.cell? ⟨w.heap.size, 1, none⟩ = some (.slice none 0 0) := (blk_cell HK.out 1).trans rfl; have f1 : w4.frozen? ⟨w.heap.size, 1, none⟩ = false := blk_frozen HK.out 1; have z2 : w4.cell? ⟨w.heap.size, 2, none⟩ = some (.string ⟨#[]⟩) := (blk_cell HK.out 2).trans rfl; have f2 : w4.frozen? ⟨w.heap.size, 2, none⟩ = false := blk_frozen HK.out 2; have z3 : w4.cell? ⟨w.heap.size, 3, none⟩ = some (.slice none 0 0) := (blk_cell HK.out 3).trans rfl; have f3 : w4.frozen? ⟨w.heap.size, 3, none⟩ = false := blk_frozen HK.out 3; have z4 : w4.cell? ⟨w.heap.size, 4, none⟩ = some (.slice none 0 0) := (blk_cell HK.out 4).trans rfl; have f4 : w4.frozen? ⟨w.heap.size, 4, none⟩ = false := blk_frozen HK.out 4; have hlt : w.heap.size < w4.heap.size := blk_lt HK.out; have hh2 : w4.cell? ⟨gh, 2, none⟩ = some (.int .u32 h.c2) := (blk_cell HH.out 2).trans rfl; have hh3 : w4.cell? ⟨gh, 3, none⟩ = some (.int .u32 h.c3) := (blk_cell HH.out 3).trans rfl; have hh4 : w4.cell? ⟨gh, 4, none⟩ = some (.int .u32 h.c4) := (blk_cell HH.out 4).trans rfl; have hh7 : w4.cell? ⟨gh, 7, none⟩ = some (.int .u32 h.c7) := (blk_cell HH.out 7).trans rfl; have hh8 : w4.cell? ⟨gh, 8, none⟩ = some (.int .u32 h.c8) := (blk_cell HH.out 8).trans rfl; have hh9 : w4.cell? ⟨gh, 9, none⟩ = some (.int .u32 h.c9) := (blk_cell HH.out 9).trans rfl; have kr0 : w4.cell? ⟨wb.heap.size, 0, none⟩ = some (.slice (some ab) lb.length cb) := (blk_cell HS.out.blk 0).trans rfl) | (go_at_call 40; refine (reader_token.calls k (some ab) cb lb (.slice At lt.length ct) _ wb.heap.size wb _ _ _ _ HCb.out HCB.out (HS.out.below Zq59) HTK2.out).mono ?_; rintro e w5 ⟨rfl, hm⟩; have HN5 := Zq63; have HR1 := Zq117; have HR2 := Zq118; have HS := AK hm.st; clear hm; have HK := Zq65; have HB := Zq64; have HH := Zq66; have z0 : w5.cell? ⟨w.heap.size, 0, none⟩ = some (.int .u32 0) := (blk_cell HK.out 0).trans rfl; have f0 : w5.frozen? ⟨w.heap.size, 0, none⟩ = false := blk_frozen HK.out 0; have z1 : w5.cell? ⟨w.heap.size, 1, none⟩ = some (.slice none 0 0) := (blk_cell HK.out 1).trans rfl; have f1 : w5.frozen? ⟨w.heap.size, 1, none⟩ = false := blk_frozen HK.out 1; have z2 : w5.cell? ⟨w.heap.size, 2, none⟩ = some (.string ⟨#[]⟩) := (blk_cell HK.out 2).trans rfl; have f2 : w5.frozen? ⟨w.heap.size, 2, none⟩ = false := blk_frozen HK.out 2; have z3 : w5.cell? ⟨w.heap.size, 3, none⟩ = some (.slice none 0 0) := (blk_cell HK.out 3).trans rfl; have f3 : w5.frozen? ⟨w.heap.size, 3, none⟩ = false := blk_frozen HK.out 3; have z4 : w5.cell? ⟨w.heap.size, 4, none⟩ = some (.slice none 0 0) := (blk_cell HK.out 4).trans rfl; have f4 : w5.frozen? ⟨w.heap.size, 4, none⟩ = false := blk_frozen HK.out 4; have hlt : w.heap.size < w5.heap.size := blk_lt HK.out; have hh2 : w5.cell? ⟨gh, 2, none⟩ = some (.int .u32 h.c2) := (blk_cell HH.out 2).trans rfl; have hh3 : w5.cell? ⟨gh, 3, none⟩ = some (.int .u32 h.c3) := (blk_cell HH.out 3).trans rfl; have hh4 : w5.cell? ⟨gh, 4, none⟩ = some (.int .u32 h.c4) := (blk_cell HH.out 4).trans rfl; have hh7 : w5.cell? ⟨gh, 7, none⟩ = some (.int .u32 h.c7) := (blk_cell HH.out 7).trans rfl; have hh8 : w5.cell? ⟨gh, 8, none⟩ = some (.int .u32 h.c8) := (blk_cell HH.out 8).trans rfl; have hh9 : w5.cell? ⟨gh, 9, none⟩ = some (.int .u32 h.c9) := (blk_cell HH.out 9).trans rfl; have kr0 : w5.cell? ⟨wb.heap.size, 0, none⟩ = some (.slice (some ab) lb.length cb) := (blk_cell HS.out.blk 0).trans rfl; have kr2 : w5.cell? ⟨wb.heap.size, 2, none⟩ = some (.int .i64 uq) := (blk_cell HS.out.blk 2).trans rfl; have kn0 : w5.cell? ⟨w4.heap.size, 0, none⟩ = some (.string x.f0) := (blk_cell HN5.out 0).trans rfl; have kn1 : w5.cell? ⟨w4.heap.size, 1, none⟩ = some (.slice A1 x.f1.length c1) := (blk_cell HN5.out 1).trans rfl; have kn2 : w5.cell? ⟨w4.heap.size, 2, none⟩ = some (.slice A2 x.f2.length c2) := (blk_cell HN5.out 2).trans rfl))
     go_quiet (fail)
     (go_wp2_with (go_at_call 28; refine (tree_Count.calls k x.f0 A1 c1 x.f1 A2 c2 x.f2 ca cc _ (Kd.C_below (Kd.R_reads' HR1.out).2.2 Zq46) (Kd.R_reads' HR1.out).2.1 (Kd.C_below (Kd.R_reads' HR2.out).2.2 Zq46) (Kd.R_reads' HR2.out).2.1 HCN.out).mono ?_; rintro e w6 ⟨rfl, hb6⟩; have HB6 := AK hb6; have HN6 := AK (blk_below (blk_drewN HN5.out _) hb6); have HK := AK (blk_below (blk_drewN HK.out _) hb6); have HH := AK (blk_below (blk_drewN HH.out _) hb6); have HR1 := AK (Kd.R_below (Kd.R_drewN HR1.out _) hb6); have HR2 := AK (Kd.R_below (Kd.R_drewN HR2.out _) hb6); have HB := AK (below_step (pw_below_drewN HB.out _) hb6); have HBB := AK (below_step (pw_below_drewN HS.out.bel _) hb6); clear hb6; have z0 : w6.cell? ⟨w.heap.size, 0, none⟩ = some (.int .u32 0) := (blk_cell HK.out 0).trans rfl; have f0 : w6.frozen? ⟨w.heap.size, 0, none⟩ = false := blk_frozen HK.out 0; have z1 : w6.cell? ⟨w.heap.size, 1, none⟩ = some (.slice none 0 0) := (blk_cell HK.out 1).trans rfl; have f1 : w6.frozen? ⟨w.heap.size, 1, none⟩ = false := blk_frozen HK.out 1; have z2 : w6.cell? ⟨w.heap.size, 2, none⟩ = some (.string ⟨#[]⟩) := (blk_cell HK.out 2).trans rfl; have f2 : w6.frozen? ⟨w.heap.size, 2, none⟩ = false := blk_frozen HK.out 2; have z3 : w6.cell? ⟨w.heap.size, 3, none⟩ = some (.slice none 0 0) := (blk_cell HK.out 3).trans rfl; have f3 : w6.frozen? ⟨w.heap.size, 3, none⟩ = false := blk_frozen HK.out 3; have z4 : w6.cell? ⟨w.heap.size, 4, none⟩ = some (.slice none 0 0) := (blk_cell HK.out 4).trans rfl; have f4 : w6.frozen? ⟨w.heap.size, 4, none⟩ = false := blk_frozen HK.out 4; have hlt : w.heap.size < w6.heap.size := blk_lt HK.out; have hh2 : w6.cell? ⟨gh, 2, none⟩ = some (.int .u32 h.c2) := (blk_cell HH.out 2).trans rfl; have hh3 : w6.cell? ⟨gh, 3, none⟩ = some (.int .u32 h.c3) := (blk_cell HH.out 3).trans rfl; have hh4 : w6.cell? ⟨gh, 4, none⟩ = some (.int .u32 h.c4) := (blk_cell HH.out 4).trans rfl; have hh7 : w6.cell? ⟨gh, 7, none⟩ = some (.int .u32 h.c7) := (blk_cell HH.out 7).trans rfl; have hh8 : w6.cell? ⟨gh, 8, none⟩ = some (.int .u32 h.c8) := (blk_cell HH.out 8).trans rfl; have hh9 : w6.cell? ⟨gh, 9, none⟩ = some (.int .u32 h.c9) := (blk_cell HH.out 9).trans rfl; have kn0 : w6.cell? ⟨w4.heap.size, 0, none⟩ = some (.string x.f0) := (blk_cell HN6.out 0).trans rfl; have kn1 : w6.cell? ⟨w4.heap.size, 1, none⟩ = some (.slice A1 x.f1.length c1) := (blk_cell HN6.out 1).trans rfl; have kn2 : w6.cell? ⟨w4.heap.size, 2, none⟩ = some (.slice A2 x.f2.length c2) := (blk_cell HN6.out 2).trans rfl)); refine bodyPost_ret (results_ct rfl _ _ w.heap.size 29 #[.int .u32 h.c7, .slice Ar rs.length cr, .string x.f0, .slice A1 x.f1.length c1, .slice A2 x.f2.length c2] (0, 0) _ rfl (by refine blk_put (cs := #[.int .u32 h.c7, .slice Ar rs.length cr, .string x.f0, .slice A1 x.f1.length c1, .slice none 0 0]) ?_ 4 _ rfl; refine blk_put (cs := #[.int .u32 h.c7, .slice Ar rs.length cr, .string x.f0, .slice none 0 0, .slice none 0 0]) ?_ 3 _ rfl; refine blk_put (cs := #[.int .u32 h.c7, .slice Ar rs.length cr, .string ⟨#[]⟩, .slice none 0 0, .slice none 0 0]) ?_ 2 _ rfl; refine blk_put (cs := #[.int .u32 h.c7, .slice none 0 0, .string ⟨#[]⟩, .slice none 0 0, .slice none 0 0]) ?_ 1 _ rfl; refine blk_put (cs := #[.int .u32 0, .slice none 0 0, .string ⟨#[]⟩, .slice none 0 0, .slice none 0 0]) ?_ 0 _ rfl; exact HK.out) Tryz.underlying29 rfl Zq3) rfl ⟨_, _, _, rfl, ?_, ?_, ?_, ?_⟩; (·exact Kd.R_lower (R_out5 (Kd.R_below HVb.out HBB.out) (Nat.lt_succ_self _) _ _ _ _ _) (Nat.le_succ _)); (·exact Kd.R_lower (R_out5 HR1.out Zq12 _ _ _ _ _) Zq12); (·exact Kd.R_lower (R_out5 HR2.out Zq12 _ _ _ _ _) Zq12); (·repeat (first | (with_reducible exact HB.out) | (refine Below.setCell ?_ (by exact Nat.le_refl _) _)))
end Go.Proofs.YtkopmkinlanhoaaGreat.PE

namespace Go.Proofs.YtkopmkinlanhoaaGreat.Rdr
open Go.RowKit Go.Proofs.YtkopmkinlanhoaaGreatW.PrintWords Go.ChangeShapes Go.WideShapes
def sumB {α : Type} (B : α → Nat) : List α → Nat
 | [] => 0
 | x :: r => B x + sumB B r
theorem sumB_le {α : Type} {H : Type} {B : α → Nat} : ∀ {xs : List α} {ds : List (DataW H)}, xs.length = ds.length → (∀ (i : Nat) (x : α) (d : DataW H), xs[i]? = some x → ds[i]? = some d → B x ≤ Rows.uptoBulk d) → sumB B xs ≤ Rows.uptoBulkAll ds
 | [], [], _, _ => Nat.le_refl _
 | x :: xs, d :: ds, hl, h => by
  have h0 := h 0 x d rfl rfl; have h1 := sumB_le (xs := xs) (ds := ds) (by simpa using hl) (fun i a b ha hb => h (i + 1) a b (by simpa using ha) (by simpa using hb)); simp only [sumB, Rows.uptoBulkAll]; omega
 | [], _ :: _, hl, _ => by simp at hl
 | _ :: _, [], hl, _ => by simp at hl
theorem sumB_mem {α : Type} {B : α → Nat} {x : α} : ∀ {xs : List α}, x ∈ xs → B x ≤ sumB B xs
 | a :: r, h => by
  simp only [sumB]
  rcases List.mem_cons.1 h with rfl | h
  ·omega
  ·have := sumB_mem (B := B) h; omega
theorem sumB_len {α : Type} {B : α → Nat} (h1 : ∀ x, 1 ≤ B x) : ∀ xs : List α, xs.length ≤ sumB B xs
 | [] => Nat.le_refl _
 | x :: r => by
  have := h1 x; have := sumB_len h1 r; simp only [sumB, List.length_cons]; omega
theorem sumB_one {α : Type} (xs : List α) : sumB (fun _ => 1) xs = xs.length := by
 induction xs with
 | nil => rfl
 | cons x r ih => simp only [sumB, ih, List.length_cons]; omega
theorem list_of {α : Type} {n : Nat} {Q : Nat → α → Prop} (h : ∀ i, i < n → ∃ x, Q i x) : ∃ xs : List α, xs.length = n ∧ ∀ (i : Nat) (x : α), xs[i]? = some x → Q i x := by
 induction n with
 | zero => exact ⟨[], rfl, fun i x hx => by simp at hx⟩
 | succ n ih =>
  obtain ⟨xs, hl, hq⟩ := ih (fun i hi => h i Zq1); obtain ⟨y, hy⟩ := h n Zq1; refine ⟨xs ++ [y], by simp [hl], fun i x hx => ?_⟩
  rcases Nat.lt_trichotomy i xs.length with hi | hi | hi
  ·rw [List.getElem?_append_left hi] at hx; exact hq i x hx
  ·subst hi; rw [List.getElem?_append_right (Nat.le_refl _)] at hx
   simp at hx
   subst hx; rw [hl]; exact hy
  ·rw [List.getElem?_append_right Zq1, List.getElem?_eq_none Zq12] at hx; cases hx
def RdF (P : Program) (W : World) (n : Nat) {α : Type} (d : Kd α) (t : TypeId) (B : α → Nat) (G : α → Prop) : Prop :=
 ∀ (H : Type) (enc : TypeId × Value → H) (fuel : Nat), fuel ≤ n → ∀ (cs : List Value) (x : DataW H × List MemPlace),
  DataW.trod enc P W 0 (fun _ => true) true fuel t cs = some x → ∃ a, d.K W a cs ∧ B a ≤ Rows.uptoBulk x.1 ∧ G a
section
variable {P : Program} {W : World} {n : Nat}
def wfI (k : IntKind) (x : Int) : Prop := (Lit.int k x).wf = true
theorem rd_int {t : TypeId} {k : IntKind} (ht : P.underlying t = some (.int k)) : RdF P W n (Kd.int k) t (fun _ => 1) (wfI k) := by
 intro H enc fuel hf cs x h
 cases fuel with
 | zero => simp [DataW.trod] at h
 | succ m =>
  unfold DataW.trod at h; rw [ht] at h
  split at h <;> simp_all
  rename_i k' y z
  obtain ⟨⟨rfl, hw⟩, rfl⟩ := h; exact ⟨y, rfl, by simp [Rows.uptoBulk], hw⟩
theorem rd_string {t : TypeId} (ht : P.underlying t = some .string) : RdF P W n Kd.string t (fun s => s.size + 1) (fun _ => True) := by
 intro H enc fuel hf cs x h
 cases fuel with
 | zero => simp [DataW.trod] at h
 | succ m =>
  unfold DataW.trod at h; rw [ht] at h
  split at h <;> simp_all
  obtain ⟨_, rfl⟩ := h; refine ⟨_, rfl, ?_⟩
  simp [Rows.uptoBulk]
theorem rd_slice {t e : TypeId} {α : Type} {d : Kd α} {B : α → Nat} {G : α → Prop} (ht : P.underlying t = some (.slice e)) (hc : P.cellsOf e = d.sz) (h : RdF P W n d e B G) : RdF P W (n + 1) (Kd.slice e d) t (fun xs => sumB B xs + 1) (fun xs => ∀ x ∈ xs, G x) := by
 intro H enc fuel hf cs x hx
 rcases DataW.trod_slice ht hx with ⟨rfl, rfl⟩ | ⟨a, len, cap, elems, rest, m, rfl, rfl, rfl, hb, hl, hm, hlen, hel, _⟩
 ·exact ⟨[], ⟨none, 0, rfl, Nat.le_refl _, rfl, Zq7, fun h0 => absurd h0 Zq7⟩, by simp [sumB, Rows.uptoBulk], fun x hx => by simp at hx⟩
 ·have each : ∀ i, i < len → ∃ y : α, ∃ c : List Value, ∃ z, elems[i]? = some z ∧ W.cells? 0 (a.add (i * P.cellsOf e)) (P.cellsOf e) = some c ∧ d.K W y c ∧ B y ≤ Rows.uptoBulk z.1 ∧ G y := by
   intro i hi; have h1 := hel i hi
   obtain ⟨z, hz⟩ : ∃ z, elems[i]? = some z := ⟨_, List.getElem?_eq_getElem Zq1⟩
   rw [hz] at h1; obtain ⟨c, hc1, hc2⟩ := Option.bind_eq_some_iff.1 h1; obtain ⟨y, k1, k2, k3⟩ := h H enc m Zq1 c z hc2; exact ⟨y, c, z, hz, hc1, k1, k2, k3⟩
  obtain ⟨ys, hyl, hy⟩ := list_of each; refine ⟨ys, ⟨some a, cap, by rw [hyl], Zq1, ?_⟩, ?_, ?_⟩
  ·refine ⟨rfl, ?_, fun _ => ⟨a, rfl, fun j p hj => ?_⟩⟩
   ·have : cap ≤ 9223372036854775807 := by simpa [maxLen] using hm
    omega
   ·obtain ⟨c, z, _, hcs, hk, _, _⟩ := hy j p hj; obtain ⟨_, hcl, hcc⟩ := World.cells?_some hcs; refine ⟨c, by rw [hcl, hc], hk, fun i u hu => ?_⟩
    have hi : i < P.cellsOf e := by
     rw [← hcl]; exact (List.getElem?_eq_some_iff.1 hu).1
    have h2 := hcc i hi; rw [hu] at h2; rw [← h2, hc]; rw [Deep.add_add]
  ·have : sumB B ys ≤ Rows.uptoBulkAll (elems.map (·.1)) := by
    refine sumB_le (by simp [hyl, hlen]) (fun i y dd hyi hdi => ?_); obtain ⟨c, z, hz, _, _, hB, _⟩ := hy i y hyi; rw [List.getElem?_map, hz] at hdi
    simp at hdi
    rw [← hdi]; exact hB
   simp only [Rows.uptoBulk]; omega
  ·intro y hyy; obtain ⟨i, hi, he⟩ := List.getElem_of_mem hyy; obtain ⟨_, _, _, _, _, _, hg⟩ := hy i y (by rw [List.getElem?_eq_getElem hi, he]); exact hg
end
theorem len_2 {α : Type} {l : List α} (h : l.length = 2) : ∃ a0 a1, l = [a0, a1] := by
 match l, h with
 | [b0, b1], _ => exact ⟨b0, b1, rfl⟩
theorem len_3 {α : Type} {l : List α} (h : l.length = 3) : ∃ a0 a1 a2, l = [a0, a1, a2] := by
 match l, h with
 | [b0, b1, b2], _ => exact ⟨b0, b1, b2, rfl⟩
theorem len_5 {α : Type} {l : List α} (h : l.length = 5) : ∃ a0 a1 a2 a3 a4, l = [a0, a1, a2, a3, a4] := by
 match l, h with
 | [b0, b1, b2, b3, b4], _ => exact ⟨b0, b1, b2, b3, b4, rfl⟩
theorem bound {H : Type} {l : List (DataW H)} (hk : Rows.uptoSmall H l = true) : Rows.uptoBulkAll l ≤ 1048576 := of_decide_eq_true hk
end Go.Proofs.YtkopmkinlanhoaaGreat.Rdr

namespace Go.Proofs.YtkopmkinlanhoaaGreat.PE
open Go.RowKit Go.Proofs.YtkopmkinlanhoaaGreat.Rdr Go.Proofs.YtkopmkinlanhoaaGreatW.PrintWords Go.Proofs.YtkopmkinlanhoaaGreatW.PrintLast Go.Proofs.YtkopmkinlanhoaaGreatW.PrintMore
def bulk51 (x : S51) : Nat := (fun _ => 1) x.f0 + (fun _ => 1) x.f1 + 1
def good51 (x : S51) : Prop := (wfI .u64) x.f0 ∧ (wfI .u64) x.f1
theorem rd51 (W : World) (n : Nat) : RdF Tryz.prog W n k51 51 bulk51 good51 := by
 intro H enc fuel hfu cs x h
 cases n with
 | zero =>
  obtain rfl : fuel = 0 := by omega
  simp [DataW.trod] at h
 | succ n =>
 obtain ⟨xs, m, rfl, rfl, hl, hlen, hf⟩ := DataW.trod_struct Tryz.underlying51 h; have hl' : cs.length = 2 := hl.trans Zq3; clear hl; obtain ⟨u0, u1, rfl⟩ := len_2 hl'
 have z49 : Tryz.prog.cellsOf 49 = 1 := by kernel_rfl
 obtain ⟨y0, hy0⟩ : ∃ y, xs[0]? = some y := ⟨_, List.getElem?_eq_getElem (by rw [hlen]; decide)⟩
 have h0 := hf 0 _ rfl; rw [hy0] at h0; simp only [z49, List.getElem_toArray, List.getElem_cons_zero, List.getElem_cons_succ, List.drop_zero, List.drop_succ_cons, List.take_succ_cons, List.take_zero] at h0; have h0' : DataW.trod enc Tryz.prog W 0 (fun _ => true) true m 49 [u0] = some y0 := h0
 obtain ⟨y1, hy1⟩ : ∃ y, xs[1]? = some y := ⟨_, List.getElem?_eq_getElem (by rw [hlen]; decide)⟩
 have h1 := hf 1 _ rfl; rw [hy1] at h1; simp only [z49, List.getElem_toArray, List.getElem_cons_zero, List.getElem_cons_succ, List.drop_zero, List.drop_succ_cons, List.take_succ_cons, List.take_zero] at h1; have h1' : DataW.trod enc Tryz.prog W 0 (fun _ => true) true m 49 [u1] = some y1 := h1; obtain ⟨a0, k0, b0, g0⟩ := (rd_int (n := (n + 1)) Tryz.underlying49) H enc m Zq1 _ _ h0'; obtain ⟨a1, k1, b1, g1⟩ := (rd_int (n := (n + 1)) Tryz.underlying49) H enc m Zq1 _ _ h1'
 have hall : xs = [y0, y1] := by
  obtain ⟨q0, q1, rfl⟩ := len_2 (l := xs) hlen; simp only [List.getElem?_cons_zero, List.getElem?_cons_succ, Option.some.injEq] at hy0 hy1; rw [hy0, hy1]
 subst hall; refine ⟨⟨a0, a1⟩, ⟨[u0], [u1], rfl, k0, k1⟩, ?_, ?_⟩; (·(try dsimp only at b0); (try dsimp only at b1); simp only [bulk51, Rows.uptoBulk, Rows.uptoBulkAll, List.map_cons, List.map_nil]; omega); (·exact ⟨g0, g1⟩)
def bulk68 (x : S68) : Nat := (fun s => s.size + 1) x.f0 + (fun xs => sumB (fun _ => 1) xs + 1) x.f1 + 1
def good68 (x : S68) : Prop := (fun _ => True) x.f0 ∧ (fun xs => ∀ x ∈ xs, (wfI .u8) x) x.f1
theorem rd68 (W : World) (n : Nat) : RdF Tryz.prog W n k68 68 bulk68 good68 := by
 intro H enc fuel hfu cs x h
 cases n with
 | zero =>
  obtain rfl : fuel = 0 := by omega
  simp [DataW.trod] at h
 | succ n =>
 obtain ⟨xs, m, rfl, rfl, hl, hlen, hf⟩ := DataW.trod_struct Tryz.underlying68 h; have hl' : cs.length = 2 := hl.trans Zq3; clear hl; obtain ⟨u0, u1, rfl⟩ := len_2 hl'
 have z9 : Tryz.prog.cellsOf 9 = 1 := by kernel_rfl
 have z32 : Tryz.prog.cellsOf 32 = 1 := by kernel_rfl
 obtain ⟨y0, hy0⟩ : ∃ y, xs[0]? = some y := ⟨_, List.getElem?_eq_getElem (by rw [hlen]; decide)⟩
 have h0 := hf 0 _ rfl; rw [hy0] at h0; simp only [z9, List.getElem_toArray, List.getElem_cons_zero, List.getElem_cons_succ, List.drop_zero, List.drop_succ_cons, List.take_succ_cons, List.take_zero] at h0; have h0' : DataW.trod enc Tryz.prog W 0 (fun _ => true) true m 9 [u0] = some y0 := h0
 obtain ⟨y1, hy1⟩ : ∃ y, xs[1]? = some y := ⟨_, List.getElem?_eq_getElem (by rw [hlen]; decide)⟩
 have h1 := hf 1 _ rfl; rw [hy1] at h1; simp only [z32, List.getElem_toArray, List.getElem_cons_zero, List.getElem_cons_succ, List.drop_zero, List.drop_succ_cons, List.take_succ_cons, List.take_zero] at h1; have h1' : DataW.trod enc Tryz.prog W 0 (fun _ => true) true m 32 [u1] = some y1 := h1; obtain ⟨a0, k0, b0, g0⟩ := (rd_string (n := (n + 1)) Tryz.underlying9) H enc m Zq1 _ _ h0'; obtain ⟨a1, k1, b1, g1⟩ := (rd_slice (n := n) Tryz.underlying32 Zq3 (rd_int (n := n) Tryz.underlying5)) H enc m Zq1 _ _ h1'
 have hall : xs = [y0, y1] := by
  obtain ⟨q0, q1, rfl⟩ := len_2 (l := xs) hlen; simp only [List.getElem?_cons_zero, List.getElem?_cons_succ, Option.some.injEq] at hy0 hy1; rw [hy0, hy1]
 subst hall; refine ⟨⟨a0, a1⟩, ⟨[u0], [u1], rfl, k0, k1⟩, ?_, ?_⟩; (·(try dsimp only at b0); (try dsimp only at b1); simp only [bulk68, Rows.uptoBulk, Rows.uptoBulkAll, List.map_cons, List.map_nil]; omega); (·exact ⟨g0, g1⟩)
mutual
def bulk27 : S27 → Nat
 | ⟨x0, x1, x2⟩ => (fun s => s.size + 1) x0 + (fun xs => sumB bulk68 xs + 1) x1 + (bulks27 x2 + 1) + 1
def bulks27 : List S27 → Nat
 | [] => 0
 | x :: r => bulk27 x + bulks27 r
end
theorem bulks27_eq (l : List S27) : bulks27 l = sumB bulk27 l := by
 induction l with
 | nil => rfl
 | cons x r ih => simp only [bulks27, sumB, ih]
mutual
def good27 : S27 → Prop
 | ⟨x0, x1, x2⟩ => (fun _ => True) x0 ∧ (fun xs => ∀ x ∈ xs, good68 x) x1 ∧ goods27 x2
def goods27 : List S27 → Prop
 | [] => True
 | x :: r => good27 x ∧ goods27 r
end
theorem goods27_iff (l : List S27) : goods27 l ↔ ∀ x ∈ l, good27 x := by
 induction l with
 | nil => simp [goods27]
 | cons x r ih => simp [goods27, ih]
theorem rd27 (W : World) (n : Nat) : RdF Tryz.prog W n k27 27 bulk27 good27 := by
 induction n with
 | zero =>
  intro H enc fuel hf cs x h
  obtain rfl : fuel = 0 := by omega
  simp [DataW.trod] at h
 | succ n ih =>
 intro H enc fuel hfu cs x h; obtain ⟨xs, m, rfl, rfl, hl, hlen, hf⟩ := DataW.trod_struct Tryz.underlying27 h; have hl' : cs.length = 3 := hl.trans Zq3; clear hl; obtain ⟨u0, u1, u2, rfl⟩ := len_3 hl'
 have z9 : Tryz.prog.cellsOf 9 = 1 := by kernel_rfl
 have z24 : Tryz.prog.cellsOf 24 = 1 := by kernel_rfl
 have z25 : Tryz.prog.cellsOf 25 = 1 := by kernel_rfl
 obtain ⟨y0, hy0⟩ : ∃ y, xs[0]? = some y := ⟨_, List.getElem?_eq_getElem (by rw [hlen]; decide)⟩
 have h0 := hf 0 _ rfl; rw [hy0] at h0; simp only [z9, List.getElem_toArray, List.getElem_cons_zero, List.getElem_cons_succ, List.drop_zero, List.drop_succ_cons, List.take_succ_cons, List.take_zero] at h0; have h0' : DataW.trod enc Tryz.prog W 0 (fun _ => true) true m 9 [u0] = some y0 := h0
 obtain ⟨y1, hy1⟩ : ∃ y, xs[1]? = some y := ⟨_, List.getElem?_eq_getElem (by rw [hlen]; decide)⟩
 have h1 := hf 1 _ rfl; rw [hy1] at h1; simp only [z24, List.getElem_toArray, List.getElem_cons_zero, List.getElem_cons_succ, List.drop_zero, List.drop_succ_cons, List.take_succ_cons, List.take_zero] at h1; have h1' : DataW.trod enc Tryz.prog W 0 (fun _ => true) true m 24 [u1] = some y1 := h1
 obtain ⟨y2, hy2⟩ : ∃ y, xs[2]? = some y := ⟨_, List.getElem?_eq_getElem (by rw [hlen]; decide)⟩
 have h2 := hf 2 _ rfl; rw [hy2] at h2; simp only [z25, List.getElem_toArray, List.getElem_cons_zero, List.getElem_cons_succ, List.drop_zero, List.drop_succ_cons, List.take_succ_cons, List.take_zero] at h2; have h2' : DataW.trod enc Tryz.prog W 0 (fun _ => true) true m 25 [u2] = some y2 := h2; obtain ⟨a0, k0, b0, g0⟩ := (rd_string (n := (n + 1)) Tryz.underlying9) H enc m Zq1 _ _ h0'; obtain ⟨a1, k1, b1, g1⟩ := (rd_slice (n := n) Tryz.underlying24 Zq3 (rd68 W n)) H enc m Zq1 _ _ h1'; obtain ⟨a2, k2, b2, g2⟩ := (rd_slice (n := n) Tryz.underlying25 Zq3 ih) H enc m Zq1 _ _ h2'
 have hall : xs = [y0, y1, y2] := by
  obtain ⟨q0, q1, q2, rfl⟩ := len_3 (l := xs) hlen; simp only [List.getElem?_cons_zero, List.getElem?_cons_succ, Option.some.injEq] at hy0 hy1 hy2; rw [hy0, hy1, hy2]
 subst hall; cases k0; obtain ⟨A1, c1, e1, l1, r1⟩ := k1; cases e1; obtain ⟨A2, c2, e2, l2, r2⟩ := k2; cases e2; refine ⟨⟨a0, a1, a2⟩, k27_mk W ⟨a0, a1, a2⟩ l1 r1 l2 r2, ?_, ?_⟩; (·(try dsimp only at b0); (try dsimp only at b1); (try dsimp only at b2); simp only [bulk27, bulks27_eq, Rows.uptoBulk, Rows.uptoBulkAll, List.map_cons, List.map_nil]; omega); (·exact ⟨g0, g1, (goods27_iff _).mpr g2⟩)
def bulk29 (x : S29) : Nat := (fun _ => 1) x.f0 + (fun xs => sumB bulk51 xs + 1) x.f1 + bulk27 x.f2 + 1
def good29 (x : S29) : Prop := (wfI .u32) x.f0 ∧ (fun xs => ∀ x ∈ xs, good51 x) x.f1 ∧ good27 x.f2
theorem rd29 (W : World) (n : Nat) : RdF Tryz.prog W n k29 29 bulk29 good29 := by
 intro H enc fuel hfu cs x h
 cases n with
 | zero =>
  obtain rfl : fuel = 0 := by omega
  simp [DataW.trod] at h
 | succ n =>
 obtain ⟨xs, m, rfl, rfl, hl, hlen, hf⟩ := DataW.trod_struct Tryz.underlying29 h; have hl' : cs.length = 5 := hl.trans Zq3; clear hl; obtain ⟨u0, u1, u2, u3, u4, rfl⟩ := len_5 hl'
 have z22 : Tryz.prog.cellsOf 22 = 1 := by kernel_rfl
 have z23 : Tryz.prog.cellsOf 23 = 1 := by kernel_rfl
 have z27 : Tryz.prog.cellsOf 27 = 3 := by kernel_rfl
 obtain ⟨y0, hy0⟩ : ∃ y, xs[0]? = some y := ⟨_, List.getElem?_eq_getElem (by rw [hlen]; decide)⟩
 have h0 := hf 0 _ rfl; rw [hy0] at h0; simp only [z22, List.getElem_toArray, List.getElem_cons_zero, List.getElem_cons_succ, List.drop_zero, List.drop_succ_cons, List.take_succ_cons, List.take_zero] at h0; have h0' : DataW.trod enc Tryz.prog W 0 (fun _ => true) true m 22 [u0] = some y0 := h0
 obtain ⟨y1, hy1⟩ : ∃ y, xs[1]? = some y := ⟨_, List.getElem?_eq_getElem (by rw [hlen]; decide)⟩
 have h1 := hf 1 _ rfl; rw [hy1] at h1; simp only [z23, List.getElem_toArray, List.getElem_cons_zero, List.getElem_cons_succ, List.drop_zero, List.drop_succ_cons, List.take_succ_cons, List.take_zero] at h1; have h1' : DataW.trod enc Tryz.prog W 0 (fun _ => true) true m 23 [u1] = some y1 := h1
 obtain ⟨y2, hy2⟩ : ∃ y, xs[2]? = some y := ⟨_, List.getElem?_eq_getElem (by rw [hlen]; decide)⟩
 have h2 := hf 2 _ rfl; rw [hy2] at h2; simp only [z27, List.getElem_toArray, List.getElem_cons_zero, List.getElem_cons_succ, List.drop_zero, List.drop_succ_cons, List.take_succ_cons, List.take_zero] at h2; have h2' : DataW.trod enc Tryz.prog W 0 (fun _ => true) true m 27 [u2, u3, u4] = some y2 := h2; obtain ⟨a0, k0, b0, g0⟩ := (rd_int (n := (n + 1)) Tryz.underlying22) H enc m Zq1 _ _ h0'; obtain ⟨a1, k1, b1, g1⟩ := (rd_slice (n := n) Tryz.underlying23 Zq3 (rd51 W n)) H enc m Zq1 _ _ h1'; obtain ⟨a2, k2, b2, g2⟩ := (rd27 W (n + 1)) H enc m Zq1 _ _ h2'
 have hall : xs = [y0, y1, y2] := by
  obtain ⟨q0, q1, q2, rfl⟩ := len_3 (l := xs) hlen; simp only [List.getElem?_cons_zero, List.getElem?_cons_succ, Option.some.injEq] at hy0 hy1 hy2; rw [hy0, hy1, hy2]
 subst hall; refine ⟨⟨a0, a1, a2⟩, ⟨[u0], [u1, u2, u3, u4], rfl, k0, ⟨[u1], [u2, u3, u4], rfl, k1, k2⟩⟩, ?_, ?_⟩; (·(try dsimp only at b0); (try dsimp only at b1); (try dsimp only at b2); simp only [bulk29, Rows.uptoBulk, Rows.uptoBulkAll, List.map_cons, List.map_nil]; omega); (·exact ⟨g0, g1, g2⟩)
end Go.Proofs.YtkopmkinlanhoaaGreat.PE

namespace Go.Proofs.YtkopmkinlanhoaaGreat.Aid
open Go.RowKit Go.Proofs.YtkopmkinlanhoaaGreatW.PrintWords
section
variable {α β : Type} {r : α}
theorem Ev.pos {c : Prop} [Decidable c] {A B : Nat → Option α} (h : c) (hA : Ev A r) : Ev (fun k => if c then A k else B k) r := by
 simp only [if_pos h]; exact hA
theorem Ev.neg {c : Prop} [Decidable c] {A B : Nat → Option α} (h : ¬ c) (hB : Ev B r) : Ev (fun k => if c then A k else B k) r := by
 simp only [if_neg h]; exact hB
theorem Ev.succ {g : Nat → Option α} (h : Ev (fun k => g (k + 1)) r) : Ev g r := Ev.step (fun _ => rfl) h
theorem Ev.some (r : α) : Ev (fun _ => some r) r := ⟨0, fun _ _ => rfl⟩
theorem Ev.fix {g : Option α} (h : g = Option.some r) : Ev (fun _ => g) r := ⟨0, fun _ _ => h⟩
theorem Ev.then {g : Nat → Option α} {f : Nat → α → Option β} {a : α} {b : β} (h : Ev g a) (k : Ev (fun n => f n a) b) : Ev (fun n => (g n).bind (f n)) b := Ev.bind h k
theorem Ev.out {g : Nat → Option α} (h : Ev g r) : ∃ k, g k = Option.some r := Ev.rounds h
theorem Ev.unique {g : Nat → Option α} {a b : α} (h : Ev g a) (k : Ev g b) : a = b := by
 obtain ⟨K, h⟩ := h; obtain ⟨K', k⟩ := k; have h1 := h (max K K') Zq1; rw [k (max K K') Zq1] at h1; exact (Option.some.inj h1).symm
end
theorem w64 {x : Int} (h0 : -9223372036854775808 ≤ x) (h1 : x ≤ 9223372036854775807) : wrap64 x = x := by unfold wrap64; omega
theorem wu64 {x : Int} (h0 : 0 ≤ x) (h1 : x < 18446744073709551616) : IntKind.u64.wrap x = x := by
 simp only [IntKind.wrap, IntKind.bits, IntKind.signed]
 simp
 omega
theorem wf_u32 {x : Int} : (Lit.int .u32 x).wf = true ↔ 0 ≤ x ∧ x ≤ 4294967295 := by simp [Lit.wf, IntKind.min, IntKind.max, IntKind.signed, IntKind.bits]
theorem wf_u64 {x : Int} : (Lit.int .u64 x).wf = true ↔ 0 ≤ x ∧ x ≤ 18446744073709551615 := by simp [Lit.wf, IntKind.min, IntKind.max, IntKind.signed, IntKind.bits]
theorem getD_at {α : Type} {l : List α} {d : α} {i : Nat} (h : i < l.length) : l.getD i d = l[i] := by simp [List.getD_eq_getElem?_getD, List.getElem?_eq_getElem h]
theorem drop_at {α : Type} {l : List α} {d : α} {i : Nat} (h : i < l.length) : l.drop i = l.getD i d :: l.drop (i + 1) := by rw [getD_at h]; exact List.drop_eq_getElem_cons h
theorem loop {α β : Type} (l : List α) (F : List α → β) (g : Nat → Int → Option β)
  (hend : Ev (fun k => g k (l.length : Int)) (F []))
  (hstep : ∀ i : Nat, (h : i < l.length) → Ev (fun k => g k ((i + 1 : Nat) : Int)) (F (l.drop (i + 1))) → Ev (fun k => g k (i : Int)) (F (l[i] :: l.drop (i + 1)))) :
  ∀ i : Nat, i ≤ l.length → Ev (fun k => g k (i : Int)) (F (l.drop i)) := by
 have key : ∀ (d i : Nat), i + d = l.length → Ev (fun k => g k (i : Int)) (F (l.drop i)) := by
  intro d
  induction d with
  | zero =>
   intro i hi
   have : i = l.length := by omega
   subst this; rw [List.drop_length]; exact hend
  | succ d ih =>
   intro i hi
   have h : i < l.length := by omega
   rw [List.drop_eq_getElem_cons h]; exact hstep i h (ih (i + 1) Zq1)
 intro i hi; exact key (l.length - i) i Zq1
end Go.Proofs.YtkopmkinlanhoaaGreat.Aid

namespace Go.Proofs.YtkopmkinlanhoaaGreat.PE
open Go.RowKit Go.Proofs.YtkopmkinlanhoaaGreat.Rdr Go.Proofs.YtkopmkinlanhoaaGreat.Aid Go.Proofs.YtkopmkinlanhoaaGreatW.PrintWords
theorem rdN (xs : List S27) (i : Nat) : rd_T27 xs (i : Int) = xs.getD i z27 := by simp [rd_T27]
theorem rdP (xs : List S68) (i : Nat) : rd_T68 xs (i : Int) = xs.getD i z68 := by simp [rd_T68]
theorem getN {xs : List S27} {i : Nat} (h : i < xs.length) : xs.getD i z27 ∈ xs := by rw [getD_at h]; exact List.getElem_mem h
theorem getP {xs : List S68} {i : Nat} (h : i < xs.length) : xs.getD i z68 ∈ xs := by rw [getD_at h]; exact List.getElem_mem h
theorem bulk_pos (x : S27) : 1 ≤ bulk27 x := by
 cases x; simp only [bulk27]; omega
theorem bulk_eq (x : S27) : bulk27 x = x.f0.size + sumB bulk68 x.f1 + sumB bulk27 x.f2 + 4 := by
 cases x; simp only [bulk27, bulks27_eq]; omega
theorem bulk_kid {x k : S27} (h : k ∈ x.f2) : bulk27 k + 4 ≤ bulk27 x := by
 have := sumB_mem (B := bulk27) h; rw [bulk_eq x]; omega
theorem bulk_prop {x : S27} {p : S68} (h : p ∈ x.f1) : bulk68 p + 4 ≤ bulk27 x := by
 have := sumB_mem (B := bulk68) h; rw [bulk_eq x]; omega
theorem bulk_kids (x : S27) : x.f2.length + 4 ≤ bulk27 x := by
 have := sumB_len bulk_pos x.f2; rw [bulk_eq x]; omega
theorem bulk_props (x : S27) : x.f1.length + 4 ≤ bulk27 x := by
 have := sumB_len (B := bulk68) (fun p => by unfold bulk68; omega) x.f1; rw [bulk_eq x]; omega
theorem bulk_name (x : S27) : x.f0.size + 4 ≤ bulk27 x := by
 rw [bulk_eq x]; omega
theorem bulk_value (p : S68) : p.f0.size + p.f1.length + 3 ≤ bulk68 p := by
 unfold bulk68; simp only [sumB_one]; omega
theorem step64 {i n : Nat} (h : i < n) (hn : n ≤ 1048576) : wrap64 ((i : Int) + 1) = ((i + 1 : Nat) : Int) := by unfold wrap64; omega
theorem size_ends (m : Nat) (hm : m ≤ 1048576) : ∀ x : S27, bulk27 x ≤ m → ∀ d : Int, ∃ v, Ev (fun k => arboretlaw03_size.f k x.f0 x.f1 x.f2 d) v := by
 induction m with
 | zero => intro x hx; have := bulk_pos x; omega
 | succ m ih =>
  intro x hx d; have hk := bulk_kids x; have hp := bulk_props x
  have kids : ∀ (j i : Nat) (acc : Int), i + j = x.f2.length → ∃ v, Ev (fun k => arboretlaw03_size.l1 k d acc (x.f2.length : Int) (i : Int) x.f0 x.f1 x.f2) v := by
   intro j
   induction j with
   | zero =>
    intro i acc hi; refine ⟨acc, Ev.succ ?_⟩; simp only [arboretlaw03_size.l1]; exact Ev.neg Zq1 (Ev.some _)
   | succ j ihj =>
    intro i acc hi; have hw := step64 (i := i) (n := x.f2.length) Zq1 Zq1
    by_cases h1 : d > 20
    ·refine ⟨1048576, Ev.succ ?_⟩; simp only [arboretlaw03_size.l1]; exact Ev.pos Zq1 (Ev.pos h1 (Ev.some _))
    by_cases h2 : acc > 100000
    ·refine ⟨1048576, Ev.succ ?_⟩; simp only [arboretlaw03_size.l1]; exact Ev.pos Zq1 (Ev.neg h1 (Ev.pos h2 (Ev.some _)))
    have hmem := getN (xs := x.f2) (i := i) Zq1; obtain ⟨v, hv⟩ := ih Zq1 (x.f2.getD i z27) (by have := bulk_kid hmem; omega) (wrap64 (d + 1)); obtain ⟨r, hr⟩ := ihj (i + 1) (wrap64 (acc + v)) Zq1; refine ⟨r, Ev.succ ?_⟩; simp only [arboretlaw03_size.l1, rdN, hw]; exact Ev.pos Zq1 (Ev.neg h1 (Ev.neg h2 (Ev.pos Zq1 (Ev.pos Zq1 (Ev.then hv hr)))))
  have props : ∀ (j i : Nat) (acc : Int), i + j = x.f1.length → ∃ v, Ev (fun k => arboretlaw03_size.l0 k d acc (x.f1.length : Int) (i : Int) x.f0 x.f1 x.f2) v := by
   intro j
   induction j with
   | zero =>
    intro i acc hi; obtain ⟨v, hv⟩ := kids x.f2.length 0 acc Zq1; refine ⟨v, Ev.succ ?_⟩; simp only [arboretlaw03_size.l0]; exact Ev.neg Zq1 hv
   | succ j ihj =>
    intro i acc hi; have hw := step64 (i := i) (n := x.f1.length) Zq1 Zq1; obtain ⟨v, hv⟩ := ihj (i + 1) (wrap64 ((wrap64 ((wrap64 (acc + 1)) + (((rd_T68 x.f1 i).f0).size : Int))) + (((rd_T68 x.f1 i).f1).length : Int))) Zq1; refine ⟨v, Ev.succ ?_⟩; simp only [arboretlaw03_size.l0, hw]; exact Ev.pos Zq1 (Ev.pos Zq1 (Ev.pos Zq1 hv))
  obtain ⟨v, hv⟩ := props x.f1.length 0 (wrap64 (1 + (x.f0.size : Int))) Zq1; refine ⟨v, Ev.succ ?_⟩; simp only [arboretlaw03_size.f]; exact hv
theorem few_ends (b : Int) (l : List S51) (x : S27) (hx : bulk27 x ≤ 1048576) : ∃ v, Ev (fun k => arboretlaw03_Few.f k b l x.f0 x.f1 x.f2) v := by
 obtain ⟨v, hv⟩ := size_ends 1048576 Zq1 x hx 0
 by_cases h : v ≤ 100000
 ·refine ⟨decide ((l.length : Int) ≤ 200), ?_⟩; unfold arboretlaw03_Few.f
  exact Ev.then hv (Ev.pos h (Ev.some _))
 ·refine ⟨false, ?_⟩; unfold arboretlaw03_Few.f
  exact Ev.then hv (Ev.neg h (Ev.some _))
end Go.Proofs.YtkopmkinlanhoaaGreat.PE

namespace Go.Proofs.YtkopmkinlanhoaaGreat.PE
open Go.RowKit Go.Proofs.YtkopmkinlanhoaaGreatW.PrintWords Go.Proofs.YtkopmkinlanhoaaGreatW.PrintLast Go.Proofs.YtkopmkinlanhoaaGreatW.PrintMore
attribute [local go_sem] max2_int min2_int max_two min_two max_three min_three max_four min_four
open Go.Proofs.YtkopmkinlanhoaaGreat.Aid Go.Proofs.YtkopmkinlanhoaaGreat.Rdr
def hasB (l : List ByteArray) (x : ByteArray) : Bool := l.any fun y => y.toList == x.toList
def addT (l : List ByteArray) (x : ByteArray) : List ByteArray := if hasB l x = true then l else l ++ [x]
mutual
def txN : S27 → List ByteArray → List ByteArray
 | ⟨_, ps, ks⟩, l => txK ks (ps.foldl (fun l p => addT l p.f0) l)
def txK : List S27 → List ByteArray → List ByteArray
 | [], l => l
 | x :: r, l => txK r (txN x l)
end
theorem addT_len (l : List ByteArray) (x : ByteArray) : l.length ≤ (addT l x).length := by
 unfold addT
 split
 ·exact Nat.le_refl _
 ·rw [List.length_append]; omega
theorem txPs_len : ∀ (ps : List S68) (l : List ByteArray), l.length ≤ (ps.foldl (fun l p => addT l p.f0) l).length
 | [], l => Nat.le_refl _
 | p :: r, l => Nat.le_trans (addT_len l p.f0) (txPs_len r (addT l p.f0))
mutual
theorem txN_len : ∀ (x : S27) (l : List ByteArray), l.length ≤ (txN x l).length
 | ⟨a, ps, ks⟩, l => by
  rw [txN]; exact Nat.le_trans (txPs_len ps l) (txK_len ks _)
theorem txK_len : ∀ (ks : List S27) (l : List ByteArray), l.length ≤ (txK ks l).length
 | [], l => by rw [txK]; exact Nat.le_refl _
 | x :: r, l => by
  rw [txK]; exact Nat.le_trans (txN_len x l) (txK_len r _)
end
theorem txK_append (b : List S27) : ∀ (a : List S27) (l : List ByteArray), txK (a ++ b) l = txK b (txK a l)
 | [], l => by rw [List.nil_append, txK]
 | x :: r, l => by rw [List.cons_append, txK, txK, txK_append b r]
theorem txK_take_len (ks : List S27) (l : List ByteArray) (i : Nat) : (txK (ks.take i) l).length ≤ (txK ks l).length := by
 have := txK_len (ks.drop i) (txK (ks.take i) l)
 rwa [← txK_append, List.take_append_drop] at this
theorem txK_next (ks : List S27) (l : List ByteArray) (i : Nat) (h : i < ks.length) : txK (ks.take (i + 1)) l = txN (ks.getD i z27) (txK (ks.take i) l) := by
 rw [List.take_succ_eq_append_getElem h, txK_append, List.getD_eq_getElem?_getD, List.getElem?_eq_getElem h, txK, txK]; rfl
theorem hasB_next (l : List ByteArray) (x : ByteArray) (j : Nat) (h : j < l.length) : hasB (l.take (j + 1)) x = (hasB (l.take j) x || ((l.getD j ⟨#[]⟩).toList == x.toList)) := by
 unfold hasB; rw [List.take_succ_eq_append_getElem h, List.any_append, List.getD_eq_getElem?_getD, List.getElem?_eq_getElem h]
 simp
theorem take_next {α : Type} (l : List α) (z : α) (j : Nat) (h : j < l.length) : l.take (j + 1) = l.take j ++ [l.getD j z] := by
 rw [List.take_succ_eq_append_getElem h, List.getD_eq_getElem?_getD, List.getElem?_eq_getElem h]; rfl
theorem foldl_next {α β : Type} (f : β → α → β) (b : β) (l : List α) (z : α) (j : Nat) (h : j < l.length) : (l.take (j + 1)).foldl f b = f ((l.take j).foldl f b) (l.getD j z) := by
 rw [take_next l z j h, List.foldl_append]; rfl
structure TxS (w0 W w : World) (v v1 : Value) (l : List ByteArray) : Prop where
 row : Kd.R Kd.string 9 w w0.heap.size (fun _ => True) v1 l
 bel : Below w0.heap.size w0 w
 grown : W.grownBy w v.ownBlock
 own : v1.ownBlock = v.ownBlock ∨ ∃ b, v1.ownBlock = some b ∧ W.heap.size ≤ b
theorem TxS.drewN {w0 W w : World} {v v1 : Value} {l : List ByteArray} (h : TxS w0 W w v v1 l) (n : Nat) : TxS w0 W (w.drewN n) v v1 l := ⟨Kd.R_drewN h.row n, pw_below_drewN h.bel n, ⟨h.grown.os, h.grown.tape, h.grown.output, h.grown.size, h.grown.block⟩, h.own⟩
theorem TxS.then_ {w0 W w w2 : World} {v v1 v2 : Value} {l l2 : List ByteArray} (h : TxS w0 W w v v1 l) (k : TxS w0 w w2 v1 v2 l2) : TxS w0 W w2 v v2 l2 := by
 have hs := h.grown.size; refine ⟨k.row, k.bel, h.grown.andThen k.grown fun j hj => ?_, ?_⟩
 ·rcases h.own with e | ⟨b, e, hb⟩
  ·exact .inr (by rw [← e]; exact hj)
  ·rw [e] at hj; obtain rfl := Option.some.inj hj; exact .inl hb
 ·rcases k.own with e | ⟨b, e, hb⟩
  ·rw [e]; exact h.own
  ·exact .inr ⟨b, e, Zq1⟩
theorem TxS.alloc {w0 W : World} {v : Value} {l : List ByteArray} (h : Kd.R Kd.string 9 W w0.heap.size (fun _ => True) v l) (hb : Below w0.heap.size w0 W) (o : Obj) : TxS w0 W (W.alloc o) v v l := ⟨Kd.R_alloc h o, below_alloc hb o, World.grownBy_alloc W o _, .inl rfl⟩
theorem TxS.box {w0 w w2 : World} {v v1 : Value} {l : List ByteArray} {g : Nat} {o : Obj} (h : TxS w0 w w2 v v1 l) (hb : w.heap[g]? = some o) (hne : some g ≠ v.ownBlock) : w2.heap[g]? = some o := by
 have hg := blk_lt hb; rw [h.grown.block g hg hne]; exact hb
theorem step_ix {j k n : Nat} (h : j + (k + 1) = n) : j + 1 + k = n := by omega
attribute [local irreducible] Go.Calls in
set_option maxRecDepth 100000 in
set_option maxHeartbeats 4000000 in
theorem texts.calls (w0 : World) (m : Nat) (hm : m ≤ 1048576) : ∀ (x : S27) (A1 : Option Addr) (c1 : Nat) (A2 : Option Addr) (c2 : Nat) (l : List ByteArray) (v : Value) (W : World), bulk27 x ≤ m →
  Kd.C k68 w0 A1 x.f1.length x.f1 → Kd.C k27 w0 A2 x.f2.length x.f2 → Below w0.heap.size w0 W → Kd.R Kd.string 9 W w0.heap.size (fun _ => True) v l → (txN x l).length ≤ 1099511627776 →
  Calls Tryz.prog 21 #[.agg #[.string x.f0, .slice A1 x.f1.length c1, .slice A2 x.f2.length c2], v] W fun e w' => ∃ v', e = .returned v' ∧ TxS w0 W w' v v' (txN x l) := by
 induction m with
 | zero => intro x A1 c1 A2 c2 l v W hx; have := bulk_pos x; omega
 | succ m ih =>
 intro x A1 c1 A2 c2 l v W hx hr1 hr2 hb hR hlen; have hk := bulk_kids x; have hp := bulk_props x; have IH := AK (ih Zq1); have HR1 := AK hr1; have HR2 := AK hr2; have HX := AK hx; have hu27 := Tryz.underlying27; have hu63 := Tryz.underlying68; obtain ⟨nm, ps, ks⟩ := x; simp only at hk hp hr1 hr2 HR1 HR2 ⊢; rw [txN] at hlen ⊢; have HK := AK (And.intro hk hp)
 obtain ⟨l1, hl1⟩ : ∃ l1, l1 = ps.foldl (fun l p => addT l p.f0) l := ⟨_, rfl⟩
 have HL1 := AK hl1; rw [← hl1] at hlen; have HLEN := AK hlen
 have HS : Aside0 (TxS w0 W (W.alloc (.cells #[.string nm, .slice A1 ps.length c1, .slice A2 ks.length c2] 27)) v v l) := ⟨TxS.alloc hR hb _⟩
 have BX : Aside0 ((W.alloc (.cells #[.string nm, .slice A1 ps.length c1, .slice A2 ks.length c2] 27)).heap[W.heap.size]? = some (Obj.cells #[.string nm, .slice A1 ps.length c1, .slice A2 ks.length c2] 27 (0, 0))) := ⟨blk_new _ _⟩
 clear ih hr1 hr2 hx hb hR hlen hl1; go_enter Tryz.func21, Tryz.ntmps21; go_wp2
 go_loopg [1, 12] (ps.length + 1) (fun kq v1 v12 w' => ∃ (i : Nat), v12 = .int .i64 (i : Int) ∧ Aside0 (i + kq = ps.length + 1) ∧ Aside0 (TxS w0 W w' v v1 ((ps.take i).foldl (fun l p => addT l p.f0) l)) ∧ Aside0 (w'.heap[W.heap.size]? = some (Obj.cells #[.string nm, .slice A1 ps.length c1, .slice A2 ks.length c2] 27 (0, 0))))
 case atStart => exact ⟨0, rfl, ⟨Zq1⟩, HS, BX⟩
 case round =>
  clear HS BX; obtain ⟨i, rfl, HI, HSr, BXr⟩ := hrel
  by_cases ci : (i : Int) < (ps.length : Int)
  ·have cib : decide ((i : Int) < (ps.length : Int)) = true := decide_eq_true ci
   have cil : i < ps.length := by omega
   cases gk with
   | zero => have := HI.out; omega
   | succ k1 =>
   obtain ⟨ad, Ap, cp, e405, hx0, hx1, hlp, hip⟩ := at_T68 HR1.out (i : Int) (Int.natCast_nonneg i) ci; cases e405; have hbw := HSr.out.bel; have hrd : rd_T68 ps (i : Int) = ps.getD i z68 := rdP ps i; rw [hrd] at hx0; clear hx1 hlp hip hrd; rw [Int.toNat_natCast] at hx0; have HW0 := AK hx0; have hx0 := (hbw.cell (World.block_lt_of_cell? w0 _ hx0)).trans hx0; have hfold := foldl_next (fun l (p : S68) => addT l p.f0) l ps z68 i cil
   have hle : ((ps.take i).foldl (fun l p => addT l p.f0) l).length ≤ l1.length := by
    rw [HL1.out]; have := txPs_len (ps.drop i) ((ps.take i).foldl (fun l p => addT l p.f0) l); rw [← List.foldl_append, List.take_append_drop] at this; exact this
   obtain ⟨s, hs⟩ : ∃ s, s = (ps.getD i z68).f0 := ⟨_, rfl⟩
   rw [← hs] at hx0 hfold HW0
   obtain ⟨li, hli⟩ : ∃ li, li = (ps.take i).foldl (fun l p => addT l p.f0) l := ⟨_, rfl⟩
   rw [← hli] at hfold hle HSr; have HF := AK hfold; have HLE := AK hle; clear hfold hle hli hs; obtain ⟨A, c, rfl, hc, hC⟩ := Kd.R_reads HSr.out.row; clear hC; have q0 := (blk_cell BXr.out 0).trans rfl; have q1 := (blk_cell BXr.out 1).trans rfl; have q2 := (blk_cell BXr.out 2).trans rfl; have hw1 := i64_w ((i : Int) + 1)
   have hw2 : Go.RowKit.wrap64 ((i : Int) + 1) = ((i + 1 : Nat) : Int) := by have h8 := HK.out; have h9 := HX.out; unfold Go.RowKit.wrap64; omega
   go_wp2
   go_loopg [6, 17] (li.length + 1) (fun kq v6 v17 w' => ∃ j : Nat, v17 = .int .i64 (j : Int) ∧ v6 = .bool (hasB (li.take j) s) ∧ Aside0 (j + kq = li.length + 1) ∧ Aside0 (TxS w0 W w' v (.slice A li.length c) li) ∧ Aside0 (w'.heap[W.heap.size]? = some (Obj.cells #[.string nm, .slice (some ad) ps.length c1, .slice A2 ks.length c2] 27 (0, 0))))
   case atStart => exact ⟨0, rfl, rfl, ⟨Zq1⟩, HSr, BXr⟩
   case round =>
    clear HSr BXr q0 q1 q2 hx0 hbw; obtain ⟨j, rfl, rfl, HJ, HSq, BXq⟩ := hrel; have hbw := HSq.out.bel; have hx0 := (hbw.cell (World.block_lt_of_cell? w0 _ HW0.out)).trans HW0.out; have q0 := (blk_cell BXq.out 0).trans rfl; have q1 := (blk_cell BXq.out 1).trans rfl; have q2 := (blk_cell BXq.out 2).trans rfl
    by_cases cj : (j : Int) < (li.length : Int)
    ·have cjb : decide ((j : Int) < (li.length : Int)) = true := decide_eq_true cj
     have cjl : j < li.length := by omega
     cases gk with
     | zero => have := HJ.out; omega
     | succ k2 =>
     obtain ⟨ad2, e2, hy0⟩ := str_cell (Kd.R_reads' HSq.out.row).2.2 j cjl; subst e2; have hn := hasB_next li s j cjl; generalize li.getD j ⟨#[]⟩ = y at hy0 hn; have hw3 := i64_w ((j : Int) + 1)
     have hw4 : Go.RowKit.wrap64 ((j : Int) + 1) = ((j + 1 : Nat) : Int) := by have h8 := HLE.out; have h9 := HLEN.out; have h7 := txK_len ks l1; have h6 := HL1.out; unfold Go.RowKit.wrap64; omega
     cases hh : hasB (li.take j) s with
     | true =>
      rw [hh, Bool.true_or] at hn; go_wp2
      go_quiet (fail)
      go_wp2
      go_roundg k2
      case measure => exact Nat.lt_succ_self _
      case rel => exact ⟨j + 1, rfl, by rw [hn], ⟨step_ix HJ.out⟩, ⟨HSq.out.drewN _⟩, ⟨blk_drewN BXq.out _⟩⟩
     | false =>
      rw [hh, Bool.false_or] at hn
      cases hq : (y.toList == s.toList) with
      | true =>
       rw [hq] at hn; go_wp2
       go_quiet (fail)
       go_wp2
       go_roundg k2
       case measure => exact Nat.lt_succ_self _
       case rel => exact ⟨j + 1, rfl, by rw [hn], ⟨step_ix HJ.out⟩, ⟨HSq.out.drewN _⟩, ⟨blk_drewN BXq.out _⟩⟩
      | false =>
       rw [hq] at hn; go_wp2
       go_quiet (fail)
       go_wp2
       go_roundg k2
       case measure => exact Nat.lt_succ_self _
       case rel => exact ⟨j + 1, rfl, by rw [hn], ⟨step_ix HJ.out⟩, ⟨HSq.out.drewN _⟩, ⟨blk_drewN BXq.out _⟩⟩
    ·have cjb : decide ((j : Int) < (li.length : Int)) = false := decide_eq_false cj; have ht : li.take j = li := List.take_of_length_le Zq1; rw [ht]
     cases hh : hasB li s with
     | true =>
      have ha : addT li s = li := by unfold addT; rw [if_pos hh]
      have HF2 := AK (HF.out.trans ha); go_wp2
      go_roundg k1
      case measure => exact Nat.lt_succ_self _
      case rel => exact ⟨i + 1, rfl, ⟨step_ix HI.out⟩, ⟨by rw [HF2.out]; exact HSq.out⟩, BXq⟩
     | false =>
      have ha : addT li s = li ++ [s] := by unfold addT; rw [if_neg (by rw [hh]; exact Bool.false_ne_true)]
      have HF2 := AK (HF.out.trans ha)
      have hll : li.length + 1 ≤ 1099511627777 := by have h8 := HLE.out; have h9 := HLEN.out; have h7 := txK_len ks l1; have h6 := HL1.out; omega
      have hgk : 0 < 1 := by decide
      go_wp2_with (first | ((with_reducible refine gate_builtin (b := .append) (xs := #[.tmp 37, .tmp 44]) rfl ?_); at_builtin; refine Kd.R_append Kd.string (w0 := w0) w0.heap.size rfl (.tmp 37) (.tmp 44) 59 9 (.string ⟨#[]⟩) 16 rfl Tryz.underlying59 info9 rfl Zq2 Zq1 (.slice A li.length c) li s [.string s] (fun _ => True) (fun _ => False) rfl (by first | (go_simp; done) | (go_simp; rfl)) ?aP (fun _ hk => hk.elim) ?aF ?aO ?aB ?aS ?aL ?_; (case aP => exact rfl); (case aB => exact HSq.out.bel); (case aF => exact (fun _ _ => trivial)); (case aO => exact HSq.out.row); (case aS => exact HSq.out.bel.size); (case aL => omega); intro v5 w5 ho hb hg hat; have BX5 := AK (blk_grown BXq.out hg (Kd.R_ne HSq.out.row BXq.out Zq2)); have HS5 := AK (HSq.out.then_ (v1 := .slice A li.length c) ⟨ho, hb, hg, hat⟩); clear ho hb hg hat))
      go_roundg k1
      case measure => exact Nat.lt_succ_self _
      case rel => exact ⟨i + 1, rfl, ⟨step_ix HI.out⟩, ⟨by rw [HF2.out]; exact HS5.out⟩, BX5⟩
  ·have cib : decide ((i : Int) < (ps.length : Int)) = false := decide_eq_false ci; have ht : ps.take i = ps := List.take_of_length_le Zq1; rw [ht, ← HL1.out] at HSr; have q0 := (blk_cell BXr.out 0).trans rfl; have q1 := (blk_cell BXr.out 1).trans rfl; have q2 := (blk_cell BXr.out 2).trans rfl; clear ht; go_wp2
   go_loopg [1, 50] (ks.length + 1) (fun kq v1 v50 w' => ∃ (i : Nat), v50 = .int .i64 (i : Int) ∧ Aside0 (i + kq = ks.length + 1) ∧ Aside0 (TxS w0 W w' v v1 (txK (ks.take i) l1)) ∧ Aside0 (w'.heap[W.heap.size]? = some (Obj.cells #[.string nm, .slice A1 ps.length c1, .slice A2 ks.length c2] 27 (0, 0))))
   case atStart => exact ⟨0, rfl, ⟨Zq1⟩, ⟨by rw [List.take_zero, txK]; exact HSr.out⟩, BXr⟩
   case round =>
    clear HSr BXr q0 q1 q2 cib; obtain ⟨i, rfl, HI, HSq, BXq⟩ := hrel
    by_cases ci : (i : Int) < (ks.length : Int)
    ·have cib : decide ((i : Int) < (ks.length : Int)) = true := decide_eq_true ci
     have cil : i < ks.length := by omega
     cases gk with
     | zero => have := HI.out; omega
     | succ k1 =>
     have hmem := getN (xs := ks) (i := i) cil
     have hbk : bulk27 (ks.getD i z27) ≤ m := by
      have h1 := bulk_kid (x := ⟨nm, ps, ks⟩) hmem; have h2 := HX.out; omega
     have hnx := txK_next ks l1 i cil
     have hlx : (txN (ks.getD i z27) (txK (ks.take i) l1)).length ≤ 1099511627776 := by
      rw [← hnx]; exact Nat.le_trans (txK_take_len ks l1 (i + 1)) HLEN.out
     obtain ⟨ad, Ap, cp, Aq, cq, e407, hx0, hx1, hx2, hlp, hip, hlq, hiq⟩ := at_T27 HR2.out (i : Int) (Int.natCast_nonneg i) ci; cases e407; have hbw := HSq.out.bel; rw [rdN] at hx0 hx1 hx2 hlp hip hlq hiq; rw [Int.toNat_natCast] at hx0 hx1 hx2; replace hx0 := (hbw.cell (World.block_lt_of_cell? w0 _ hx0)).trans hx0; replace hx1 := (hbw.cell (World.block_lt_of_cell? w0 _ hx1)).trans hx1; replace hx2 := (hbw.cell (World.block_lt_of_cell? w0 _ hx2)).trans hx2; clear hmem; generalize ks.getD i z27 = y at hbk hnx hlx hx0 hx1 hx2 hlp hip hlq hiq; have HQ := AK (IH.out y Ap cp Aq cq (txK (ks.take i) l1) _ _ hbk hip hiq hbw HSq.out.row hlx); have HNX := AK hnx; obtain ⟨ya, yp, yk⟩ := y; dsimp only at hx0 hx1 hx2 HQ; have q0 := (blk_cell BXq.out 0).trans rfl; have q1 := (blk_cell BXq.out 1).trans rfl; have q2 := (blk_cell BXq.out 2).trans rfl
     have hw2 : Go.RowKit.wrap64 ((i : Int) + 1) = ((i + 1 : Nat) : Int) := by have h8 := HK.out; have h9 := HX.out; unfold Go.RowKit.wrap64; omega
     clear hbk hnx hlx hip hiq hlp hlq hbw; go_wp2_with (go_at_call 21; refine HQ.out.mono ?_; rintro e w5 ⟨v5, rfl, hs⟩; have BX5 := AK (hs.box BXq.out (Kd.R_ne HSq.out.row BXq.out Zq2)); have HS5 := AK (HSq.out.then_ hs); clear hs)
     go_roundg k1
     case measure => exact Nat.lt_succ_self _
     case rel => exact ⟨i + 1, congrArg (Value.int .i64) hw2, ⟨step_ix HI.out⟩, ⟨by rw [HNX.out]; exact HS5.out⟩, BX5⟩
    ·have cib : decide ((i : Int) < (ks.length : Int)) = false := decide_eq_false ci; have ht : ks.take i = ks := List.take_of_length_le Zq1; rw [ht] at HSq; clear ht; go_wp2; refine bodyPost_ret (results_tmp rfl _ _ _) rfl ?_; exact ⟨_, rfl, by rw [← HL1.out]; exact HSq.out⟩
theorem ready_of {ops : Array Oper} {l : Array Bool} {i : Nat} (h : i ∈ Region.ready .any ops l) : ∃ o, ops[i]? = some o ∧ l.getD i true = false ∧ ∀ e ∈ o.after, Region.binds .any e = true → l.getD e.on false = true := by
 unfold Region.ready at h; rw [List.mem_filter] at h; obtain ⟨_, h⟩ := h; rw [Bool.and_eq_true] at h; obtain ⟨h1, h2⟩ := h
 cases ho : ops[i]? with
 | none =>
  rw [ho] at h2
  simp at h2
 | some o =>
  rw [ho] at h2; simp only [Option.map_some, Option.getD_some] at h2; refine ⟨o, rfl, by simpa using h1, fun e he hb => ?_⟩; have := Array.all_eq_true'.mp h2 e he; rw [hb] at this
  simpa using this
theorem getD_two {l : Array Bool} {j : Nat} (h : l.getD j false = true) : l.getD j true = true ∧ j < l.size := by
 rcases Nat.lt_or_ge j l.size with hj | hj
 ·refine ⟨?_, hj⟩; simp only [Array.getD_eq_getD_getElem?, Array.getElem?_eq_getElem hj, Option.getD_some] at h ⊢; exact h
 ·simp only [Array.getD_eq_getD_getElem?, Array.getElem?_eq_none hj, Option.getD_none] at h; cases h
theorem set_getD {l : Array Bool} {i j : Nat} : (l.getD j true = true ∨ j = i) ↔ (l.setIfInBounds i true).getD j true = true := by
 by_cases e : j = i
 ·subst e; simp only [or_true, true_iff, Array.getD_eq_getD_getElem?, Array.getElem?_setIfInBounds, if_true]
  split <;> rfl
 ·simp only [Array.getD_eq_getD_getElem?, Array.getElem?_setIfInBounds, if_neg (fun hh : i = j => e hh.symm), e, or_false]
def backB (ops : Array Oper) : Bool := (List.range ops.size).all fun i => ((ops[i]?).map (·.after.all fun e => !Region.binds .any e || decide (e.on < i))).getD false
theorem wpAny_inv {P : Program} {ops : Array Oper} {Q : Exit → Act → World → Prop} (I : (Nat → Prop) → Act → World → Prop)
  (hmono : ∀ (D D' : Nat → Prop) a w, (∀ j, j < ops.size → (D j ↔ D' j)) → I D a w → I D' a w) (hback : backB ops = true)
  (hs : ∀ (D : Nat → Prop) a w i o, i < ops.size → ops[i]? = some o → ¬ D i → (∀ e ∈ o.after, Region.binds .any e = true → D e.on) → I D a w →
   if Region.wanted o (yielded ops a.tmps) = true then o.wp P a w (I (fun j => D j ∨ j = i)) Q else I (fun j => D j ∨ j = i) (a.put o.dst undef) w)
  (he : ∀ D a w, (∀ i, i < ops.size → D i) → I D a w → Q .normal a w) :
  ∀ (fuel : Nat) (l : Array Bool) (a : Act) (w : World), l.size = ops.size → l.toList.count false ≤ fuel → I (fun j => l.getD j true = true) a w → wpAny P .any ops Q fuel l a w := by
 have hend : ∀ (l : Array Bool) (a : Act) (w : World), l.size = ops.size → Region.ready .any ops l = [] → I (fun j => l.getD j true = true) a w → Q .normal a w := by
  intro l a w hl hr hI; refine he _ a w (fun i hi => ?_) hI
  induction i using Nat.strongRecOn with
  | _ i ih =>
  show l.getD i true = true
  cases hq : l.getD i true with
  | true => rfl
  | false =>
   exfalso
   have hmem : i ∈ Region.ready .any ops l := by
    unfold Region.ready; rw [List.mem_filter]; refine ⟨List.mem_range.mpr hi, ?_⟩; rw [hq]; have hb := List.all_eq_true.mp hback i (List.mem_range.mpr hi); rw [Array.getElem?_eq_getElem hi] at hb ⊢; simp only [Option.map_some, Option.getD_some] at hb ⊢
    refine Array.all_eq_true'.mpr fun e hee => ?_
    have h1 := Array.all_eq_true'.mp hb e hee
    cases hbd : Region.binds .any e with
    | false => rfl
    | true =>
     rw [hbd] at h1
     have h2 : e.on < i := by simpa using h1
     have h3 : l.getD e.on true = true := ih e.on h2 Zq1
     have h4 : e.on < l.size := by omega
     simp only [Array.getD_eq_getD_getElem?, Array.getElem?_eq_getElem h4, Option.getD_some] at h3 ⊢; rw [h3]; rfl
   rw [hr] at hmem; cases hmem
 intro fuel
 induction fuel with
 | zero =>
  intro l a w hl hc hI
  have hr : Region.ready .any ops l = [] := by
   refine List.eq_nil_iff_forall_not_mem.mpr fun i hi => ?_
   obtain ⟨o, ho, hf, _⟩ := ready_of hi; have hn : false ∉ l.toList := List.count_eq_zero.mp Zq1
   have hii : i < l.size := by
    rw [hl]; exact (Array.getElem?_eq_some_iff.mp ho).1
   simp only [Array.getD_eq_getD_getElem?, Array.getElem?_eq_getElem hii, Option.getD_some] at hf; exact hn (by rw [← hf]; simp)
  exact ⟨hr, hend l a w hl hr hI⟩
 | succ fuel ih =>
  intro l a w hl hc hI; refine ⟨fun hr => hend l a w hl hr hI, fun i hi => ?_⟩; obtain ⟨o, ho, hf, ha⟩ := ready_of hi; have hio : i < ops.size := (Array.getElem?_eq_some_iff.mp ho).1
  have hii : i < l.size := by omega
  have h1 := hs _ a w i o hio ho (by rw [hf]; exact Bool.false_ne_true) (fun e he hb => (getD_two (ha e he hb)).1) hI
  have hnext : ∀ a' w', I (fun j => l.getD j true = true ∨ j = i) a' w' → wpAny P .any ops Q fuel (l.setIfInBounds i true) a' w' := by
   intro a' w' hI'; refine ih _ a' w' (by simpa using hl) ?_ (hmono _ _ a' w' (fun j _ => set_getD) hI')
   have hfl : l.toList[i]'(by simpa using hii) = false := by
    simp only [Array.getD_eq_getD_getElem?, Array.getElem?_eq_getElem hii, Option.getD_some] at hf
    simpa using hf
   rw [Array.toList_setIfInBounds, List.count_set (by simpa using hii), hfl]; simp only [beq_self_eq_true, if_true]; have : (true == false) = false := rfl; rw [this]; simp only [Bool.false_eq_true, if_false, Nat.add_zero]; omega
  unfold wpOp; rw [ho]; simp only
  by_cases hw : Region.wanted o (yielded ops a.tmps) = true
  ·rw [if_pos hw] at h1 ⊢; exact .inl (Oper.wp_mono hnext h1)
  ·rw [if_neg hw] at h1 ⊢; exact hnext _ _ h1
theorem wp_region_inv {P : Program} {ops : Array Oper} {Q : Exit → Act → World → Prop} {id : Nat} {a : Act} {w : World} (I : (Nat → Prop) → Act → World → Prop) (hm : P.follows .mixedOrders = true)
  (hmono : ∀ (D D' : Nat → Prop) a w, (∀ j, j < ops.size → (D j ↔ D' j)) → I D a w → I D' a w) (hback : backB ops = true) (h0 : I (fun j => ¬ j < ops.size) a w.drew)
  (hs : ∀ (D : Nat → Prop) a w i o, i < ops.size → ops[i]? = some o → ¬ D i → (∀ e ∈ o.after, Region.binds .any e = true → D e.on) → I D a w →
   if Region.wanted o (yielded ops a.tmps) = true then o.wp P a w (I (fun j => D j ∨ j = i)) Q else I (fun j => D j ∨ j = i) (a.put o.dst undef) w)
  (he : ∀ D a w, (∀ i, i < ops.size → D i) → I D a w → Q .normal a w) : (Code.region id ops true).wp P Q a w := by
 refine wp_region_any hm (wpAny_inv I hmono hback hs he ops.size (Array.replicate ops.size false) a w.drew Zq7 Zq7 ?_); refine hmono _ _ a w.drew (fun j hj => ?_) h0; simp only [Array.getD_eq_getD_getElem?, Array.getElem?_replicate, if_pos hj, Option.getD_some, Bool.false_eq_true, iff_false, Classical.not_not]; exact hj
def needsD (D : Nat → Prop) : List Edge → Prop
 | [] => True
 | e :: r => (Region.binds .any e = true → D e.on) ∧ needsD D r
theorem needsD_of {D : Nat → Prop} : ∀ (l : List Edge), (∀ e ∈ l, Region.binds .any e = true → D e.on) → needsD D l
 | [], _ => trivial
 | e :: r, h => ⟨h e List.mem_cons_self, needsD_of r (fun x hx => h x (List.mem_cons_of_mem _ hx))⟩
def stepAll (P : Program) (ops : Array Oper) (Q : Exit → Act → World → Prop) (I : (Nat → Prop) → Act → World → Prop) : Nat → List Oper → Prop
 | _, [] => True
 | i, o :: r => (∀ (D : Nat → Prop) a w, ¬ D i → needsD D o.after.toList → I D a w → if Region.wanted o (yielded ops a.tmps) = true then o.wp P a w (I (fun j => D j ∨ j = i)) Q else I (fun j => D j ∨ j = i) (a.put o.dst undef) w) ∧ stepAll P ops Q I (i + 1) r
theorem stepAll_at {P : Program} {ops : Array Oper} {Q : Exit → Act → World → Prop} {I : (Nat → Prop) → Act → World → Prop} : ∀ (l : List Oper) (n : Nat), stepAll P ops Q I n l → ∀ (i : Nat) (o : Oper), l[i]? = some o →
  ∀ (D : Nat → Prop) a w, ¬ D (n + i) → needsD D o.after.toList → I D a w → if Region.wanted o (yielded ops a.tmps) = true then o.wp P a w (I (fun j => D j ∨ j = n + i)) Q else I (fun j => D j ∨ j = n + i) (a.put o.dst undef) w
 | [], _, _, i, o, h => by simp at h
 | x :: r, n, hs, 0, o, h => by
  obtain rfl : x = o := by simpa using h
  exact hs.1
 | x :: r, n, hs, i + 1, o, h => by
  have := stepAll_at r (n + 1) hs.2 i o (by simpa using h); rw [show n + 1 + i = n + (i + 1) by omega] at this; exact this
theorem wp_region_inv_lit {P : Program} {l : List Oper} {Q : Exit → Act → World → Prop} {id : Nat} {a : Act} {w : World} (I : (Nat → Prop) → Act → World → Prop) (hm : P.follows .mixedOrders = true)
  (hmono : ∀ (D D' : Nat → Prop) a w, (∀ j, j < l.length → (D j ↔ D' j)) → I D a w → I D' a w) (hback : backB l.toArray = true) (h0 : I (fun j => ¬ j < l.length) a w.drew)
  (hs : stepAll P l.toArray Q I 0 l) (he : ∀ D a w, (∀ i, i < l.length → D i) → I D a w → Q .normal a w) : (Code.region id l.toArray true).wp P Q a w :=
 wp_region_inv I hm (by simpa using hmono) hback (by simpa using h0) (fun D a w i o hi ho hn ha hI => by
  have := stepAll_at l 0 hs i o (by simpa using ho) D a w (by simpa using hn) (needsD_of _ (fun e he => ha e (by simpa using he))) hI
  simpa using this) (by simpa using he)
theorem or_ne {D : Nat → Prop} {j i : Nat} (h : D j ∨ j = i) (hne : j ≠ i) : D j := h.resolve_right hne
def slices_Clone_byte_byte.f (l0 : List Int) : Option (List Int) := if l0.length < 140737488355328 then (some l0) else (none)
set_option maxRecDepth 100000 in
theorem slices_Clone_byte_byte.calls (A0 : Option Addr) (c0 : Nat) (l0 : List Int) (r : List Int) (w : World) (hr0 : Kd.C (Kd.int .u8) w A0 l0.length l0) (hc0 : l0.length ≤ c0) (h : slices_Clone_byte_byte.f l0 = some r) :
  Calls Tryz.prog 50 #[.slice A0 l0.length c0] w fun e w' => ∃ v0_ : Value, e = .returned (v0_) ∧ Kd.R (Kd.int .u8) 5 w' w.heap.size (fun _ => True) v0_ r ∧ Below w.heap.size w w' := by
 unfold slices_Clone_byte_byte.f at h
 by_cases c3 : l0.length < 140737488355328
 ·rw [if_pos c3] at h; injection h with h; subst h; have HR0 := AK hr0; have HC0 := AK hc0; clear hr0 hc0; have HB := Zq70; have LMc3 := AK c3; clear c3
  cases A0 with
  | none =>
   have hn : l0 = [] := by
    cases l0 with
    | nil => rfl
    | cons x r =>
     obtain ⟨ad, he, _⟩ := HR0.out.2.2 Zq7; cases he
   subst hn
   have q := fun w' : World => Lib.run_eql_slice_nil (P := Tryz.prog) w' 32 5 none ([] : List Int).length c0 0 0 Tryz.underlying32
   simp only [Option.isNone_none, List.length_nil] at q; go_enter Tryz.func50, Tryz.ntmps50; go_wp2; go_ret; exact ⟨_, rfl, Kd.R_nil _ _ _ _ _, Below.refl _ _⟩
  | some x0 =>
   have q := fun w' : World => Lib.run_eql_slice_nil (P := Tryz.prog) w' 32 5 (some x0) l0.length c0 0 0 Tryz.underlying32
   simp only [Option.isNone_some] at q
   obtain ⟨y5, hy5⟩ : ∃ y_ : List Int, y_ = [] := ⟨_, rfl⟩
   have Ny5 := AK hy5; clear hy5
   obtain ⟨y7, hy7⟩ : ∃ y_ : List Int, y_ = y5 ++ l0 := ⟨_, rfl⟩
   have Ny7 := AK hy7; clear hy7; go_enter Tryz.func50, Tryz.ntmps50; (go_wp2_with (first | ((with_reducible refine gate_dst (N := 5) rfl ?_); refine Kd.R_lit (Kd.int .u8) _ 5 ?hg (N := 5) ?hd (xs := ([] : List Int)) (inner := []) (ok := fun _ => True) (okp := fun _ => True) ?hr ?hp (fun _ hk => hk) trivial (Below.refl _ _) (Nat.le_refl _) Zq7 ?_; (case hd | hg => rfl); (case hr => first | (go_simp; done) | (go_simp; rfl)); (case hp => exact (Reps.none _ _)); intro v5 w5 ho6 hb hg_ hnew_; clear hg_ hnew_; rw [← Ny5.out] at ho6; have n0_ := Zq116; have n2_ := Zq61; clear HB; have HO5 := n0_; have HB := n2_; clear n0_ n2_ hb ho6) | ((with_reducible refine gate_builtin (b := .append) (xs := #[.tmp 5, .tmp 6]) rfl ?_); at_builtin; refine Kd.R_append_rows (Kd.int .u8) (w0 := w) w.heap.size rfl (.tmp 5) (.tmp 6) 32 5 (.int .u8 0) 1 rfl Tryz.underlying32 info5 rfl Zq2 Zq1 v5 y5 l0 _ _ _ (fun _ => True) (fun _ => False) rfl rfl ?aO ?aR (fun _ _ h => h) (fun _ h => h.elim) (fun _ _ => trivial) ?aB ?aS ?aL ?_; (case aR => repeat (first | exact (Kd.C_below HR0.out HB.out) | (with_reducible refine Kd.C_alloc ?_ _) | (with_reducible refine Kd.C_drewN ?_ _) | (with_reducible refine Kd.C_drew ?_))); (case aB => exact Zq6); (case aO => exact (by (with_reducible repeat (first | apply Kd.R_alloc | apply Kd.R_drewN | apply Kd.R_drew)); exact HO5.out)); (case aS => exact (below_size Zq6)); (case aL => have := LMc3.out; rw [Ny5.out]; simp; omega); intro v7 w7 ho hb hg hat; rw [← Ny7.out] at ho; have n1_ := AK (hb); have n2_ := AK (ho); clear HB HO5; have HB := n1_; have HO7 := n2_; clear n1_ n2_ ho hb hg hat))); go_ret; exact ⟨_, rfl, by have e7 : y7 = l0 := (by rw [Ny7.out, Ny5.out]; rfl); rw [← e7]; (with_reducible repeat (first | apply Kd.R_alloc | apply Kd.R_drewN | apply Kd.R_drew)); exact HO7.out, Zq6⟩
 ·rw [if_neg c3] at h; cases h
def words_put.l0 : Nat → Int → List Int → Int → Option (List Int)
 | 0, _, _, _ => none
 | k + 1, x1, x7, x8 => if x8 ≥ 0 then (if 0 ≤ (wrap64 (8 * x8)) then (if x7.length < 140737488355328 then (words_put.l0 k x1 (x7 ++ [(shr .u64 x1 (wrap64 (8 * x8))) % 256]) (wrap64 (x8 - 1))) else (none)) else (none)) else (some x7)
def words_put.f (k : Nat) (l0 : List Int) (a1 : Int) (a2 : Int) : Option (List Int) := (slices_Clone_byte_byte.f l0).bind fun tbD => (words_put.l0 k a1 tbD (wrap64 (a2 - 1)))
set_option maxHeartbeats 8000000 in
set_option maxRecDepth 100000 in
theorem words_put.calls (k : Nat) (A0 : Option Addr) (c0 : Nat) (l0 : List Int) (a1 : Int) (a2 : Int) (r : List Int) (w : World) (hr0 : Kd.C (Kd.int .u8) w A0 l0.length l0) (hc0 : l0.length ≤ c0) (h : words_put.f k l0 a1 a2 = some r) :
  Calls Tryz.prog 32 #[.slice A0 l0.length c0, .int .u64 a1, .int .i64 a2] w fun e w' => ∃ v0_ : Value, e = .returned (v0_) ∧ Kd.R (Kd.int .u8) 5 w' w.heap.size (fun _ => True) v0_ r ∧ Below w.heap.size w w' := by
 have HR0 := AK hr0; have HC0 := AK hc0; clear hr0 hc0; have HB := Zq70; have H : ((slices_Clone_byte_byte.f l0).bind fun tbD => (words_put.l0 k a1 tbD (wrap64 (a2 - 1)))) = some r := h; clear h; replace H := Option.bind_eq_some_iff.mp H; obtain ⟨tbD, A40, H⟩ := H; replace H : (words_put.l0 k a1 tbD (wrap64 (a2 - 1))) = some r := H; have A4 := AK A40; clear A40; have H' := AK H; clear H; go_enter Tryz.func32, Tryz.ntmps32; go_wp2_with (first | ((with_reducible refine gate_callee (f := 50) rfl ?_); refine goesL_ (some 10) rfl rfl Tryz.func50 Zq3 rfl #[.slice A0 l0.length c0] rfl Zq10 ?_; (with_reducible refine (slices_Clone_byte_byte.calls _ _ l0 tbD _ ?side1 ?side2 A4.out).mono ?_); (case side1 => repeat (first | exact HR0.out | (with_reducible refine Kd.C_alloc ?_ _) | (with_reducible refine Kd.C_drewN ?_ _) | (with_reducible refine Kd.C_drew ?_))); (case side2 => exact HC0.out); rintro e w5 ⟨v287, rfl, ho0, hb⟩; refine ⟨_, rfl, ?_⟩; have n_ := Zn2 (AK (Kd.R_lower ho0 (below_size Zq6))) Zq61; clear HB; obtain ⟨HOcK, HB⟩ := n_; (try clear hb); (try clear ho0)))
 go_loopg [7, 8] k (fun kq v7 v8 w' => ∃ (x7_1 : List Int) (x8_1 : Int), v8 = .int .i64 x8_1 ∧ Aside0 (words_put.l0 kq a1 x7_1 x8_1 = some r) ∧ Aside0 (kq ≤ k) ∧ Aside0 (Kd.R (Kd.int .u8) 5 w' w.heap.size (fun _ => True) v7 x7_1) ∧ Aside0 (Below w.heap.size w w'))
 case atStart => exact ⟨(tbD), (wrap64 (a2 - 1)), Zq4, H', ⟨Nat.le_refl _⟩, ⟨by (with_reducible repeat (first | apply Kd.R_alloc | apply Kd.R_drewN | apply Kd.R_drew)); exact HOcK.out⟩, ⟨Zq6⟩⟩
 case round =>
  clear H'; obtain ⟨x7_1, x8_1, rfl, HA, HK1, HO_7, HB⟩ := hrel
  cases gk with
  | zero => exact absurd HA.out (by simp [words_put.l0])
  | succ k1 =>
   have H := HA.out; clear HA; simp only [words_put.l0] at H
   by_cases c6 : x8_1 ≥ 0
   ·rw [if_pos c6] at H; have c6b0 : decide (0 ≤ x8_1) = true := decide_eq_true c6; clear c6
    obtain ⟨ji7, hji7⟩ : ∃ j_ : Int, (wrap64 (8 * x8_1)) = j_ := ⟨_, rfl⟩
    replace H : (if 0 ≤ (ji7) then (if x7_1.length < 140737488355328 then (words_put.l0 k1 a1 (x7_1 ++ [(shr .u64 a1 (ji7)) % 256]) (wrap64 (x8_1 - 1))) else (none)) else (none)) = some r := by first | (rw [hji7] at H; exact H) | (simp only [hji7] at H ⊢; exact H)
    have hji7w : (IntKind.i64.wrap (8 * x8_1)) = ji7 := (i64_w _).trans hji7
    by_cases c8 : 0 ≤ (ji7)
    ·rw [if_pos c8] at H; have c8b0 := eq_true c8; have c8b1 : decide (0 ≤ (ji7)) = true := decide_eq_true c8; clear c8
     obtain ⟨ji9, hji9⟩ : ∃ j_ : Int, (shr .u64 a1 (ji7)) = j_ := ⟨_, rfl⟩
     replace H : (if x7_1.length < 140737488355328 then (words_put.l0 k1 a1 (x7_1 ++ [(ji9) % 256]) (wrap64 (x8_1 - 1))) else (none)) = some r := by first | (rw [hji9] at H; exact H) | (simp only [hji9] at H ⊢; exact H)
     have hji9_ : (a1 / 2 ^ min (ji7).toNat 64) = ji9 := hji9; have hji9z : (ji7) ≤ 64 → (a1 / 2 ^ (ji7).toNat) = ji9 := shr_small hji9
     by_cases c10 : x7_1.length < 140737488355328
     ·rw [if_pos c10] at H; have LMc10 := AK c10; clear c10
      obtain ⟨ybo, hybo⟩ : ∃ y_ : List Int, y_ = (x7_1 ++ [(ji9) % 256]) := ⟨_, rfl⟩
      replace H : (words_put.l0 k1 a1 ybo (wrap64 (x8_1 - 1))) = some r := by first | (rw [hybo]; with_reducible exact H) | (have H2_ := (Option.bind_some _ _).symm.trans H; rw [hybo]; with_reducible exact H2_) | (have H2_ := (Option.bind_some _ _).symm.trans H; with_reducible exact H2_) | with_reducible exact H | (rw [hybo]; exact H) | exact H
      have Nybo := AK hybo; clear hybo; have H' := AK H; clear H; go_wp2_with (first | ((with_reducible refine gate_builtin (b := .append) (xs := #[.tmp 17, .tmp 23]) rfl ?_); at_builtin; refine Kd.R_append (Kd.int .u8) (w0 := w) w.heap.size rfl (.tmp 17) (.tmp 23) 32 5 (.int .u8 0) 1 rfl Tryz.underlying32 info5 rfl Zq2 Zq1 u7 x7_1 ((ji9) % 256) [.int .u8 ((ji9) % 256)] (fun _ => True) (fun _ => False) rfl rfl ?aP (fun _ hk => hk.elim) ?aF ?aO ?aB ?aS ?aL ?_; (case aP => exact rfl); (case aB => exact Zq6); (case aF => exact (fun _ _ => trivial)); (case aO => exact (by (with_reducible repeat (first | apply Kd.R_alloc | apply Kd.R_drewN | apply Kd.R_drew)); exact HO_7.out)); (case aS => exact (below_size Zq6)); (case aL => have := LMc10.out; omega); intro v290 w11 ho hb hg hat; rw [← Nybo.out] at ho; have n_ := Zn2 (AK (hb)) (AK (ho)); clear HB HO_7; obtain ⟨HB, HOcL⟩ := n_; clear ho hb hg hat))
      first | (go_roundg k1) | ((try subst hji7); (try subst hji9); go_roundg k1)
      case measure => have := HK1.out; omega
      case rel => exact ⟨(ybo), (wrap64 (x8_1 - 1)), Zq4, H', ⟨Zq14⟩, ⟨by (with_reducible repeat (first | apply Kd.R_alloc | apply Kd.R_drewN | apply Kd.R_drew)); exact HOcL.out⟩, ⟨Zq6⟩⟩
     ·rw [if_neg c10] at H; exact absurd H Zq7
    ·rw [if_neg c8] at H; exact absurd H Zq7
   ·rw [if_neg c6] at H; have c6b0 : decide (0 ≤ x8_1) = false := decide_eq_false c6; clear c6; obtain rfl := Option.some.inj H; go_wp2; go_ret; exact ⟨_, Zq11, by (with_reducible repeat (first | apply Kd.R_alloc | apply Kd.R_drewN | apply Kd.R_drew)); exact HO_7.out, Zq6⟩
def words_Put.f (k : Nat) (l0 : List Int) (a1 : Int) : Option (List Int) := (words_put.f k l0 (IntKind.u64.wrap (a1)) 4).bind fun tbI => (some tbI)
set_option maxHeartbeats 8000000 in
set_option maxRecDepth 100000 in
theorem words_Put.calls (k : Nat) (A0 : Option Addr) (c0 : Nat) (l0 : List Int) (a1 : Int) (r : List Int) (w : World) (hr0 : Kd.C (Kd.int .u8) w A0 l0.length l0) (hc0 : l0.length ≤ c0) (h : words_Put.f k l0 a1 = some r) :
  Calls Tryz.prog 17 #[.slice A0 l0.length c0, .int .u32 a1] w fun e w' => ∃ v0_ : Value, e = .returned (v0_) ∧ Kd.R (Kd.int .u8) 5 w' w.heap.size (fun _ => True) v0_ r ∧ Below w.heap.size w w' := by
 have HR0 := AK hr0; have HC0 := AK hc0; clear hr0 hc0; have HB := Zq70; have H : ((words_put.f k l0 (IntKind.u64.wrap (a1)) 4).bind fun tbI => (some tbI)) = some r := h; clear h; replace H := Option.bind_eq_some_iff.mp H; obtain ⟨tbI, A30, H⟩ := H; replace H : (some tbI) = some r := H; have A3 := AK A30; clear A30; obtain rfl := Option.some.inj H; go_enter Tryz.func17, Tryz.ntmps17; (go_wp2_with (first | ((with_reducible refine gate_callee (f := 32) rfl ?_); refine goesL_ (some 8) rfl rfl Tryz.func32 Zq3 rfl #[.slice A0 l0.length c0, .int .u64 (IntKind.u64.wrap (a1)), .int .i64 4] rfl Zq10 ?_; (with_reducible refine (words_put.calls k _ _ l0 (IntKind.u64.wrap (a1)) 4 tbI _ ?side1 ?side2 A3.out).mono ?_); (case side1 => repeat (first | exact HR0.out | (with_reducible refine Kd.C_alloc ?_ _) | (with_reducible refine Kd.C_drewN ?_ _) | (with_reducible refine Kd.C_drew ?_))); (case side2 => exact HC0.out); rintro e w4 ⟨v293, rfl, ho0, hb⟩; refine ⟨_, rfl, ?_⟩; have n_ := Zn2 (AK (Kd.R_lower ho0 (below_size Zq6))) Zq61; clear HB; obtain ⟨HOcM, HB⟩ := n_; (try clear hb); (try clear ho0)))); go_ret; exact ⟨_, Zq11, by (with_reducible repeat (first | apply Kd.R_alloc | apply Kd.R_drewN | apply Kd.R_drew)); exact HOcM.out, Zq6⟩
def words_Put64.f (k : Nat) (l0 : List Int) (a1 : Int) : Option (List Int) := (words_put.f k l0 a1 8).bind fun tbJ => (some tbJ)
set_option maxHeartbeats 8000000 in
set_option maxRecDepth 100000 in
theorem words_Put64.calls (k : Nat) (A0 : Option Addr) (c0 : Nat) (l0 : List Int) (a1 : Int) (r : List Int) (w : World) (hr0 : Kd.C (Kd.int .u8) w A0 l0.length l0) (hc0 : l0.length ≤ c0) (h : words_Put64.f k l0 a1 = some r) :
  Calls Tryz.prog 16 #[.slice A0 l0.length c0, .int .u64 a1] w fun e w' => ∃ v0_ : Value, e = .returned (v0_) ∧ Kd.R (Kd.int .u8) 5 w' w.heap.size (fun _ => True) v0_ r ∧ Below w.heap.size w w' := by
 have HR0 := AK hr0; have HC0 := AK hc0; clear hr0 hc0; have HB := Zq70; have H : ((words_put.f k l0 a1 8).bind fun tbJ => (some tbJ)) = some r := h; clear h; replace H := Option.bind_eq_some_iff.mp H; obtain ⟨tbJ, A30, H⟩ := H; replace H : (some tbJ) = some r := H; have A3 := AK A30; clear A30; obtain rfl := Option.some.inj H; go_enter Tryz.func16, Tryz.ntmps16; (go_wp2_with (first | ((with_reducible refine gate_callee (f := 32) rfl ?_); refine goesL_ (some 7) rfl rfl Tryz.func32 Zq3 rfl #[.slice A0 l0.length c0, .int .u64 a1, .int .i64 8] rfl Zq10 ?_; (with_reducible refine (words_put.calls k _ _ l0 a1 8 tbJ _ ?side1 ?side2 A3.out).mono ?_); (case side1 => repeat (first | exact HR0.out | (with_reducible refine Kd.C_alloc ?_ _) | (with_reducible refine Kd.C_drewN ?_ _) | (with_reducible refine Kd.C_drew ?_))); (case side2 => exact HC0.out); rintro e w4 ⟨v296, rfl, ho0, hb⟩; refine ⟨_, rfl, ?_⟩; have n_ := Zn2 (AK (Kd.R_lower ho0 (below_size Zq6))) Zq61; clear HB; obtain ⟨HOcN, HB⟩ := n_; (try clear hb); (try clear ho0)))); go_ret; exact ⟨_, Zq11, by (with_reducible repeat (first | apply Kd.R_alloc | apply Kd.R_drewN | apply Kd.R_drew)); exact HOcN.out, Zq6⟩
theorem put_four (l : List Int) (v : Int) (h0 : 0 ≤ v) (h1 : v < 4294967296) (hl : l.length ≤ 1099511627776) : words_Put.f 6 l v = some (l ++ cellB v) := by
 unfold words_Put.f words_put.f slices_Clone_byte_byte.f; rw [if_pos Zq1, u64_small h0 Zq1]; simp only [Option.bind_some]
 have w3 : wrap64 (4 - 1) = 3 := by unfold wrap64; omega
 have w2 : wrap64 (3 - 1) = 2 := by unfold wrap64; omega
 have w1 : wrap64 (2 - 1) = 1 := by unfold wrap64; omega
 have w0 : wrap64 (1 - 1) = 0 := by unfold wrap64; omega
 have wm : wrap64 (0 - 1) = -1 := by unfold wrap64; omega
 have s3 : wrap64 (8 * 3) = 24 := by unfold wrap64; omega
 have s2 : wrap64 (8 * 2) = 16 := by unfold wrap64; omega
 have s1 : wrap64 (8 * 1) = 8 := by unfold wrap64; omega
 have s0 : wrap64 (8 * 0) = 0 := by unfold wrap64; omega
 have t3 : shr .u64 v 24 = v / 16777216 := rfl; have t2 : shr .u64 v 16 = v / 65536 := rfl; have t1 : shr .u64 v 8 = v / 256 := rfl
 have t0 : shr .u64 v 0 = v := by show v / 1 = v; omega
 rw [w3]; simp only [words_put.l0]; rw [if_pos Zq2, s3, if_pos Zq2, if_pos Zq1, w2, t3]; rw [if_pos Zq2, s2, if_pos Zq2, if_pos Zq12, w1, t2]; rw [if_pos Zq2, s1, if_pos Zq2, if_pos Zq12, w0, t1]; rw [if_pos Zq2, s0, if_pos Zq2, if_pos Zq12, wm, t0, if_neg Zq2]
 simp [cellB]
theorem put_eight (l : List Int) (v : Int) (hl : l.length ≤ 1099511627776) : words_Put64.f 10 l v = some (l ++ (cellB (v / 4294967296) ++ cellB v)) := by
 unfold words_Put64.f words_put.f slices_Clone_byte_byte.f; rw [if_pos Zq1]; simp only [Option.bind_some]
 have w7 : wrap64 (8 - 1) = 7 := by unfold wrap64; omega
 have w6 : wrap64 (7 - 1) = 6 := by unfold wrap64; omega
 have w5 : wrap64 (6 - 1) = 5 := by unfold wrap64; omega
 have w4 : wrap64 (5 - 1) = 4 := by unfold wrap64; omega
 have w3 : wrap64 (4 - 1) = 3 := by unfold wrap64; omega
 have w2 : wrap64 (3 - 1) = 2 := by unfold wrap64; omega
 have w1 : wrap64 (2 - 1) = 1 := by unfold wrap64; omega
 have w0 : wrap64 (1 - 1) = 0 := by unfold wrap64; omega
 have wm : wrap64 (0 - 1) = -1 := by unfold wrap64; omega
 have s7 : wrap64 (8 * 7) = 56 := by unfold wrap64; omega
 have s6 : wrap64 (8 * 6) = 48 := by unfold wrap64; omega
 have s5 : wrap64 (8 * 5) = 40 := by unfold wrap64; omega
 have s4 : wrap64 (8 * 4) = 32 := by unfold wrap64; omega
 have s3 : wrap64 (8 * 3) = 24 := by unfold wrap64; omega
 have s2 : wrap64 (8 * 2) = 16 := by unfold wrap64; omega
 have s1 : wrap64 (8 * 1) = 8 := by unfold wrap64; omega
 have s0 : wrap64 (8 * 0) = 0 := by unfold wrap64; omega
 have t7 : shr .u64 v 56 = v / 4294967296 / 16777216 := by show v / 72057594037927936 = _; omega
 have t6 : shr .u64 v 48 = v / 4294967296 / 65536 := by show v / 281474976710656 = _; omega
 have t5 : shr .u64 v 40 = v / 4294967296 / 256 := by show v / 1099511627776 = _; omega
 have t4 : shr .u64 v 32 = v / 4294967296 := rfl; have t3 : shr .u64 v 24 = v / 16777216 := rfl; have t2 : shr .u64 v 16 = v / 65536 := rfl; have t1 : shr .u64 v 8 = v / 256 := rfl
 have t0 : shr .u64 v 0 = v := by show v / 1 = v; omega
 rw [w7]; simp only [words_put.l0]; rw [if_pos Zq2, s7, if_pos Zq2, if_pos Zq1, w6, t7]; rw [if_pos Zq2, s6, if_pos Zq2, if_pos Zq12, w5, t6]; rw [if_pos Zq2, s5, if_pos Zq2, if_pos Zq12, w4, t5]; rw [if_pos Zq2, s4, if_pos Zq2, if_pos Zq12, w3, t4]; rw [if_pos Zq2, s3, if_pos Zq2, if_pos Zq12, w2, t3]; rw [if_pos Zq2, s2, if_pos Zq2, if_pos Zq12, w1, t2]; rw [if_pos Zq2, s1, if_pos Zq2, if_pos Zq12, w0, t1]; rw [if_pos Zq2, s0, if_pos Zq2, if_pos Zq12, wm, t0, if_neg Zq2]
 simp [cellB]
def firstI : List (ByteArray × Int) → ByteArray → Option Int
 | [], _ => none
 | (y, i) :: r, x => if y.data.toList = x.data.toList then some i else firstI r x
def MapI (w : World) (b : Nat) (hs : List (ByteArray × Int)) : Prop := ∃ D : DataW Unit, w.ownsMap Tryz.prog 9 (plainElem Tryz.prog 3) b hs.length D ∧ Maps.IsMap D ∧ ∀ h : ByteArray, h.size ≤ maxLen → D.atKey (.string h.data.toList) (.lit (.int .i64 0)) = .lit (.int .i64 ((firstI hs h).getD 0)) ∧ Maps.has D (.string h.data.toList) = (firstI hs h).isSome
theorem zero_int (w : World) : (zeroValue 3).run Tryz.prog w = .ok (.int .i64 0) w := by kernel_rfl
theorem MapI.made (w : World) : MapI (w.alloc (.map #[] 0)) w.heap.size [] := ⟨.map [], World.ownsMap_made _ _ _ _, ⟨_, rfl⟩, fun h _ => ⟨by simp [DataW.atKey, firstI], rfl⟩⟩
theorem MapI.lt {w : World} {b : Nat} {hs : List (ByteArray × Int)} (h : MapI w b hs) : b < w.heap.size := h.choose_spec.1.lt
theorem MapI.same {w w' : World} {b : Nat} {hs : List (ByteArray × Int)} (h : MapI w b hs) (hk : w'.heap[b]? = w.heap[b]?) : MapI w' b hs := by
 obtain ⟨D, ⟨es, clock, hb, F, hs, hD⟩, hm, hat⟩ := h; exact ⟨D, ⟨es, clock, hk.trans hb, F, hs, hD⟩, hm, hat⟩
theorem MapI.isMap {w : World} {b : Nat} {hs : List (ByteArray × Int)} (h : MapI w b hs) : ∃ es clock, w.heap[b]? = some (.map es clock) := by
 obtain ⟨D, ⟨es, clock, hb, _⟩, _⟩ := h; exact ⟨es, clock, hb⟩
theorem MapI.look {w : World} {b : Nat} {hs : List (ByteArray × Int)} (h : MapI w b hs) (x : ByteArray) (hx : x.size ≤ maxLen) : (Instr.lookup 43 (.map (some b)) (.string x) true).run Tryz.prog w = .ok (.tuple #[.int .i64 ((firstI hs x).getD 0), .bool (firstI hs x).isSome]) w := by
 obtain ⟨D, ho, _, hat⟩ := h; obtain ⟨v, ps, hrun, hv⟩ := ho.look_ok (Maps.string_keyed Tryz.underlying9) Tryz.underlying43 (zero_int _) (plainElem_int Tryz.underlying3 Zq2) (keyOf_string_mk Tryz.underlying9 hx); obtain ⟨h1, h2⟩ := hat x hx; rw [h1] at hv; obtain ⟨c, rfl, hc, _⟩ := plainElem_int_inv Tryz.underlying3 hv; rw [hrun, h2]; simp only [Prod.mk.injEq, DataW.lit.injEq, Lit.int.injEq, true_and, and_true] at hc; rw [hc.1]
theorem firstI_append (x : ByteArray) (i : Int) (y : ByteArray) : ∀ hs : List (ByteArray × Int), firstI (hs ++ [(x, i)]) y = match firstI hs y with | some v => some v | none => if x.data.toList = y.data.toList then some i else none
 | [] => by simp [firstI]
 | (z, j) :: r => by
  have ih := firstI_append x i y r
  by_cases c : z.data.toList = y.data.toList
  ·simp [firstI, c]
  ·simp only [List.cons_append, firstI, if_neg c, ih]
theorem MapI.put {w : World} {b : Nat} {hs : List (ByteArray × Int)} (h : MapI w b hs) (hn : hs.length < maxLen) (x : ByteArray) (hx : x.size ≤ maxLen) (i : Int) (hi : (Lit.int .i64 i).wf = true) (habs : firstI hs x = none) : ∃ w', (Instr.mapUpdate 43 (.map (some b)) (.string x) (.int .i64 i)).run Tryz.prog w = .ok () w' ∧ MapI w' b (hs ++ [(x, i)]) ∧ w.grownBy w' (some b) := by
 obtain ⟨D, ho, hm, hat⟩ := h; obtain ⟨w', hrun, ho', hg⟩ := ho.update (Maps.string_keyed Tryz.underlying9) Tryz.underlying43 hn (keyOf_string_mk Tryz.underlying9 hx) (plainElem_int Tryz.underlying3 hi); refine ⟨w', hrun, ⟨_, by rw [List.length_append]; exact ho', ?_, fun y hy => ?_⟩, hg⟩; (·obtain ⟨es, rfl⟩ := hm; exact ⟨_, rfl⟩)
 ·rw [firstI_append]
  by_cases e : y = x
  ·subst e; rw [Maps.atKey_put_same hm (by simp [WideAt.IsKeyLit]), Maps.has_put_same hm (by simp [WideAt.IsKeyLit]), habs]
   simp
  ·have e2 : ¬ y.data.toList = x.data.toList := fun h2 => e (ba_ext h2)
   have e3 : ¬ x.data.toList = y.data.toList := fun h2 => e2 h2.symm
   rw [Maps.atKey_put_other (by simpa using e2), Maps.has_put_other (by simpa using e2), (hat y hy).1, (hat y hy).2]; cases firstI hs y <;> simp [e3]
theorem wpList_mapI {ops : Array Oper} {rest : List Oper} {o : Oper} {a : Act} {Q : Exit → Act → World → Prop} (W : World) (hg : o.guard = none) (m x v : Operand) (hop : o.op = Op.mapUpdate 43 m x v)
  (b : Nat) (hs : List (ByteArray × Int)) (hm : a.eval m = .map (some b)) (h : MapI W b hs) (hn : hs.length < maxLen) (y : ByteArray) (hx : a.eval x = .string y) (hy : y.size ≤ maxLen) (i : Int) (hv : a.eval v = .int .i64 i) (hi : (Lit.int .i64 i).wf = true) (habs : firstI hs y = none)
  (hK : ∀ w', MapI w' b (hs ++ [(y, i)]) → W.grownBy w' (some b) → wpList Tryz.prog ops Q rest (a.put o.dst undef) w') : wpList Tryz.prog ops Q (o :: rest) a W := by
 refine wpList_plain hg fun K' hK' => ?_
 obtain ⟨w', hrun, r1, r2⟩ := h.put hn y hy i hi habs; unfold Oper.wp
 simp [execOp, hop, hm, hx, hv, hrun, Result.andThen]
 exact hK' _ _ (hK w' r1 r2)
theorem MapI.below {w w' : World} {b : Nat} {hs : List (ByteArray × Int)} (h : MapI w b hs) (hb : Below w.heap.size w w') : MapI w' b hs := h.same (hb.block b h.lt)
structure WrS (w0 W : World) (g mb : Nat) (vb vt : Value) (B T : List Int) (hs : List (ByteArray × Int)) : Prop where
 bel : Below w0.heap.size w0 W
 lo : w0.heap.size ≤ g
 lom : w0.heap.size ≤ mb
 blk : W.heap[g]? = some (.cells #[vb, vt, .map (some mb)] 45 (0, 0))
 rb : Kd.R (Kd.int .u8) 5 W w0.heap.size (fun k => some k ≠ vt.ownBlock) vb B
 rt : Kd.R (Kd.int .u8) 5 W w0.heap.size (fun k => some k ≠ vb.ownBlock) vt T
 mp : MapI W mb hs
def KeptT (W W2 : World) : Prop := W.heap.size ≤ W2.heap.size ∧ ∀ (k : Nat) (cs : Array Value) (t : Nat), W.heap[k]? = some (Obj.cells cs t (0, 0)) → t ≠ 5 → t ≠ 45 → W2.heap[k]? = some (Obj.cells cs t (0, 0))
theorem KeptT.refl (W : World) : KeptT W W := ⟨Nat.le_refl _, fun _ _ _ h _ _ => h⟩
theorem KeptT.trans {W W2 W3 : World} (h : KeptT W W2) (k : KeptT W2 W3) : KeptT W W3 := ⟨Nat.le_trans h.1 k.1, fun i cs t hi h1 h2 => k.2 i cs t (h.2 i cs t hi h1 h2) h1 h2⟩
theorem KeptT.of_below {W W2 : World} (h : Below W.heap.size W W2) : KeptT W W2 := ⟨h.size, fun _ _ _ hi _ _ => blk_below hi h⟩
theorem KeptT.below {W W2 W3 : World} (h : KeptT W W2) (k : Below W2.heap.size W2 W3) : KeptT W W3 := h.trans (.of_below k)
theorem own_bytes {W : World} {base : Nat} {ok : Nat → Prop} {v : Value} {xs : List Int} (h : Kd.R (Kd.int .u8) 5 W base ok v xs) {k : Nat} (hk : v.ownBlock = some k) : k < W.heap.size ∧ base ≤ k ∧ ∃ cs, W.heap[k]? = some (.cells cs 5 (0, 0)) := by
 have h1 := Kd.R_bound h; obtain ⟨_, h2, h3, q, hq, cs, h4⟩ := h1.1 k hk
 have : q = 5 := by simpa [Kd.int, Kd.scalar] using hq
 subst this; exact ⟨h3, h2, cs, h4⟩
section
variable {w0 W W2 : World} {g mb : Nat} {vb vt : Value} {B T : List Int} {hs : List (ByteArray × Int)}
theorem WrS.below (h : WrS w0 W g mb vb vt B T hs) (hb : Below W.heap.size W W2) : WrS w0 W2 g mb vb vt B T hs := ⟨h.bel.trans (hb.mono h.bel.size), h.lo, h.lom, blk_below h.blk hb, Kd.R_below h.rb hb, Kd.R_below h.rt hb, h.mp.below hb⟩
theorem WrS.grewB (h : WrS w0 W g mb vb vt B T hs) {v1 : Value} {B1 : List Int} (hg : W.grownBy W2 vb.ownBlock) (hat : v1.ownBlock = vb.ownBlock ∨ ∃ b, v1.ownBlock = some b ∧ W.heap.size ≤ b) (hr : Kd.R (Kd.int .u8) 5 W2 w0.heap.size (fun k => some k ≠ vt.ownBlock) v1 B1) (hb : Below w0.heap.size w0 W2) :
  WrS w0 (W2.setCell ⟨g, 0, none⟩ v1) g mb v1 vt B1 T hs ∧ KeptT W (W2.setCell ⟨g, 0, none⟩ v1) := by
 have hne : ∀ {v : Value} {W' : World} {ok : Nat → Prop} {xs : List Int}, Kd.R (Kd.int .u8) 5 W' w0.heap.size ok v xs → W'.heap[g]? = some (.cells #[vb, vt, .map (some mb)] 45 (0, 0)) → some g ≠ v.ownBlock := fun h1 h2 e => by
  obtain ⟨_, _, cs, h3⟩ := own_bytes h1 e.symm; rw [h2] at h3
  simp at h3
 have b2 : W2.heap[g]? = some (.cells #[vb, vt, .map (some mb)] 45 (0, 0)) := blk_grown h.blk hg (hne h.rb h.blk)
 have hvt : ∀ k, vt.ownBlock = some k → some k ≠ vb.ownBlock := fun k hk => h.rt.1 k hk
 have rt2 : Kd.R (Kd.int .u8) 5 W2 w0.heap.size (fun k => some k = vt.ownBlock) vt T := Kd.R_grown (Kd.R_tight rfl h.rt) hg (fun k hk e => hvt k hk.symm e)
 have mp2 : MapI W2 mb hs := by
  obtain ⟨es, ck, hm⟩ := h.mp.isMap; refine h.mp.same (hg.block mb h.mp.lt (fun e => ?_)); obtain ⟨_, _, cs, h3⟩ := own_bytes h.rb e.symm; rw [hm] at h3
  simp at h3
 have hgm : mb ≠ g := fun e => by
  obtain ⟨es, ck, hm⟩ := mp2.isMap; rw [e, b2] at hm
  simp at hm
 refine ⟨⟨hb.setCell h.lo _, h.lo, h.lom, blk_put b2 0 _ rfl, Kd.R_far (Kd.R_types hr b2 (by intro q hq; simp [Kd.int, Kd.scalar] at hq; subst hq; decide)) (fun k hk => hk.2) _ |> fun z => Kd.R_mono z (fun k hk => hk.1), ?_, ?_⟩, ?_, ?_⟩; (·have z := Kd.R_far (Kd.R_types rt2 b2 (by intro q hq; simp [Kd.int, Kd.scalar] at hq; subst hq; decide)) (p := ⟨g, 0, none⟩) (fun k hk => hk.2) v1; refine Kd.R_mono z (fun k hk e => ?_); have e1 := hk.1; exact hr.1 k e.symm e1); (·exact mp2.same (Below.heap_setCell W2 ⟨g, 0, none⟩ v1 mb hgm))
 ·have : (W2.setCell ⟨g, 0, none⟩ v1).heap.size = W2.heap.size := by simp
  rw [this]; exact hg.size
 ·intro k cs t hk h1 h2
  have hkg : k ≠ g := fun e => by
   rw [e, h.blk] at hk; simp only [Option.some.injEq, Obj.cells.injEq] at hk; exact h2 hk.2.1.symm
  refine (Below.heap_setCell W2 ⟨g, 0, none⟩ v1 k hkg).trans ?_; refine (hg.block k (blk_lt hk) (fun e => ?_)).trans hk; obtain ⟨_, _, cs2, h3⟩ := own_bytes h.rb e.symm; rw [hk] at h3; simp only [Option.some.injEq, Obj.cells.injEq] at h3; exact h1 h3.2.1
theorem WrS.freshB (h : WrS w0 W g mb vb vt B T hs) (k : Nat) (hk : W.heap.size ≤ k) : some k ≠ vt.ownBlock := fun e => by
 have := (own_bytes h.rt e.symm).1; omega
theorem WrS.freshT (h : WrS w0 W g mb vb vt B T hs) (k : Nat) (hk : W.heap.size ≤ k) : some k ≠ vb.ownBlock := fun e => by
 have := (own_bytes h.rb e.symm).1; omega
theorem WrS.neB (h : WrS w0 W g mb vb vt B T hs) : some g ≠ vb.ownBlock := fun e => by
 obtain ⟨_, _, cs, h3⟩ := own_bytes h.rb e.symm; rw [h.blk] at h3
 simp at h3
theorem WrS.neT (h : WrS w0 W g mb vb vt B T hs) : some g ≠ vt.ownBlock := fun e => by
 obtain ⟨_, _, cs, h3⟩ := own_bytes h.rt e.symm; rw [h.blk] at h3
 simp at h3
end
def WrM (w0 W W2 : World) (g mb : Nat) (B T : List Int) (hs : List (ByteArray × Int)) : Prop := ∃ vb vt, WrS w0 W2 g mb vb vt B T hs ∧ KeptT W W2
set_option maxRecDepth 100000 in
set_option maxHeartbeats 2000000 in
theorem writer_cell.calls (v : Int) (g mb : Nat) (w0 W : World) (vb vt : Value) (B T : List Int) (hs : List (ByteArray × Int)) (hv0 : 0 ≤ v) (hv1 : v < 4294967296) (hS : WrS w0 W g mb vb vt B T hs) (hl : B.length ≤ 1099511627776) :
  Calls Tryz.prog 14 #[.pointer (some ⟨g, 0, none⟩), .int .u32 v] W fun e w' => e = .returned (.tuple #[]) ∧ WrM w0 W w' g mb (B ++ cellB v) T hs := by
 have HS := AK hS; have HPUT := AK (fun W2 : World => words_Put.calls 6 none 0 [] v (cellB v) W2 (Kd.C_nil _ _) (Nat.le_refl _) (put_four [] v hv0 hv1 Zq7)); have k0 : W.cell? ⟨g, 0, none⟩ = some vb := (blk_cell hS.blk 0).trans rfl; have HL := AK hl; clear hS hl hv0 hv1; go_enter Tryz.func14, Tryz.ntmps14; go_wp2; have HS2 := AK (HS.out.below (W2 := W.drew) (below_drew1 (Below.refl _ _)))
 have HK2 : Aside0 (KeptT W W.drew) := ⟨KeptT.of_below (below_drew1 (Below.refl _ _))⟩
 refine start_ (n := 11) (S := fun w' => w'.cell? ⟨g, 0, none⟩ = some vb) (ds := [10]) #[false, false, false, false, false, false, false, false, false, false, false] Zq3 rfl rfl (((blk_cell HS2.out.blk 0).trans rfl)) (fun hHeld => ?_); refine pure_ (i := 0) (N := some 4) (v := ?_) (a' := ?_) #[true, false, false, false, false, false, false, false, false, false, false] rfl rfl Zq3 (fun _ _ _ h => h) (Or.inl ⟨Zq9, ?_⟩) ?_ ?_; rotate_left; (·intro w'; go_simp; with_reducible rfl); rotate_left; (·simp only [Sx]; rfl); refine pure_ (i := 1) (N := some 5) (v := ?_) (a' := ?_) #[true, true, false, false, false, false, false, false, false, false, false] rfl rfl Zq3 (fun _ _ _ h => h) (Or.inl ⟨Zq9, ?_⟩) ?_ ?_; rotate_left; (·intro w'; go_simp; with_reducible rfl); rotate_left; (·simp only [Sx]; rfl); refine pure_ (i := 2) (N := some 6) (v := ?_) (a' := ?_) #[true, true, true, false, false, false, false, false, false, false, false] rfl rfl Zq3 (fun _ _ _ h => h) (Or.inl ⟨Zq9, ?_⟩) ?_ ?_; rotate_left; (·intro w'; go_simp; with_reducible rfl); rotate_left; (·simp only [Sx]; rfl); refine pure_ (i := 3) (N := some 7) (v := ?_) (a' := ?_) #[true, true, true, true, false, false, false, false, false, false, false] rfl rfl Zq3 (fun _ _ _ h => h) (Or.inl ⟨Zq9, ?_⟩) ?_ ?_; rotate_left; (·intro w'; go_simp; with_reducible rfl); rotate_left; (·simp only [Sx]; rfl); refine pure_ (i := 5) (N := some 9) (v := ?_) (a' := ?_) #[true, true, true, true, false, true, false, false, false, false, false] rfl rfl Zq3 (fun _ _ _ h => h) (Or.inl ⟨Zq9, ?_⟩) ?_ ?_; rotate_left; (·intro w'; go_simp; with_reducible rfl); rotate_left; (·simp only [Sx]; rfl); refine take_ (i := 4) (N := some 8) (v := ?_) (a' := ?_) #[true, true, true, true, true, true, false, false, false, false, false] rfl rfl Zq3 (fun _ _ _ h => h) (Or.inl ⟨Zq9, ?_⟩) hHeld ?_ ?_; rotate_left; (·intro w' s0; go_simp; with_reducible rfl); rotate_left; (·simp only [Sx]; rfl); refine one_ (i := 6) (N := some 10) #[true, true, true, true, true, true, true, false, false, false, false] rfl rfl Zq3 Zq2 (fun K hK => ?_); refine goes_ Tryz.func17 Zq3 rfl #[.slice none 0 0, .int .u32 v] Zq9 rfl rfl Zq33 ?_; refine (HPUT.out _).mono ?_; rintro e w' ⟨v0, rfl, hr, hb⟩; obtain ⟨Av, cv, rfl, hcv, hC⟩ := Kd.R_reads hr; have HC1 := AK hC; have HS3 := AK (HS2.out.below hb); have HK3 := AK (HK2.out.below hb); clear hC hb hr; refine ⟨_, rfl, ?_⟩; refine hK.out _ _ (((blk_cell HS3.out.blk 0).trans rfl)) (fun hHeld => ?_); clear hK K; refine norm_ (a' := ?_) ?_ ?_; rotate_left; (·show Act.put _ (some 10) _ = _; simp only [Sx]; rfl); refine one_ (i := 7) (N := some 11) #[true, true, true, true, true, true, true, true, false, false, false] rfl rfl Zq3 Zq2 (fun K hK => ?_); refine Kd.R_append_rows_step (Kd.int .u8) (w0 := w0) w0.heap.size Zq9 (.tmp 8) (.tmp 10) 32 5 (.int .u8 0) 1 rfl Tryz.underlying32 info5 rfl Zq2 Zq1 vb B (cellB v) _ _ _ (fun k => some k ≠ vt.ownBlock) (fun _ => False) rfl rfl HS3.out.rb ?aR (fun _ _ h => h) (fun _ h => h.elim) HS3.out.freshB HS3.out.bel HS3.out.bel.size ?aL ?_
 case aR => exact HC1.out
 case aL => have := HL.out; have := cellB_length v; omega
 intro v1 w1 ho hb hg hat
 obtain ⟨B1, hB1⟩ : ∃ B1, B1 = B ++ cellB v := ⟨_, rfl⟩
 rw [← hB1] at ho; obtain ⟨A1, c1, rfl⟩ := Kd.R_slice ho; have HG := AK (HS3.out.grewB hg hat ho hb); have kb := blk_grown HS3.out.blk hg HS3.out.neB; have kf : w1.frozen? ⟨g, 0, none⟩ = false := blk_frozen kb 0; have kc : w1.cell? ⟨g, 0, none⟩ = some vb := (blk_cell kb 0).trans rfl; have HB1 := AK hB1; clear hg hat ho hb kb hB1; refine hK.out _ _ (kc) (fun hHeld => ?_); clear hK K; refine norm_ (a' := ?_) ?_ ?_; rotate_left; (·show Act.put _ (some 11) _ = _; simp only [Sx]; rfl); refine pure_ (i := 8) (N := some 12) (v := ?_) (a' := ?_) #[true, true, true, true, true, true, true, true, true, false, false] rfl rfl Zq3 (fun _ _ _ h => h) (Or.inl ⟨Zq9, ?_⟩) ?_ ?_; rotate_left; (·intro w'; go_simp; with_reducible rfl); rotate_left; (·simp only [Sx]; rfl); refine pure_ (i := 9) (N := some 13) (v := ?_) (a' := ?_) #[true, true, true, true, true, true, true, true, true, true, false] rfl rfl Zq3 (fun _ _ _ h => h) (Or.inl ⟨Zq9, ?_⟩) ?_ ?_; rotate_left; (·intro w'; go_simp; with_reducible rfl); rotate_left; (·simp only [Sx]; rfl); refine last_ (i := 10) (N := none) #[true, true, true, true, true, true, true, true, true, true, true] rfl rfl Zq3 Zq2 (fun K hK => ?_); refine skip_ (w1 := ?_) Zq9 rfl ?_ ?_; rotate_left; (·go_simp; rfl); refine hK.out _ _ ?_; clear hK K; refine done_ Zq3 ?_; go_wp2
 first | go_end0 | ((try simp only [Exit.inBlock, Exit.then]); refine bodyPost_ret (results_none rfl _ _ _) rfl ?_)
 rw [← HB1.out]; exact ⟨rfl, _, _, HG.out.1, HK3.out.trans HG.out.2⟩
def padW (l : List Int) : List Int := List.replicate (padN l.length).toNat 0
end Go.Proofs.YtkopmkinlanhoaaGreat.PE

namespace Go.Proofs.YtkopmkinlanhoaaGreat.PE
open Go.RowKit Go.Proofs.YtkopmkinlanhoaaGreatW.PrintWords Go.Proofs.YtkopmkinlanhoaaGreatW.PrintLast Go.Proofs.YtkopmkinlanhoaaGreatW.PrintMore
attribute [local go_sem] max2_int min2_int max_two min_two max_three min_three max_four min_four
open Go.Proofs.YtkopmkinlanhoaaGreat.Aid Go.Proofs.YtkopmkinlanhoaaGreat.Rdr
set_option maxRecDepth 100000 in
set_option maxHeartbeats 2000000 in
theorem writer_bytes.calls (A : Option Addr) (c : Nat) (l : List Int) (g mb : Nat) (w0 W : World) (vb vt : Value) (B T : List Int) (hs : List (ByteArray × Int)) (hC : Kd.C (Kd.int .u8) W A l.length l) (hS : WrS w0 W g mb vb vt B T hs) (hl : B.length + l.length ≤ 1099511627776) :
  Calls Tryz.prog 30 #[.pointer (some ⟨g, 0, none⟩), .slice A l.length c] W fun e w' => e = .returned (.tuple #[]) ∧ WrM w0 W w' g mb (B ++ l ++ padW l) T hs := by
 have HS1 := AK hS; have HC := AK hC; have HL0 := AK hl; have k0 : W.cell? ⟨g, 0, none⟩ = some vb := (blk_cell hS.blk 0).trans rfl
 have hn0 : (0 : Int) ≤ (l.length : Int) := by omega
 obtain ⟨p, hp⟩ : ∃ p, p = padN (l.length : Int) := ⟨_, rfl⟩
 have HPAD := AK (fun W => words_Pad.calls (l.length : Int) p W (by rw [hp]; exact pad_f _))
 have HPP : Aside0 (padW l = List.replicate p.toNat 0) := ⟨by unfold padW; rw [hp]⟩
 have hp2 := padN_eq (l.length : Int) hn0
 have HP0 : Aside0 (0 ≤ p) := ⟨Zq1⟩
 have HP1 : Aside0 (p ≤ 3) := ⟨Zq1⟩
 clear hp hp2 hn0 hS hC hl; go_enter Tryz.func30, Tryz.ntmps30; go_wp2_with ((with_reducible refine gate_builtin (b := .append) (xs := #[.tmp 8, .tmp 9]) rfl ?_); at_builtin; refine Kd.R_append_rows (Kd.int .u8) (w0 := w0) w0.heap.size rfl (.tmp 8) (.tmp 9) 32 5 (.int .u8 0) 1 rfl Tryz.underlying32 info5 rfl Zq2 Zq1 vb B l _ _ _ (fun k => some k ≠ vt.ownBlock) (fun _ => False) rfl rfl HS1.out.rb ?aR (fun _ _ h => h) (fun _ h => h.elim) HS1.out.freshB HS1.out.bel HS1.out.bel.size ?aL ?_; (case aR => exact HC.out); (case aL => have := HL0.out; omega); intro v1 w1 ho hb hg hat; obtain ⟨B1, hB1⟩ : ∃ B1, B1 = B ++ l := ⟨_, rfl⟩; rw [← hB1] at ho; obtain ⟨A1, c1, rfl⟩ := Kd.R_slice ho; have HG := AK (HS1.out.grewB hg hat ho hb); have kb := blk_grown HS1.out.blk hg HS1.out.neB; have kf : w1.frozen? ⟨g, 0, none⟩ = false := blk_frozen kb 0; have kc : w1.cell? ⟨g, 0, none⟩ = some vb := (blk_cell kb 0).trans rfl; have HB0 := AK hB1; clear hg hat ho hb kb hB1)
 have HL : Aside0 (B1.length ≤ 1099511627776) := ⟨by rw [HB0.out, List.length_append]; exact HL0.out⟩
 have HW1 := AK HG.out.1; have HKa := AK HG.out.2; clear HG HS1 k0 kf kc HC; generalize hvx : Value.slice A1 B1.length c1 = vx at HW1 HKa ⊢; generalize w1.setCell ⟨g, 0, none⟩ vx = w2 at HW1 HKa ⊢; clear hvx; have HS2 := AK (HW1.out.below (W2 := w2.drew) (below_drew1 (Below.refl _ _)))
 have HK2 : Aside0 (KeptT W w2.drew) := ⟨HKa.out.trans (KeptT.of_below (below_drew1 (Below.refl _ _)))⟩
 clear HW1 HKa; have k0 : w2.drew.cell? ⟨g, 0, none⟩ = some vx := (blk_cell HS2.out.blk 0).trans rfl; refine start_ (n := 12) (S := fun w' => w'.cell? ⟨g, 0, none⟩ = some vx) (ds := [11]) #[false, false, false, false, false, false, false, false, false, false, false, false] Zq3 rfl rfl (((blk_cell HS2.out.blk 0).trans rfl)) (fun hHeld => ?_); refine pure_ (i := 0) (N := some 13) (v := ?_) (a' := ?_) #[true, false, false, false, false, false, false, false, false, false, false, false] rfl rfl Zq3 (fun _ _ _ h => h) (Or.inl ⟨Zq9, ?_⟩) ?_ ?_; rotate_left; (·intro w'; go_simp; with_reducible rfl); rotate_left; (·simp only [Sx]; rfl); refine pure_ (i := 1) (N := some 14) (v := ?_) (a' := ?_) #[true, true, false, false, false, false, false, false, false, false, false, false] rfl rfl Zq3 (fun _ _ _ h => h) (Or.inl ⟨Zq9, ?_⟩) ?_ ?_; rotate_left; (·intro w'; go_simp; with_reducible rfl); rotate_left; (·simp only [Sx]; rfl); refine pure_ (i := 2) (N := some 15) (v := ?_) (a' := ?_) #[true, true, true, false, false, false, false, false, false, false, false, false] rfl rfl Zq3 (fun _ _ _ h => h) (Or.inl ⟨Zq9, ?_⟩) ?_ ?_; rotate_left; (·intro w'; go_simp; with_reducible rfl); rotate_left; (·simp only [Sx]; rfl); refine pure_ (i := 3) (N := some 16) (v := ?_) (a' := ?_) #[true, true, true, true, false, false, false, false, false, false, false, false] rfl rfl Zq3 (fun _ _ _ h => h) (Or.inl ⟨Zq9, ?_⟩) ?_ ?_; rotate_left; (·intro w'; go_simp; with_reducible rfl); rotate_left; (·simp only [Sx]; rfl); refine pure_ (i := 5) (N := some 18) (v := ?_) (a' := ?_) #[true, true, true, true, false, true, false, false, false, false, false, false] rfl rfl Zq3 (fun _ _ _ h => h) (Or.inl ⟨Zq9, ?_⟩) ?_ ?_; rotate_left; (·intro w'; go_simp; with_reducible rfl); rotate_left; (·simp only [Sx]; rfl); refine pure_ (i := 6) (N := some 19) (v := ?_) (a' := ?_) #[true, true, true, true, false, true, true, false, false, false, false, false] rfl rfl Zq3 (fun _ _ _ h => h) (Or.inl ⟨Zq9, ?_⟩) ?_ ?_; rotate_left; (·intro w'; go_simp; with_reducible rfl); rotate_left; (·simp only [Sx]; rfl); refine take_ (i := 4) (N := some 17) (v := ?_) (a' := ?_) #[true, true, true, true, true, true, true, false, false, false, false, false] rfl rfl Zq3 (fun _ _ _ h => h) (Or.inl ⟨Zq9, ?_⟩) hHeld ?_ ?_; rotate_left; (·intro w' s0; go_simp; with_reducible rfl); rotate_left; (·simp only [Sx]; rfl); refine one_ (i := 7) (N := some 20) #[true, true, true, true, true, true, true, true, false, false, false, false] rfl rfl Zq3 Zq2 (fun K hK => ?_); refine goes_ Tryz.func49 Zq3 rfl #[.int .i64 (l.length : Int)] Zq9 rfl rfl Zq33 ?_; refine (HPAD.out _).mono ?_; rintro e w' ⟨rfl, ⟨nd, rfl⟩⟩; have HS3 := AK (HS2.out.below (pw_below_drewN (Below.refl _ _) nd)); have HK3 := AK (HK2.out.below (pw_below_drewN (Below.refl _ _) nd)); refine ⟨_, rfl, ?_⟩; refine hK.out _ _ (((blk_cell HS3.out.blk 0).trans rfl)) (fun hHeld => ?_); clear hK K; refine norm_ (a' := ?_) ?_ ?_; rotate_left; (·show Act.put _ (some 20) _ = _; simp only [Sx]; rfl); refine one_ (i := 8) (N := some 21) #[true, true, true, true, true, true, true, true, true, false, false, false] rfl rfl Zq3 Zq2 (fun K hK => ?_); refine Kd.R_append_zeros_step (Kd.int .u8) (w0 := w0) w0.heap.size Zq9 (.tmp 17) (.tmp 20) 32 3 5 (.int .u8 0) 1 rfl Tryz.underlying32 Tryz.underlying3 info5 rfl Zq2 Zq1 vx B1 0 p (fun k => some k ≠ vt.ownBlock) rfl rfl ?aZ HS3.out.freshB HS3.out.rb HP0.out HS3.out.bel HS3.out.bel.size ?aL ?_
 case aZ => first | exact rfl | simp [Kd.int, Kd.scalar]
 case aL => have := HL.out; have := HP1.out; omega
 intro v1 w1 ho hb hg hat
 obtain ⟨B2, hB2⟩ : ∃ B2, B2 = B1 ++ List.replicate p.toNat 0 := ⟨_, rfl⟩
 rw [← hB2] at ho; obtain ⟨A2, c2, rfl⟩ := Kd.R_slice ho; have HG := AK (HS3.out.grewB hg hat ho hb); have kb := blk_grown HS3.out.blk hg HS3.out.neB; have kf : w1.frozen? ⟨g, 0, none⟩ = false := blk_frozen kb 0; have kc : w1.cell? ⟨g, 0, none⟩ = some vx := (blk_cell kb 0).trans rfl; have HB2 := AK hB2; clear hg hat ho hb kb hB2; refine hK.out _ _ (kc) (fun hHeld => ?_); clear hK K; refine norm_ (a' := ?_) ?_ ?_; rotate_left; (·show Act.put _ (some 21) _ = _; simp only [Sx]; rfl); refine pure_ (i := 9) (N := some 22) (v := ?_) (a' := ?_) #[true, true, true, true, true, true, true, true, true, true, false, false] rfl rfl Zq3 (fun _ _ _ h => h) (Or.inl ⟨Zq9, ?_⟩) ?_ ?_; rotate_left; (·intro w'; go_simp; with_reducible rfl); rotate_left; (·simp only [Sx]; rfl); refine pure_ (i := 10) (N := some 23) (v := ?_) (a' := ?_) #[true, true, true, true, true, true, true, true, true, true, true, false] rfl rfl Zq3 (fun _ _ _ h => h) (Or.inl ⟨Zq9, ?_⟩) ?_ ?_; rotate_left; (·intro w'; go_simp; with_reducible rfl); rotate_left; (·simp only [Sx]; rfl); refine last_ (i := 11) (N := none) #[true, true, true, true, true, true, true, true, true, true, true, true] rfl rfl Zq3 Zq2 (fun K hK => ?_); refine skip_ (w1 := ?_) Zq9 rfl ?_ ?_; rotate_left; (·go_simp; rfl); refine hK.out _ _ ?_; clear hK K; refine done_ Zq3 ?_; go_wp2
 first | go_end0 | ((try simp only [Exit.inBlock, Exit.then]); refine bodyPost_ret (results_none rfl _ _ _) rfl ?_)
 rw [HPP.out, ← HB0.out, ← HB2.out]; exact ⟨rfl, _, _, HG.out.1, HK3.out.trans HG.out.2⟩
section
variable {P : Program} {w : World}
theorem str_at (base : Nat) (t u ty e : TypeId) (i : TypeInfo) (ht : P.underlying t = some (.slice e)) (hu : P.underlying u = some .string) (hi : P.info? e = some i) (hz : i.zero = some (.int .u8 0)) (hsize : i.size = 1) (hby : i.bytes = 1)
  (v : Value) (n : Nat) (xs : List Value) (hown : w.ownsRow base e 1 v n xs) (s : ByteArray) (hb : n + s.size ≤ 140737488355328) {v' : Value} {w' : World} (hr : (Builtin.append_ #[t, u] ty #[v, .string s]).run P w = .ok v' w') :
  v'.ownBlock = v.ownBlock ∨ ∃ b, v'.ownBlock = some b ∧ w.heap.size ≤ b := by
 have hxl : xs.length = n := by simpa using hown.1
 rcases hown.2 with ⟨rfl, rfl⟩ | ⟨g, cap, cur, rfl, hbg, hg, hnc, hcm, hcs, htake⟩
 ·by_cases hm : s.size = 0
  ·have hf := Lib.run_firstCells_string (P := P) w 1 s; rw [hm] at hf
   simp [Builtin.append_, run_underlying ht, run_underlying hu, sizeOf, typeInfo, hi, hsize, Builtin.lenOf, hm, hf] at hr
   left
   rw [← hr.1]
  ·have h2 := run_append_nil_string (P := P) w t u ty e i (.int .u8 0) ht hu hi hz s Zq1 Zq1 (by rw [hby]; omega); rw [h2] at hr; injection hr with h3 h4
   right
   exact ⟨w.heap.size, by rw [← h3]; rfl, Nat.le_refl _⟩
 ·by_cases hroom : n + s.size ≤ cap
  ·have hcs' : cur.size = cap := by simpa using hcs
   have h2 := Lib.run_append_room_string (P := P) w t u ty e i ht hu hi hsize g n cap cur hg s hroom Zq1; rw [h2] at hr; injection hr with h3 h4
   left
   rw [← h3]; rfl
  ·have holds : ∀ j u, xs[j]? = some u → w.cell? ((⟨g, 0, none⟩ : Addr).add j) = some u := hown.cells (g := g) rfl; have h2 := Lib.run_append_grow_string (P := P) w t u ty e i (.int .u8 0) ht hu hi hz ⟨g, 0, none⟩ n cap xs (by rw [hsize]; simpa using hxl) holds s Zq1 Zq1 (by rw [hby]; exact growslice_fits Zq1 Zq1); rw [h2] at hr; injection hr with h3 h4
   right
   exact ⟨w.heap.size, by rw [← h3]; rfl, Nat.le_refl _⟩
end
section
variable {P : Program} {ops : Array Oper} {rest : List Oper} {o : Oper} {a : Act} {Q : Exit → Act → World → Prop}
theorem R_append_str {w0 W : World} (base : Nat) (hgd : o.guard = none) (s x : Operand) (t u e : TypeId)
  (ho : o.op = .call { callee := .builtin .append, args := #[s, x], argTypes := #[t, u] })
  (ht : P.underlying t = some (.slice e)) (hu : P.underlying u = some .string) (hinfo : (P.info? e).map (fun i => (i.zero, i.size, i.bytes)) = some (some (.int .u8 0), 1, 1))
  (v : Value) (xs : List Int) (y : ByteArray) (ok : Nat → Prop) (hs : a.eval s = v) (hx : a.eval x = .string y) (hfresh : ∀ k, W.heap.size ≤ k → ok k)
  (HO : Kd.R (Kd.int .u8) e W base ok v xs) (HB : Below base w0 W) (hbase : base ≤ W.heap.size) (hl : xs.length + y.size ≤ 140737488355328)
  (h : ∀ v1 w1, Kd.R (Kd.int .u8) e w1 base ok v1 (xs ++ bytesOf y) → Below base w0 w1 → W.grownBy w1 v.ownBlock → (v1.ownBlock = v.ownBlock ∨ ∃ b, v1.ownBlock = some b ∧ W.heap.size ≤ b) → wpList P ops Q rest (a.put o.dst v1) w1) :
  wpList P ops Q (o :: rest) a W := by
 obtain ⟨i0, hi, hzz⟩ := Option.map_eq_some_iff.1 hinfo; simp only [Prod.mk.injEq] at hzz; obtain ⟨hz0, hz1, hz2⟩ := hzz; have hown := Kd.own_of_R HO; obtain ⟨v1, w1, hr, h2, h3, _⟩ := Lib.run_append_own_string (P := P) W base t u o.type e i0 ht hu hi hz0 hz1 hz2 v xs.length _ hown y (by simp only [maxLen]; omega) hl hbase; have hat := str_at base t u o.type e i0 ht hu hi hz0 hz1 hz2 v xs.length _ hown y hl hr
 refine wpList_plain hgd fun K hK => ?_
 unfold Oper.wp execOp; simp only [ho, resolve, invoke, builtin, Sem.run_bind, Sem.run_pure, Result.andThen_ok, List.map_toArray, List.map_cons, List.map_nil, hs, hx, hr]
 have hl2 : (xs ++ bytesOf y).length = xs.length + y.size := by rw [List.length_append, bytesOf_length]
 have hc : encs (Value.int .u8) (xs ++ bytesOf y) = encs (Value.int .u8) xs ++ Lib.strCells y := by
  rw [encs_append]
  congr 1
  simp [encs, bytesOf, Lib.strCells]
 refine hK _ _ (h v1 w1 (Kd.R_of_own (by rw [hl2, hc]; exact h2) (fun k hk => ?_)) (HB.grown h3 hbase (Kd.R_base HO)) h3 hat)
 rcases hat with e1 | ⟨b, e1, hbb⟩
 ·exact HO.1 k (by rw [← e1]; exact hk)
 ·rw [e1] at hk; injection hk with hk; subst hk; exact hfresh _ hbb
end
section
variable {w0 W W2 : World} {g mb : Nat} {vb vt : Value} {B T : List Int} {hs : List (ByteArray × Int)}
theorem WrS.neM (h : WrS w0 W g mb vb vt B T hs) : g ≠ mb := fun e => by
 obtain ⟨es, ck, hm⟩ := h.mp.isMap; rw [← e, h.blk] at hm
 simp at hm
theorem own_ne_map {W : World} {base : Nat} {ok : Nat → Prop} {v : Value} {xs : List Int} {mb : Nat} {hs : List (ByteArray × Int)} (h : Kd.R (Kd.int .u8) 5 W base ok v xs) (hm : MapI W mb hs) : some mb ≠ v.ownBlock := fun e => by
 obtain ⟨_, _, cs, h3⟩ := own_bytes h e.symm; obtain ⟨es, ck, h4⟩ := hm.isMap; rw [h3] at h4
 simp at h4
theorem WrS.grewT (h : WrS w0 W g mb vb vt B T hs) {v1 : Value} {T1 : List Int} (hsz : W.heap.size ≤ W2.heap.size) (hg : ∀ k, k < W.heap.size → some k ≠ vt.ownBlock → W2.heap[k]? = W.heap[k]?) (hat : v1.ownBlock = vt.ownBlock ∨ ∃ b, v1.ownBlock = some b ∧ W.heap.size ≤ b) (hr : Kd.R (Kd.int .u8) 5 W2 w0.heap.size (fun k => some k ≠ vb.ownBlock) v1 T1) (hb : Below w0.heap.size w0 W2) :
  WrS w0 (W2.setCell ⟨g, 1, none⟩ v1) g mb vb v1 B T1 hs ∧ KeptT W (W2.setCell ⟨g, 1, none⟩ v1) := by
 have b2 : W2.heap[g]? = some (.cells #[vb, vt, .map (some mb)] 45 (0, 0)) := (hg g (blk_lt h.blk) h.neT).trans h.blk; have mp2 : MapI W2 mb hs := h.mp.same (hg mb h.mp.lt (own_ne_map h.rt h.mp)); have rb2 : Kd.R (Kd.int .u8) 5 W2 w0.heap.size (fun k => some k = vb.ownBlock) vb B := Kd.R_step (Kd.R_tight rfl h.rb) (fun k hk hlt => hg k hlt (h.rb.1 k hk.symm)); refine ⟨⟨hb.setCell h.lo _, h.lo, h.lom, blk_put b2 1 _ rfl, ?_, ?_, ?_⟩, ?_, ?_⟩; (·have z := Kd.R_far (Kd.R_types rb2 b2 (by intro q hq; simp [Kd.int, Kd.scalar] at hq; subst hq; decide)) (p := ⟨g, 1, none⟩) (fun k hk => hk.2) v1; refine Kd.R_mono z (fun k hk e => ?_); have e1 := hk.1; exact hr.1 k e.symm e1)
 ·exact Kd.R_far (Kd.R_types hr b2 (by intro q hq; simp [Kd.int, Kd.scalar] at hq; subst hq; decide)) (p := ⟨g, 1, none⟩) (fun k hk => hk.2) _ |> fun z => Kd.R_mono z (fun k hk => hk.1)
 ·exact mp2.same (Below.heap_setCell W2 ⟨g, 1, none⟩ v1 mb (fun e => h.neM e.symm))
 ·have : (W2.setCell ⟨g, 1, none⟩ v1).heap.size = W2.heap.size := by simp
  rw [this]; exact hsz
 ·intro k cs t hk h1 h2
  have hkg : k ≠ g := fun e => by
   rw [e, h.blk] at hk; simp only [Option.some.injEq, Obj.cells.injEq] at hk; exact h2 hk.2.1.symm
  refine (Below.heap_setCell W2 ⟨g, 1, none⟩ v1 k hkg).trans ?_; refine (hg k (blk_lt hk) (fun e => ?_)).trans hk; obtain ⟨_, _, cs2, h3⟩ := own_bytes h.rt e.symm; rw [hk] at h3; simp only [Option.some.injEq, Obj.cells.injEq] at h3; exact h1 h3.2.1
theorem WrS.mapped {hs2 : List (ByteArray × Int)} (h : WrS w0 W g mb vb vt B T hs) (hm : MapI W2 mb hs2) (hg : W.grownBy W2 (some mb)) : WrS w0 W2 g mb vb vt B T hs2 ∧ KeptT W W2 := by
 refine ⟨⟨?_, h.lo, h.lom, blk_grown h.blk hg (fun e => h.neM (by injection e)), ?_, ?_, hm⟩, hg.size, fun k cs t hk _ _ => blk_grown hk hg (fun e => ?_)⟩; (·exact h.bel.grown hg h.bel.size (fun k hk => by injection hk with hk; rw [← hk]; exact h.lom)); (·exact Kd.R_mono (Kd.R_grown (Kd.R_tight2 rfl h.rb) hg (fun k hk e => own_ne_map h.rb h.mp (e.symm.trans hk.1))) (fun k hk => hk.2)); (·exact Kd.R_mono (Kd.R_grown (Kd.R_tight2 rfl h.rt) hg (fun k hk e => own_ne_map h.rt h.mp (e.symm.trans hk.1))) (fun k hk => hk.2))
 ·obtain ⟨es, ck, h4⟩ := h.mp.isMap; injection e with e; rw [← e, hk] at h4
  simp at h4
end
theorem grown_two {W w1 w2 : World} {v v1 : Value} (h1 : W.grownBy w1 v.ownBlock) (h2 : w1.grownBy w2 v1.ownBlock) (hat : v1.ownBlock = v.ownBlock ∨ ∃ b, v1.ownBlock = some b ∧ W.heap.size ≤ b) : ∀ k, k < W.heap.size → some k ≠ v.ownBlock → w2.heap[k]? = W.heap[k]? := fun k hk hne => by
 refine (h2.block k (Nat.lt_of_lt_of_le hk h1.size) (fun e => ?_)).trans (h1.block k hk hne)
 rcases hat with h | ⟨b, hb, hbb⟩
 ·exact hne (e.trans h)
 ·rw [hb] at e; injection e with e; omega
theorem at_two {W w1 : World} {v v1 v2 : Value} (h1 : W.heap.size ≤ w1.heap.size) (h2 : v2.ownBlock = v1.ownBlock ∨ ∃ b, v2.ownBlock = some b ∧ w1.heap.size ≤ b) (hat : v1.ownBlock = v.ownBlock ∨ ∃ b, v1.ownBlock = some b ∧ W.heap.size ≤ b) : v2.ownBlock = v.ownBlock ∨ ∃ b, v2.ownBlock = some b ∧ W.heap.size ≤ b := by
 rcases h2 with h | ⟨b, hb, hbb⟩
 ·rw [h]; exact hat
 ·exact .inr ⟨b, hb, Nat.le_trans h1 hbb⟩
def textAt (T : List Int) (hs : List (ByteArray × Int)) (x : ByteArray) : Int := (firstI hs x).getD T.length
def textT (T : List Int) (hs : List (ByteArray × Int)) (x : ByteArray) : List Int := if (firstI hs x).isSome = true then T else T ++ (bytesOf x ++ [0])
def textH (T : List Int) (hs : List (ByteArray × Int)) (x : ByteArray) : List (ByteArray × Int) := if (firstI hs x).isSome = true then hs else hs ++ [(x, (T.length : Int))]
set_option maxRecDepth 100000 in
set_option maxHeartbeats 2000000 in
theorem writer_text.calls (x : ByteArray) (g mb : Nat) (w0 W : World) (vb vt : Value) (B T : List Int) (hs : List (ByteArray × Int)) (hS : WrS w0 W g mb vb vt B T hs) (hl : T.length + x.size ≤ 1099511627776) (hn : hs.length ≤ 1099511627776) :
  Calls Tryz.prog 31 #[.pointer (some ⟨g, 0, none⟩), .string x] W fun e w' => e = .returned (.int .i64 (textAt T hs x)) ∧ WrM w0 W w' g mb B (textT T hs x) (textH T hs x) := by
 have HS := AK hS; have k1 : W.cell? ⟨g, 1, none⟩ = some vt := (blk_cell hS.blk 1).trans rfl; have k2 : W.cell? ⟨g, 2, none⟩ = some (.map (some mb)) := (blk_cell hS.blk 2).trans rfl; have hlk := hS.mp.look x (by simp only [maxLen]; omega)
 obtain ⟨at_, hat_⟩ : ∃ z, z = firstI hs x := ⟨_, rfl⟩
 unfold textAt textT textH; rw [← hat_] at hlk ⊢; have HA := AK hat_; have HL := AK hl; have HN := AK hn; obtain ⟨At, ct, hvt⟩ := Kd.R_slice hS.rt; clear hS hl hat_ hn
 cases at_ with
 | some i =>
  simp only [Option.getD_some, Option.isSome_some, if_true] at hlk ⊢; go_enter Tryz.func31, Tryz.ntmps31; go_wp2; refine bodyPost_ret (results_tmp rfl _ _ _) rfl ?_; exact ⟨rfl, _, _, HS.out, KeptT.refl _⟩
 | none =>
  simp only [Option.getD_none, Option.isSome_none, Bool.false_eq_true, if_false] at hlk ⊢; subst hvt
  have h64 : (Lit.int .i64 (T.length : Int)).wf = true := by simp [Lit.wf, IntKind.min, IntKind.max, IntKind.bits, IntKind.signed]; have := HL.out; omega
  have HW := AK h64
  have HX : Aside0 (x.size ≤ maxLen) := ⟨by have := HL.out; simp only [maxLen]; omega⟩
  have HN2 : Aside0 (hs.length < maxLen) := ⟨by have := HN.out; simp only [maxLen]; omega⟩
  clear h64; go_enter Tryz.func31, Tryz.ntmps31; (go_wp2_with (first | (at_mapUpdate; refine wpList_mapI _ rfl _ _ _ rfl mb hs rfl HS.out.mp HN2.out x rfl HX.out (T.length : Int) rfl HW.out HA.out.symm ?_; intro w3 hm3 hg3; have HM3 := AK (HS.out.mapped hm3 hg3); have k3 : w3.cell? ⟨g, 1, none⟩ = some (.slice At T.length ct) := (blk_cell HM3.out.1.blk 1).trans rfl; clear hm3 hg3) | ((with_reducible refine gate_builtin (b := .append) (xs := #[.tmp 33, .tmp 34]) rfl ?_); at_builtin; refine R_append_str (w0 := w0) w0.heap.size rfl (.tmp 33) (.tmp 34) 32 9 5 rfl Tryz.underlying32 Tryz.underlying9 info5 _ T x (fun k => some k ≠ vb.ownBlock) rfl rfl HM3.out.1.freshT HM3.out.1.rt HM3.out.1.bel HM3.out.1.bel.size ?aL ?_; (case aL => have := HL.out; omega); intro v4 w4 ho4 hb4 hg4 hat4; obtain ⟨T4, hT4⟩ : ∃ T4, T4 = T ++ bytesOf x := ⟨_, rfl⟩; rw [← hT4] at ho4; have HT4 := AK hT4; obtain ⟨A4, c4, rfl⟩ := Kd.R_slice ho4; have HO4 := AK ho4; have HB4 := AK hb4; have HG4 := AK hg4; have HA4 := AK hat4; clear ho4 hb4 hg4 hat4 hT4) | ((with_reducible refine gate_builtin (b := .append) (xs := #[.tmp 35, .tmp 36]) rfl ?_); at_builtin; refine Kd.R_append (Kd.int .u8) (w0 := w0) w0.heap.size rfl (.tmp 35) (.tmp 36) 32 5 (.int .u8 0) 1 rfl Tryz.underlying32 info5 rfl Zq2 Zq1 _ T4 0 [.int .u8 0] (fun k => some k ≠ vb.ownBlock) (fun _ => False) rfl rfl ?aP (fun _ hk => hk.elim) ?aF HO4.out HB4.out HB4.out.size ?aL ?_; (case aP => exact rfl); (case aF => exact fun k hk => HM3.out.1.freshT k (Nat.le_trans HG4.out.size hk)); (case aL => have := HL.out; have h5 := HT4.out; rw [h5, List.length_append, bytesOf_length]; omega); intro v5 w5 ho5 hb5 hg5 hat5; obtain ⟨T5, hT5⟩ : ∃ T5, T5 = T4 ++ [0] := ⟨_, rfl⟩; rw [← hT5] at ho5; have HT5 := AK hT5; obtain ⟨A5, c5, rfl⟩ := Kd.R_slice ho5; have HG := AK (HM3.out.1.grewT (Nat.le_trans HG4.out.size hg5.size) (grown_two HG4.out hg5 HA4.out) (at_two HG4.out.size hat5 HA4.out) ho5 hb5); have kb := (grown_two HG4.out hg5 HA4.out _ (blk_lt HM3.out.1.blk) HM3.out.1.neT).trans HM3.out.1.blk; have kf : w5.frozen? ⟨g, 1, none⟩ = false := blk_frozen kb 1; have kc : w5.cell? ⟨g, 1, none⟩ = some (.slice At T.length ct) := (blk_cell kb 1).trans rfl; clear ho5 hb5 hg5 hat5 hT5 kb))); refine bodyPost_ret (results_tmp rfl _ _ _) rfl ?_
  have ht : T ++ (bytesOf x ++ [0]) = T5 := by rw [HT5.out, HT4.out, List.append_assoc]
  rw [ht]; exact ⟨rfl, _, _, HG.out.1, HM3.out.2.trans HG.out.2⟩
theorem bytes_C (s : ByteArray) (W : World) (b : Nat) (m c : Nat) (hm : s.size + 1 ≤ 9223372036854775807) (h0 : ∀ j, j < s.size → W.cell? ⟨b, j, none⟩ = some (.int .u8 (s.data.toList.getD j 0).toNat)) (h1 : W.cell? ⟨b, s.size, none⟩ = some (.int .u8 0)) :
  Kd.C (Kd.int .u8) W (some ⟨b, 0, none⟩) (s.size + 1) (bytesOf s ++ [0]) := by
 refine Kd.C_of_reads (d := (0 : Int)) ⟨by simp [bytesOf_length], Zq1, fun _ => ⟨_, rfl, fun j hj => ?_⟩⟩; rw [add_plain]
 by_cases hj2 : j < s.size
 ·rw [h0 j hj2]
  have h' : j < s.data.toList.length := by rw [data_length]; exact hj2
  simp [bytesOf, List.getD_eq_getElem?_getD, List.getElem?_append_left, List.getElem?_eq_getElem h', hj2]
 ·have e : j = s.size := by omega
  subst e; rw [h1]
  have h' : (bytesOf s).length ≤ s.size := by rw [bytesOf_length]; exact Nat.le_refl _
  simp [List.getD_eq_getElem?_getD, List.getElem?_append_right h', bytesOf_length]
set_option maxHeartbeats 1000000 in
theorem wpList_name {ops : Array Oper} {rest : List Oper} {o : Oper} {a : Act} {Q : Exit → Act → World → Prop} (W : World) (s : ByteArray) (hgd : o.guard = none) (sl x : Operand)
  (ho : o.op = .call { callee := .builtin .append, args := #[sl, x], argTypes := #[32, 32] })
  (hs : a.eval sl = .slice (some ⟨W.heap.size, 0, none⟩) s.size (grownCap W s.size 0 5)) (hx : a.eval x = .slice (some ⟨(Lib.bytesWorld W 5 s).heap.size, 0, none⟩) 1 1) (hl : s.size ≤ 1099511627776)
  (hK : ∀ A c w', s.size + 1 ≤ c → Kd.C (Kd.int .u8) w' A (bytesOf s ++ [0]).length (bytesOf s ++ [0]) → Below W.heap.size W w' → wpList Tryz.prog ops Q rest (a.put o.dst (.slice A (bytesOf s ++ [0]).length c)) w') :
  wpList Tryz.prog ops Q (o :: rest) a ((Lib.bytesWorld W 5 s).alloc (.cells #[.int .u8 0] 5)) := by
 obtain ⟨i0, hi, hzz⟩ := Option.map_eq_some_iff.1 info5; simp only [Prod.mk.injEq] at hzz; obtain ⟨hz0, hz1, hz2⟩ := hzz
 have hlen : (bytesOf s ++ [0]).length = s.size + 1 := by simp [bytesOf_length]
 rw [hlen] at hK; have hb0 : Below W.heap.size W ((Lib.bytesWorld W 5 s).alloc (.cells #[.int .u8 0] 5)) := below_alloc (bytes_below (Below.refl _ _) (Nat.le_refl _) _ _) _; have hnew := Lib.bytesWorld_at_new W 5 s; have hat : ((Lib.bytesWorld W 5 s).alloc (.cells #[.int .u8 0] 5)).heap[W.heap.size]? = (Lib.bytesWorld W 5 s).heap[W.heap.size]? := Below.heap_alloc _ _ _ (by rw [Lib.bytesWorld_size]; omega)
 have hcs : (Lib.bytesCells W 5 s).size = grownCap W s.size 0 5 := by
  have := grownCap_ge W s.size 0 5; have h2 : s.data.size = s.size := rfl
  simp [Lib.bytesCells, h2]
  omega
 have hcell : ∀ j, j < s.size → ((Lib.bytesWorld W 5 s).alloc (.cells #[.int .u8 0] 5)).cell? ⟨W.heap.size, j, none⟩ = some (.int .u8 (s.data.toList.getD j 0).toNat) := fun j hj => by
  rw [World.cell?_alloc_lt _ _ _ (by rw [Lib.bytesWorld_size]; simp)]; exact Lib.bytesWorld_cell W _ s j hj
 refine wpList_append_arg _ hgd sl x 32 ho 5 i0 (.int .u8 0) 1 1 Tryz.underlying32 hi hz0 hz1 hz2 rfl Zq2 W.heap.size 0 s.size (grownCap W s.size 0 5) ((bytesOf s).map (Value.int .u8)) hs (by simp [bytesOf_length]) ?_ ⟨(Lib.bytesWorld W 5 s).heap.size, 0, none⟩ 1 1 [.int .u8 0] hx Zq7 ?_ (by intro u hu; simp at hu; subst hu; rfl) ?_ (by simp only [maxLen]; omega) Zq1 ?_ ?_
 ·intro j u hu
  have hj : j < s.size := by
   have := (List.getElem?_eq_some_iff.1 hu).1
   simpa [bytesOf_length] using this
  have h' : j < s.data.toList.length := by rw [data_length]; exact hj
  simp only [Nat.zero_add]; rw [hcell j hj]
  have hu2 : ((bytesOf s).map (Value.int .u8))[j]? = some (.int .u8 (s.data.toList.getD j 0).toNat) := by
   simp [bytesOf, List.getD_eq_getElem?_getD, List.getElem?_eq_getElem h', hj]
  rw [hu2] at hu; exact hu
 ·intro j u hu
  cases j with
  | zero =>
   simp at hu
   subst hu; rw [add_plain]; exact (blk_cell (blk_new _ _) 0).trans rfl
  | succ j => simp at hu
 ·intro hroom j hj
  simp at hj
  subst hj; have e1 : W.heap.size + 0 = W.heap.size := rfl; simp only [Nat.mul_one, Nat.zero_add, Nat.add_zero]
  constructor
  ·simp only [World.cell?, hat, hnew]
   have : s.size < (Lib.bytesCells W 5 s).size := by rw [hcs]; omega
   simp [this]
  ·simp only [World.frozen?, hat, hnew, Bool.and_eq_false_iff, decide_eq_false_iff_not]
   left
   rw [hcs]; omega
 ·intro hroom
  have hsome : (((Lib.bytesWorld W 5 s).alloc (.cells #[.int .u8 0] 5)).cell? ⟨W.heap.size, s.size, none⟩).isSome = true := by
   simp only [World.cell?, hat, hnew]
   have : s.size < (Lib.bytesCells W 5 s).size := by rw [hcs]; omega
   simp [this]
  refine hK (some ⟨W.heap.size, 0, none⟩) _ _ hroom ?_ ?_; (·simp only [Nat.mul_one, Nat.zero_add, World.setCells]; refine bytes_C s _ W.heap.size 0 0 Zq1 (fun j hj => ?_) ?_; (·refine (World.cell?_setCell_other _ _ _ _ (fun e => ?_)).trans (hcell j hj); have e2 := congrArg Addr.off e; simp only at e2; omega); (·exact World.cell?_setCell_same' _ _ _ hsome)); (·simp only [Nat.mul_one, Nat.zero_add, World.setCells]; exact hb0.setCell (Nat.le_refl _) _)
 ·intro hgrow v' w' ho' hg; have hb1 : Below W.heap.size W w' := hb0.grown hg (by rw [show ((Lib.bytesWorld W 5 s).alloc (.cells #[.int .u8 0] 5)).heap.size = W.heap.size + 1 + 1 by simp [Lib.bytesWorld_size]]; omega) (fun k hk => by simp at hk); have hr : Kd.R (Kd.int .u8) 5 w' _ (fun _ => True) v' (bytesOf s ++ [0]) := Kd.R_of_own (by rw [hlen]; simpa [encs] using ho') (fun _ _ => trivial); obtain ⟨A, c, rfl, hc, hC⟩ := Kd.R_reads hr; rw [hlen] at hc hC ⊢; exact hK A c w' hc hC hb1
abbrev WSt := List Int × List Int × List (ByteArray × Int)
def totW (s : WSt) : Nat := s.1.length + s.2.1.length + s.2.2.length
def capW (s : WSt) : Option WSt := if totW s ≤ 549755813888 then some s else none
theorem capW_some {s r : WSt} (h : capW s = some r) : r = s ∧ totW s ≤ 549755813888 := by
 unfold capW at h
 split at h
 ·next h1 => injection h with h; exact ⟨h.symm, h1⟩
 ·simp at h
def wCell (v : Int) (s : WSt) : WSt := (s.1 ++ cellB v, s.2.1, s.2.2)
def wBytes (l : List Int) (s : WSt) : WSt := (s.1 ++ l ++ padW l, s.2.1, s.2.2)
def wText (x : ByteArray) (s : WSt) : WSt := (s.1, textT s.2.1 s.2.2 x, textH s.2.1 s.2.2 x)
def wOpen (a : ByteArray) (s : WSt) : WSt := wBytes (bytesOf a ++ [0]) (wCell 1 s)
def wProp (p : S68) (s : WSt) : WSt := wBytes p.f1 (wCell (textAt s.2.1 s.2.2 p.f0 % 4294967296) (wText p.f0 (wCell ((p.f1.length : Int) % 4294967296) (wCell 3 s))))
mutual
def wrP : Nat → List S68 → Int → List S27 → WSt → Option WSt
 | 0, _, _, _, _ => none
 | k + 1, ps, i, ks, s => if i < (ps.length : Int) then (if 0 ≤ i then (if (rd_T68 ps i).f0.size ≤ 549755813888 then capW (wProp (rd_T68 ps i) s) else none).bind fun s2 => wrP k ps (wrap64 (i + 1)) ks s2 else none) else wrK k ks 0 s
def wrK : Nat → List S27 → Int → WSt → Option WSt
 | 0, _, _, _ => none
 | k + 1, ks, i, s => if i < (ks.length : Int) then (if 0 ≤ i then (wrN k (rd_T27 ks i) s).bind fun s2 => wrK k ks (wrap64 (i + 1)) s2 else none) else capW (wCell 2 s)
def wrN : Nat → S27 → WSt → Option WSt
 | 0, _, _ => none
 | k + 1, x, s => (capW (wOpen x.f0 s)).bind fun s2 => wrP k x.f1 0 x.f2 s2
end
def WrT (w0 W : World) (g mb : Nat) (s : WSt) : Prop := ∃ vb vt, WrS w0 W g mb vb vt s.1 s.2.1 s.2.2
theorem WrT.below {w0 W W2 : World} {g mb : Nat} {s : WSt} (h : WrT w0 W g mb s) (hb : Below W.heap.size W W2) : WrT w0 W2 g mb s := by
 obtain ⟨vb, vt, h⟩ := h; exact ⟨vb, vt, h.below hb⟩
theorem step_cell (v : Int) (g mb : Nat) (w0 W : World) (s : WSt) (h0 : 0 ≤ v) (h1 : v < 4294967296) (h : WrT w0 W g mb s) (hl : totW (wCell v s) ≤ 1099511627776) :
  Calls Tryz.prog 14 #[.pointer (some ⟨g, 0, none⟩), .int .u32 v] W fun e w' => e = .returned (.tuple #[]) ∧ WrT w0 w' g mb (wCell v s) ∧ KeptT W w' := by
 obtain ⟨vb, vt, h⟩ := h; refine (writer_cell.calls v g mb w0 W vb vt _ _ _ h0 h1 h (by simp [totW, wCell] at hl; omega)).mono ?_; rintro e w' ⟨rfl, vb2, vt2, h2, hk⟩; exact ⟨rfl, ⟨vb2, vt2, h2⟩, hk⟩
theorem step_bytes (A : Option Addr) (c : Nat) (l : List Int) (g mb : Nat) (w0 W : World) (s : WSt) (hC : Kd.C (Kd.int .u8) W A l.length l) (h : WrT w0 W g mb s) (hl : totW (wBytes l s) ≤ 1099511627776) :
  Calls Tryz.prog 30 #[.pointer (some ⟨g, 0, none⟩), .slice A l.length c] W fun e w' => e = .returned (.tuple #[]) ∧ WrT w0 w' g mb (wBytes l s) ∧ KeptT W w' := by
 obtain ⟨vb, vt, h⟩ := h; refine (writer_bytes.calls A c l g mb w0 W vb vt _ _ _ hC h (by simp [totW, wBytes] at hl; omega)).mono ?_; rintro e w' ⟨rfl, vb2, vt2, h2, hk⟩; exact ⟨rfl, ⟨vb2, vt2, h2⟩, hk⟩
theorem totW_cell (v : Int) (s : WSt) : totW (wCell v s) = totW s + 4 := by simp [totW, wCell, cellB_length]; omega
theorem totW_bytes (l : List Int) (s : WSt) : totW (wBytes l s) = totW s + l.length + (padW l).length := by simp [totW, wBytes]; omega
theorem totW_text (x : ByteArray) (s : WSt) : totW s ≤ totW (wText x s) := by
 simp only [totW, wText, textT, textH]
 split <;> simp <;> omega
theorem step_text (x : ByteArray) (g mb : Nat) (w0 W : World) (s : WSt) (T : List Int) (hs : List (ByteArray × Int)) (hT : s.2.1 = T) (hH : s.2.2 = hs) (h : WrT w0 W g mb s) (hl : totW s + x.size ≤ 1099511627776) :
  Calls Tryz.prog 31 #[.pointer (some ⟨g, 0, none⟩), .string x] W fun e w' => e = .returned (.int .i64 (textAt T hs x)) ∧ WrT w0 w' g mb (wText x s) ∧ KeptT W w' := by
 subst hT hH; obtain ⟨vb, vt, h⟩ := h; refine (writer_text.calls x g mb w0 W vb vt _ _ _ h (by simp [totW] at hl; omega) (by simp [totW] at hl; omega)).mono ?_; rintro e w' ⟨rfl, vb2, vt2, h2, hk⟩; exact ⟨rfl, ⟨vb2, vt2, h2⟩, hk⟩
open Go.Proofs.YtkopmkinlanhoaaGreat.Aid Go.Proofs.YtkopmkinlanhoaaGreat.Rdr
theorem cell_ev (v : Int) (h0 : 0 ≤ v) (h1 : v < 4294967296) : Ev (fun k => arboretref04_cell.f k v) (cellB v) := by
 have e1 : Go.bits .and .u64 (IntKind.u64.wrap v) 4294967295 = v := by
  rw [wu64 h0 Zq1]; have := Go.bits_mask .u64 64 Zq2 (fun n h0 h1 => wu64 h0 (by simpa using h1)) 32 Zq2 v h0 (by simp only [Int.reducePow]; omega); simp only [Int.reducePow, Int.reduceSub] at this; rw [this]; omega
 have hb := bytes_four v h0 Zq1; have he : Ev (fun k => arboretref01_Bytes.f k v 4) (cellB v) := Ev.of (fun k => arboretref01_Bytes.mono _ _ k) hb; unfold arboretref04_cell.f; simp only [e1]
 exact Ev.then he (Ev.some _)
theorem padded_from (l : List Int) (hl : l.length ≤ 1099511627776) : ∀ (n : Nat) (x : List Int), n + x.length = l.length + (4 - l.length % 4) % 4 → x = l ++ List.replicate (x.length - l.length) 0 → l.length ≤ x.length → Ev (fun k => arboretref04_padded.l0 k x) (l ++ List.replicate ((4 - l.length % 4) % 4) 0) := by
 intro n
 induction n with
 | zero =>
  intro x hn hx hlx
  have e : x.length - l.length = (4 - l.length % 4) % 4 := by omega
  rw [e] at hx; refine Ev.succ ?_; simp only [arboretref04_padded.l0]; rw [← hx]; exact Ev.pos Zq1 (Ev.some _)
 | succ n ih =>
  intro x hn hx hlx; refine Ev.succ ?_; simp only [arboretref04_padded.l0]; refine Ev.neg Zq1 (Ev.pos Zq1 ?_)
  have e : (x ++ [0]).length - l.length = (x.length - l.length) + 1 := by rw [List.length_append]; simp; omega
  refine ih (x ++ [0]) (by rw [List.length_append]; simp; omega) ?_ (by rw [List.length_append]; omega); rw [e, List.replicate_succ', ← List.append_assoc, ← hx]
theorem padW_rep (l : List Int) : padW l = List.replicate ((4 - l.length % 4) % 4) 0 := by
 unfold padW; rw [padN_eq _ Zq1]
 congr 1
 omega
theorem padded_ev (l : List Int) (hl : l.length ≤ 1099511627776) : Ev (fun k => arboretref04_padded.f k l) (l ++ padW l) := by
 rw [padW_rep]; unfold arboretref04_padded.f
 exact Ev.then (Ev.some _) (Ev.pos Zq12 (padded_from l hl ((4 - l.length % 4) % 4) ([] ++ l) Zq12 Zq7 Zq7))
def whereI : List ByteArray → ByteArray → Nat
 | [], _ => 0
 | y :: r, s => if y.toList = s.toList then 0 else y.size + 1 + whereI r s
def sizes : List ByteArray → Nat
 | [] => 0
 | y :: r => y.size + 1 + sizes r
theorem sizes_len : ∀ l : List ByteArray, l.length ≤ sizes l
 | [] => Nat.le_refl _
 | y :: r => by
  have := sizes_len r; simp only [sizes, List.length_cons]; omega
theorem whereI_le (s : ByteArray) : ∀ l : List ByteArray, whereI l s ≤ sizes l
 | [] => Nat.le_refl _
 | y :: r => by
  have := whereI_le s r; simp only [whereI, sizes]
  split <;> omega
theorem where_from (s : ByteArray) (l : List ByteArray) (hl : l.length ≤ 1099511627776) : ∀ (n i : Nat) (at_ : Nat), i + n = l.length → at_ + sizes (l.drop i) ≤ 1099511627776 → Ev (fun k => arboretref04_where.l0 k l s (at_ : Int) (l.length : Int) (i : Int)) ((at_ + whereI (l.drop i) s : Nat) : Int) := by
 intro n
 induction n with
 | zero =>
  intro i at_ hi hs; rw [List.drop_of_length_le Zq1]; refine Ev.succ ?_; simp only [arboretref04_where.l0, whereI, Nat.add_zero]; exact Ev.neg Zq1 (Ev.some _)
 | succ n ih =>
  intro i at_ hi hs
  have hw : wrap64 ((i : Int) + 1) = ((i + 1 : Nat) : Int) := by rw [w64 Zq1 Zq1]; omega
  have hd := drop_at (l := l) (d := ByteArray.empty) (i := i) Zq1
  have hr : rdOf ByteArray.empty l (i : Int) = l.getD i ByteArray.empty := by simp [rdOf]
  rw [hd] at hs ⊢; simp only [sizes] at hs; refine Ev.succ ?_; simp only [arboretref04_where.l0, hr, hw, whereI]; refine Ev.pos Zq1 (Ev.pos (Int.natCast_nonneg i) (Ev.pos Zq1 ?_))
  by_cases c : (l.getD i ByteArray.empty).toList = s.toList
  ·rw [if_pos c]; exact Ev.pos c (Ev.some _)
  ·rw [if_neg c]
   have h1 : wrap64 ((wrap64 ((at_ : Int) + ((l.getD i ByteArray.empty).size : Int))) + 1) = ((at_ + (l.getD i ByteArray.empty).size + 1 : Nat) : Int) := by
    rw [w64 (x := (at_ : Int) + ((l.getD i ByteArray.empty).size : Int)) Zq1 Zq1, w64 Zq1 Zq1]; omega
   rw [h1]; have := ih (i + 1) (at_ + (l.getD i ByteArray.empty).size + 1) Zq1 Zq1; rw [show at_ + ((l.getD i ByteArray.empty).size + 1 + whereI (l.drop (i + 1)) s) = at_ + (l.getD i ByteArray.empty).size + 1 + whereI (l.drop (i + 1)) s by omega]; exact Ev.neg c this
theorem where_ev (l : List ByteArray) (s : ByteArray) (hl : l.length ≤ 1099511627776) (hs : sizes l ≤ 1099511627776) : Ev (fun k => arboretref04_where.f k l s) ((whereI l s : Nat) : Int) := by
 have := where_from s l hl l.length 0 0 Zq1 (by rw [List.drop_zero]; omega); rw [List.drop_zero, Nat.zero_add] at this; exact this
open Go.Proofs.YtkopmkinlanhoaaGreat.Aid Go.Proofs.YtkopmkinlanhoaaGreat.Rdr
theorem step_app {P : Program} {ops : Array Oper} {o : Oper} {a : Act} {w w' : World} {K : Act → World → Prop} {Q : Exit → Act → World → Prop} {v1 v2 v : Value} (s x : Operand) (t : TypeId) (hg : o.guard = none)
  (hop : o.op = Op.call { callee := Callee.builtin Builtin.append, args := #[s, x], argTypes := #[t, t] }) (hs : a.eval s = v1) (hx : a.eval x = v2) (hrun : (Builtin.append_ #[t, t] o.type #[v1, v2]).run P w = .ok v w')
  (hK : K (a.put o.dst v) w') : if Region.wanted o (yielded ops a.tmps) = true then Oper.wp P o a w K Q else K (a.put o.dst undef) w := by
 have hw : Region.wanted o (yielded ops a.tmps) = true := by unfold Region.wanted; rw [hg]
 rw [if_pos hw]; unfold Oper.wp
 simp [execOp, hop, resolve, invoke, builtin, hs, hx, hrun, Result.andThen]
 exact hK
theorem run_app_none (ty : TypeId) (z : Addr) (W : World) : (Builtin.append_ #[32, 32] ty #[.slice (some z) 0 0, .slice none 0 0]).run Tryz.prog W = .ok (.slice (some z) 0 0) W := by
 obtain ⟨i0, hi, hzz⟩ := Option.map_eq_some_iff.1 info5
 simp [Builtin.append_, run_underlying Tryz.underlying32, sizeOf, typeInfo, hi, Builtin.lenOf, Builtin.firstCells, storeCells]
theorem run_app_empty (ty : TypeId) (z ad : Addr) (c : Nat) (l : List Int) (W : World) (h0 : 0 < l.length) (hl : l.length ≤ 1099511627776) (hC : Kd.C (Kd.int .u8) W (some ad) l.length l) :
  ∃ v' w', (Builtin.append_ #[32, 32] ty #[.slice (some z) 0 0, .slice (some ad) l.length c]).run Tryz.prog W = .ok v' w' ∧ Kd.R (Kd.int .u8) 5 w' W.heap.size (fun _ => True) v' l ∧ Below W.heap.size W w' := by
 obtain ⟨i0, hi, hzz⟩ := Option.map_eq_some_iff.1 info5; simp only [Prod.mk.injEq] at hzz; obtain ⟨hz0, hz1, hz2⟩ := hzz; have hR : ReadsInt W .u8 (some ad) l.length l := Kd.reads_of_C (enc := Value.int .u8) (d := (0 : Int)) (h1 := fun _ => rfl) hC
 obtain ⟨v', w', hrun, r1, r2⟩ := run_append_arg_grows (P := Tryz.prog) W 32 ty 5 i0 (.int .u8 0) 1 1 Tryz.underlying32 hi hz0 hz1 hz2 rfl Zq2 z 0 0 [] Zq7 (fun j u hu => by simp at hu) ad l.length c (l.map (Value.int .u8)) Zq7 (fun j u hu => by
  rw [List.getElem?_map] at hu; obtain ⟨x, hx, rfl⟩ := Option.map_eq_some_iff.1 hu; obtain ⟨hj, rfl⟩ := List.getElem?_eq_some_iff.1 hx; obtain ⟨ad', he, hcell⟩ := hR.2.2 h0; obtain rfl := Option.some.inj he; have := hcell j hj; rw [this]
  simp [List.getD_eq_getElem?_getD, List.getElem?_eq_getElem hj]) Zq1 (by simp only [maxLen]; omega) Zq1
 refine ⟨v', w', hrun, Kd.R_of_own (by simpa [encs] using r1) (fun _ _ => trivial), (Below.refl _ _).grown r2 (Nat.le_refl _) (fun k hk => by cases hk)⟩
def Conv (w : World) (b : Nat) (u : Value) (s : ByteArray) : Prop := ∃ (cap : Nat) (cs : Array Value), u = .slice (some ⟨b, 0, none⟩) s.size cap ∧ s.size ≤ cap ∧ w.heap[b]? = some (.cells cs 5 (cap, cap + 1)) ∧ cs.size = cap ∧ ∀ j, j < s.size → cs[j]? = some (.int .u8 (s.data.toList.getD j 0).toNat)
theorem Conv.at {w w' : World} {b : Nat} {u : Value} {s : ByteArray} (h : Conv w b u s) (he : w'.heap[b]? = w.heap[b]?) : Conv w' b u s := by
 obtain ⟨cap, cs, h1, h2, h3, h4, h5⟩ := h; exact ⟨cap, cs, h1, h2, he.trans h3, h4, h5⟩
theorem Conv.lt {w : World} {b : Nat} {u : Value} {s : ByteArray} (h : Conv w b u s) : b < w.heap.size := by
 obtain ⟨cap, cs, h1, h2, h3, h4, h5⟩ := h; exact (Array.getElem?_eq_some_iff.1 h3).1
theorem conv_made (s : ByteArray) (W : World) : (convert 9 32 (.string s)).run Tryz.prog W = .ok (.slice (some ⟨W.heap.size, 0, none⟩) s.size (grownCap W s.size 0 5)) (Lib.bytesWorld W 5 s) := print_bytes (P := Tryz.prog) 9 32 5 Tryz.underlying9 Tryz.underlying32 Tryz.underlying5 s W
theorem Conv.made (s : ByteArray) (W : World) : Conv (Lib.bytesWorld W 5 s) W.heap.size (.slice (some ⟨W.heap.size, 0, none⟩) s.size (grownCap W s.size 0 5)) s := by
 have hg := grownCap_ge W s.size 0 5; have h2 : s.data.size = s.size := rfl
 have hcs : (Lib.bytesCells W 5 s).size = grownCap W s.size 0 5 := by
  simp [Lib.bytesCells, h2]
  omega
 refine ⟨_, _, rfl, Zq1, by rw [Lib.bytesWorld_at_new, hcs], hcs, fun j hj => ?_⟩; have h := Lib.bytesWorld_cell W 5 s j hj; simp only [World.cell?, Lib.bytesWorld_at_new] at h; exact h
theorem run_app_name (ty : TypeId) (b : Nat) (u : Value) (s : ByteArray) (W : World) (z : Addr) (c : Nat) (hs : s.size ≤ 1099511627776) (h : Conv W b u s) (hC : Kd.C (Kd.int .u8) W (some z) 1 [0]) :
  ∃ A c' w', (Builtin.append_ #[32, 32] ty #[u, .slice (some z) 1 c]).run Tryz.prog W = .ok (.slice A (bytesOf s ++ [0]).length c') w' ∧ (bytesOf s ++ [0]).length ≤ c' ∧ Kd.C (Kd.int .u8) w' A (bytesOf s ++ [0]).length (bytesOf s ++ [0]) ∧ W.grownBy w' (some b) := by
 obtain ⟨i0, hi, hzz⟩ := Option.map_eq_some_iff.1 info5; simp only [Prod.mk.injEq] at hzz; obtain ⟨hz0, hz1, hz2⟩ := hzz; obtain ⟨cap, cs, rfl, hcap, hheap, hcs, hcell⟩ := h
 have hlen : (bytesOf s ++ [0]).length = s.size + 1 := by simp [bytesOf_length]
 have hR : ReadsInt W .u8 (some z) 1 [0] := Kd.reads_of_C (enc := Value.int .u8) (d := (0 : Int)) (h1 := fun _ => rfl) hC
 have hz : ∀ j u, [Value.int .u8 0][j]? = some u → W.cell? (z.add j) = some u := by
  intro j u hu
  cases j with
  | zero =>
   obtain ⟨ad', he, hcell⟩ := hR.2.2 Zq2; obtain rfl := Option.some.inj he; have h1 := hcell 0 Zq2
   simp at hu
   subst hu
   simpa using h1
  | succ j => simp at hu
 have hold : ∀ j, j < s.size → W.cell? ⟨b, j, none⟩ = some (.int .u8 (s.data.toList.getD j 0).toNat) := fun j hj => by
  simp only [World.cell?, hheap]; exact hcell j hj
 have hsome : ∀ j, j < cap → (W.cell? ⟨b, j, none⟩).isSome = true := fun j hj => by
  simp only [World.cell?, hheap]; rw [Array.getElem?_eq_getElem Zq1]; rfl
 rw [hlen]
 by_cases hr : s.size + 1 ≤ cap
 ·have hrun := run_append_room_cells (P := Tryz.prog) W 32 ty 5 i0 Tryz.underlying32 hi b 0 s.size cap z 1 c [.int .u8 0] (by rw [hz1]; rfl) hz (by intro u hu; simp at hu; subst hu; rfl) hr (fun j hj => by
   have hj0 : j = 0 := by simpa using hj
   subst hj0; rw [hz1]; simp only [Nat.mul_one, Nat.zero_add, Nat.add_zero]
   exact hsome _ Zq1) (fun j hj => by
   have hj0 : j = 0 := by simpa using hj
   subst hj0; rw [hz1]; simp only [Nat.mul_one, Nat.zero_add, Nat.add_zero, World.frozen?, hheap, Bool.and_eq_false_iff, decide_eq_false_iff_not]
   left
   omega)
  rw [hz1] at hrun; simp only [Nat.mul_one, Nat.zero_add, World.setCells] at hrun; refine ⟨_, _, _, hrun, hr, ?_, ?_⟩; (·refine bytes_C s _ b 0 0 Zq1 (fun j hj => ?_) ?_; (·refine (World.cell?_setCell_other _ _ _ _ (fun e => ?_)).trans (hold j hj); have e2 := congrArg Addr.off e; simp only at e2; omega); (·exact World.cell?_setCell_same' _ _ _ (hsome _ Zq1))); (·refine ⟨rfl, rfl, rfl, ?_, fun k hk hne => ?_⟩; (·exact ((Below.refl 0 W).setCell (Nat.zero_le _) _).size); (·exact Below.heap_setCell W ⟨b, s.size, none⟩ _ k (fun e => hne (by rw [e]))))
 ·obtain ⟨v', w', hrun, r1, r2⟩ := run_append_arg_grows (P := Tryz.prog) W 32 ty 5 i0 (.int .u8 0) 1 1 Tryz.underlying32 hi hz0 hz1 hz2 rfl Zq2 ⟨b, 0, none⟩ s.size cap ((bytesOf s).map (Value.int .u8)) (by simp [bytesOf_length]) (fun j u hu => by
   have hj : j < s.size := by
    have := (List.getElem?_eq_some_iff.1 hu).1
    simpa [bytesOf_length] using this
   have h' : j < s.data.toList.length := by rw [data_length]; exact hj
   rw [add_plain, hold j hj]
   have hu2 : ((bytesOf s).map (Value.int .u8))[j]? = some (.int .u8 (s.data.toList.getD j 0).toNat) := by
    simp [bytesOf, List.getD_eq_getElem?_getD, List.getElem?_eq_getElem h', hj]
   rw [hu2] at hu
   exact hu) z 1 c [.int .u8 0] Zq7 hz Zq1 (by simp only [maxLen]; omega) Zq1
  have hrr : Kd.R (Kd.int .u8) 5 w' _ (fun _ => True) v' (bytesOf s ++ [0]) := Kd.R_of_own (by rw [hlen]; simpa [encs] using r1) (fun _ _ => trivial); obtain ⟨A, c', rfl, hc, hC⟩ := Kd.R_reads hrr; rw [hlen] at hc hC hrun; exact ⟨A, c', w', hrun, hc, hC, ⟨r2.os, r2.tape, r2.output, r2.size, fun i hi _ => r2.block i hi Zq7⟩⟩
theorem lit_C (w : World) (l : List Int) (hl : l.length ≤ 1000) : Kd.C (Kd.int .u8) (w.alloc (.cells (l.map (Value.int .u8)).toArray 5)) (some ⟨w.heap.size, 0, none⟩) l.length l := by
 refine Kd.C_of_reads (d := (0 : Int)) ⟨rfl, Zq1, fun _ => ⟨_, rfl, fun j hj => ?_⟩⟩; rw [add_plain, blk_cell (blk_new w (.cells (l.map (Value.int .u8)).toArray 5 (0, 0))) j]
 simp [List.getD_eq_getElem?_getD, hj]
theorem padW_three (l : List Int) : (padW l).length ≤ 3 := by
 rw [padW_rep, List.length_replicate]; omega
open Go.Proofs.YtkopmkinlanhoaaGreat.Aid Go.Proofs.YtkopmkinlanhoaaGreat.Rdr
structure R6 (W : World) (g : Nat) (O : Obj) (nm : ByteArray) (l M : List Int) (D : Nat → Prop) (b : Nat) (u19 u20 u21 u22 u23 u24 u25 u26 u27 u28 u29 u30 u8 : Value) (w : World) : Prop where
 bel : Below g W w
 box : w.heap[g]? = some O
 bb : D 7 → g < b
 o94 : D 9 → D 4
 o109 : D 10 → D 9
 o1110 : D 11 → D 10
 o1211 : D 12 → D 11
 f0 : D 0 → ∃ z, u19 = .slice (some z) 0 0
 f1 : D 1 → u20 = .slice none 0 0
 f2 : D 2 → ∃ z, u21 = .slice (some z) 0 0
 f3 : D 3 → ¬ D 4 → ∃ z, u22 = .slice (some z) 4 4 ∧ Kd.C (Kd.int .u8) w (some z) 4 [0, 0, 0, 1]
 f4 : D 4 → ¬ D 11 → Kd.R (Kd.int .u8) 5 w g (fun k => D 7 → k ≠ b) u23 [0, 0, 0, 1]
 f5 : D 5 → u24 = .pointer (some ⟨g, 0, none⟩)
 f6 : D 6 → u25 = .string nm
 f7 : D 7 → ¬ D 9 → Conv w b u26 nm
 f8 : D 8 → ¬ D 9 → ∃ z, u27 = .slice (some z) 1 1 ∧ Kd.C (Kd.int .u8) w (some z) 1 [0]
 f9 : D 9 → ¬ D 10 → ∃ A c, u28 = .slice A l.length c ∧ l.length ≤ c ∧ Kd.C (Kd.int .u8) w A l.length l
 f10 : D 10 → ¬ D 11 → ∃ A c, u29 = .slice A M.length c ∧ M.length ≤ c ∧ Kd.C (Kd.int .u8) w A M.length M
 f11 : D 11 → Kd.R (Kd.int .u8) 5 w g (fun _ => True) u30 ([0, 0, 0, 1] ++ M)
 f12 : D 12 → u8 = u30
section
variable {W w w' : World} {g : Nat} {O : Obj} {nm : ByteArray} {l M : List Int} {D : Nat → Prop} {b : Nat} {u19 u20 u21 u22 u23 u24 u25 u26 u27 u28 u29 u30 u8 : Value}
theorem R6.iff {D' : Nat → Prop} (h : ∀ j, j < 13 → (D j ↔ D' j)) (F : R6 W g O nm l M D b u19 u20 u21 u22 u23 u24 u25 u26 u27 u28 u29 u30 u8 w) : R6 W g O nm l M D' b u19 u20 u21 u22 u23 u24 u25 u26 u27 u28 u29 u30 u8 w :=
 ⟨F.bel, F.box, fun d => F.bb ((h 7 (by decide)).mpr d), fun d => (h 4 (by decide)).mp (F.o94 ((h 9 (by decide)).mpr d)), fun d => (h 9 (by decide)).mp (F.o109 ((h 10 (by decide)).mpr d)), fun d => (h 10 (by decide)).mp (F.o1110 ((h 11 (by decide)).mpr d)), fun d => (h 11 (by decide)).mp (F.o1211 ((h 12 (by decide)).mpr d)), fun d => F.f0 ((h 0 (by decide)).mpr d), fun d => F.f1 ((h 1 (by decide)).mpr d), fun d => F.f2 ((h 2 (by decide)).mpr d), fun d n => F.f3 ((h 3 (by decide)).mpr d) (fun e => n ((h 4 (by decide)).mp e)), fun d n => Kd.R_mono (F.f4 ((h 4 (by decide)).mpr d) (fun e => n ((h 11 (by decide)).mp e))) (fun k hk d7 => hk ((h 7 (by decide)).mpr d7)), fun d => F.f5 ((h 5 (by decide)).mpr d), fun d => F.f6 ((h 6 (by decide)).mpr d), fun d n => F.f7 ((h 7 (by decide)).mpr d) (fun e => n ((h 9 (by decide)).mp e)), fun d n => F.f8 ((h 8 (by decide)).mpr d) (fun e => n ((h 9 (by decide)).mp e)), fun d n => F.f9 ((h 9 (by decide)).mpr d) (fun e => n ((h 10 (by decide)).mp e)), fun d n => F.f10 ((h 10 (by decide)).mpr d) (fun e => n ((h 11 (by decide)).mp e)), fun d => F.f11 ((h 11 (by decide)).mpr d), fun d => F.f12 ((h 12 (by decide)).mpr d)⟩
theorem R6.below (F : R6 W g O nm l M D b u19 u20 u21 u22 u23 u24 u25 u26 u27 u28 u29 u30 u8 w) (hb : Below w.heap.size w w') (hg : g ≤ w.heap.size) : R6 W g O nm l M D b u19 u20 u21 u22 u23 u24 u25 u26 u27 u28 u29 u30 u8 w' :=
 ⟨F.bel.trans ⟨hb.os, hb.tape, hb.output, hb.size, fun k hk => hb.block k Zq1⟩, blk_below F.box hb, F.bb, F.o94, F.o109, F.o1110, F.o1211, F.f0, F.f1, F.f2, fun d n => by obtain ⟨z, h1, h2⟩ := F.f3 d n; exact ⟨z, h1, Kd.C_below h2 hb⟩, fun d n => Kd.R_below (F.f4 d n) hb, F.f5, F.f6, fun d n => (F.f7 d n).at (hb.block b (F.f7 d n).lt), fun d n => by obtain ⟨z, h1, h2⟩ := F.f8 d n; exact ⟨z, h1, Kd.C_below h2 hb⟩, fun d n => by obtain ⟨A, c, h1, h2, h3⟩ := F.f9 d n; exact ⟨A, c, h1, h2, Kd.C_below h3 hb⟩, fun d n => by obtain ⟨A, c, h1, h2, h3⟩ := F.f10 d n; exact ⟨A, c, h1, h2, Kd.C_below h3 hb⟩, fun d => Kd.R_below (F.f11 d) hb, F.f12⟩
theorem R6.glt (F : R6 W g O nm l M D b u19 u20 u21 u22 u23 u24 u25 u26 u27 u28 u29 u30 u8 w) : g < w.heap.size := blk_lt F.box
theorem R6.n0 (F : R6 W g O nm l M D b u19 u20 u21 u22 u23 u24 u25 u26 u27 u28 u29 u30 u8 w) (z : Addr) : R6 W g O nm l M (fun j => D j ∨ j = 0) b (.slice (some z) 0 0) u20 u21 u22 u23 u24 u25 u26 u27 u28 u29 u30 u8 w :=
 ⟨F.bel, F.box, fun d => F.bb (or_ne d Zq2), fun d => .inl (F.o94 (or_ne d Zq2)), fun d => .inl (F.o109 (or_ne d Zq2)), fun d => .inl (F.o1110 (or_ne d Zq2)), fun d => .inl (F.o1211 (or_ne d Zq2)), fun _ => ⟨z, rfl⟩, fun d => F.f1 (or_ne d Zq2), fun d => F.f2 (or_ne d Zq2), fun d n => F.f3 (or_ne d Zq2) (fun e => n (.inl e)), fun d n => Kd.R_mono (F.f4 (or_ne d Zq2) (fun e => n (.inl e))) (fun k hk d7 => hk (or_ne d7 Zq2)), fun d => F.f5 (or_ne d Zq2), fun d => F.f6 (or_ne d Zq2), fun d n => F.f7 (or_ne d Zq2) (fun e => n (.inl e)), fun d n => F.f8 (or_ne d Zq2) (fun e => n (.inl e)), fun d n => F.f9 (or_ne d Zq2) (fun e => n (.inl e)), fun d n => F.f10 (or_ne d Zq2) (fun e => n (.inl e)), fun d => F.f11 (or_ne d Zq2), fun d => F.f12 (or_ne d Zq2)⟩
theorem R6.n1 (F : R6 W g O nm l M D b u19 u20 u21 u22 u23 u24 u25 u26 u27 u28 u29 u30 u8 w) : R6 W g O nm l M (fun j => D j ∨ j = 1) b u19 (.slice none 0 0) u21 u22 u23 u24 u25 u26 u27 u28 u29 u30 u8 w :=
 ⟨F.bel, F.box, fun d => F.bb (or_ne d Zq2), fun d => .inl (F.o94 (or_ne d Zq2)), fun d => .inl (F.o109 (or_ne d Zq2)), fun d => .inl (F.o1110 (or_ne d Zq2)), fun d => .inl (F.o1211 (or_ne d Zq2)), fun d => F.f0 (or_ne d Zq2), fun _ => rfl, fun d => F.f2 (or_ne d Zq2), fun d n => F.f3 (or_ne d Zq2) (fun e => n (.inl e)), fun d n => Kd.R_mono (F.f4 (or_ne d Zq2) (fun e => n (.inl e))) (fun k hk d7 => hk (or_ne d7 Zq2)), fun d => F.f5 (or_ne d Zq2), fun d => F.f6 (or_ne d Zq2), fun d n => F.f7 (or_ne d Zq2) (fun e => n (.inl e)), fun d n => F.f8 (or_ne d Zq2) (fun e => n (.inl e)), fun d n => F.f9 (or_ne d Zq2) (fun e => n (.inl e)), fun d n => F.f10 (or_ne d Zq2) (fun e => n (.inl e)), fun d => F.f11 (or_ne d Zq2), fun d => F.f12 (or_ne d Zq2)⟩
theorem R6.n2 (F : R6 W g O nm l M D b u19 u20 u21 u22 u23 u24 u25 u26 u27 u28 u29 u30 u8 w) (z : Addr) : R6 W g O nm l M (fun j => D j ∨ j = 2) b u19 u20 (.slice (some z) 0 0) u22 u23 u24 u25 u26 u27 u28 u29 u30 u8 w :=
 ⟨F.bel, F.box, fun d => F.bb (or_ne d Zq2), fun d => .inl (F.o94 (or_ne d Zq2)), fun d => .inl (F.o109 (or_ne d Zq2)), fun d => .inl (F.o1110 (or_ne d Zq2)), fun d => .inl (F.o1211 (or_ne d Zq2)), fun d => F.f0 (or_ne d Zq2), fun d => F.f1 (or_ne d Zq2), fun _ => ⟨z, rfl⟩, fun d n => F.f3 (or_ne d Zq2) (fun e => n (.inl e)), fun d n => Kd.R_mono (F.f4 (or_ne d Zq2) (fun e => n (.inl e))) (fun k hk d7 => hk (or_ne d7 Zq2)), fun d => F.f5 (or_ne d Zq2), fun d => F.f6 (or_ne d Zq2), fun d n => F.f7 (or_ne d Zq2) (fun e => n (.inl e)), fun d n => F.f8 (or_ne d Zq2) (fun e => n (.inl e)), fun d n => F.f9 (or_ne d Zq2) (fun e => n (.inl e)), fun d n => F.f10 (or_ne d Zq2) (fun e => n (.inl e)), fun d => F.f11 (or_ne d Zq2), fun d => F.f12 (or_ne d Zq2)⟩
theorem R6.n3 (F : R6 W g O nm l M D b u19 u20 u21 u22 u23 u24 u25 u26 u27 u28 u29 u30 u8 w) (z : Addr) (h : Kd.C (Kd.int .u8) w (some z) 4 [0, 0, 0, 1]) : R6 W g O nm l M (fun j => D j ∨ j = 3) b u19 u20 u21 (.slice (some z) 4 4) u23 u24 u25 u26 u27 u28 u29 u30 u8 w :=
 ⟨F.bel, F.box, fun d => F.bb (or_ne d Zq2), fun d => .inl (F.o94 (or_ne d Zq2)), fun d => .inl (F.o109 (or_ne d Zq2)), fun d => .inl (F.o1110 (or_ne d Zq2)), fun d => .inl (F.o1211 (or_ne d Zq2)), fun d => F.f0 (or_ne d Zq2), fun d => F.f1 (or_ne d Zq2), fun d => F.f2 (or_ne d Zq2), fun _ _ => ⟨z, rfl, h⟩, fun d n => Kd.R_mono (F.f4 (or_ne d Zq2) (fun e => n (.inl e))) (fun k hk d7 => hk (or_ne d7 Zq2)), fun d => F.f5 (or_ne d Zq2), fun d => F.f6 (or_ne d Zq2), fun d n => F.f7 (or_ne d Zq2) (fun e => n (.inl e)), fun d n => F.f8 (or_ne d Zq2) (fun e => n (.inl e)), fun d n => F.f9 (or_ne d Zq2) (fun e => n (.inl e)), fun d n => F.f10 (or_ne d Zq2) (fun e => n (.inl e)), fun d => F.f11 (or_ne d Zq2), fun d => F.f12 (or_ne d Zq2)⟩
theorem R6.n4 (F : R6 W g O nm l M D b u19 u20 u21 u22 u23 u24 u25 u26 u27 u28 u29 u30 u8 w) (v : Value) (h : Kd.R (Kd.int .u8) 5 w g (fun k => D 7 → k ≠ b) v [0, 0, 0, 1]) : R6 W g O nm l M (fun j => D j ∨ j = 4) b u19 u20 u21 u22 v u24 u25 u26 u27 u28 u29 u30 u8 w :=
 ⟨F.bel, F.box, fun d => F.bb (or_ne d Zq2), fun d => .inl (F.o94 (or_ne d Zq2)), fun d => .inl (F.o109 (or_ne d Zq2)), fun d => .inl (F.o1110 (or_ne d Zq2)), fun d => .inl (F.o1211 (or_ne d Zq2)), fun d => F.f0 (or_ne d Zq2), fun d => F.f1 (or_ne d Zq2), fun d => F.f2 (or_ne d Zq2), fun _ n => absurd (.inr rfl) n, fun _ _ => Kd.R_mono h (fun k hk d7 => hk (or_ne d7 Zq2)), fun d => F.f5 (or_ne d Zq2), fun d => F.f6 (or_ne d Zq2), fun d n => F.f7 (or_ne d Zq2) (fun e => n (.inl e)), fun d n => F.f8 (or_ne d Zq2) (fun e => n (.inl e)), fun d n => F.f9 (or_ne d Zq2) (fun e => n (.inl e)), fun d n => F.f10 (or_ne d Zq2) (fun e => n (.inl e)), fun d => F.f11 (or_ne d Zq2), fun d => F.f12 (or_ne d Zq2)⟩
theorem R6.n5 (F : R6 W g O nm l M D b u19 u20 u21 u22 u23 u24 u25 u26 u27 u28 u29 u30 u8 w) : R6 W g O nm l M (fun j => D j ∨ j = 5) b u19 u20 u21 u22 u23 (.pointer (some ⟨g, 0, none⟩)) u25 u26 u27 u28 u29 u30 u8 w :=
 ⟨F.bel, F.box, fun d => F.bb (or_ne d Zq2), fun d => .inl (F.o94 (or_ne d Zq2)), fun d => .inl (F.o109 (or_ne d Zq2)), fun d => .inl (F.o1110 (or_ne d Zq2)), fun d => .inl (F.o1211 (or_ne d Zq2)), fun d => F.f0 (or_ne d Zq2), fun d => F.f1 (or_ne d Zq2), fun d => F.f2 (or_ne d Zq2), fun d n => F.f3 (or_ne d Zq2) (fun e => n (.inl e)), fun d n => Kd.R_mono (F.f4 (or_ne d Zq2) (fun e => n (.inl e))) (fun k hk d7 => hk (or_ne d7 Zq2)), fun _ => rfl, fun d => F.f6 (or_ne d Zq2), fun d n => F.f7 (or_ne d Zq2) (fun e => n (.inl e)), fun d n => F.f8 (or_ne d Zq2) (fun e => n (.inl e)), fun d n => F.f9 (or_ne d Zq2) (fun e => n (.inl e)), fun d n => F.f10 (or_ne d Zq2) (fun e => n (.inl e)), fun d => F.f11 (or_ne d Zq2), fun d => F.f12 (or_ne d Zq2)⟩
theorem R6.n6 (F : R6 W g O nm l M D b u19 u20 u21 u22 u23 u24 u25 u26 u27 u28 u29 u30 u8 w) : R6 W g O nm l M (fun j => D j ∨ j = 6) b u19 u20 u21 u22 u23 u24 (.string nm) u26 u27 u28 u29 u30 u8 w :=
 ⟨F.bel, F.box, fun d => F.bb (or_ne d Zq2), fun d => .inl (F.o94 (or_ne d Zq2)), fun d => .inl (F.o109 (or_ne d Zq2)), fun d => .inl (F.o1110 (or_ne d Zq2)), fun d => .inl (F.o1211 (or_ne d Zq2)), fun d => F.f0 (or_ne d Zq2), fun d => F.f1 (or_ne d Zq2), fun d => F.f2 (or_ne d Zq2), fun d n => F.f3 (or_ne d Zq2) (fun e => n (.inl e)), fun d n => Kd.R_mono (F.f4 (or_ne d Zq2) (fun e => n (.inl e))) (fun k hk d7 => hk (or_ne d7 Zq2)), fun d => F.f5 (or_ne d Zq2), fun _ => rfl, fun d n => F.f7 (or_ne d Zq2) (fun e => n (.inl e)), fun d n => F.f8 (or_ne d Zq2) (fun e => n (.inl e)), fun d n => F.f9 (or_ne d Zq2) (fun e => n (.inl e)), fun d n => F.f10 (or_ne d Zq2) (fun e => n (.inl e)), fun d => F.f11 (or_ne d Zq2), fun d => F.f12 (or_ne d Zq2)⟩
theorem R6.n7 (F0 : R6 W g O nm l M D b u19 u20 u21 u22 u23 u24 u25 u26 u27 u28 u29 u30 u8 w) (hb : Below w.heap.size w w') (v : Value) (hv : Conv w' w.heap.size v nm) : R6 W g O nm l M (fun j => D j ∨ j = 7) w.heap.size u19 u20 u21 u22 u23 u24 u25 v u27 u28 u29 u30 u8 w' := by
 have F := F0.below hb (Nat.le_of_lt F0.glt); exact ⟨F.bel, F.box, fun _ => F0.glt, fun d => .inl (F.o94 (or_ne d Zq2)), fun d => .inl (F.o109 (or_ne d Zq2)), fun d => .inl (F.o1110 (or_ne d Zq2)), fun d => .inl (F.o1211 (or_ne d Zq2)), fun d => F.f0 (or_ne d Zq2), fun d => F.f1 (or_ne d Zq2), fun d => F.f2 (or_ne d Zq2), fun d n => F.f3 (or_ne d Zq2) (fun e => n (.inl e)), fun d n => Kd.R_mono (Kd.R_below (Kd.R_bound (F0.f4 (or_ne d Zq2) (fun e => n (.inl e)))) hb) (fun k hk _ => by have := hk.2.2.1; omega), fun d => F.f5 (or_ne d Zq2), fun d => F.f6 (or_ne d Zq2), fun _ _ => hv, fun d n => F.f8 (or_ne d Zq2) (fun e => n (.inl e)), fun d n => F.f9 (or_ne d Zq2) (fun e => n (.inl e)), fun d n => F.f10 (or_ne d Zq2) (fun e => n (.inl e)), fun d => F.f11 (or_ne d Zq2), fun d => F.f12 (or_ne d Zq2)⟩
theorem R6.n8 (F : R6 W g O nm l M D b u19 u20 u21 u22 u23 u24 u25 u26 u27 u28 u29 u30 u8 w) (z : Addr) (h : Kd.C (Kd.int .u8) w (some z) 1 [0]) : R6 W g O nm l M (fun j => D j ∨ j = 8) b u19 u20 u21 u22 u23 u24 u25 u26 (.slice (some z) 1 1) u28 u29 u30 u8 w :=
 ⟨F.bel, F.box, fun d => F.bb (or_ne d Zq2), fun d => .inl (F.o94 (or_ne d Zq2)), fun d => .inl (F.o109 (or_ne d Zq2)), fun d => .inl (F.o1110 (or_ne d Zq2)), fun d => .inl (F.o1211 (or_ne d Zq2)), fun d => F.f0 (or_ne d Zq2), fun d => F.f1 (or_ne d Zq2), fun d => F.f2 (or_ne d Zq2), fun d n => F.f3 (or_ne d Zq2) (fun e => n (.inl e)), fun d n => Kd.R_mono (F.f4 (or_ne d Zq2) (fun e => n (.inl e))) (fun k hk d7 => hk (or_ne d7 Zq2)), fun d => F.f5 (or_ne d Zq2), fun d => F.f6 (or_ne d Zq2), fun d n => F.f7 (or_ne d Zq2) (fun e => n (.inl e)), fun _ _ => ⟨z, rfl, h⟩, fun d n => F.f9 (or_ne d Zq2) (fun e => n (.inl e)), fun d n => F.f10 (or_ne d Zq2) (fun e => n (.inl e)), fun d => F.f11 (or_ne d Zq2), fun d => F.f12 (or_ne d Zq2)⟩
theorem R6.n9 (F : R6 W g O nm l M D b u19 u20 u21 u22 u23 u24 u25 u26 u27 u28 u29 u30 u8 w) (h4 : D 4) (h7 : D 7) (h9 : ¬ D 9) (hg : w.grownBy w' (some b)) (A : Option Addr) (c : Nat) (hc : l.length ≤ c) (hC : Kd.C (Kd.int .u8) w' A l.length l) : R6 W g O nm l M (fun j => D j ∨ j = 9) b u19 u20 u21 u22 u23 u24 u25 u26 u27 (.slice A l.length c) u29 u30 u8 w' :=
 have h10 : ¬ D 10 := fun d => h9 (F.o109 d)
 have h11 : ¬ D 11 := fun d => h10 (F.o1110 d)
 have hgb := F.bb h7; have hgl := blk_lt F.box
 ⟨F.bel.grown hg Zq1 (fun k hk => by have := Option.some.inj hk; omega), (hg.block g hgl (fun e => by have := Option.some.inj e; omega)).trans F.box, fun d => F.bb (or_ne d Zq2), fun _ => .inl h4, fun d => .inr rfl, fun d => .inl (F.o1110 (or_ne d Zq2)), fun d => .inl (F.o1211 (or_ne d Zq2)), fun d => F.f0 (or_ne d Zq2), fun d => F.f1 (or_ne d Zq2), fun d => F.f2 (or_ne d Zq2), fun _ n => absurd (.inl h4) n, fun d n => Kd.R_mono (Kd.R_grown (F.f4 (or_ne d Zq2) (fun e => n (.inl e))) hg (fun k hk e => hk h7 (Option.some.inj e))) (fun k hk d7 => hk (or_ne d7 Zq2)), fun d => F.f5 (or_ne d Zq2), fun d => F.f6 (or_ne d Zq2), fun _ n => absurd (.inr rfl) n, fun _ n => absurd (.inr rfl) n, fun _ _ => ⟨A, c, rfl, hc, hC⟩, fun d n => absurd (or_ne d Zq2) h10, fun d => absurd (or_ne d Zq2) h11, fun d => F.f12 (or_ne d Zq2)⟩
theorem R6.n10 (F : R6 W g O nm l M D b u19 u20 u21 u22 u23 u24 u25 u26 u27 u28 u29 u30 u8 w) (h9 : D 9) (A : Option Addr) (c : Nat) (hc : M.length ≤ c) (hC : Kd.C (Kd.int .u8) w A M.length M) : R6 W g O nm l M (fun j => D j ∨ j = 10) b u19 u20 u21 u22 u23 u24 u25 u26 u27 u28 (.slice A M.length c) u30 u8 w :=
 ⟨F.bel, F.box, fun d => F.bb (or_ne d Zq2), fun d => .inl (F.o94 (or_ne d Zq2)), fun _ => .inl h9, fun _ => .inr rfl, fun d => .inl (F.o1211 (or_ne d Zq2)), fun d => F.f0 (or_ne d Zq2), fun d => F.f1 (or_ne d Zq2), fun d => F.f2 (or_ne d Zq2), fun d n => F.f3 (or_ne d Zq2) (fun e => n (.inl e)), fun d n => Kd.R_mono (F.f4 (or_ne d Zq2) (fun e => n (.inl e))) (fun k hk d7 => hk (or_ne d7 Zq2)), fun d => F.f5 (or_ne d Zq2), fun d => F.f6 (or_ne d Zq2), fun d n => F.f7 (or_ne d Zq2) (fun e => n (.inl e)), fun d n => F.f8 (or_ne d Zq2) (fun e => n (.inl e)), fun _ n => absurd (.inr rfl) n, fun _ _ => ⟨A, c, rfl, hc, hC⟩, fun d => F.f11 (or_ne d Zq2), fun d => F.f12 (or_ne d Zq2)⟩
theorem R6.n11 (F : R6 W g O nm l M D b u19 u20 u21 u22 u23 u24 u25 u26 u27 u28 u29 u30 u8 w) (h4 : D 4) (h9 : D 9) (h10 : D 10) (h12 : ¬ D 12) (v : Value) (hb : Below g W w') (hx : w'.heap[g]? = some O) (h : Kd.R (Kd.int .u8) 5 w' g (fun _ => True) v ([0, 0, 0, 1] ++ M)) : R6 W g O nm l M (fun j => D j ∨ j = 11) b u19 u20 u21 u22 u23 u24 u25 u26 u27 u28 u29 v u8 w' :=
 ⟨hb, hx, fun d => F.bb (or_ne d Zq2), fun _ => .inl h4, fun _ => .inl h9, fun _ => .inl h10, fun _ => .inr rfl, fun d => F.f0 (or_ne d Zq2), fun d => F.f1 (or_ne d Zq2), fun d => F.f2 (or_ne d Zq2), fun _ n => absurd (.inl h4) n, fun _ n => absurd (.inr rfl) n, fun d => F.f5 (or_ne d Zq2), fun d => F.f6 (or_ne d Zq2), fun _ n => absurd (.inl h9) n, fun _ n => absurd (.inl h9) n, fun _ n => absurd (.inl h10) n, fun _ n => absurd (.inr rfl) n, fun _ => h, fun d => absurd (or_ne d Zq2) h12⟩
theorem R6.n12 (F : R6 W g O nm l M D b u19 u20 u21 u22 u23 u24 u25 u26 u27 u28 u29 u30 u8 w) (h11 : D 11) : R6 W g O nm l M (fun j => D j ∨ j = 12) b u19 u20 u21 u22 u23 u24 u25 u26 u27 u28 u29 u30 u30 w :=
 ⟨F.bel, F.box, fun d => F.bb (or_ne d Zq2), fun d => .inl (F.o94 (or_ne d Zq2)), fun d => .inl (F.o109 (or_ne d Zq2)), fun d => .inl (F.o1110 (or_ne d Zq2)), fun _ => .inl h11, fun d => F.f0 (or_ne d Zq2), fun d => F.f1 (or_ne d Zq2), fun d => F.f2 (or_ne d Zq2), fun d n => F.f3 (or_ne d Zq2) (fun e => n (.inl e)), fun d n => Kd.R_mono (F.f4 (or_ne d Zq2) (fun e => n (.inl e))) (fun k hk d7 => hk (or_ne d7 Zq2)), fun d => F.f5 (or_ne d Zq2), fun d => F.f6 (or_ne d Zq2), fun d n => F.f7 (or_ne d Zq2) (fun e => n (.inl e)), fun d n => F.f8 (or_ne d Zq2) (fun e => n (.inl e)), fun d n => F.f9 (or_ne d Zq2) (fun e => n (.inl e)), fun d n => F.f10 (or_ne d Zq2) (fun e => n (.inl e)), fun d => F.f11 (or_ne d Zq2), fun _ => rfl⟩
end
end Go.Proofs.YtkopmkinlanhoaaGreat.PE

namespace Go.Proofs.YtkopmkinlanhoaaGreat.PE
open Go.RowKit Go.Proofs.YtkopmkinlanhoaaGreatW.PrintWords Go.Proofs.YtkopmkinlanhoaaGreatW.PrintLast Go.Proofs.YtkopmkinlanhoaaGreatW.PrintMore
attribute [local go_sem] max2_int min2_int max_two min_two max_three min_three max_four min_four
open Go.Proofs.YtkopmkinlanhoaaGreat.Aid Go.Proofs.YtkopmkinlanhoaaGreat.Rdr
open Go.Proofs.YtkopmkinlanhoaaGreat.Aid Go.Proofs.YtkopmkinlanhoaaGreat.Rdr
def prB (l : List ByteArray) (p : S68) : List Int := [0, 0, 0, 3] ++ cellB (p.f1.length : Int) ++ cellB (whereI l p.f0 : Nat) ++ (p.f1 ++ padW p.f1)
mutual
def ndB (l : List ByteArray) : S27 → List Int
 | ⟨a, ps, ks⟩ => kdA l ks (ps.foldl (fun o p => o ++ prB l p) ([0, 0, 0, 1] ++ ((bytesOf a ++ [0]) ++ padW (bytesOf a ++ [0])))) ++ [0, 0, 0, 2]
def kdA (l : List ByteArray) : List S27 → List Int → List Int
 | [], o => o
 | y :: r, o => kdA l r (o ++ ndB l y)
end
theorem prs_len (l : List ByteArray) : ∀ (ps : List S68) (o : List Int), o.length ≤ (ps.foldl (fun o p => o ++ prB l p) o).length
 | [], o => Nat.le_refl _
 | p :: r, o => by
  have := prs_len l r (o ++ prB l p); rw [List.length_append] at this; rw [List.foldl_cons]; omega
theorem kdA_len (l : List ByteArray) : ∀ (ks : List S27) (o : List Int), o.length ≤ (kdA l ks o).length
 | [], o => by rw [kdA]; exact Nat.le_refl _
 | y :: r, o => by
  have := kdA_len l r (o ++ ndB l y); rw [List.length_append] at this; rw [kdA]; omega
theorem kdA_append (l : List ByteArray) (b : List S27) : ∀ (a : List S27) (o : List Int), kdA l (a ++ b) o = kdA l b (kdA l a o)
 | [], o => by rw [List.nil_append, kdA]
 | x :: r, o => by rw [List.cons_append, kdA, kdA, kdA_append l b r]
theorem kdA_next (l : List ByteArray) (ks : List S27) (o : List Int) (i : Nat) (h : i < ks.length) : kdA l (ks.take (i + 1)) o = kdA l (ks.take i) o ++ ndB l (ks.getD i z27) := by
 rw [take_next ks z27 i h, kdA_append, kdA, kdA]
theorem kdA_take_len (l : List ByteArray) (ks : List S27) (o : List Int) (i : Nat) : (kdA l (ks.take i) o).length ≤ (kdA l ks o).length := by
 have := kdA_len l (ks.drop i) (kdA l (ks.take i) o)
 rwa [← kdA_append, List.take_append_drop] at this
theorem prs_take_len (l : List ByteArray) (ps : List S68) (o : List Int) (i : Nat) : ((ps.take i).foldl (fun o p => o ++ prB l p) o).length ≤ (ps.foldl (fun o p => o ++ prB l p) o).length := by
 have := prs_len l (ps.drop i) ((ps.take i).foldl (fun o p => o ++ prB l p) o)
 rwa [← List.foldl_append, List.take_append_drop] at this
attribute [local irreducible] Go.Calls in
set_option maxRecDepth 100000 in
set_option maxHeartbeats 8000000 in
theorem ndB.calls (m : Nat) (hm : m ≤ 1048576) : ∀ (x : S27) (A1 : Option Addr) (c1 : Nat) (A2 : Option Addr) (c2 : Nat) (l : List ByteArray) (A : Option Addr) (c : Nat) (W : World), bulk27 x ≤ m →
  Kd.C k68 W A1 x.f1.length x.f1 → Kd.C k27 W A2 x.f2.length x.f2 → Kd.C Kd.string W A l.length l → l.length ≤ c → sizes l ≤ 1073741824 → (ndB l x).length ≤ 1099511627776 →
  Calls Tryz.prog 22 #[.agg #[.string x.f0, .slice A1 x.f1.length c1, .slice A2 x.f2.length c2], .slice A l.length c, .int .i64 0] W fun e w' => ∃ v', e = .returned v' ∧ Kd.R (Kd.int .u8) 5 w' W.heap.size (fun _ => True) v' (ndB l x) ∧ Below W.heap.size W w' := by
 induction m with
 | zero => intro x A1 c1 A2 c2 l A c W hx; have := bulk_pos x; omega
 | succ m ih =>
 intro x A1 c1 A2 c2 l A c W hx hr1 hr2 hr hc hsz hlen; have hk := bulk_kids x; have hp := bulk_props x; have hnmz := bulk_name x; have IH := AK (ih Zq1); have HR1 := AK hr1; have HR2 := AK hr2; have HL := AK (And.intro hr hc); have HX := AK hx; have HSZ := AK hsz; have hu27 := Tryz.underlying27; have hu63 := Tryz.underlying68; obtain ⟨nm, ps, ks⟩ := x; simp only at hk hp hnmz hr1 hr2 HR1 HR2 ⊢
 obtain ⟨fin, hfin⟩ : ∃ fin, fin = ndB l ⟨nm, ps, ks⟩ := ⟨_, rfl⟩
 rw [← hfin]; rw [ndB] at hlen hfin; have HFIN := AK hfin; clear hfin; have HK := AK (And.intro hk (And.intro hp hnmz)); have HLEN := AK hlen
 have HB : Aside0 (Below W.heap.size W (W.alloc (.cells #[.string nm, .slice A1 ps.length c1, .slice A2 ks.length c2] 27))) := ⟨below_alloc (Below.refl _ _) _⟩
 have BX : Aside0 ((W.alloc (.cells #[.string nm, .slice A1 ps.length c1, .slice A2 ks.length c2] 27)).heap[W.heap.size]? = some (Obj.cells #[.string nm, .slice A1 ps.length c1, .slice A2 ks.length c2] 27 (0, 0))) := ⟨blk_new _ _⟩
 clear ih hr1 hr2 hx hr hc hsz hlen; go_enter Tryz.func22, Tryz.ntmps22; go_wp2
 go_loopg [7, 13] 1 (fun kq v7 v13 w' => v7 = .slice none 0 0 ∧ v13 = .int .i64 0 ∧ Aside0 (Below W.heap.size W w') ∧ Aside0 (w'.heap[W.heap.size]? = some (Obj.cells #[.string nm, .slice A1 ps.length c1, .slice A2 ks.length c2] 27 (0, 0))))
 case atStart => exact ⟨rfl, rfl, HB, BX⟩
 case round =>
  clear HB BX; obtain ⟨rfl, rfl, HB, BX⟩ := hrel; go_wp2

  obtain ⟨lm, hlm⟩ : ∃ lm, lm = bytesOf nm ++ [0] := ⟨_, rfl⟩
  have HSZ2 : Aside0 (nm.size ≤ 1099511627776 ∧ (([0, 0, 0, 1] : List Int).length + (lm ++ padW lm).length) * 1 ≤ 140737488355328) := ⟨by
   have h8 := HK.out; have h9 := HX.out
   have h7 : lm.length = nm.size + 1 := by rw [hlm, List.length_append, bytesOf_length]; rfl
   have h6 := padW_three lm; refine ⟨Zq1, ?_⟩; rw [List.length_append, h7]; simp only [List.length_cons, List.length_nil]
   omega⟩
  obtain ⟨kp, hkp⟩ := (padded_ev lm (by have := HSZ2.out.2; rw [List.length_append] at this; simp only [List.length_cons, List.length_nil] at this; have h8 := HK.out; have h9 := HX.out; have h7 : lm.length = nm.size + 1 := by { rw [hlm, List.length_append, bytesOf_length]; rfl }; omega)).rounds; have HPD := AK (fun (A' : Option Addr) (c' : Nat) (w : World) (hC : Kd.C (Kd.int .u8) w A' lm.length lm) (hc : lm.length ≤ c') => arboretref04_padded.calls kp A' c' lm _ w hC hc hkp); clear hkp; refine wp_region_inv_lit (fun D a w => ∃ u19 u20 u21 u22 u23 u24 u25 u26 u27 u28 u29 u30 u8 b, a = { tmps := List.toArray (Value.agg #[Value.string nm, Value.slice A1 ps.length c1, Value.slice A2 ks.length c2] :: Value.slice A l.length c :: Value.int IntKind.i64 0 :: Value.pointer (some { block := W.heap.size, off := 0 }) :: undef :: undef :: Value.slice none 0 0 :: Value.slice none 0 0 :: u8 :: undef :: undef :: undef :: Value.int IntKind.i64 0 :: Value.int IntKind.i64 0 :: Value.bool false :: u15 :: u16 :: u17 :: u18 :: u19 :: u20 :: u21 :: u22 :: u23 :: u24 :: u25 :: u26 :: u27 :: u28 :: u29 :: u30 :: undef :: undef :: undef :: undef :: undef :: undef :: undef :: undef :: undef :: undef :: undef :: undef :: undef :: undef :: undef :: undef :: undef :: undef :: undef :: undef :: undef :: undef :: undef :: undef :: undef :: undef :: undef :: undef :: undef :: undef :: undef :: undef :: undef :: undef :: undef :: undef :: undef :: undef :: undef :: undef :: undef :: undef :: undef :: undef :: undef :: undef :: undef :: undef :: undef :: undef :: undef :: undef :: undef :: undef :: undef :: undef :: []), defers := [] } ∧ R6 W W.heap.size (Obj.cells #[.string nm, .slice A1 ps.length c1, .slice A2 ks.length c2] 27 (0, 0)) nm lm (lm ++ padW lm) D b u19 u20 u21 u22 u23 u24 u25 u26 u27 u28 u29 u30 u8 w) Zq3 ?_ Zq3 ?_ ?_ ?_; (·rintro D D' a w hj ⟨u19, u20, u21, u22, u23, u24, u25, u26, u27, u28, u29, u30, u8, b, rfl, F⟩; exact ⟨u19, u20, u21, u22, u23, u24, u25, u26, u27, u28, u29, u30, u8, b, rfl, F.iff hj⟩); (·exact ⟨_, _, _, _, _, _, _, _, _, _, _, _, _, 0, rfl, ⟨below_drew1 HB.out, blk_drew BX.out, fun d => absurd Zq2 d, fun d => absurd Zq2 d, fun d => absurd Zq2 d, fun d => absurd Zq2 d, fun d => absurd Zq2 d, fun d => absurd Zq2 d, fun d => absurd Zq2 d, fun d => absurd Zq2 d, fun d => absurd Zq2 d, fun d => absurd Zq2 d, fun d => absurd Zq2 d, fun d => absurd Zq2 d, fun d => absurd Zq2 d, fun d => absurd Zq2 d, fun d => absurd Zq2 d, fun d => absurd Zq2 d, fun d => absurd Zq2 d, fun d => absurd Zq2 d⟩⟩)
  ·refine ⟨?_, ?_, ?_, ?_, ?_, ?_, ?_, ?_, ?_, ?_, ?_, ?_, ?_, trivial⟩
   ·intro D a w hnd hb hI; obtain ⟨u19, u20, u21, u22, u23, u24, u25, u26, u27, u28, u29, u30, u8, b, rfl, F⟩ := hI; simp only [needsD, Region.binds, true_implies, and_true] at hb; have hgl := F.glt; refine value_ (w1 := ?_) (v := ?_) Zq9 rfl ?_ ?_; rotate_left 2
    ·go_simp
     constructor
     ·rfl
     ·rfl
    exact ⟨_, _, _, _, _, _, _, _, _, _, _, _, _, b, rfl, R6.n0 (F.below Zq59 (Nat.le_of_lt hgl)) _⟩
   ·intro D a w hnd hb hI; obtain ⟨u19, u20, u21, u22, u23, u24, u25, u26, u27, u28, u29, u30, u8, b, rfl, F⟩ := hI; simp only [needsD, Region.binds, true_implies, and_true] at hb; have hgl := F.glt; refine value_ (w1 := ?_) (v := ?_) Zq9 rfl ?_ ?_; rotate_left 2
    ·go_simp
     constructor
     ·rfl
     ·rfl
    exact ⟨_, _, _, _, _, _, _, _, _, _, _, _, _, b, rfl, R6.n1 F⟩
   ·intro D a w hnd hb hI; obtain ⟨u19, u20, u21, u22, u23, u24, u25, u26, u27, u28, u29, u30, u8, b, rfl, F⟩ := hI; simp only [needsD, Region.binds, true_implies, and_true] at hb; have hgl := F.glt; obtain ⟨z, rfl⟩ := F.f0 hb.1; obtain rfl := F.f1 hb.2; refine step_app (.tmp 19) (.tmp 20) 32 rfl rfl rfl rfl (run_app_none _ z w) ?_; exact ⟨_, _, _, _, _, _, _, _, _, _, _, _, _, b, rfl, R6.n2 F z⟩
   ·intro D a w hnd hb hI; obtain ⟨u19, u20, u21, u22, u23, u24, u25, u26, u27, u28, u29, u30, u8, b, rfl, F⟩ := hI; simp only [needsD, Region.binds, true_implies, and_true] at hb; have hgl := F.glt; refine value_ (w1 := ?_) (v := ?_) Zq9 rfl ?_ ?_; rotate_left 2
    ·go_simp
     constructor
     ·rfl
     ·rfl
    exact ⟨_, _, _, _, _, _, _, _, _, _, _, _, _, b, rfl, R6.n3 (F.below Zq59 (Nat.le_of_lt hgl)) _ (lit_C w [0, 0, 0, 1] Zq2)⟩
   ·intro D a w hnd hb hI; obtain ⟨u19, u20, u21, u22, u23, u24, u25, u26, u27, u28, u29, u30, u8, b, rfl, F⟩ := hI; simp only [needsD, Region.binds, true_implies, and_true] at hb; have hgl := F.glt; obtain ⟨z, rfl⟩ := F.f2 hb.1; obtain ⟨z2, rfl, h2⟩ := F.f3 hb.2.1 hnd; obtain ⟨v', w', hrun, hR, hbel⟩ := run_app_empty _ z z2 4 [0, 0, 0, 1] w Zq2 Zq2 h2; refine step_app (.tmp 21) (.tmp 22) 32 rfl rfl rfl rfl hrun ?_
    have h9 : ¬ D 9 := fun d => hnd (F.o94 d)
    have hR4 : Kd.R (Kd.int .u8) 5 w' W.heap.size (fun k => D 7 → k ≠ b) v' [0, 0, 0, 1] := Kd.R_mono (Kd.R_lower (Kd.R_bound hR) (Nat.le_of_lt hgl)) (fun k hk d7 => by have := (F.f7 d7 h9).lt; have := hk.2.1; omega); exact ⟨_, _, _, _, _, _, _, _, _, _, _, _, _, b, rfl, R6.n4 (F.below hbel (Nat.le_of_lt hgl)) v' hR4⟩
   ·intro D a w hnd hb hI; obtain ⟨u19, u20, u21, u22, u23, u24, u25, u26, u27, u28, u29, u30, u8, b, rfl, F⟩ := hI; simp only [needsD, Region.binds, true_implies, and_true] at hb; have hgl := F.glt; refine value_ (w1 := ?_) (v := ?_) Zq9 rfl ?_ ?_; rotate_left 2
    ·go_simp
     constructor
     ·rfl
     ·rfl
    exact ⟨_, _, _, _, _, _, _, _, _, _, _, _, _, b, rfl, R6.n5 F⟩
   ·intro D a w hnd hb hI; obtain ⟨u19, u20, u21, u22, u23, u24, u25, u26, u27, u28, u29, u30, u8, b, rfl, F⟩ := hI; simp only [needsD, Region.binds, true_implies, and_true] at hb; have hgl := F.glt; obtain rfl := F.f5 hb; have q0 := (blk_cell F.box 0).trans rfl; refine value_ (w1 := ?_) (v := ?_) Zq9 rfl ?_ ?_; rotate_left 2
    ·go_simp
     constructor
     ·rfl
     ·rfl
    exact ⟨_, _, _, _, _, _, _, _, _, _, _, _, _, b, rfl, R6.n6 F⟩
   ·intro D a w hnd hb hI; obtain ⟨u19, u20, u21, u22, u23, u24, u25, u26, u27, u28, u29, u30, u8, b, rfl, F⟩ := hI; simp only [needsD, Region.binds, true_implies, and_true] at hb; have hgl := F.glt; obtain rfl := F.f6 hb; have hcv := conv_made nm w; refine value_ (w1 := ?_) (v := ?_) Zq9 rfl ?_ ?_; rotate_left 2
    ·go_simp
     constructor
     ·rfl
     ·rfl
    have hbel := bytes_below (Below.refl w.heap.size w) (Nat.le_refl _) 5 nm; exact ⟨_, _, _, _, _, _, _, _, _, _, _, _, _, w.heap.size, rfl, R6.n7 F hbel _ (Conv.made nm w)⟩
   ·intro D a w hnd hb hI; obtain ⟨u19, u20, u21, u22, u23, u24, u25, u26, u27, u28, u29, u30, u8, b, rfl, F⟩ := hI; simp only [needsD, Region.binds, true_implies, and_true] at hb; have hgl := F.glt; refine value_ (w1 := ?_) (v := ?_) Zq9 rfl ?_ ?_; rotate_left 2
    ·go_simp
     constructor
     ·rfl
     ·rfl
    exact ⟨_, _, _, _, _, _, _, _, _, _, _, _, _, b, rfl, R6.n8 (F.below Zq59 (Nat.le_of_lt hgl)) _ (lit_C w [0] Zq2)⟩
   ·intro D a w hnd hb hI; obtain ⟨u19, u20, u21, u22, u23, u24, u25, u26, u27, u28, u29, u30, u8, b, rfl, F⟩ := hI; simp only [needsD, Region.binds, true_implies, and_true] at hb; have hgl := F.glt; obtain ⟨h7, h8, h4⟩ := hb; obtain ⟨z, rfl, hz⟩ := F.f8 h8 hnd; have hcv := F.f7 h7 hnd; obtain ⟨A', c', w', hrun, hc', hC', hgr⟩ := run_app_name 32 b u26 nm w z 1 HSZ2.out.1 hcv hz; rw [← hlm] at hrun hc' hC'; refine step_app (.tmp 26) (.tmp 27) 32 rfl rfl rfl rfl hrun ?_; exact ⟨_, _, _, _, _, _, _, _, _, _, _, _, _, b, rfl, R6.n9 F h4 h7 hnd hgr A' c' hc' hC'⟩
   ·intro D a w hnd hb hI; obtain ⟨u19, u20, u21, u22, u23, u24, u25, u26, u27, u28, u29, u30, u8, b, rfl, F⟩ := hI; simp only [needsD, Region.binds, true_implies, and_true] at hb; have hgl := F.glt; obtain ⟨A', c', rfl, hc', hC'⟩ := F.f9 hb.1 hnd; refine goes_ Tryz.func36 Zq3 rfl #[.slice A' lm.length c'] Zq9 rfl rfl Zq33 ?_; refine (HPD.out A' c' w hC' hc').mono ?_; rintro e w' ⟨v', rfl, hR, hbel⟩; obtain ⟨A2', c2', rfl, hc2, hC2⟩ := Kd.R_reads hR; refine ⟨_, rfl, ?_⟩; exact ⟨_, _, _, _, _, _, _, _, _, _, _, _, _, b, rfl, R6.n10 (F.below hbel (Nat.le_of_lt hgl)) hb.1 A2' c2' hc2 hC2⟩
   ·intro D a w hnd hb hI; obtain ⟨u19, u20, u21, u22, u23, u24, u25, u26, u27, u28, u29, u30, u8, b, rfl, F⟩ := hI; simp only [needsD, Region.binds, true_implies, and_true] at hb; have hgl := F.glt; have h9 := F.o109 hb.2.1; have h4 := hb.1; obtain ⟨A', c', rfl, hc', hC'⟩ := F.f10 hb.2.1 hnd; have hR4 := F.f4 h4 hnd; refine Kd.R_append_rows_step (Kd.int .u8) (w0 := W) W.heap.size Zq9 (.tmp 23) (.tmp 29) 32 5 (.int .u8 0) 1 rfl Tryz.underlying32 info5 rfl Zq2 Zq1 _ [0, 0, 0, 1] (lm ++ padW lm) _ _ _ (fun _ => True) (fun _ => False) rfl rfl (Kd.R_mono hR4 (fun _ _ => trivial)) hC' (fun _ _ h => h) (fun _ h => h.elim) (fun _ _ => trivial) F.bel (Nat.le_of_lt hgl) HSZ2.out.2 ?_; intro v1 w1 hR1 hbel hgr hat; have hbx := blk_grown F.box hgr (Kd.R_ne hR4 F.box Zq2); exact ⟨_, _, _, _, _, _, _, _, _, _, _, _, _, b, rfl, R6.n11 F h4 h9 hb.2.1 (fun d => hnd (F.o1211 d)) v1 hbel hbx hR1⟩
   ·intro D a w hnd hb hI; obtain ⟨u19, u20, u21, u22, u23, u24, u25, u26, u27, u28, u29, u30, u8, b, rfl, F⟩ := hI; simp only [needsD, Region.binds, true_implies, and_true] at hb; have hgl := F.glt; refine value_ (w1 := ?_) (v := ?_) Zq9 rfl ?_ ?_; rotate_left 2
    ·go_simp
     constructor
     ·rfl
     ·rfl
    exact ⟨_, _, _, _, _, _, _, _, _, _, _, _, _, b, rfl, R6.n12 F hb.1⟩

  ·intro D a w8 hall hI; obtain ⟨u19, u20, u21, u22, u23, u24, u25, u26, u27, u28, u29, u30, u8, b, rfl, F⟩ := hI; have hu := F.f12 (hall 12 Zq2); have hR0 := F.f11 (hall 11 Zq2); rw [← hu] at hR0; clear hu
   obtain ⟨o0, ho0⟩ : ∃ o0, o0 = ([0, 0, 0, 1] : List Int) ++ (lm ++ padW lm) := ⟨_, rfl⟩
   rw [← ho0] at hR0
   have HO0 : Aside0 (o0 = [0, 0, 0, 1] ++ ((bytesOf nm ++ [0]) ++ padW (bytesOf nm ++ [0]))) := ⟨by rw [ho0, hlm]⟩
   have HR0 := AK hR0; have HB0 := AK F.bel; have BX0 := AK F.box
   have HLE0 : Aside0 ((kdA l ks (ps.foldl (fun o p => o ++ prB l p) o0)).length + 4 ≤ 1099511627776) := ⟨by
    have := HLEN.out; rw [← HO0.out, List.length_append] at this
    exact this⟩
   clear F hall hR0 ho0 HLEN HPD HSZ2 HB BX; have q0 := (blk_cell BX0.out 0).trans rfl; have q1 := (blk_cell BX0.out 1).trans rfl; have q2 := (blk_cell BX0.out 2).trans rfl; go_wp2
   go_loopg [8, 34] (ps.length + 1) (fun kq v8 v34 w' => ∃ (i : Nat), v34 = .int .i64 (i : Int) ∧ Aside0 (i + kq = ps.length + 1) ∧ Aside0 (Kd.R (Kd.int .u8) 5 w' W.heap.size (fun _ => True) v8 ((ps.take i).foldl (fun o p => o ++ prB l p) o0)) ∧ Aside0 (Below W.heap.size W w') ∧ Aside0 (w'.heap[W.heap.size]? = some (Obj.cells #[.string nm, .slice A1 ps.length c1, .slice A2 ks.length c2] 27 (0, 0))))
   case atStart => exact ⟨0, rfl, ⟨Zq1⟩, HR0, HB0, BX0⟩
   case round =>
    clear HR0 HB0 BX0 q0 q1 q2; obtain ⟨i, rfl, HI, HRr, HBr, BXr⟩ := hrel
    by_cases ci : (i : Int) < (ps.length : Int)
    ·have cib : decide ((i : Int) < (ps.length : Int)) = true := decide_eq_true ci
     have cil : i < ps.length := by omega
     cases gk with
     | zero => have := HI.out; omega
     | succ k1 =>
     have hnx := foldl_next (fun (o : List Int) (p : S68) => o ++ prB l p) o0 ps z68 i cil; have hle := Nat.le_trans (Nat.add_le_add_right (Nat.le_trans (prs_take_len l ps o0 (i + 1)) (kdA_len l ks _)) 4) HLE0.out; rw [hnx] at hle; have hmem := getP (xs := ps) (i := i) cil
     have hbv : (ps.getD i z68).f1.length ≤ 1048576 := by
      have h1 := bulk_prop (x := ⟨nm, ps, ks⟩) hmem; have h2 := bulk_value (ps.getD i z68); have h3 := HX.out; omega
     clear hmem; obtain ⟨ad, Ap, cp, e405, hx0, hx1, hlp, hip⟩ := at_T68 HR1.out (i : Int) (Int.natCast_nonneg i) ci; cases e405; have hbw := HBr.out; rw [rdP] at hx0 hx1 hlp hip; rw [Int.toNat_natCast] at hx0 hx1; replace hx0 := (hbw.cell (World.block_lt_of_cell? W _ hx0)).trans hx0; replace hx1 := (hbw.cell (World.block_lt_of_cell? W _ hx1)).trans hx1; generalize ps.getD i z68 = p at hnx hle hx0 hx1 hlp hip hbv; generalize (ps.take i).foldl (fun o p => o ++ prB l p) o0 = o at HRr hnx hle; obtain ⟨s, vl⟩ := p; dsimp only at hx0 hx1 hlp hip hbv; have hpr : prB l ⟨s, vl⟩ = [0, 0, 0, 3] ++ cellB (vl.length : Int) ++ cellB ((whereI l s : Nat) : Int) ++ (vl ++ padW vl) := rfl; rw [hpr] at hnx hle; clear hpr; simp only [List.length_append, cellB_length, List.length_cons, List.length_nil] at hle
     have HL1 : Aside0 ((o.length + 0) * 1 ≤ 140737488355328) := ⟨Zq1⟩
     have HL2 : Aside0 ((o.length + 4) * 1 ≤ 140737488355328) := ⟨Zq1⟩
     have HL3 : Aside0 (((o ++ [0, 0, 0, 3]).length + (cellB (vl.length : Int)).length) * 1 ≤ 140737488355328) := ⟨by simp only [List.length_append, cellB_length, List.length_cons, List.length_nil]; omega⟩
     have HL4 : Aside0 (((o ++ [0, 0, 0, 3] ++ cellB (vl.length : Int)).length + (cellB ((whereI l s : Nat) : Int)).length) * 1 ≤ 140737488355328) := ⟨by simp only [List.length_append, cellB_length, List.length_cons, List.length_nil]; omega⟩
     have HL5 : Aside0 (((o ++ [0, 0, 0, 3] ++ cellB (vl.length : Int) ++ cellB ((whereI l s : Nat) : Int)).length + (vl ++ padW vl).length) * 1 ≤ 140737488355328) := ⟨by simp only [List.length_append, cellB_length, List.length_cons, List.length_nil]; omega⟩
     obtain ⟨pv, hpv⟩ : ∃ pv, pv = vl ++ padW vl := ⟨_, rfl⟩
     rw [← hpv] at hnx; rw [← hpv] at HL5; have hwh := whereI_le s l; have hsz := HSZ.out; obtain ⟨kc1, hc1⟩ := (cell_ev (vl.length : Int) Zq1 (by omega)).rounds; obtain ⟨kc2, hc2⟩ := (cell_ev ((whereI l s : Nat) : Int) Zq1 (by omega)).rounds; obtain ⟨kw, hw1⟩ := (where_ev l s (by have := sizes_len l; omega) (by omega)).rounds; obtain ⟨kd, hp1⟩ := (padded_ev vl (by omega)).rounds; have HC1 := AK hc1; have HC2 := AK hc2; have HW1 := AK hw1; rw [← hpv] at hp1; have HP1 := AK hp1; have HIP := AK (And.intro hip hlp); have HNX := AK hnx; have HBP := AK (blk_new wr (.cells #[.string s, .slice Ap vl.length cp] 68 (0, 0)))
     have hw2 : Go.RowKit.wrap64 ((i : Int) + 1) = ((i + 1 : Nat) : Int) := by have h8 := HK.out; have h9 := HX.out; unfold Go.RowKit.wrap64; omega
     have q0 := (blk_cell BXr.out 0).trans rfl; have q1 := (blk_cell BXr.out 1).trans rfl; have q2 := (blk_cell BXr.out 2).trans rfl; clear hpv hle hnx hc1 hc2 hw1 hp1 hip hlp hbv hwh hsz hbw; (go_wp2_with (first | ((with_reducible refine gate_builtin (b := .append) (xs := #[.tmp 42, .tmp 43]) rfl ?_); at_builtin; refine Kd.R_append_rows (Kd.int .u8) (w0 := W) W.heap.size rfl (.tmp 42) (.tmp 43) 32 5 (.int .u8 0) 1 rfl Tryz.underlying32 info5 rfl Zq2 Zq1 _ o [] _ _ _ (fun _ => True) (fun _ => False) rfl rfl ?aO ?aR (fun _ _ h => h) (fun _ h => h.elim) (fun _ _ => trivial) ?aB ?aS ?aL ?_; (case aO => exact (Kd.R_alloc HRr.out _)); (case aR => exact (Kd.C_nil _ _)); (case aB => exact (below_alloc HBr.out _)); (case aS => exact ((below_alloc HBr.out _)).size); (case aL => exact HL1.out); intro v44 w44 ho hb hg hat; rw [List.append_nil] at ho; have BX44 := AK (blk_grown (blk_alloc BXr.out _) hg (Kd.R_ne HRr.out BXr.out Zq2)); have BP44 := AK (blk_grown HBP.out hg (Kd.R_ne (Kd.R_alloc HRr.out _) HBP.out Zq2)); have HB44 := AK hb; have HR44 := AK ho; clear ho hb hg hat) | ((with_reducible refine gate_builtin (b := .append) (xs := #[.tmp 44, .tmp 45]) rfl ?_); at_builtin; refine Kd.R_append_rows (Kd.int .u8) (w0 := W) W.heap.size rfl (.tmp 44) (.tmp 45) 32 5 (.int .u8 0) 1 rfl Tryz.underlying32 info5 rfl Zq2 Zq1 _ o [0, 0, 0, 3] _ _ _ (fun _ => True) (fun _ => False) rfl rfl ?aO ?aR (fun _ _ h => h) (fun _ h => h.elim) (fun _ _ => trivial) ?aB ?aS ?aL ?_; (case aO => exact (Kd.R_alloc HR44.out _)); (case aR => exact (lit_C w44 [0, 0, 0, 3] Zq2)); (case aB => exact (below_alloc HB44.out _)); (case aS => exact ((below_alloc HB44.out _)).size); (case aL => exact HL2.out); intro v46 w46 ho hb hg hat; have BX46 := AK (blk_grown (blk_alloc BX44.out _) hg (Kd.R_ne HR44.out BX44.out Zq2)); have BP46 := AK (blk_grown (blk_alloc BP44.out _) hg (Kd.R_ne HR44.out BP44.out Zq2)); have HB46 := AK hb; have HR46 := AK ho; clear ho hb hg hat))); refine start_ (n := 13) (S := fun w' => w'.cell? ⟨wr.heap.size, 0, none⟩ = some (.string s) ∧ w'.cell? ⟨wr.heap.size, 1, none⟩ = some (.slice Ap vl.length cp)) (ds := []) #[false, false, false, false, false, false, false, false, false, false, false, false, false] Zq3 rfl rfl ⟨((blk_cell BP46.out 0).trans rfl), ((blk_cell BP46.out 1).trans rfl)⟩ (fun hHeld => ?_); refine pure_ (i := 0) (N := some 47) (v := ?_) (a' := ?_) #[true, false, false, false, false, false, false, false, false, false, false, false, false] rfl rfl Zq3 (fun _ _ _ h => h) (Or.inl ⟨Zq9, ?_⟩) ?_ ?_; rotate_left; (·intro w'; go_simp; with_reducible rfl); rotate_left; (·simp only [Sx]; rfl); refine pure_ (i := 1) (N := some 48) (v := ?_) (a' := ?_) #[true, true, false, false, false, false, false, false, false, false, false, false, false] rfl rfl Zq3 (fun _ _ _ h => h) (Or.inl ⟨Zq9, ?_⟩) ?_ ?_; rotate_left; (·intro w'; go_simp; with_reducible rfl); rotate_left; (·simp only [Sx]; rfl); refine pure_ (i := 6) (N := some 53) (v := ?_) (a' := ?_) #[true, true, false, false, false, false, true, false, false, false, false, false, false] rfl rfl Zq3 (fun _ _ _ h => h) (Or.inl ⟨Zq9, ?_⟩) ?_ ?_; rotate_left; (·intro w'; go_simp; with_reducible rfl); rotate_left; (·simp only [Sx]; rfl); refine pure_ (i := 7) (N := some 54) (v := ?_) (a' := ?_) #[true, true, false, false, false, false, true, true, false, false, false, false, false] rfl rfl Zq3 (fun _ _ _ h => h) (Or.inl ⟨Zq9, ?_⟩) ?_ ?_; rotate_left; (·intro w'; go_simp; with_reducible rfl); rotate_left; (·simp only [Sx]; rfl); refine take_ (i := 2) (N := some 49) (v := ?_) (a' := ?_) #[true, true, true, false, false, false, true, true, false, false, false, false, false] rfl rfl Zq3 (fun _ _ _ h => h) (Or.inl ⟨Zq9, ?_⟩) hHeld ?_ ?_; rotate_left; (·rintro w' ⟨s0, s1⟩; go_simp; with_reducible rfl); rotate_left; (·simp only [Sx]; rfl); refine pure_ (i := 3) (N := some 50) (v := ?_) (a' := ?_) #[true, true, true, true, false, false, true, true, false, false, false, false, false] rfl rfl Zq3 (fun _ _ _ h => h) (Or.inl ⟨Zq9, ?_⟩) ?_ ?_; rotate_left; (·intro w'; go_simp; with_reducible rfl); rotate_left; (·simp only [Sx]; rfl); refine take_ (i := 8) (N := some 55) (v := ?_) (a' := ?_) #[true, true, true, true, false, false, true, true, true, false, false, false, false] rfl rfl Zq3 (fun _ _ _ h => h) (Or.inl ⟨Zq9, ?_⟩) hHeld ?_ ?_; rotate_left; (·rintro w' ⟨s0, s1⟩; go_simp; with_reducible rfl); rotate_left; (·simp only [Sx]; rfl); refine one_ (i := 4) (N := some 51) #[true, true, true, true, true, false, true, true, true, false, false, false, false] rfl rfl Zq3 Zq2 (fun K hK => ?_); refine goes_ Tryz.func24 Zq3 rfl #[.int .i64 (vl.length : Int)] Zq9 rfl rfl Zq33 ?_; refine (arboretref04_cell.calls kc1 _ _ _ HC1.out).mono ?_; rintro e w51 ⟨v51, rfl, hr, hb0⟩; have hb := below_step (below_drew1 (Below.refl w46.heap.size w46)) hb0; have BX51 := AK (blk_below BX46.out hb); have BP51 := AK (blk_below BP46.out hb); have HB51 := AK (below_step HB46.out hb); have HR51 := AK (Kd.R_below HR46.out hb); obtain ⟨A51, c51, rfl, hc51, hC51⟩ := Kd.R_reads hr; have HC51 := AK hC51; clear hr hb hb0 hC51 hc51; refine ⟨_, rfl, ?_⟩; refine hK.out _ _ ⟨((blk_cell BP51.out 0).trans rfl), ((blk_cell BP51.out 1).trans rfl)⟩ (fun hHeld => ?_); clear hK K; refine norm_ (a' := ?_) ?_ ?_; rotate_left; (·show Act.put _ (some 51) _ = _; simp only [Sx]; rfl)
     refine one_ (i := 5) (N := some 52) #[true, true, true, true, true, true, true, true, true, false, false, false, false] rfl rfl Zq3 Zq2 (fun K hK => ?_); refine Kd.R_append_rows_step (Kd.int .u8) (w0 := W) W.heap.size Zq9 (.tmp 47) (.tmp 51) 32 5 (.int .u8 0) 1 rfl Tryz.underlying32 info5 rfl Zq2 Zq1 _ (o ++ [0, 0, 0, 3]) (cellB (vl.length : Int)) _ _ _ (fun _ => True) (fun _ => False) rfl rfl HR51.out HC51.out (fun _ _ h => h) (fun _ h => h.elim) (fun _ _ => trivial) HB51.out (HB51.out).size HL3.out ?_; intro v52 w52 ho hb hg hat; have BX52 := AK (blk_grown BX51.out hg (Kd.R_ne HR51.out BX51.out Zq2)); have BP52 := AK (blk_grown BP51.out hg (Kd.R_ne HR51.out BP51.out Zq2)); have HB52 := AK hb; have HR52 := AK ho; clear ho hb hg hat; refine hK.out _ _ ⟨((blk_cell BP52.out 0).trans rfl), ((blk_cell BP52.out 1).trans rfl)⟩ (fun hHeld => ?_); clear hK K; refine norm_ (a' := ?_) ?_ ?_; rotate_left; (·show Act.put _ (some 52) _ = _; simp only [Sx]; rfl); refine one_ (i := 9) (N := some 56) #[true, true, true, true, true, true, true, true, true, true, false, false, false] rfl rfl Zq3 Zq2 (fun K hK => ?_); refine goes_ Tryz.func37 Zq3 rfl #[.slice A l.length c, .string s] Zq9 rfl rfl Zq33 ?_; refine (arboretref04_where.calls kw A c l s _ w52 (Kd.C_below HL.out.1 HB52.out) HL.out.2 HW1.out).mono ?_; rintro e w56 ⟨rfl, ⟨nd, rfl⟩⟩; have hb := pw_below_drewN (Below.refl w52.heap.size w52) nd; generalize w52.drewN nd = w56 at hb ⊢; have BX56 := AK (blk_below BX52.out hb); have BP56 := AK (blk_below BP52.out hb); have HB56 := AK (below_step HB52.out hb); have HR56 := AK (Kd.R_below HR52.out hb); clear hb; refine ⟨_, rfl, ?_⟩; refine hK.out _ _ ⟨((blk_cell BP56.out 0).trans rfl), ((blk_cell BP56.out 1).trans rfl)⟩ (fun hHeld => ?_); clear hK K; refine norm_ (a' := ?_) ?_ ?_; rotate_left; (·show Act.put _ (some 56) _ = _; simp only [Sx]; rfl); refine one_ (i := 10) (N := some 57) #[true, true, true, true, true, true, true, true, true, true, true, false, false] rfl rfl Zq3 Zq2 (fun K hK => ?_); refine goes_ Tryz.func24 Zq3 rfl #[.int .i64 ((whereI l s : Nat) : Int)] Zq9 rfl rfl Zq33 ?_; refine (arboretref04_cell.calls kc2 _ _ w56 HC2.out).mono ?_; rintro e w57 ⟨v57, rfl, hr, hb⟩; have BX57 := AK (blk_below BX56.out hb); have BP57 := AK (blk_below BP56.out hb); have HB57 := AK (below_step HB56.out hb); have HR57 := AK (Kd.R_below HR56.out hb); obtain ⟨A57, c57, rfl, hc57, hC57⟩ := Kd.R_reads hr; have HC57 := AK hC57; clear hr hb hC57 hc57; refine ⟨_, rfl, ?_⟩; refine hK.out _ _ ⟨((blk_cell BP57.out 0).trans rfl), ((blk_cell BP57.out 1).trans rfl)⟩ (fun hHeld => ?_); clear hK K; refine norm_ (a' := ?_) ?_ ?_; rotate_left; (·show Act.put _ (some 57) _ = _; simp only [Sx]; rfl); refine one_ (i := 11) (N := some 58) #[true, true, true, true, true, true, true, true, true, true, true, true, false] rfl rfl Zq3 Zq2 (fun K hK => ?_); refine Kd.R_append_rows_step (Kd.int .u8) (w0 := W) W.heap.size Zq9 (.tmp 52) (.tmp 57) 32 5 (.int .u8 0) 1 rfl Tryz.underlying32 info5 rfl Zq2 Zq1 _ (o ++ [0, 0, 0, 3] ++ cellB (vl.length : Int)) (cellB ((whereI l s : Nat) : Int)) _ _ _ (fun _ => True) (fun _ => False) rfl rfl HR57.out HC57.out (fun _ _ h => h) (fun _ h => h.elim) (fun _ _ => trivial) HB57.out (HB57.out).size HL4.out ?_; intro v58 w58 ho hb hg hat; have BX58 := AK (blk_grown BX57.out hg (Kd.R_ne HR57.out BX57.out Zq2)); have BP58 := AK (blk_grown BP57.out hg (Kd.R_ne HR57.out BP57.out Zq2)); have HB58 := AK hb; have HR58 := AK ho; clear ho hb hg hat; refine hK.out _ _ ⟨((blk_cell BP58.out 0).trans rfl), ((blk_cell BP58.out 1).trans rfl)⟩ (fun hHeld => ?_); clear hK K; refine norm_ (a' := ?_) ?_ ?_; rotate_left; (·show Act.put _ (some 58) _ = _; simp only [Sx]; rfl); refine pure_ (i := 12) (N := some 8) (v := ?_) (a' := ?_) #[true, true, true, true, true, true, true, true, true, true, true, true, true] rfl rfl Zq3 (fun _ _ _ h => h) (Or.inl ⟨Zq9, ?_⟩) ?_ ?_; rotate_left; (·intro w'; go_simp; with_reducible rfl); rotate_left; (·simp only [Sx]; rfl); refine done_ Zq3 ?_; go_wp2_with (first | (go_at_call 36; refine (arboretref04_padded.calls kd Ap cp vl _ w58 (Kd.C_below HIP.out.1 HB58.out) HIP.out.2 HP1.out).mono ?_; rintro e w62 ⟨v62, rfl, hr, hb⟩; have BX62 := AK (blk_below BX58.out hb); have HB62 := AK (below_step HB58.out hb); have HR62 := AK (Kd.R_below HR58.out hb); obtain ⟨A62, c62, rfl, hc62, hC62⟩ := Kd.R_reads hr; have HC62 := AK hC62; clear hr hb hC62 hc62) | ((with_reducible refine gate_builtin (b := .append) (xs := #[.tmp 59, .tmp 62]) rfl ?_); at_builtin; refine Kd.R_append_rows (Kd.int .u8) (w0 := W) W.heap.size rfl (.tmp 59) (.tmp 62) 32 5 (.int .u8 0) 1 rfl Tryz.underlying32 info5 rfl Zq2 Zq1 _ (o ++ [0, 0, 0, 3] ++ cellB (vl.length : Int) ++ cellB ((whereI l s : Nat) : Int)) pv _ _ _ (fun _ => True) (fun _ => False) rfl rfl ?aO ?aR (fun _ _ h => h) (fun _ h => h.elim) (fun _ _ => trivial) ?aB ?aS ?aL ?_; (case aO => exact HR62.out); (case aR => exact HC62.out); (case aB => exact HB62.out); (case aS => exact (HB62.out).size); (case aL => exact HL5.out); intro v63 w63 ho hb hg hat; have BX63 := AK (blk_grown BX62.out hg (Kd.R_ne HR62.out BX62.out Zq2)); have HB63 := AK hb; have HR63 := AK ho; clear ho hb hg hat))
     go_roundg k1
     case measure => exact Nat.lt_succ_self _
     case rel => exact ⟨i + 1, congrArg (Value.int .i64) hw2, ⟨step_ix HI.out⟩, ⟨by rw [HNX.out, ← List.append_assoc, ← List.append_assoc, ← List.append_assoc]; exact HR63.out⟩, HB63, BX63⟩
    ·have cib : decide ((i : Int) < (ps.length : Int)) = false := decide_eq_false ci; have ht : ps.take i = ps := List.take_of_length_le Zq1; rw [ht] at HRr
     obtain ⟨o1, ho1⟩ : ∃ o1, o1 = ps.foldl (fun o p => o ++ prB l p) o0 := ⟨_, rfl⟩
     rw [← ho1] at HRr; have HO1 := AK ho1
     have HLE1 : Aside0 ((kdA l ks o1).length + 4 ≤ 1099511627776) := ⟨by rw [HO1.out]; exact HLE0.out⟩
     have q0 := (blk_cell BXr.out 0).trans rfl; have q1 := (blk_cell BXr.out 1).trans rfl; have q2 := (blk_cell BXr.out 2).trans rfl; clear ht ho1; go_wp2
     go_loopg [8, 68] (ks.length + 1) (fun kq v8 v68 w' => ∃ (i : Nat), v68 = .int .i64 (i : Int) ∧ Aside0 (i + kq = ks.length + 1) ∧ Aside0 (Kd.R (Kd.int .u8) 5 w' W.heap.size (fun _ => True) v8 (kdA l (ks.take i) o1)) ∧ Aside0 (Below W.heap.size W w') ∧ Aside0 (w'.heap[W.heap.size]? = some (Obj.cells #[.string nm, .slice A1 ps.length c1, .slice A2 ks.length c2] 27 (0, 0))))
     case atStart => exact ⟨0, rfl, ⟨Zq1⟩, ⟨by rw [List.take_zero, kdA]; exact HRr.out⟩, HBr, BXr⟩
     case round =>
      clear HRr HBr BXr q0 q1 q2 cib; obtain ⟨j, rfl, HJ, HRq, HBq, BXq⟩ := hrel
      by_cases cj : (j : Int) < (ks.length : Int)
      ·have cjb : decide ((j : Int) < (ks.length : Int)) = true := decide_eq_true cj
       have cjl : j < ks.length := by omega
       cases gk with
       | zero => have := HJ.out; omega
       | succ k2 =>
       have hmem := getN (xs := ks) (i := j) cjl
       have hbk : bulk27 (ks.getD j z27) ≤ m := by
        have h1 := bulk_kid (x := ⟨nm, ps, ks⟩) hmem; have h2 := HX.out; omega
       have hnx := kdA_next l ks o1 j cjl; have hle := kdA_take_len l ks o1 (j + 1); rw [hnx, List.length_append] at hle; have h9 := HLE1.out; obtain ⟨ad, Ap, cp, Aq, cq, e407, hx0, hx1, hx2, hlp, hip, hlq, hiq⟩ := at_T27 HR2.out (j : Int) (Int.natCast_nonneg j) cj; cases e407; have hbw := HBq.out; rw [rdN] at hx0 hx1 hx2 hlp hip hlq hiq; rw [Int.toNat_natCast] at hx0 hx1 hx2; replace hx0 := (hbw.cell (World.block_lt_of_cell? W _ hx0)).trans hx0; replace hx1 := (hbw.cell (World.block_lt_of_cell? W _ hx1)).trans hx1; replace hx2 := (hbw.cell (World.block_lt_of_cell? W _ hx2)).trans hx2; clear hmem; generalize ks.getD j z27 = y at hbk hnx hle hx0 hx1 hx2 hlp hip hlq hiq
       have HLx : Aside0 (((kdA l (ks.take j) o1).length + (ndB l y).length) * 1 ≤ 140737488355328) := ⟨Zq1⟩
       have HQ := AK (IH.out y Ap cp Aq cq l A c _ hbk (Kd.C_below hip hbw) (Kd.C_below hiq hbw) (Kd.C_below HL.out.1 hbw) HL.out.2 HSZ.out Zq1); have HNX := AK hnx
       obtain ⟨yb, hyb⟩ : ∃ yb, yb = ndB l y := ⟨_, rfl⟩
       rw [← hyb] at HQ HNX HLx; clear hyb; obtain ⟨ya, yp, yk⟩ := y; dsimp only at hx0 hx1 hx2 HQ; have q0 := (blk_cell BXq.out 0).trans rfl; have q1 := (blk_cell BXq.out 1).trans rfl; have q2 := (blk_cell BXq.out 2).trans rfl
       have hw2 : Go.RowKit.wrap64 ((j : Int) + 1) = ((j + 1 : Nat) : Int) := by have h8 := HK.out; have h9 := HX.out; unfold Go.RowKit.wrap64; omega
       clear hbk hnx hle h9 hip hiq hlp hlq hbw; go_wp2_with (first | (go_at_call 22; refine HQ.out.mono ?_; rintro e w79 ⟨v79, rfl, hr, hb⟩; have BX79 := AK (blk_below BXq.out hb); have HB79 := AK (below_step HBq.out hb); have HR79 := AK (Kd.R_below HRq.out hb); obtain ⟨A79, c79, rfl, hc79, hC79⟩ := Kd.R_reads hr; have HC79 := AK hC79; clear hr hb hC79 hc79) | ((with_reducible refine gate_builtin (b := .append) (xs := #[.tmp 71, .tmp 79]) rfl ?_); at_builtin; refine Kd.R_append_rows (Kd.int .u8) (w0 := W) W.heap.size rfl (.tmp 71) (.tmp 79) 32 5 (.int .u8 0) 1 rfl Tryz.underlying32 info5 rfl Zq2 Zq1 _ (kdA l (ks.take j) o1) yb _ _ _ (fun _ => True) (fun _ => False) rfl rfl ?aO ?aR (fun _ _ h => h) (fun _ h => h.elim) (fun _ _ => trivial) ?aB ?aS ?aL ?_; (case aO => exact HR79.out); (case aR => exact HC79.out); (case aB => exact HB79.out); (case aS => exact (HB79.out).size); (case aL => exact HLx.out); intro v80 w80 ho hb hg hat; have BX80 := AK (blk_grown BX79.out hg (Kd.R_ne HR79.out BX79.out Zq2)); have HB80 := AK hb; have HR80 := AK ho; clear ho hb hg hat))
       go_roundg k2
       case measure => exact Nat.lt_succ_self _
       case rel => exact ⟨j + 1, congrArg (Value.int .i64) hw2, ⟨step_ix HJ.out⟩, ⟨by rw [HNX.out]; exact HR80.out⟩, HB80, BX80⟩
      ·have cjb : decide ((j : Int) < (ks.length : Int)) = false := decide_eq_false cj; have ht : ks.take j = ks := List.take_of_length_le Zq1; rw [ht] at HRq
       have HLy : Aside0 (((kdA l ks o1).length + 0) * 1 ≤ 140737488355328) := ⟨by have := HLE1.out; omega⟩
       have HLz : Aside0 (((kdA l ks o1).length + 4) * 1 ≤ 140737488355328) := ⟨by have := HLE1.out; omega⟩
       clear ht; (go_wp2_with (first | ((with_reducible refine gate_builtin (b := .append) (xs := #[.tmp 82, .tmp 83]) rfl ?_); at_builtin; refine Kd.R_append_rows (Kd.int .u8) (w0 := W) W.heap.size rfl (.tmp 82) (.tmp 83) 32 5 (.int .u8 0) 1 rfl Tryz.underlying32 info5 rfl Zq2 Zq1 _ (kdA l ks o1) [] _ _ _ (fun _ => True) (fun _ => False) rfl rfl ?aO ?aR (fun _ _ h => h) (fun _ h => h.elim) (fun _ _ => trivial) ?aB ?aS ?aL ?_; (case aO => exact HRq.out); (case aR => exact (Kd.C_nil _ _)); (case aB => exact HBq.out); (case aS => exact (HBq.out).size); (case aL => exact HLy.out); intro v84 w84 ho hb hg hat; rw [List.append_nil] at ho; have HB84 := AK hb; have HR84 := AK ho; clear ho hb hg hat) | ((with_reducible refine gate_builtin (b := .append) (xs := #[.tmp 84, .tmp 85]) rfl ?_); at_builtin; refine Kd.R_append_rows (Kd.int .u8) (w0 := W) W.heap.size rfl (.tmp 84) (.tmp 85) 32 5 (.int .u8 0) 1 rfl Tryz.underlying32 info5 rfl Zq2 Zq1 _ (kdA l ks o1) [0, 0, 0, 2] _ _ _ (fun _ => True) (fun _ => False) rfl rfl ?aO ?aR (fun _ _ h => h) (fun _ h => h.elim) (fun _ _ => trivial) ?aB ?aS ?aL ?_; (case aO => exact (Kd.R_alloc HR84.out _)); (case aR => exact (lit_C w84 [0, 0, 0, 2] Zq2)); (case aB => exact (below_alloc HB84.out _)); (case aS => exact ((below_alloc HB84.out _)).size); (case aL => exact HLz.out); intro v86 w86 ho hb hg hat; have HB86 := AK hb; have HR86 := AK ho; clear ho hb hg hat))); refine bodyPost_ret (results_tmp rfl _ _ _) rfl ?_; exact ⟨_, rfl, by rw [HFIN.out, ← HO0.out, ← HO1.out]; exact HR86.out, HB86.out⟩
def api_Reserve_15.f (l0 : List (S51)) : Option (List (S51)) := if l0.length < 8796093022208 then (some l0) else (none)
set_option maxRecDepth 100000 in
theorem api_Reserve_15.calls (A0 : Option Addr) (c0 : Nat) (l0 : List (S51)) (r : List (S51)) (w : World) (hr0 : Kd.C k51 w A0 l0.length l0) (hc0 : l0.length ≤ c0) (h : api_Reserve_15.f l0 = some r) :
  Calls Tryz.prog 15 #[.slice A0 l0.length c0] w fun e w' => ∃ v0_ : Value, e = .returned (v0_) ∧ Kd.R k51 51 w' w.heap.size (fun _ => True) v0_ r ∧ Below w.heap.size w w' := by
 unfold api_Reserve_15.f at h
 by_cases c3 : l0.length < 8796093022208
 ·rw [if_pos c3] at h; injection h with h; subst h; have HR0 := AK hr0; have HC0 := AK hc0; clear hr0 hc0; have HB := Zq70; have LMc3 := AK c3; clear c3
  cases A0 with
  | none =>
   have hn : l0 = [] := by
    cases l0 with
    | nil => rfl
    | cons x r =>
     obtain ⟨ad, he, _⟩ := HR0.out.2.2 Zq7; cases he
   subst hn
   have q := fun w' : World => Lib.run_eql_slice_nil (P := Tryz.prog) w' 23 51 none ([] : List (S51)).length c0 0 0 Tryz.underlying23
   simp only [Option.isNone_none, List.length_nil] at q; go_enter Tryz.func15, Tryz.ntmps15; go_wp2; go_ret; exact ⟨_, rfl, Kd.R_nil _ _ _ _ _, Below.refl _ _⟩
  | some x0 =>
   have q := fun w' : World => Lib.run_eql_slice_nil (P := Tryz.prog) w' 23 51 (some x0) l0.length c0 0 0 Tryz.underlying23
   simp only [Option.isNone_some] at q
   obtain ⟨y5, hy5⟩ : ∃ y_ : List (S51), y_ = [] := ⟨_, rfl⟩
   have Ny5 := AK hy5; clear hy5
   obtain ⟨y7, hy7⟩ : ∃ y_ : List (S51), y_ = y5 ++ l0 := ⟨_, rfl⟩
   have Ny7 := AK hy7; clear hy7; go_enter Tryz.func15, Tryz.ntmps15; (go_wp2_with (first | ((with_reducible refine gate_dst (N := 5) rfl ?_); refine Kd.R_lit k51 _ 51 ?hg (N := 5) ?hd (xs := ([] : List (S51))) (inner := []) (ok := fun _ => True) (okp := fun _ => True) ?hr ?hp (fun _ hk => hk) trivial (Below.refl _ _) (Nat.le_refl _) Zq7 ?_; (case hd | hg => rfl); (case hr => first | (go_simp; done) | (go_simp; rfl)); (case hp => exact (Reps.none _ _)); intro v5 w5 ho6 hb hg_ hnew_; clear hg_ hnew_; rw [← Ny5.out] at ho6; have n0_ := Zq116; have n2_ := Zq61; clear HB; have HO5 := n0_; have HB := n2_; clear n0_ n2_ hb ho6) | ((with_reducible refine gate_builtin (b := .append) (xs := #[.tmp 5, .tmp 6]) rfl ?_); at_builtin; refine Kd.R_append_rows k51 (w0 := w) w.heap.size rfl (.tmp 5) (.tmp 6) 23 51 (.agg #[(.int .u64 0), (.int .u64 0)]) 16 rfl Tryz.underlying23 info51 rfl Zq2 Zq1 v5 y5 l0 _ _ _ (fun _ => True) (fun _ => False) rfl rfl ?aO ?aR (fun _ _ h => h) (fun _ h => h.elim) (fun _ _ => trivial) ?aB ?aS ?aL ?_; (case aR => repeat (first | exact (Kd.C_below HR0.out HB.out) | (with_reducible refine Kd.C_alloc ?_ _) | (with_reducible refine Kd.C_drewN ?_ _) | (with_reducible refine Kd.C_drew ?_))); (case aB => exact Zq6); (case aO => exact (by (with_reducible repeat (first | apply Kd.R_alloc | apply Kd.R_drewN | apply Kd.R_drew)); exact HO5.out)); (case aS => exact (below_size Zq6)); (case aL => have := LMc3.out; rw [Ny5.out]; simp; omega); intro v7 w7 ho hb hg hat; rw [← Ny7.out] at ho; have n1_ := AK (hb); have n2_ := AK (ho); clear HB HO5; have HB := n1_; have HO7 := n2_; clear n1_ n2_ ho hb hg hat))); go_ret; exact ⟨_, rfl, by have e7 : y7 = l0 := (by rw [Ny7.out, Ny5.out]; rfl); rw [← e7]; (with_reducible repeat (first | apply Kd.R_alloc | apply Kd.R_drewN | apply Kd.R_drew)); exact HO7.out, Zq6⟩
 ·rw [if_neg c3] at h; cases h
theorem WrT.bel {w0 W : World} {g mb : Nat} {s : WSt} (h : WrT w0 W g mb s) : Below w0.heap.size w0 W := by
 obtain ⟨_, _, hh⟩ := h; exact hh.bel
attribute [local irreducible] Go.Calls in
set_option maxRecDepth 100000 in
set_option maxHeartbeats 8000000 in
theorem writer_node.calls (g mb : Nat) (w0 : World) (k : Nat) : ∀ (a0 : ByteArray) (A1 : Option Addr) (c1 : Nat) (l1 : List S68) (A2 : Option Addr) (c2 : Nat) (l2 : List S27) (s r : WSt) (W : World)
  (hr1 : Kd.C k68 w0 A1 l1.length l1) (hr2 : Kd.C k27 w0 A2 l2.length l2) (hS : WrT w0 W g mb s) (h : wrN k ⟨a0, l1, l2⟩ s = some r),
  Calls Tryz.prog 13 #[.pointer (some ⟨g, 0, none⟩), .agg #[.string a0, .slice A1 l1.length c1, .slice A2 l2.length c2]] W fun e w' => e = .returned (.tuple #[]) ∧ WrT w0 w' g mb r ∧ KeptT W w' := by
 induction k using Nat.strongRecOn with
 | _ k ih =>
 intro a0 A1 c1 l1 A2 c2 l2 s r W hr1 hr2 hS h
 cases k with
 | zero => simp [wrN] at h
 | succ k =>
 simp only [wrN] at h; obtain ⟨s2, hs2, h⟩ := Option.bind_eq_some_iff.mp h; obtain ⟨rfl, hcap⟩ := capW_some hs2; have HCAP := AK hcap; have IH := AK ih; have HR1 := AK hr1; have HR2 := AK hr2; have H' := AK h; have hu27 := Tryz.underlying27; have hu63 := Tryz.underlying68; have hb0 : Below W.heap.size W (W.alloc (.cells #[.string a0, .slice A1 l1.length c1, .slice A2 l2.length c2] 27)) := below_alloc (Below.refl _ _) _; have HW := AK (hS.below hb0); have HK := AK (KeptT.of_below hb0)
 have BX : Aside0 ((W.alloc (.cells #[.string a0, .slice A1 l1.length c1, .slice A2 l2.length c2] 27)).heap[W.heap.size]? = some (Obj.cells #[.string a0, .slice A1 l1.length c1, .slice A2 l2.length c2] 27 (0, 0))) := ⟨blk_new _ _⟩
 have kb := fun W : World => print_bytes (P := Tryz.prog) 9 32 5 Tryz.underlying9 Tryz.underlying32 Tryz.underlying5 a0 W
 have hT : totW (wCell 1 s) + (a0.size + 1) ≤ 549755813888 := by
  have := hcap; simp only [wOpen, totW_bytes, List.length_append, bytesOf_length] at this
  simp at this
  omega
 have HT := AK hT
 obtain ⟨nm, hnm⟩ : ∃ nm, nm = bytesOf a0 ++ [0] := ⟨_, rfl⟩
 have HNM := AK hnm; clear ih hs2 hcap hr1 hr2 hS h hb0 hT hnm; go_enter Tryz.func13, Tryz.ntmps13; go_wp2_with (first | (go_at_call 14; refine (step_cell 1 g mb w0 _ s Zq2 Zq2 HW.out (by have := HT.out; omega)).mono ?_; rintro e w1 ⟨rfl, n1_, n2_⟩; have BX := Zq105; have q0 := (blk_cell BX.out 0).trans rfl; have q1 := (blk_cell BX.out 1).trans rfl; have q2 := (blk_cell BX.out 2).trans rfl; have HK := Zq104; have HW := AK n1_; clear n1_ n2_) | ((with_reducible refine gate_builtin (b := .append) (xs := #[.tmp 13, .tmp 14]) rfl ?_); at_builtin; refine wpList_name w1 a0 rfl (.tmp 13) (.tmp 14) rfl rfl rfl (by have := HT.out; omega) ?_; intro An cn w2 hcn hCn hbn; rw [← HNM.out] at hCn ⊢; have HCN := AK hCn; have BX := AK (blk_below BX.out hbn); have HK := AK (HK.out.below hbn); have HW := AK (HW.out.below hbn); clear hcn hCn hbn q0 q1 q2) | (go_at_call 30; refine (step_bytes An cn nm g mb w0 _ (wCell 1 s) HCN.out HW.out (by have := HCAP.out; unfold wOpen at this; rw [← HNM.out] at this; omega)).mono ?_; rintro e w3 ⟨rfl, n1_, n2_⟩; have BX := Zq105; have q0 := (blk_cell BX.out 0).trans rfl; have q1 := (blk_cell BX.out 1).trans rfl; have q2 := (blk_cell BX.out 2).trans rfl; have HK := Zq104; have HW := AK n1_; clear n1_ n2_))
 have HW : Aside0 (WrT w0 w3 g mb (wOpen a0 s)) := ⟨by have h5 := HW.out; rw [HNM.out] at h5; exact h5⟩
 generalize wOpen a0 s = s1 at H' HW; clear HCAP HNM HT HCN
 go_loopg [20] k (fun kq v20 w' => ∃ (i : Int) (s2 : WSt), v20 = .int .i64 i ∧ Aside0 (wrP kq l1 i l2 s2 = some r) ∧ Aside0 (kq ≤ k) ∧ Aside0 (w'.heap[W.heap.size]? = some (Obj.cells #[.string a0, .slice A1 l1.length c1, .slice A2 l2.length c2] 27 (0, 0))) ∧ Aside0 (KeptT W w') ∧ Aside0 (WrT w0 w' g mb s2))
 case atStart => exact ⟨0, s1, rfl, H', ⟨Nat.le_refl _⟩, BX, HK, HW⟩
 case round =>
  clear H' BX HK HW q0 q1 q2 kb; obtain ⟨i, s2, rfl, HA, HK1, BXr, HKr, HWr⟩ := hrel
  cases gk with
  | zero => exact absurd HA.out (by simp [wrP])
  | succ k1 =>
   have H := HA.out; clear HA; simp only [wrP] at H
   by_cases c5 : i < (l1.length : Int)
   ·rw [if_pos c5] at H; have c5b0 : decide (i < (l1.length : Int)) = true := decide_eq_true c5
    by_cases c6 : 0 ≤ i
    ·rw [if_pos c6] at H; obtain ⟨ad, Ap, cp, e405, hx0, hx1, hlp, hip⟩ := at_T68 HR1.out i c6 c5; cases e405
     have hbw : Below w0.heap.size w0 wr := by obtain ⟨_, _, hh⟩ := HWr.out; exact hh.bel
     replace hx0 := (hbw.cell (World.block_lt_of_cell? w0 _ hx0)).trans hx0; replace hx1 := (hbw.cell (World.block_lt_of_cell? w0 _ hx1)).trans hx1; generalize rd_T68 l1 i = p at H hx0 hx1 hlp hip; have c6b0 : decide (0 ≤ i) = true := decide_eq_true c6; have p405 : (0 ≤ i) = True := eq_true c6; have q405 : (i < (l1.length : Int)) = True := eq_true c5; obtain ⟨s3, hs3, H⟩ := Option.bind_eq_some_iff.mp H
     by_cases c9 : p.f0.size ≤ 549755813888
     ·rw [if_pos c9] at hs3; obtain ⟨rfl, hcap⟩ := capW_some hs3
      have hT1 : totW s2 + 8 ≤ 549755813888 ∧ totW (wText p.f0 (wCell ((p.f1.length : Int) % 4294967296) (wCell 3 s2))) + 4 + p.f1.length + (padW p.f1).length ≤ 549755813888 := by
       have h6 := totW_text p.f0 (wCell ((p.f1.length : Int) % 4294967296) (wCell 3 s2)); have h7 := hcap; simp only [wProp, totW_bytes, totW_cell] at h7 h6 ⊢; omega
      have HT := AK hT1; have H' := AK H; have HIP := AK hip; have HC9 := AK c9; have hbp : Below wr.heap.size wr (wr.alloc (.cells #[.string p.f0, .slice Ap p.f1.length cp] 68)) := below_alloc (Below.refl _ _) _; have HW := AK (HWr.out.below hbp); have HK := AK (HKr.out.below hbp); have BX := AK (blk_below BXr.out hbp)
      have BP : Aside0 ((wr.alloc (.cells #[.string p.f0, .slice Ap p.f1.length cp] 68)).heap[wr.heap.size]? = some (Obj.cells #[.string p.f0, .slice Ap p.f1.length cp] 68 (0, 0))) := ⟨blk_new _ _⟩
      clear c9 hs3 hcap hT1 H hip hbp HWr HKr BXr c5 c6 hlp hbw; go_wp2_with (first | (go_at_call 14; refine (step_cell _ g mb w0 _ _ ?cA ?cB HW.out ?cC).mono ?_; (case cA => first | decide | exact Int.emod_nonneg _ Zq2); (case cB => first | decide | exact Int.emod_lt_of_pos _ Zq2); (case cC => have := HT.out; simp only [totW_cell]; omega); rintro e w4 ⟨rfl, n1_, n2_⟩; have BX := Zq105; have BP := AK (n2_.2 _ _ _ BP.out Zq2 Zq2); have q3 := (blk_cell BP.out 0).trans rfl; have q4 := (blk_cell BP.out 1).trans rfl; have HK := Zq104; have HW := AK n1_; clear n1_ n2_) | (go_at_call 31; refine (step_text p.f0 g mb w0 _ (wCell ((p.f1.length : Int) % 4294967296) (wCell 3 s2)) s2.2.1 s2.2.2 rfl rfl HW.out ?cC).mono ?_; (case cC => have := HT.out; have := HC9.out; simp only [totW_cell]; omega); rintro e w5 ⟨rfl, n1_, n2_⟩; have BX := Zq105; have BP := AK (n2_.2 _ _ _ BP.out Zq2 Zq2); have q3 := (blk_cell BP.out 0).trans rfl; have q4 := (blk_cell BP.out 1).trans rfl; have HK := Zq104; have HW := AK n1_; clear n1_ n2_) | (go_at_call 30; refine (step_bytes Ap cp p.f1 g mb w0 _ _ (Kd.C_below HIP.out HW.out.bel) HW.out ?cC).mono ?_; (case cC => have := HT.out; simp only [totW_bytes, totW_cell]; omega); rintro e w6 ⟨rfl, n1_, n2_⟩; have BX := Zq105; have BP := AK (n2_.2 _ _ _ BP.out Zq2 Zq2); have q3 := (blk_cell BP.out 0).trans rfl; have q4 := (blk_cell BP.out 1).trans rfl; have HK := Zq104; have HW := AK n1_; clear n1_ n2_))
      go_roundg k1
      case measure => have := HK1.out; omega
      case rel => exact ⟨wrap64 (i + 1), _, rfl, H', ⟨Zq14⟩, BX, HK, HW⟩
     ·rw [if_neg c9] at hs3; exact absurd hs3 Zq7
    ·rw [if_neg c6] at H; exact absurd H Zq7
   ·rw [if_neg c5] at H; have c5b0 : decide (i < (l1.length : Int)) = false := decide_eq_false c5; have H' := AK H; have q0 := (blk_cell BXr.out 0).trans rfl; have q1 := (blk_cell BXr.out 1).trans rfl; have q2 := (blk_cell BXr.out 2).trans rfl; clear H c5; go_wp2
    go_loopg [47] k1 (fun kq v47 w' => ∃ (j : Int) (s3 : WSt), v47 = .int .i64 j ∧ Aside0 (wrK kq l2 j s3 = some r) ∧ Aside0 (kq ≤ k1) ∧ Aside0 (w'.heap[W.heap.size]? = some (Obj.cells #[.string a0, .slice A1 l1.length c1, .slice A2 l2.length c2] 27 (0, 0))) ∧ Aside0 (KeptT W w') ∧ Aside0 (WrT w0 w' g mb s3))
    case atStart => exact ⟨0, s2, rfl, H', ⟨Nat.le_refl _⟩, BXr, HKr, HWr⟩
    case round =>
     clear H' q0 q1 q2 BXr HKr HWr c5b0; obtain ⟨j, s3, rfl, HA, HK2, BXq, HKq, HWq⟩ := hrel
     cases gk with
     | zero => exact absurd HA.out (by simp [wrK])
     | succ k2 =>
      have H := HA.out; clear HA; simp only [wrK] at H
      by_cases c7 : j < (l2.length : Int)
      ·rw [if_pos c7] at H; have c7b0 : decide (j < (l2.length : Int)) = true := decide_eq_true c7
       by_cases c8 : 0 ≤ j
       ·rw [if_pos c8] at H; obtain ⟨s4, hs4, H⟩ := Option.bind_eq_some_iff.mp H; obtain ⟨ad, Ap, cp, Aq, cq, e407, hx0, hx1, hx2, hlp, hip, hlq, hiq⟩ := at_T27 HR2.out j c8 c7; cases e407; have hbw : Below w0.heap.size w0 wr := HWq.out.bel; replace hx0 := (hbw.cell (World.block_lt_of_cell? w0 _ hx0)).trans hx0; replace hx1 := (hbw.cell (World.block_lt_of_cell? w0 _ hx1)).trans hx1; replace hx2 := (hbw.cell (World.block_lt_of_cell? w0 _ hx2)).trans hx2; generalize rd_T27 l2 j = x at hs4 hx0 hx1 hx2 hlp hip hlq hiq; obtain ⟨xa, xp, xk⟩ := x; dsimp only at hx0 hx1 hx2 hlp hip hlq hiq; have c8b0 : decide (0 ≤ j) = true := decide_eq_true c8; have p405 : (0 ≤ j) = True := eq_true c8; have q405 : (j < (l2.length : Int)) = True := eq_true c7; have H' := AK H; have hbp : Below wr.heap.size wr (wr.alloc (.cells #[.string xa, .slice Ap xp.length cp, .slice Aq xk.length cq] 27)) := below_alloc (Below.refl _ _) _; have HQ := AK (IH.out k2 Zq30 xa Ap cp xp Aq cq xk s3 s4 _ hip hiq (HWq.out.below hbp) hs4); have HK := AK (HKq.out.below hbp); have BX := AK (blk_below BXq.out hbp); clear hs4 H hip hiq hbp HWq HKq BXq c7 c8 hlp hlq hbw; go_wp2_with (go_at_call 13; refine HQ.out.mono ?_; rintro e w4 ⟨rfl, n1_, n2_⟩; have BX := Zq105; have HK := Zq104; have HW := AK n1_; clear n1_ n2_)
        go_roundg k2
        case measure => have := HK1.out; have := HK2.out; omega
        case rel => exact ⟨wrap64 (j + 1), _, rfl, H', ⟨Zq30⟩, BX, HK, HW⟩
       ·rw [if_neg c8] at H; exact absurd H Zq7
      ·rw [if_neg c7] at H; have c7b0 : decide (j < (l2.length : Int)) = false := decide_eq_false c7; obtain ⟨rfl, hcap⟩ := capW_some H; have HCP := AK hcap; clear H hcap c7; go_wp2_with (go_at_call 14; refine (step_cell 2 g mb w0 _ s3 Zq2 Zq2 HWq.out (by have := HCP.out; omega)).mono ?_; rintro e w5 ⟨rfl, n1_, n2_⟩; have HK := AK (HKq.out.trans n2_); have HW := AK n1_; clear n1_ n2_)
       first | go_end0 | ((try simp only [Exit.inBlock, Exit.then]); refine bodyPost_ret (results_none rfl _ _ _) rfl ?_)
       exact ⟨rfl, HW.out, HK.out⟩
theorem R_cut0 {W : World} {base : Nat} {ok : Nat → Prop} {A : Option Addr} {n c : Nat} {xs : List Int} (h : Kd.R (Kd.int .u8) 5 W base ok (.slice A n c) xs) : Kd.R (Kd.int .u8) 5 W base ok (.slice A 0 c) [] := by
 have h0 := h.1; obtain ⟨_, ho⟩ := Kd.own_of_R h; refine Kd.R_of_own ⟨by simp [encs], ?_⟩ (fun k hk => ?_)
 ·rcases ho with ⟨hv, hn⟩ | ⟨g, cap, cur, hv, hb, hg, hnc, hcm, hcs, htake⟩
  ·left
   injection hv with e1 e2 e3; subst e1 e3; exact ⟨rfl, rfl⟩
  ·right
   injection hv with e1 e2 e3; subst e1 e3; exact ⟨g, _, cur, rfl, hb, hg, Nat.zero_le _, hcm, hcs, by simp [encs]⟩
 ·refine h0 k ?_
  cases A with
  | none => simp [Value.ownBlock] at hk
  | some a => simpa [Value.ownBlock] using hk
set_option maxRecDepth 100000 in
set_option maxHeartbeats 2000000 in
theorem grow_nil.calls (n : Int) (W : World) (h0 : 0 < n) (h1 : n ≤ 1099511627776) :
  Calls Tryz.prog 33 #[.slice none 0 0, .int .i64 n] W fun e w' => ∃ v : Value, e = .returned v ∧ Kd.R (Kd.int .u8) 5 w' W.heap.size (fun _ => True) v [] ∧ Below W.heap.size W w' := by
 have d0 : decide (n < 0) = false := decide_eq_false Zq1; have d1 : decide (0 < n) = true := decide_eq_true Zq1
 have s0 : IntKind.i64.wrap n = n := by rw [i64_w]; unfold Go.RowKit.wrap64; omega
 have s1 : IntKind.i64.wrap (n - 0) = n := by rw [i64_w]; unfold Go.RowKit.wrap64; omega
 have s2 : Go.RowKit.wrap64 n = n := by unfold Go.RowKit.wrap64; omega
 have H1 := AK h1
 have H0 : Aside0 (0 ≤ n) := ⟨Zq1⟩
 clear h0 h1; go_enter Tryz.func33, Tryz.ntmps33; (go_wp2_with ((with_reducible refine gate_builtin (b := .append) (xs := #[.tmp 20, .tmp 21]) rfl ?_); at_builtin; refine Kd.R_append_zeros (Kd.int .u8) (w0 := W) W.heap.size rfl (.tmp 20) (.tmp 21) 32 3 5 (.int .u8 0) 1 rfl Tryz.underlying32 Tryz.underlying3 info5 rfl Zq2 Zq1 (.slice none 0 0) [] 0 n (fun _ => True) rfl rfl ?aZ (fun _ _ => trivial) (Kd.R_nil _ _ _ _ _) H0.out (Below.refl _ _) (Nat.le_refl _) ?aL ?_; (case aZ => first | exact rfl | simp [Kd.int, Kd.scalar]); (case aL => have := H1.out; have := H0.out; simp; omega); intro v1 w1 ho hb hg hat; obtain ⟨A1, c1, rfl⟩ := Kd.R_slice ho; have HO := AK (R_cut0 ho); have HB := AK hb; clear ho hb hg hat)); refine bodyPost_ret (results_tmp rfl _ _ _) rfl ?_; exact ⟨_, rfl, HO.out, HB.out⟩
theorem take_flat (ls : List (List Int)) (i : Int) (h0 : 0 ≤ i) (h1 : i < ls.length) : (ls.take (i + 1).toNat).flatten = (ls.take i.toNat).flatten ++ rd_L6 ls i := by
 have e : (i + 1).toNat = i.toNat + 1 := by omega
 rw [e, List.take_add_one, List.flatten_append]
 congr 1
 have hlt : i.toNat < ls.length := by omega
 simp [rd_L6, List.getD_eq_getElem?_getD, List.getElem?_eq_getElem hlt]
theorem take_flat_le (ls : List (List Int)) (i : Nat) : (ls.take i).flatten.length ≤ ls.flatten.length := by
 have h : ls.flatten = (ls.take i).flatten ++ (ls.drop i).flatten := by rw [← List.flatten_append, List.take_append_drop]
 rw [h, List.length_append]; omega
end Go.Proofs.YtkopmkinlanhoaaGreat.PE
