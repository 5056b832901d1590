/- EncodeWrites: texts of this session's, and what the kit's print laid for this seat, as far as the law's row uses them (Blob1, Blob1, NameB, Chk, Bk18, Bk21, Bk24, Bk24, PEStateEncodeWrites, PureEncodeWrites, LawEncodeWrites). -/
import Derived.Test.YtkopmkinlanhoaaGreatZEncodeWrites3
set_option linter.unusedVariables false
set_option linter.unusedSimpArgs false
namespace Go.Proofs.YtkopmkinlanhoaaGreat.PE
open Go.RowKit Go.Proofs.YtkopmkinlanhoaaGreatW.PrintWords Go.Proofs.YtkopmkinlanhoaaGreatW.PrintLast Go.Proofs.YtkopmkinlanhoaaGreatW.PrintMore
attribute [local go_sem] max2_int min2_int max_two min_two max_three min_three max_four min_four
open Go.Proofs.YtkopmkinlanhoaaGreat.Aid Go.Proofs.YtkopmkinlanhoaaGreat.Rdr
set_option maxRecDepth 100000 in
set_option maxHeartbeats 2000000 in
theorem concat.calls (A : Option Addr) (c : Nat) (ls : List (List Int)) (W : World) (hC : Kd.C (Kd.slice 5 (Kd.int .u8)) W A ls.length ls) (hn : ls.length ≤ 1000) (h0 : 0 < ls.flatten.length) (h1 : ls.flatten.length ≤ 1099511627776) :
  Calls Tryz.prog 18 #[.slice A ls.length c] W fun e w' => ∃ v : Value, e = .returned v ∧ Kd.R (Kd.int .u8) 5 w' W.heap.size (fun _ => True) v ls.flatten ∧ Below W.heap.size W w' := by
 have HC := AK hC; have HN := AK hn; have H0 := AK h0; have H1 := AK h1; have hu45 := Tryz.underlying32; clear hC hn h0 h1; go_enter Tryz.func18, Tryz.ntmps18; go_wp2
 go_loopg [3, 5, 11] (ls.length + 1) (fun kq v3 v5 v11 w' => ∃ (i : Int), v3 = .int .i64 ((ls.take i.toNat).flatten.length : Int) ∧ v11 = .int .i64 i ∧ Aside0 (i + (kq : Int) = (ls.length : Int) + 1) ∧ Aside0 (0 ≤ i ∧ i ≤ (ls.length : Int)) ∧ Aside0 (Below W.heap.size W w'))
 case atStart => exact ⟨0, rfl, rfl, ⟨Zq1⟩, ⟨Zq1⟩, ⟨Below.refl _ _⟩⟩
 case round =>
  obtain ⟨i, rfl, rfl, HI, HR, HB⟩ := hrel
  cases gk with
  | zero => exact absurd HI.out (by have := HR.out; omega)
  | succ k1 =>
   by_cases c5 : i < (ls.length : Int)
   ·have c6 : 0 ≤ i := HR.out.1; obtain ⟨ad, Ap, cp, e405, hx0, hlp, hip⟩ := at_L6 HC.out i c6 c5; cases e405; replace hx0 := (HB.out.cell (World.block_lt_of_cell? W _ hx0)).trans hx0; have hf := take_flat ls i c6 c5; have hfl := take_flat_le ls (i + 1).toNat; have hfe := congrArg List.length hf; rw [List.length_append] at hfe
    have hs1 : IntKind.i64.wrap (((ls.take i.toNat).flatten.length : Int) + ((rd_L6 ls i).length : Int)) = ((ls.take (i + 1).toNat).flatten.length : Int) := by
     have := H1.out; rw [i64_w]; unfold Go.RowKit.wrap64; omega
    have hs2 : IntKind.i64.wrap (i + 1) = i + 1 := by
     have := HN.out; rw [i64_w]; unfold Go.RowKit.wrap64; omega
    have hs3 : Go.RowKit.wrap64 (((ls.take i.toNat).flatten.length : Int) + ((rd_L6 ls i).length : Int)) = ((ls.take (i + 1).toNat).flatten.length : Int) := by rw [← i64_w]; exact hs1
    have hs4 : Go.RowKit.wrap64 (i + 1) = i + 1 := by rw [← i64_w]; exact hs2
    have hd : decide (((ls.take (i + 1).toNat).flatten.length : Int) < 0) = false := decide_eq_false Zq1; have c5b0 : decide (i < (ls.length : Int)) = true := decide_eq_true c5; have c6b0 : decide (0 ≤ i) = true := decide_eq_true c6; have p405 : (0 ≤ i) = True := eq_true c6; have q405 : (i < (ls.length : Int)) = True := eq_true c5
    have HI2 : Aside0 (i + 1 + (k1 : Int) = (ls.length : Int) + 1) := ⟨by have := HI.out; omega⟩
    have HR2 : Aside0 (0 ≤ i + 1 ∧ i + 1 ≤ (ls.length : Int)) := ⟨Zq1⟩
    generalize rd_L6 ls i = l at hx0 hs1 hs3; clear hf hfl hfe hlp hip c5 c6; generalize hg1 : ((ls.take i.toNat).flatten.length : Int) = n1 at hs1 hs3; generalize hg2 : ((ls.take (i + 1).toNat).flatten.length : Int) = n2 at hs1 hs3 hd; go_wp2
    go_roundg k1
    case measure => omega
    case rel => exact ⟨i + 1, by rw [hg2], rfl, HI2, HR2, HB⟩
   ·have hi : i = (ls.length : Int) := by have := HR.out; omega
    subst hi
    have hfull : (ls.take ((ls.length : Int)).toNat).flatten = ls.flatten := by rw [Int.toNat_natCast, List.take_length]
    rw [hfull]
    obtain ⟨n, hn⟩ : ∃ n : Int, n = (ls.flatten.length : Int) := ⟨_, rfl⟩
    rw [← hn]; have HG := AK (grow_nil.calls n wr (by have := H0.out; omega) (by have := H1.out; omega)); have c5b0 : decide ((ls.length : Int) < (ls.length : Int)) = false := decide_eq_false c5; clear c5 HI HR hn hfull; go_wp2_with (go_at_call 33; refine HG.out.mono ?_; rintro e w3 ⟨v6, rfl, hr, hb⟩; obtain ⟨A6, c6, rfl⟩ := Kd.R_slice hr; have HO := AK (Kd.R_lower hr HB.out.size); have HB3 := AK (below_step HB.out hb); clear hr hb)
    go_loopg [6, 8, 27] (ls.length + 1) (fun kq v6 v8 v27 w' => ∃ (i : Int), v27 = .int .i64 i ∧ Aside0 (i + (kq : Int) = (ls.length : Int) + 1) ∧ Aside0 (0 ≤ i ∧ i ≤ (ls.length : Int)) ∧ Aside0 (Below W.heap.size W w') ∧ Aside0 (Kd.R (Kd.int .u8) 5 w' W.heap.size (fun _ => True) v6 (ls.take i.toNat).flatten))
    case atStart => exact ⟨0, rfl, ⟨Zq1⟩, ⟨Zq1⟩, HB3, HO⟩
    case round =>
     clear HB HB3 HO HG c5b0; obtain ⟨i, rfl, HI, HR, HB, HO⟩ := hrel
     cases gk with
     | zero => exact absurd HI.out (by have := HR.out; omega)
     | succ k2 =>
      obtain ⟨Av, cv, rfl⟩ := Kd.R_slice HO.out
      by_cases c5 : i < (ls.length : Int)
      ·have c6 : 0 ≤ i := HR.out.1; obtain ⟨ad, Ap, cp, e405, hx0, hlp, hip⟩ := at_L6 HC.out i c6 c5; cases e405; replace hx0 := (HB.out.cell (World.block_lt_of_cell? W _ hx0)).trans hx0; have hf := take_flat ls i c6 c5; have hfl := take_flat_le ls (i + 1).toNat
       have hs2 : IntKind.i64.wrap (i + 1) = i + 1 := by
        have := HN.out; rw [i64_w]; unfold Go.RowKit.wrap64; omega
       have hs4 : Go.RowKit.wrap64 (i + 1) = i + 1 := by rw [← i64_w]; exact hs2
       have c5b0 : decide (i < (ls.length : Int)) = true := decide_eq_true c5; have c6b0 : decide (0 ≤ i) = true := decide_eq_true c6; have p405 : (0 ≤ i) = True := eq_true c6; have q405 : (i < (ls.length : Int)) = True := eq_true c5
       have HI2 : Aside0 (i + 1 + (k2 : Int) = (ls.length : Int) + 1) := ⟨by have := HI.out; omega⟩
       have HR2 : Aside0 (0 ≤ i + 1 ∧ i + 1 ≤ (ls.length : Int)) := ⟨Zq1⟩
       have hL : ((ls.take i.toNat).flatten.length + (rd_L6 ls i).length) * 1 ≤ 140737488355328 := by
        have := H1.out; have h5 := congrArg List.length hf; rw [List.length_append] at h5; omega
       have HL := AK hL; have HF := AK hf; generalize rd_L6 ls i = l at hx0 hip HF HL; have HIP := AK (Kd.C_below hip HB.out); clear hf hfl hlp hip c5 c6 hL
       obtain ⟨x6, hx6⟩ : ∃ x6, x6 = (ls.take i.toNat).flatten := ⟨_, rfl⟩
       rw [← hx6] at HO HF HL ⊢; clear hx6; go_wp2_with ((with_reducible refine gate_builtin (b := .append) (xs := #[.tmp 31, .tmp 32]) rfl ?_); at_builtin; refine Kd.R_append_rows (Kd.int .u8) (w0 := W) W.heap.size rfl (.tmp 31) (.tmp 32) 32 5 (.int .u8 0) 1 rfl Tryz.underlying32 info5 rfl Zq2 Zq1 _ x6 l _ _ _ (fun _ => True) (fun _ => False) rfl rfl HO.out ?aR (fun _ _ h => h) (fun _ h => h.elim) (fun _ _ => trivial) HB.out HB.out.size HL.out ?_; (case aR => exact HIP.out); intro v9 w9 ho hb hg hat; have HO9 := AK ho; have HB9 := AK hb; clear ho hb hg hat)
       go_roundg k2
       case measure => omega
       case rel => exact ⟨i + 1, rfl, HI2, HR2, HB9, ⟨by rw [HF.out]; exact HO9.out⟩⟩
      ·have hi : i = (ls.length : Int) := by have := HR.out; omega
       subst hi
       have hfull : (ls.take ((ls.length : Int)).toNat).flatten = ls.flatten := by rw [Int.toNat_natCast, List.take_length]
       rw [hfull] at HO ⊢; have HO2 := HO; have c5b0 : decide ((ls.length : Int) < (ls.length : Int)) = false := decide_eq_false c5; clear c5 HI HR hfull HO; go_wp2; refine bodyPost_ret (results_tmp rfl _ _ _) rfl ?_; exact ⟨_, rfl, HO2.out, HB.out⟩
def cell8 (v : Int) : List Int := cellB (v / 4294967296) ++ cellB v
def resB (l : List S51) : List Int := (l.map fun x => cell8 x.f0 ++ cell8 x.f1).flatten
def headV (total structure_ texts_ boot tl bl : Int) : List Int := [3490578157, total, structure_, texts_, 40, 17, 16, boot, tl, bl]
def headB (vs : List Int) : List Int := (vs.map fun v => cellB (v % 4294967296)).flatten
theorem resB_length (l : List S51) : (resB l).length = 16 * l.length := by
 induction l with
 | nil => rfl
 | cons x r ih =>
  simp only [resB, List.map_cons, List.flatten_cons, List.length_append, List.length_cons] at ih ⊢; rw [ih]
  simp [cell8, cellB_length]
  omega
theorem take_res (ls : List S51) (i : Int) (h0 : 0 ≤ i) (h1 : i < ls.length) : resB (ls.take (i + 1).toNat) = resB (ls.take i.toNat) ++ cell8 (rd_T51 ls i).f0 ++ cell8 (rd_T51 ls i).f1 := by
 have e : (i + 1).toNat = i.toNat + 1 := by omega
 have hlt : i.toNat < ls.length := by omega
 simp only [resB]; rw [e, List.take_add_one, List.map_append, List.flatten_append, List.append_assoc]
 congr 1
 simp [rd_T51, List.getD_eq_getElem?_getD, List.getElem?_eq_getElem hlt]
theorem ints_C (W : World) (b : Nat) (t : Nat) (vs : List Int) (h : W.heap[b]? = some (.cells (vs.map (Value.int .i64)).toArray t (0, 0))) (hl : vs.length ≤ 1000) : Kd.C (Kd.int .i64) W (some ⟨b, 0, none⟩) vs.length vs := by
 refine Kd.C_of_reads (d := (0 : Int)) ⟨rfl, Zq1, fun _ => ⟨_, rfl, fun j hj => ?_⟩⟩; rw [add_plain, blk_cell h j]
 simp [List.getD_eq_getElem?_getD, hj]
theorem headB_length (l : List Int) : (headB l).length = 4 * l.length := by
 induction l with
 | nil => rfl
 | cons x r ih =>
  simp only [headB, List.map_cons, List.flatten_cons, List.length_append, List.length_cons] at ih ⊢; rw [ih, cellB_length]; omega
theorem take_head (ls : List Int) (i : Int) (h0 : 0 ≤ i) (h1 : i < ls.length) : headB (ls.take (i + 1).toNat) = headB (ls.take i.toNat) ++ cellB (rd ls i % 4294967296) := by
 have e : (i + 1).toNat = i.toNat + 1 := by omega
 have hlt : i.toNat < ls.length := by omega
 simp only [headB]; rw [e, List.take_add_one, List.map_append, List.flatten_append]
 congr 1
 simp [rd, List.getD_eq_getElem?_getD, List.getElem?_eq_getElem hlt]
theorem four_C (W : World) (b t : Nat) (A1 A2 A3 A4 : Option Addr) (c1 c2 c3 c4 : Nat) (l1 l2 l3 l4 : List Int) (h : W.heap[b]? = some (.cells #[.slice A1 l1.length c1, .slice A2 l2.length c2, .slice A3 l3.length c3, .slice A4 l4.length c4] t (0, 0)))
  (h1 : Kd.C (Kd.int .u8) W A1 l1.length l1) (k1 : l1.length ≤ c1) (h2 : Kd.C (Kd.int .u8) W A2 l2.length l2) (k2 : l2.length ≤ c2) (h3 : Kd.C (Kd.int .u8) W A3 l3.length l3) (k3 : l3.length ≤ c3) (h4 : Kd.C (Kd.int .u8) W A4 l4.length l4) (k4 : l4.length ≤ c4) :
  Kd.C (Kd.slice 5 (Kd.int .u8)) W (some ⟨b, 0, none⟩) 4 [l1, l2, l3, l4] := by
 refine ⟨rfl, Zq2, fun _ => ⟨_, rfl, fun j p hj => ?_⟩⟩
 have key : ∀ (A : Option Addr) (c : Nat), p.length ≤ c → Kd.C (Kd.int .u8) W A p.length p → W.cell? ⟨b, j, none⟩ = some (.slice A p.length c) → ∃ cs : List Value, cs.length = (Kd.slice 5 (Kd.int .u8)).sz ∧ (Kd.slice 5 (Kd.int .u8)).K W p cs ∧ ∀ (i : Nat) (u : Value), cs[i]? = some u → W.cell? ((⟨b, 0, none⟩ : Addr).add (j * (Kd.slice 5 (Kd.int .u8)).sz + i)) = some u := by
  intro A c hc hC hq; refine ⟨[.slice A p.length c], rfl, ⟨A, c, rfl, hc, hC⟩, fun i u hu => ?_⟩
  cases i with
  | succ i => simp at hu
  | zero =>
   have hu2 : Value.slice A p.length c = u := by simpa using hu
   rw [← hu2, show (Kd.slice 5 (Kd.int .u8)).sz = 1 from rfl, Nat.mul_one, Nat.add_zero, add_plain]; exact hq
 match j with
 | 0 =>
  obtain rfl : l1 = p := by simpa using hj
  exact key A1 c1 k1 h1 ((blk_cell h 0).trans rfl)
 | 1 =>
  obtain rfl : l2 = p := by simpa using hj
  exact key A2 c2 k2 h2 ((blk_cell h 1).trans rfl)
 | 2 =>
  obtain rfl : l3 = p := by simpa using hj
  exact key A3 c3 k3 h3 ((blk_cell h 2).trans rfl)
 | 3 =>
  obtain rfl : l4 = p := by simpa using hj
  exact key A4 c4 k4 h4 ((blk_cell h 3).trans rfl)
 | j + 4 => simp at hj
def encF (a0 : Int) (l1 : List S51) (s : WSt) : List Int × Int :=
 if 40 + (resB (l1 ++ [⟨0, 0⟩])).length + s.1.length + s.2.1.length > 1048576 then ([], 7)
 else (headB (headV (40 + (resB (l1 ++ [⟨0, 0⟩])).length + s.1.length + s.2.1.length : Nat) (40 + (resB (l1 ++ [⟨0, 0⟩])).length : Nat) (40 + (resB (l1 ++ [⟨0, 0⟩])).length + s.1.length : Nat) a0 s.2.1.length s.1.length) ++ (resB (l1 ++ [⟨0, 0⟩]) ++ (s.1 ++ s.2.1)), 0)
def encode_Encode.f (k : Nat) (a0 : Int) (l1 : List S51) (a2 : ByteArray) (l3 : List S68) (l4 : List S27) : Option (List Int × Int) :=
 (tree_Check.f k a0 l1 a2 l3 l4).bind fun c => if c = 0 then (encode_most.f k a2 l3 l4 0).bind fun m => (if m.2 = true then some ([], 7) else (wrN k ⟨a2, l3, l4⟩ ([], [], [])).bind fun s => (capW (wCell 9 s)).bind fun s1 => if l1.length ≤ 64 then some (encF a0 l1 s1) else none) else some ([], c)
theorem WrT.made (w W : World) (h : Below w.heap.size w W) : WrT w ((W.alloc (.map #[] 0)).alloc (.cells #[.slice none 0 0, .slice none 0 0, .map (some W.heap.size)] 45)) (W.heap.size + 1) W.heap.size ([], [], []) := by
 refine ⟨_, _, ⟨below_alloc (below_alloc h _) _, by have := h.size; omega, h.size, ?_, Kd.R_nil _ _ _ _ _, Kd.R_nil _ _ _ _ _, ?_⟩⟩
 ·have := blk_new (W.alloc (.map #[] 0)) (.cells #[.slice none 0 0, .slice none 0 0, .map (some W.heap.size)] 45 (0, 0))
  simpa using this
 ·exact (MapI.made W).below Zq59
set_option maxRecDepth 100000 in
set_option maxHeartbeats 4000000 in
theorem encode_Encode.calls (k : Nat) (a0 : Int) (A1 : Option Addr) (c1 : Nat) (l1 : List S51) (a2 : ByteArray) (A3 : Option Addr) (c3 : Nat) (l3 : List S68) (A4 : Option Addr) (c4 : Nat) (l4 : List S27) (r : List Int) (er : Int) (w : World)
  (hr1 : Kd.C k51 w A1 l1.length l1) (hc1 : l1.length ≤ c1) (hr3 : Kd.C k68 w A3 l3.length l3) (hc3 : l3.length ≤ c3) (hr4 : Kd.C k27 w A4 l4.length l4) (hc4 : l4.length ≤ c4) (hb0 : 0 ≤ a0 ∧ a0 < 4294967296) (h : encode_Encode.f k a0 l1 a2 l3 l4 = some (r, er)) :
  Calls Tryz.prog 6 #[.agg #[.int .u32 a0, .slice A1 l1.length c1, .string a2, .slice A3 l3.length c3, .slice A4 l4.length c4]] w fun e w' => ∃ v : Value, e = .returned (.tuple #[v, .int .i64 er]) ∧ Kd.R (Kd.int .u8) 5 w' w.heap.size (fun _ => True) v r ∧ Below w.heap.size w w' := by
 obtain ⟨c, hc, h⟩ := Option.bind_eq_some_iff.mp h; have hu29 := Tryz.underlying29; have hu27 := Tryz.underlying27; have hu82 := Tryz.underlying51; have hbx : Below w.heap.size w (w.alloc (.cells #[.int .u32 a0, .slice A1 l1.length c1, .string a2, .slice A3 l3.length c3, .slice A4 l4.length c4] 29)) := below_alloc (Below.refl _ _) _; have BX0 := AK (blk_new w (.cells #[.int .u32 a0, .slice A1 l1.length c1, .string a2, .slice A3 l3.length c3, .slice A4 l4.length c4] 29 (0, 0))); have HCK := AK (tree_Check.calls k a0 A1 c1 l1 a2 A3 c3 l3 A4 c4 l4 c _ (Kd.C_below hr1 hbx) hc1 (Kd.C_below hr3 hbx) hc3 (Kd.C_below hr4 hbx) hc4 hc); have HR1 := AK hr1; have HR3 := AK hr3; have HR4 := AK hr4; have HC1 := AK hc1; have HC3 := AK hc3; have HC4 := AK hc4; have HBT := AK hb0; have HB0 := AK hbx; clear hr1 hc1 hr3 hc3 hr4 hc4 hc hbx hb0
 by_cases c0 : c = 0
 ·rw [if_pos c0] at h; subst c0; obtain ⟨⟨m1, m2⟩, hm, h⟩ := Option.bind_eq_some_iff.mp h; have HM := AK (fun (w1 : World) (hb : Below w.heap.size w w1) => encode_most.calls k a2 A3 c3 l3 A4 c4 l4 0 m1 m2 w1 (Kd.C_below HR3.out hb) HC3.out (Kd.C_below HR4.out hb) HC4.out hm); clear hm
  cases m2 with
  | true =>
   simp only [if_true, Option.some.injEq, Prod.mk.injEq] at h; obtain ⟨rfl, rfl⟩ := h; go_enter Tryz.func6, Tryz.ntmps6; go_wp2_with (first | (go_at_call 11; refine HCK.out.mono ?_; rintro e w1 ⟨rfl, hb⟩; have HB1 := Zq102; have BX := AK (blk_below BX0.out hb); have q0 := (blk_cell BX.out 0).trans rfl; have q1 := (blk_cell BX.out 1).trans rfl; have q2 := (blk_cell BX.out 2).trans rfl; have q3 := (blk_cell BX.out 3).trans rfl; have q4 := (blk_cell BX.out 4).trans rfl; clear hb) | (go_at_call 12; refine (HM.out _ HB1.out).mono ?_; rintro e w2 ⟨rfl, hb⟩; have HB2 := Zq103; have BX := AK (blk_below BX.out hb); clear q0 q1 q2 q3 q4; have q0 := (blk_cell BX.out 0).trans rfl; have q1 := (blk_cell BX.out 1).trans rfl; have q2 := (blk_cell BX.out 2).trans rfl; have q3 := (blk_cell BX.out 3).trans rfl; have q4 := (blk_cell BX.out 4).trans rfl; have hb3 := below_alloc (below_alloc (Below.refl w2.heap.size w2) (.map #[] 0)) (.cells #[.slice none 0 0, .slice none 0 0, .map (some w2.heap.size)] 45); have HW := AK (WrT.made w w2 HB2.out); have HK := AK (KeptT.of_below hb3); have sz0 : w.heap.size < w2.heap.size := blk_lt BX.out; clear hb hb3))
   go_ret2
   exact ⟨_, rfl, Kd.R_nil _ _ _ _ _, HB2.out⟩
  | false =>
   simp only [Bool.false_eq_true, if_false] at h; obtain ⟨s, hs, h⟩ := Option.bind_eq_some_iff.mp h; obtain ⟨s1, hs1, h⟩ := Option.bind_eq_some_iff.mp h; obtain ⟨rfl, hcap⟩ := capW_some hs1
   by_cases c64 : l1.length ≤ 64
   ·rw [if_pos c64] at h; have HCAP := AK hcap; have HWN := AK hs; have H := AK (Option.some.inj h); have H64 := AK c64
    have hmk : ∀ W : World, (Instr.makeMap 43 none).run Tryz.prog W = .ok (.map (some W.heap.size)) (W.alloc (.map #[] 0)) := fun W => by kernel_rfl
    clear hs hs1 hcap h c64; go_enter Tryz.func6, Tryz.ntmps6; go_wp2_with (first | (go_at_call 11; refine HCK.out.mono ?_; rintro e w1 ⟨rfl, hb⟩; have HB1 := Zq102; have BX := AK (blk_below BX0.out hb); have q0 := (blk_cell BX.out 0).trans rfl; have q1 := (blk_cell BX.out 1).trans rfl; have q2 := (blk_cell BX.out 2).trans rfl; have q3 := (blk_cell BX.out 3).trans rfl; have q4 := (blk_cell BX.out 4).trans rfl; clear hb) | (go_at_call 12; refine (HM.out _ HB1.out).mono ?_; rintro e w2 ⟨rfl, hb⟩; have HB2 := Zq103; have BX := AK (blk_below BX.out hb); clear q0 q1 q2 q3 q4; have q0 := (blk_cell BX.out 0).trans rfl; have q1 := (blk_cell BX.out 1).trans rfl; have q2 := (blk_cell BX.out 2).trans rfl; have q3 := (blk_cell BX.out 3).trans rfl; have q4 := (blk_cell BX.out 4).trans rfl; have hb3 := below_alloc (below_alloc (Below.refl w2.heap.size w2) (.map #[] 0)) (.cells #[.slice none 0 0, .slice none 0 0, .map (some w2.heap.size)] 45); have HW := AK (WrT.made w w2 HB2.out); have HK := AK (KeptT.of_below hb3); have sz0 : w.heap.size < w2.heap.size := blk_lt BX.out; clear hb hb3) | (go_at_call 13; refine (writer_node.calls (w2.heap.size + 1) w2.heap.size w k a2 A3 c3 l3 A4 c4 l4 ([], [], []) s _ HR3.out HR4.out HW.out HWN.out).mono ?_; rintro e w3 ⟨rfl, n1_, n2_⟩; have HK := Zq104; have HW := AK n1_; clear n1_ n2_) | (go_at_call 14; refine (step_cell 9 (w2.heap.size + 1) w2.heap.size w _ s Zq2 Zq2 HW.out (by have := HCAP.out; omega)).mono ?_; rintro e w4 ⟨rfl, n1_, n2_⟩; have HK := Zq104; have HW := AK n1_; have BX := AK (HK.out.2 _ _ _ BX.out Zq2 Zq2); clear q0 q1 q2 q3 q4; have q0 := (blk_cell BX.out 0).trans rfl; have q1 := (blk_cell BX.out 1).trans rfl; have q2 := (blk_cell BX.out 2).trans rfl; have q3 := (blk_cell BX.out 3).trans rfl; have q4 := (blk_cell BX.out 4).trans rfl; clear n1_ n2_) | (go_at_call 15; refine (api_Reserve_15.calls A1 c1 l1 l1 w4 (Kd.C_below HR1.out HW.out.bel) HC1.out (by unfold api_Reserve_15.f; rw [if_pos (by have := H64.out; omega)])).mono ?_; rintro e w5 ⟨v5, rfl, hr, hb⟩; obtain ⟨A5, c5, rfl⟩ := Kd.R_slice hr; have HO5 := AK hr; have HB5 := AK hb; clear hr hb) | ((with_reducible refine gate_builtin (b := .append) (xs := #[.tmp 40, .tmp 42]) rfl ?_); at_builtin; refine Kd.R_append k51 (w0 := w4) w4.heap.size rfl (.tmp 40) (.tmp 42) 23 51 (.agg #[.int .u64 0, .int .u64 0]) 16 rfl Tryz.underlying23 info51 rfl Zq2 Zq1 _ l1 (⟨0, 0⟩ : S51) [.int .u64 0, .int .u64 0] (fun _ => True) (fun _ => False) rfl rfl ?aP (fun _ hk => hk.elim) (fun _ _ => trivial) HO5.out HB5.out HB5.out.size ?aL ?_; (case aP => exact k51_mkM _ _ _ (⟨0, 0⟩ : S51)); (case aL => have := H64.out; omega); intro v6 w6 ho hb hg hat; obtain ⟨rs, hrs⟩ : ∃ rs, rs = l1 ++ [(⟨0, 0⟩ : S51)] := ⟨_, rfl⟩; rw [← hrs] at ho; have HRS := AK hrs; obtain ⟨A6, c6, rfl, hc6, hC6⟩ := Kd.R_reads ho; have HC6 := AK hC6; have HB6 := AK hb; clear hc6 ho hb hg hat hrs hC6))
    have hrl : rs.length ≤ 65 := by have := H64.out; rw [HRS.out, List.length_append]; simp; omega
    have HRL := AK hrl; clear hrl q0 q1 q2 q3 q4 hmk sz0
    go_loopg [8, 10, 45] (rs.length + 1) (fun kq v8 v10 v45 w' => ∃ (i : Int), v45 = .int .i64 i ∧ Aside0 (i + (kq : Int) = (rs.length : Int) + 1) ∧ Aside0 (0 ≤ i ∧ i ≤ (rs.length : Int)) ∧ Aside0 (Below w6.heap.size w6 w') ∧ Aside0 (Kd.R (Kd.int .u8) 5 w' w6.heap.size (fun _ => True) v8 (resB (rs.take i.toNat))))
    case atStart => exact ⟨0, rfl, ⟨Zq1⟩, ⟨Zq1⟩, ⟨Below.refl _ _⟩, ⟨Kd.R_nil _ _ _ _ _⟩⟩
    case round =>
     obtain ⟨i, rfl, HI, HR, HBr, HO⟩ := hrel
     cases gk with
     | zero => exact absurd HI.out (by have := HR.out; omega)
     | succ k2 =>
      obtain ⟨l8, hl8⟩ : ∃ l8, l8 = resB (rs.take i.toNat) := ⟨_, rfl⟩
      rw [← hl8] at HO; obtain ⟨A8, c8, rfl, hc8, hC8⟩ := Kd.R_reads HO.out
      by_cases c5 : i < (rs.length : Int)
      ·have c6 : 0 ≤ i := HR.out.1; obtain ⟨ad, e405, hx0, hx1⟩ := at_T51 HC6.out i c6 c5; cases e405; replace hx0 := (HBr.out.cell (World.block_lt_of_cell? w6 _ hx0)).trans hx0; replace hx1 := (HBr.out.cell (World.block_lt_of_cell? w6 _ hx1)).trans hx1; have hf := take_res rs i c6 c5
       have hs2 : IntKind.i64.wrap (i + 1) = i + 1 := by
        have := HRL.out; rw [i64_w]; unfold Go.RowKit.wrap64; omega
       have hs4 : Go.RowKit.wrap64 (i + 1) = i + 1 := by rw [← i64_w]; exact hs2
       have c5b0 : decide (i < (rs.length : Int)) = true := decide_eq_true c5; have c6b0 : decide (0 ≤ i) = true := decide_eq_true c6; have p405 : (0 ≤ i) = True := eq_true c6; have q405 : (i < (rs.length : Int)) = True := eq_true c5
       have HI2 : Aside0 (i + 1 + (k2 : Int) = (rs.length : Int) + 1) := ⟨by have := HI.out; omega⟩
       have HR2 : Aside0 (0 ≤ i + 1 ∧ i + 1 ≤ (rs.length : Int)) := ⟨Zq1⟩
       have h8 : l8.length ≤ 1040 := by
        rw [hl8, resB_length, List.length_take]; have := HRL.out; omega
       rw [← hl8] at hf; generalize (rd_T51 rs i).f0 = x0 at hf hx0; generalize (rd_T51 rs i).f1 = x1 at hf hx1; have HF := AK hf
       obtain ⟨l7, hl7⟩ : ∃ l7, l7 = l8 ++ cell8 x0 := ⟨_, rfl⟩
       have H7 : Aside0 (l7.length ≤ 1099511627776) := ⟨by rw [hl7, List.length_append]; simp [cell8, cellB_length]; omega⟩
       have HL7x := AK hl7; have hbw : Below wr.heap.size wr (wr.alloc (.cells #[.int .u64 x0, .int .u64 x1] 51)).drew := below_drew1 Zq59
       have BP : Aside0 ((wr.alloc (.cells #[.int .u64 x0, .int .u64 x1] 51)).drew.heap[wr.heap.size]? = some (Obj.cells #[.int .u64 x0, .int .u64 x1] 51 (0, 0))) := ⟨blk_drew (blk_new _ _)⟩
       have HBW := AK hbw; have HQ1 := AK (words_Put64.calls 10 A8 c8 l8 x0 l7 _ (Kd.C_below hC8 hbw) hc8 (by rw [hl7]; exact put_eight l8 x0 Zq1)); clear hf hl7 hl8 hbw hC8 hc8 h8 c5 c6; go_wp2; refine start_ (n := 8) (S := fun w' => w'.cell? ⟨wr.heap.size, 0, none⟩ = some (.int .u64 x0) ∧ w'.cell? ⟨wr.heap.size, 1, none⟩ = some (.int .u64 x1)) (ds := []) #[false, false, false, false, false, false, false, false] Zq3 rfl rfl ⟨((blk_cell BP.out 0).trans rfl), ((blk_cell BP.out 1).trans rfl)⟩ (fun hHeld => ?_); refine pure_ (i := 0) (N := some 49) (v := ?_) (a' := ?_) #[true, false, false, false, false, false, false, false] rfl rfl Zq3 (fun _ _ _ h => h) (Or.inl ⟨Zq9, ?_⟩) ?_ ?_; rotate_left; (·intro w'; go_simp; with_reducible rfl); rotate_left; (·simp only [Sx]; rfl); refine pure_ (i := 1) (N := some 50) (v := ?_) (a' := ?_) #[true, true, false, false, false, false, false, false] rfl rfl Zq3 (fun _ _ _ h => h) (Or.inl ⟨Zq9, ?_⟩) ?_ ?_; rotate_left; (·intro w'; go_simp; with_reducible rfl); rotate_left; (·simp only [Sx]; rfl); refine pure_ (i := 4) (N := some 53) (v := ?_) (a' := ?_) #[true, true, false, false, true, false, false, false] rfl rfl Zq3 (fun _ _ _ h => h) (Or.inl ⟨Zq9, ?_⟩) ?_ ?_; rotate_left; (·intro w'; go_simp; with_reducible rfl); rotate_left; (·simp only [Sx]; rfl); refine take_ (i := 2) (N := some 51) (v := ?_) (a' := ?_) #[true, true, true, false, true, false, false, false] rfl rfl Zq3 (fun _ _ _ h => h) (Or.inl ⟨Zq9, ?_⟩) hHeld ?_ ?_; rotate_left; (·rintro w' ⟨s0, s1⟩; go_simp; with_reducible rfl); rotate_left; (·simp only [Sx]; rfl); refine take_ (i := 5) (N := some 54) (v := ?_) (a' := ?_) #[true, true, true, false, true, true, false, false] rfl rfl Zq3 (fun _ _ _ h => h) (Or.inl ⟨Zq9, ?_⟩) hHeld ?_ ?_; rotate_left; (·rintro w' ⟨s0, s1⟩; go_simp; with_reducible rfl); rotate_left; (·simp only [Sx]; rfl); refine one_ (i := 3) (N := some 52) #[true, true, true, true, true, true, false, false] rfl rfl Zq3 Zq2 (fun K hK => ?_); refine goes_ Tryz.func16 Zq3 rfl #[.slice A8 l8.length c8, .int .u64 x0] Zq9 rfl rfl Zq33 ?_; refine (HQ1.out).mono ?_; rintro e w7 ⟨v7, rfl, hr7, hb7⟩; obtain ⟨A7, c7, rfl, hc7, hC7⟩ := Kd.R_reads hr7; have HP7 := AK hb7; have HC7 := AK hC7; have HL7 := AK hc7; have BP7 := AK (blk_below BP.out hb7); clear hr7 hb7 hC7 hc7; have HQ2 := AK (words_Put64.calls 10 A7 c7 l7 x1 (l7 ++ cell8 x1) w7 HC7.out HL7.out (put_eight l7 x1 H7.out)); refine ⟨_, rfl, ?_⟩; refine hK.out _ _ ⟨((blk_cell BP7.out 0).trans rfl), ((blk_cell BP7.out 1).trans rfl)⟩ (fun hHeld => ?_); clear hK K; refine norm_ (a' := ?_) ?_ ?_; rotate_left; (·show Act.put _ (some 52) _ = _; simp only [Sx]; rfl); refine one_ (i := 6) (N := some 55) #[true, true, true, true, true, true, true, false] rfl rfl Zq3 Zq2 (fun K hK => ?_); refine goes_ Tryz.func16 Zq3 rfl #[.slice A7 l7.length c7, .int .u64 x1] Zq9 rfl rfl Zq33 ?_; refine (HQ2.out).mono ?_; rintro e w9 ⟨v9, rfl, hr9, hb9⟩
       obtain ⟨l9, hl9⟩ : ∃ l9, l9 = l7 ++ cell8 x1 := ⟨_, rfl⟩
       rw [← hl9] at hr9; obtain ⟨A9, c9, rfl⟩ := Kd.R_slice hr9; have HR9 := AK hr9; have HP9 := AK hb9; have HL9 := AK hl9; have BP9 := AK (blk_below BP7.out hb9); clear hr9 hb9 hl9; refine ⟨_, rfl, ?_⟩; refine hK.out _ _ ⟨((blk_cell BP9.out 0).trans rfl), ((blk_cell BP9.out 1).trans rfl)⟩ (fun hHeld => ?_); clear hK K; refine norm_ (a' := ?_) ?_ ?_; rotate_left; (·show Act.put _ (some 55) _ = _; simp only [Sx]; rfl); refine pure_ (i := 7) (N := some 8) (v := ?_) (a' := ?_) #[true, true, true, true, true, true, true, true] rfl rfl Zq3 (fun _ _ _ h => h) (Or.inl ⟨Zq9, ?_⟩) ?_ ?_; rotate_left; (·intro w'; go_simp; with_reducible rfl); rotate_left; (·simp only [Sx]; rfl); refine done_ Zq3 ?_; go_wp2
       go_roundg k2
       case measure => omega
       case rel => exact ⟨i + 1, rfl, HI2, HR2, ⟨below_step (below_step (below_step HBr.out HBW.out) HP7.out) HP9.out⟩, ⟨by rw [HF.out, ← HL7x.out, ← HL9.out]; exact Kd.R_lower HR9.out (Nat.le_trans HBr.out.size (Nat.le_trans HBW.out.size HP7.out.size))⟩⟩
      ·have hi : i = (rs.length : Int) := by have := HR.out; omega
       subst hi
       have hl8b : l8 = resB rs := by rw [hl8, Int.toNat_natCast, List.take_length]
       have c5b0 : decide ((rs.length : Int) < (rs.length : Int)) = false := decide_eq_false c5; have hW6 : Below w4.heap.size w4 wr := HB6.out.trans (HBr.out.mono HB6.out.size); have HWx := AK (HW.out.below hW6); have HB4 := AK hW6; obtain ⟨vb, vt, hS⟩ := HWx.out; obtain ⟨Ab, cb, rfl, hcb, hCb⟩ := Kd.R_reads hS.rb; obtain ⟨At, ct, rfl, hct, hCt⟩ := Kd.R_reads hS.rt; have BXw := AK (blk_below BX.out hW6); have q0 := (blk_cell BXw.out 0).trans rfl; have g0 := (blk_cell hS.blk 0).trans rfl; have g1 := (blk_cell hS.blk 1).trans rfl; have HCAP2 : Aside0 (totW (wCell 9 s) ≤ 549755813888) := HCAP; generalize wCell 9 s = s1 at H HCAP2 hCb hCt hcb hct hS g0 g1; obtain ⟨B, T, hs1⟩ := s1; dsimp only at hCb hCt hcb hct g0 g1; have HCB := AK hCb; have HCT := AK hCt
       have hBl : B.length + T.length ≤ 549755813888 := by have := HCAP2.out; simp only [totW] at this; omega
       have hLl : l8.length ≤ 1040 := by rw [hl8b, resB_length]; have := HRL.out; omega
       have HOL := AK hl8b; have GB := AK hS.blk; have HCC := AK (And.intro hcb hct); have HC8 := AK (And.intro hC8 hc8); clear hl8 hl8b c5 HI HR hS hCb hCt hcb hct hC8 hc8 HCAP HCAP2 HWx HWN HM HCK BX0 hW6
       obtain ⟨n1, hn1⟩ : ∃ n : Int, n = 40 + (l8.length : Int) := ⟨_, rfl⟩
       obtain ⟨n2, hn2⟩ : ∃ n : Int, n = n1 + (B.length : Int) := ⟨_, rfl⟩
       obtain ⟨n3, hn3⟩ : ∃ n : Int, n = n2 + (T.length : Int) := ⟨_, rfl⟩
       have z1 : Go.RowKit.wrap64 (40 + (l8.length : Int)) = n1 := by unfold Go.RowKit.wrap64; omega
       have z2 : Go.RowKit.wrap64 (n1 + (B.length : Int)) = n2 := by unfold Go.RowKit.wrap64; omega
       have z3 : Go.RowKit.wrap64 (n2 + (T.length : Int)) = n3 := by unfold Go.RowKit.wrap64; omega
       have i1 : IntKind.i64.wrap (40 + (l8.length : Int)) = n1 := by rw [i64_w]; exact z1
       have i2 : IntKind.i64.wrap (n1 + (B.length : Int)) = n2 := by rw [i64_w]; exact z2
       have i3 : IntKind.i64.wrap (n2 + (T.length : Int)) = n3 := by rw [i64_w]; exact z3
       have HNN : Aside0 (n1 = 40 + (l8.length : Int) ∧ n2 = n1 + (B.length : Int) ∧ n3 = n2 + (T.length : Int)) := ⟨hn1, hn2, hn3⟩
       clear hn1 hn2 hn3 hBl
       by_cases cb_ : 1048576 < n3
       ·have d1 : decide (1048576 < n3) = true := decide_eq_true cb_
        have hres : ([], 7) = (r, er) := by
         rw [← H.out]; unfold encF; rw [if_pos]; have := HNN.out; rw [← HRS.out, ← HOL.out]; simp only; omega
        simp only [Prod.mk.injEq] at hres; obtain ⟨rfl, rfl⟩ := hres; go_wp2
        go_ret2
        exact ⟨_, rfl, Kd.R_nil _ _ _ _ _, HW.out.bel.trans (HB4.out.mono HW.out.bel.size)⟩
       ·have d1 : decide (1048576 < n3) = false := decide_eq_false cb_; go_wp2
        have za : IntKind.i64.wrap a0 = a0 := by have := HBT.out; rw [i64_w]; unfold Go.RowKit.wrap64; omega
        have zb : Go.RowKit.wrap64 a0 = a0 := by have := HBT.out; unfold Go.RowKit.wrap64; omega
        refine start_ (n := 19) (S := fun w' => w'.cell? ⟨w.heap.size, 0, none⟩ = some (.int .u32 a0) ∧ w'.cell? ⟨w2.heap.size + 1, 0, none⟩ = some (.slice Ab B.length cb) ∧ w'.cell? ⟨w2.heap.size + 1, 1, none⟩ = some (.slice At T.length ct)) (ds := [16]) #[false, false, false, false, false, false, false, false, false, false, false, false, false, false, false, false, false, false, false] Zq3 rfl rfl ⟨q0, g0, g1⟩ (fun hHeld => ?_); refine pure_ (i := 0) (N := some 76) (v := ?_) (a' := ?_) #[true, false, false, false, false, false, false, false, false, false, false, false, false, false, false, false, false, false, false] rfl rfl Zq3 (fun _ _ _ h => h) (Or.inl ⟨Zq9, ?_⟩) ?_ ?_; rotate_left; (·intro w'; go_simp; with_reducible rfl); rotate_left; (·simp only [Sx]; rfl); refine pure_ (i := 1) (N := some 77) (v := ?_) (a' := ?_) #[true, true, false, false, false, false, false, false, false, false, false, false, false, false, false, false, false, false, false] rfl rfl Zq3 (fun _ _ _ h => h) (Or.inl ⟨Zq9, ?_⟩) ?_ ?_; rotate_left; (·intro w'; go_simp; with_reducible rfl); rotate_left; (·simp only [Sx]; rfl); refine pure_ (i := 2) (N := some 78) (v := ?_) (a' := ?_) #[true, true, true, false, false, false, false, false, false, false, false, false, false, false, false, false, false, false, false] rfl rfl Zq3 (fun _ _ _ h => h) (Or.inl ⟨Zq9, ?_⟩) ?_ ?_; rotate_left; (·intro w'; go_simp; with_reducible rfl); rotate_left; (·simp only [Sx]; rfl); refine pure_ (i := 3) (N := some 79) (v := ?_) (a' := ?_) #[true, true, true, true, false, false, false, false, false, false, false, false, false, false, false, false, false, false, false] rfl rfl Zq3 (fun _ _ _ h => h) (Or.inl ⟨Zq9, ?_⟩) ?_ ?_; rotate_left; (·intro w'; go_simp; with_reducible rfl); rotate_left; (·simp only [Sx]; rfl); refine pure_ (i := 6) (N := some 82) (v := ?_) (a' := ?_) #[true, true, true, true, false, false, true, false, false, false, false, false, false, false, false, false, false, false, false] rfl rfl Zq3 (fun _ _ _ h => h) (Or.inl ⟨Zq9, ?_⟩) ?_ ?_; rotate_left; (·intro w'; go_simp; with_reducible rfl); rotate_left; (·simp only [Sx]; rfl); refine pure_ (i := 7) (N := some 83) (v := ?_) (a' := ?_) #[true, true, true, true, false, false, true, true, false, false, false, false, false, false, false, false, false, false, false] rfl rfl Zq3 (fun _ _ _ h => h) (Or.inl ⟨Zq9, ?_⟩) ?_ ?_; rotate_left; (·intro w'; go_simp; with_reducible rfl); rotate_left; (·simp only [Sx]; rfl); refine pure_ (i := 8) (N := some 84) (v := ?_) (a' := ?_) #[true, true, true, true, false, false, true, true, true, false, false, false, false, false, false, false, false, false, false] rfl rfl Zq3 (fun _ _ _ h => h) (Or.inl ⟨Zq9, ?_⟩) ?_ ?_; rotate_left; (·intro w'; go_simp; with_reducible rfl); rotate_left; (·simp only [Sx]; rfl); refine pure_ (i := 11) (N := some 87) (v := ?_) (a' := ?_) #[true, true, true, true, false, false, true, true, true, false, false, true, false, false, false, false, false, false, false] rfl rfl Zq3 (fun _ _ _ h => h) (Or.inl ⟨Zq9, ?_⟩) ?_ ?_; rotate_left; (·intro w'; go_simp; with_reducible rfl); rotate_left; (·simp only [Sx]; rfl); refine pure_ (i := 12) (N := some 88) (v := ?_) (a' := ?_) #[true, true, true, true, false, false, true, true, true, false, false, true, true, false, false, false, false, false, false] rfl rfl Zq3 (fun _ _ _ h => h) (Or.inl ⟨Zq9, ?_⟩) ?_ ?_; rotate_left; (·intro w'; go_simp; with_reducible rfl); rotate_left; (·simp only [Sx]; rfl); refine pure_ (i := 13) (N := some 89) (v := ?_) (a' := ?_) #[true, true, true, true, false, false, true, true, true, false, false, true, true, true, false, false, false, false, false] rfl rfl Zq3 (fun _ _ _ h => h) (Or.inl ⟨Zq9, ?_⟩) ?_ ?_; rotate_left; (·intro w'; go_simp; with_reducible rfl); rotate_left; (·simp only [Sx]; rfl); refine pure_ (i := 18) (N := some 94) (v := ?_) (a' := ?_) #[true, true, true, true, false, false, true, true, true, false, false, true, true, true, false, false, false, false, true] rfl rfl Zq3 (fun _ _ _ h => h) (Or.inl ⟨Zq9, ?_⟩) ?_ ?_; rotate_left; (·intro w'; go_simp; with_reducible rfl); rotate_left; (·simp only [Sx]; rfl); refine take_ (i := 4) (N := some 80) (v := ?_) (a' := ?_) #[true, true, true, true, true, false, true, true, true, false, false, true, true, true, false, false, false, false, true] rfl rfl Zq3 (fun _ _ _ h => h) (Or.inl ⟨Zq9, ?_⟩) hHeld ?_ ?_; rotate_left; (·rintro w' ⟨s0, s1, s2⟩; go_simp; with_reducible rfl); rotate_left; (·simp only [Sx]; rfl); refine pure_ (i := 5) (N := some 81) (v := ?_) (a' := ?_) #[true, true, true, true, true, true, true, true, true, false, false, true, true, true, false, false, false, false, true] rfl rfl Zq3 (fun _ _ _ h => h) (Or.inl ⟨Zq9, ?_⟩) ?_ ?_; rotate_left; (·intro w'; go_simp; with_reducible rfl); rotate_left; (·simp only [Sx]; rfl); refine take_ (i := 9) (N := some 85) (v := ?_) (a' := ?_) #[true, true, true, true, true, true, true, true, true, true, false, true, true, true, false, false, false, false, true] rfl rfl Zq3 (fun _ _ _ h => h) (Or.inl ⟨Zq9, ?_⟩) hHeld ?_ ?_; rotate_left; (·rintro w' ⟨s0, s1, s2⟩; go_simp; with_reducible rfl); rotate_left; (·simp only [Sx]; rfl); refine pure_ (i := 10) (N := some 86) (v := ?_) (a' := ?_) #[true, true, true, true, true, true, true, true, true, true, true, true, true, true, false, false, false, false, true] rfl rfl Zq3 (fun _ _ _ h => h) (Or.inl ⟨Zq9, ?_⟩) ?_ ?_; rotate_left; (·intro w'; go_simp; with_reducible rfl); rotate_left; (·simp only [Sx]; rfl); refine take_ (i := 14) (N := some 90) (v := ?_) (a' := ?_) #[true, true, true, true, true, true, true, true, true, true, true, true, true, true, true, false, false, false, true] rfl rfl Zq3 (fun _ _ _ h => h) (Or.inl ⟨Zq9, ?_⟩) hHeld ?_ ?_; rotate_left; (·rintro w' ⟨s0, s1, s2⟩; go_simp; with_reducible rfl); rotate_left; (·simp only [Sx]; rfl)
        refine pure_ (i := 15) (N := some 91) (v := ?_) (a' := ?_) #[true, true, true, true, true, true, true, true, true, true, true, true, true, true, true, true, false, false, true] rfl rfl Zq3 (fun _ _ _ h => h) (Or.inl ⟨Zq9, ?_⟩) ?_ ?_; rotate_left; (·intro w'; go_simp; with_reducible rfl); rotate_left; (·simp only [Sx]; rfl); refine last_ (i := 16) (N := some 92) #[true, true, true, true, true, true, true, true, true, true, true, true, true, true, true, true, true, false, true] rfl rfl Zq3 Zq2 (fun K hK => ?_); refine value_ (w1 := ?_) (v := ?_) Zq9 rfl ?_ ?_; rotate_left 2
        ·go_simp
         constructor
         ·rfl
         ·rfl
        refine hK.out _ _ ?_; clear hK K; refine norm_ (a' := ?_) ?_ ?_; rotate_left; (·show Act.put _ (some 92) _ = _; simp only [Sx]; rfl); refine pure_ (i := 17) (N := some 93) (v := ?_) (a' := ?_) #[true, true, true, true, true, true, true, true, true, true, true, true, true, true, true, true, true, true, true] rfl rfl Zq3 (fun _ _ _ h => h) (Or.inl ⟨Zq9, ?_⟩) ?_ ?_; rotate_left; (·intro w'; go_simp; with_reducible rfl); rotate_left; (·simp only [Sx]; rfl); refine done_ Zq3 ?_
        obtain ⟨vs, hvs⟩ : ∃ vs, vs = headV n3 n1 n2 a0 T.length B.length := ⟨_, rfl⟩
        have hv10 : vs.length = 10 := by rw [hvs]; rfl
        have hbq : Below wr.heap.size wr (wr.alloc (.cells #[.int .i64 3490578157, .int .i64 n3, .int .i64 n1, .int .i64 n2, .int .i64 40, .int .i64 17, .int .i64 16, .int .i64 a0, .int .i64 (T.length : Int), .int .i64 (B.length : Int)] 3)).drew := below_drew1 Zq59
        have hvc : Kd.C (Kd.int .i64) (wr.alloc (.cells #[.int .i64 3490578157, .int .i64 n3, .int .i64 n1, .int .i64 n2, .int .i64 40, .int .i64 17, .int .i64 16, .int .i64 a0, .int .i64 (T.length : Int), .int .i64 (B.length : Int)] 3)).drew (some ⟨wr.heap.size, 0, none⟩) 10 vs := by
         have h5 := ints_C (wr.alloc (.cells #[.int .i64 3490578157, .int .i64 n3, .int .i64 n1, .int .i64 n2, .int .i64 40, .int .i64 17, .int .i64 16, .int .i64 a0, .int .i64 (T.length : Int), .int .i64 (B.length : Int)] 3)).drew wr.heap.size 3 vs (by rw [hvs]; exact blk_drew (blk_new _ _)) Zq1; rw [hv10] at h5; exact h5
        have HVS := AK hvc; have HBQ := AK hbq; have HVV := AK hvs; have HV10 := AK hv10; clear hvc hbq hvs hv10 q0 g0 g1 z1 z2 z3 i1 i2 i3 za zb d1; generalize (wr.alloc (.cells #[.int .i64 3490578157, .int .i64 n3, .int .i64 n1, .int .i64 n2, .int .i64 40, .int .i64 17, .int .i64 16, .int .i64 a0, .int .i64 (T.length : Int), .int .i64 (B.length : Int)] 3)).drew = wq at HVS HBQ ⊢; generalize hbA : (⟨wr.heap.size, 0, none⟩ : Addr) = ba at HVS ⊢; go_wp2
        go_loopg [14, 16, 94] 11 (fun kq v14 v16 v94 w' => ∃ (i : Int), v94 = .int .i64 i ∧ Aside0 (i + (kq : Int) = 11) ∧ Aside0 (0 ≤ i ∧ i ≤ 10) ∧ Aside0 (Below wq.heap.size wq w') ∧ Aside0 (Kd.R (Kd.int .u8) 5 w' wq.heap.size (fun _ => True) v14 (headB (vs.take i.toNat))))
        case atStart => exact ⟨0, rfl, ⟨Zq1⟩, ⟨Zq1⟩, ⟨Below.refl _ _⟩, ⟨Kd.R_nil _ _ _ _ _⟩⟩
        case round =>
         obtain ⟨i, rfl, HI, HR, HBs, HOh⟩ := hrel
         cases gk with
         | zero => exact absurd HI.out (by have := HR.out; omega)
         | succ k3 =>
          obtain ⟨l14, hl14⟩ : ∃ l, l = headB (vs.take i.toNat) := ⟨_, rfl⟩
          rw [← hl14] at HOh; obtain ⟨Ah, ch, rfl, hch, hCh⟩ := Kd.R_reads HOh.out
          by_cases c5 : i < 10
          ·have c6 : 0 ≤ i := HR.out.1; obtain ⟨ad, e405, hx0⟩ := Kd.at_int HVS.out i c6 Zq1; cases e405; replace hx0 := (HBs.out.cell (World.block_lt_of_cell? wq _ hx0)).trans hx0; have hf := take_head vs i c6 (by rw [HV10.out]; omega)
           have hs2 : IntKind.i64.wrap (i + 1) = i + 1 := by
            rw [i64_w]; unfold Go.RowKit.wrap64; omega
           have hs4 : Go.RowKit.wrap64 (i + 1) = i + 1 := by rw [← i64_w]; exact hs2
           have c5b0 : decide (i < 10) = true := decide_eq_true c5; have c6b0 : decide (0 ≤ i) = true := decide_eq_true c6; have p405 : (0 ≤ i) = True := eq_true c6; have q405 : (i < 10) = True := eq_true c5
           have HI2 : Aside0 (i + 1 + (k3 : Int) = 11) := ⟨by have := HI.out; omega⟩
           have HR2 : Aside0 (0 ≤ i + 1 ∧ i + 1 ≤ 10) := ⟨Zq1⟩
           have h14 : l14.length ≤ 40 := by rw [hl14, headB_length, List.length_take, HV10.out]; omega
           rw [← hl14] at hf; generalize rd vs i = x at hf hx0; have HF := AK hf; have HQ1 := AK (words_Put.calls 6 Ah ch l14 (x % 4294967296) (l14 ++ cellB (x % 4294967296)) wr hCh hch (put_four l14 (x % 4294967296) Zq1 Zq1 Zq1)); clear hf hl14 hCh hch h14 c5 c6; go_wp2_with (go_at_call 17; refine HQ1.out.mono ?_; rintro e w7 ⟨v7, rfl, hr7, hb7⟩; have HR7 := AK hr7; have HB7 := AK hb7; clear hr7 hb7)
           go_roundg k3
           case measure => omega
           case rel => exact ⟨i + 1, rfl, HI2, HR2, ⟨below_step HBs.out HB7.out⟩, ⟨by rw [HF.out]; exact Kd.R_lower HR7.out HBs.out.size⟩⟩
          ·have hi : i = 10 := by have := HR.out; omega
           subst hi
           have c5b0 : decide ((10 : Int) < 10) = false := by decide
           have HL14 : Aside0 (l14 = headB vs) := ⟨by rw [hl14]; congr 1; exact List.take_of_length_le (by rw [HV10.out]; decide)⟩
           have hgb := blk_below (blk_below GB.out HBQ.out) HBs.out; have g0 := (blk_cell hgb 0).trans rfl; have g1 := (blk_cell hgb 1).trans rfl; have HBs2 := AK (HBQ.out.trans (HBs.out.mono HBQ.out.size)); have HX8 := AK (Kd.C_below HC8.out.1 HBs2.out); have HXB := AK (Kd.C_below HCB.out HBs2.out); have HXT := AK (Kd.C_below HCT.out HBs2.out); have HXH := AK (And.intro hCh hch); have hbz : Below wr.heap.size wr (wr.alloc (.cells #[.slice Ah l14.length ch, .slice A8 l8.length c8, .slice Ab B.length cb, .slice At T.length ct] 32)).drew := below_drew1 Zq59; have hcc := concat.calls (some ⟨wr.heap.size, 0, none⟩) 4 [l14, l8, B, T] _ (four_C (wr.alloc (.cells #[.slice Ah l14.length ch, .slice A8 l8.length c8, .slice Ab B.length cb, .slice At T.length ct] 32)).drew wr.heap.size 32 Ah A8 Ab At ch c8 cb ct l14 l8 B T (blk_drew (blk_new _ _)) (Kd.C_below hCh hbz) hch (Kd.C_below HX8.out hbz) HC8.out.2 (Kd.C_below HXB.out hbz) HCC.out.1 (Kd.C_below HXT.out hbz) HCC.out.2) Zq7 (by have h5 := HL14.out; simp [h5, headB_length, HV10.out]; omega) (by have h5 := HL14.out; have h6 := HNN.out; simp [h5, headB_length, HV10.out]; omega); have HCCC := AK hcc; have HBZ := AK hbz
           have HRES : Aside0 ((l14 ++ (l8 ++ (B ++ T)), (0 : Int)) = (r, er)) := ⟨by
            rw [← H.out]; unfold encF; have h6 := HNN.out
            have e3 : ((40 + (resB (l1 ++ [⟨0, 0⟩])).length + B.length + T.length : Nat) : Int) = n3 := by rw [← HRS.out, ← HOL.out]; omega
            have e1 : ((40 + (resB (l1 ++ [⟨0, 0⟩])).length : Nat) : Int) = n1 := by rw [← HRS.out, ← HOL.out]; omega
            have e2 : ((40 + (resB (l1 ++ [⟨0, 0⟩])).length + B.length : Nat) : Int) = n2 := by rw [← HRS.out, ← HOL.out]; omega
            rw [if_neg (by simp only; omega)]; simp only
            rw [e1, e2, e3, ← HVV.out, ← HL14.out, ← HRS.out, ← HOL.out]⟩
           clear hCh hch hgb hbz hcc hl14 c5 HI HR HL14; go_wp2
           go_still_tail 10, Zq3
           change wpList _ _ _ _ _ wr.drew
           (go_wp2_with (go_at_call 18; refine HCCC.out.mono ?_; rintro e w9 ⟨v9, rfl, hr9, hb9⟩; have HR9 := AK hr9; have HB9 := AK hb9; clear hr9 hb9)); have hres := HRES.out; simp only [Prod.mk.injEq] at hres; obtain ⟨hr1_, hr2_⟩ := hres; have hBB := below_step (below_step (below_step HW.out.bel HB4.out) HBs2.out) HBZ.out
           have hfl : [l14, l8, B, T].flatten = r := by rw [← hr1_]; simp
           have HR9b := HR9.out; rw [hfl] at HR9b; rw [← hr2_]
           go_ret2
           exact ⟨_, rfl, Kd.R_lower HR9b hBB.size, below_step hBB HB9.out⟩
   ·rw [if_neg c64] at h; exact absurd h Zq7
 ·rw [if_neg c0] at h; simp only [Option.some.injEq, Prod.mk.injEq] at h; obtain ⟨rfl, rfl⟩ := h; obtain ⟨b0, b1⟩ := Zd0 c0; clear c0; go_enter Tryz.func6, Tryz.ntmps6; go_wp2_with (go_at_call 11; refine HCK.out.mono ?_; rintro e w1 ⟨rfl, hb⟩; have HB1 := Zq102; have BX := AK (blk_below BX0.out hb); have q0 := (blk_cell BX.out 0).trans rfl; have q1 := (blk_cell BX.out 1).trans rfl; have q2 := (blk_cell BX.out 2).trans rfl; have q3 := (blk_cell BX.out 3).trans rfl; have q4 := (blk_cell BX.out 4).trans rfl; clear hb)
  go_ret2
  exact ⟨_, rfl, Kd.R_nil _ _ _ _ _, HB1.out⟩
def encode_Layout.f (k : Nat) (b : List Int) : Option Bool :=
 (decode_Decode.f k b).bind fun d => if d.2 = 0 then (if 0 ≤ d.1.f0 ∧ d.1.f0 < 4294967296 then (encode_Encode.f k d.1.f0 d.1.f1 d.1.f2.f0 d.1.f2.f1 d.1.f2.f2).bind fun c => (if c.2 = 0 then bytes_Equal.f b c.1 else some false) else none) else some false
set_option maxRecDepth 100000 in
set_option maxHeartbeats 2000000 in
theorem encode_Layout.calls (k : Nat) (A0 : Option Addr) (c0 : Nat) (l0 : List Int) (r : Bool) (w : World) (hr0 : Kd.C (Kd.int .u8) w A0 l0.length l0) (hc0 : l0.length ≤ c0) (h : encode_Layout.f k l0 = some r) :
  Calls Tryz.prog 9 #[.slice A0 l0.length c0] w fun e w' => e = .returned (.bool r) ∧ Below w.heap.size w w' := by
 obtain ⟨⟨t, e1⟩, hd, h⟩ := Option.bind_eq_some_iff.mp h; simp only at h; have hu29 := Tryz.underlying29; have hu27 := Tryz.underlying27; have HD := AK (decode_Decode.calls k A0 c0 l0 t e1 w hr0 hc0 hd); have HR0 := AK hr0; have HC0 := AK hc0; clear hr0 hc0 hd
 by_cases he : e1 = 0
 ·rw [if_pos he] at h; subst he
  by_cases hg : 0 ≤ t.f0 ∧ t.f0 < 4294967296
  ·rw [if_pos hg] at h; have HRG := AK hg; clear hg; obtain ⟨⟨c, e2⟩, hc, h⟩ := Option.bind_eq_some_iff.mp h; simp only at h; have HE := AK hc; clear hc
   by_cases he2 : e2 = 0
   ·rw [if_pos he2] at h; subst he2; have H := AK h; clear h; go_enter Tryz.func9, Tryz.ntmps9; (go_wp2_with (first | (go_at_call 25; refine HD.out.mono ?_; rintro e w1 ⟨vr, v1, v2, rfl, h1, h2, h3, hb⟩; obtain ⟨Ar, cr, rfl, hcr, hCr⟩ := Kd.R_reads h1; obtain ⟨Ap, cp, rfl, hcp, hCp⟩ := Kd.R_reads h2; obtain ⟨Ak, ck, rfl, hck, hCk⟩ := Kd.R_reads h3; have HB1 := AK hb; have XR := AK (And.intro hCr hcr); have XP := AK (And.intro hCp hcp); have XK := AK (And.intro hCk hck); clear h1 h2 h3 hb hCr hcr hCp hcp hCk hck) | (go_at_call 6; have hbx := below_alloc (Below.refl w1.heap.size w1) (.cells #[.int .u32 t.f0, .slice Ar t.f1.length cr, .string t.f2.f0, .slice Ap t.f2.f1.length cp, .slice Ak t.f2.f2.length ck] 29); refine (encode_Encode.calls k t.f0 Ar cr t.f1 t.f2.f0 Ap cp t.f2.f1 Ak ck t.f2.f2 c _ _ (Kd.C_below XR.out.1 hbx) XR.out.2 (Kd.C_below XP.out.1 hbx) XP.out.2 (Kd.C_below XK.out.1 hbx) XK.out.2 HRG.out HE.out).mono ?_; rintro e w2 ⟨v3, rfl, h3, hb⟩; obtain ⟨Ac, cc, rfl, hcc, hCc⟩ := Kd.R_reads h3; have HB2 := AK (below_step (below_step HB1.out hbx) hb); have XC := AK (And.intro hCc hcc); clear h3 hb hCc hcc hbx) | (go_at_call 26; refine (bytes_Equal.calls A0 c0 l0 Ac cc c r w2 (Kd.C_below HR0.out HB2.out) HC0.out XC.out.1 XC.out.2 H.out).mono ?_; rintro e w3 ⟨rfl, ⟨nd, rfl⟩⟩))); refine bodyPost_ret (results_tmp rfl _ _ _) rfl ?_; exact ⟨rfl, pw_below_drewN HB2.out _⟩
   ·rw [if_neg he2] at h
    obtain rfl : false = r := by simpa using h
    have b0 : (e2 == 0) = false := beq_eq_false_iff_ne.mpr he2; clear h he2; go_enter Tryz.func9, Tryz.ntmps9; (go_wp2_with (first | (go_at_call 25; refine HD.out.mono ?_; rintro e w1 ⟨vr, v1, v2, rfl, h1, h2, h3, hb⟩; obtain ⟨Ar, cr, rfl, hcr, hCr⟩ := Kd.R_reads h1; obtain ⟨Ap, cp, rfl, hcp, hCp⟩ := Kd.R_reads h2; obtain ⟨Ak, ck, rfl, hck, hCk⟩ := Kd.R_reads h3; have HB1 := AK hb; have XR := AK (And.intro hCr hcr); have XP := AK (And.intro hCp hcp); have XK := AK (And.intro hCk hck); clear h1 h2 h3 hb hCr hcr hCp hcp hCk hck) | (go_at_call 6; have hbx := below_alloc (Below.refl w1.heap.size w1) (.cells #[.int .u32 t.f0, .slice Ar t.f1.length cr, .string t.f2.f0, .slice Ap t.f2.f1.length cp, .slice Ak t.f2.f2.length ck] 29); refine (encode_Encode.calls k t.f0 Ar cr t.f1 t.f2.f0 Ap cp t.f2.f1 Ak ck t.f2.f2 c _ _ (Kd.C_below XR.out.1 hbx) XR.out.2 (Kd.C_below XP.out.1 hbx) XP.out.2 (Kd.C_below XK.out.1 hbx) XK.out.2 HRG.out HE.out).mono ?_; rintro e w2 ⟨v3, rfl, h3, hb⟩; obtain ⟨Ac, cc, rfl, hcc, hCc⟩ := Kd.R_reads h3; have HB2 := AK (below_step (below_step HB1.out hbx) hb); have XC := AK (And.intro hCc hcc); clear h3 hb hCc hcc hbx))); refine bodyPost_ret (results_tmp rfl _ _ _) rfl ?_; exact ⟨rfl, HB2.out⟩
  ·rw [if_neg hg] at h; exact absurd h Zq7
 ·rw [if_neg he] at h
  obtain rfl : false = r := by simpa using h
  have b0 : (e1 == 0) = false := beq_eq_false_iff_ne.mpr he; have b1 : (e1 != 0) = true := bne_iff_ne.mpr he; clear h he; go_enter Tryz.func9, Tryz.ntmps9; (go_wp2_with (go_at_call 25; refine HD.out.mono ?_; rintro e w1 ⟨vr, v1, v2, rfl, h1, h2, h3, hb⟩; obtain ⟨Ar, cr, rfl, hcr, hCr⟩ := Kd.R_reads h1; obtain ⟨Ap, cp, rfl, hcp, hCp⟩ := Kd.R_reads h2; obtain ⟨Ak, ck, rfl, hck, hCk⟩ := Kd.R_reads h3; have HB1 := AK hb; have XR := AK (And.intro hCr hcr); have XP := AK (And.intro hCp hcp); have XK := AK (And.intro hCk hck); clear h1 h2 h3 hb hCr hcr hCp hcp hCk hck)); refine bodyPost_ret (results_tmp rfl _ _ _) rfl ?_; exact ⟨rfl, below_alloc HB1.out _⟩
def b72 : List Int := ((encode_Encode.f 20 0 [] ⟨#[]⟩ [] []).getD ([], 1)).1
set_option maxRecDepth 100000 in
theorem enc72 : encode_Encode.f 20 0 [] ⟨#[]⟩ [] [] = some (b72, 0) := by kernel_rfl
theorem len72 : b72.length = 72 := by kernel_rfl
set_option maxRecDepth 100000 in
theorem lay72 : encode_Layout.f 80 b72 = some true := by kernel_rfl
theorem padW_length (l : List Int) : ((padW l).length : Int) = (4 - (l.length : Int) % 4) % 4 := by
 unfold padW; rw [List.length_replicate, padN_eq _ Zq1]; omega
theorem encF_len (a0 : Int) (l1 : List S51) (s : WSt) : (40 + 16 * (l1.length + 1) + s.1.length + s.2.1.length > 1048576 ∧ encF a0 l1 s = ([], 7)) ∨ (¬ 40 + 16 * (l1.length + 1) + s.1.length + s.2.1.length > 1048576 ∧ ∃ X : List Int, encF a0 l1 s = (X, 0) ∧ X.length = 40 + 16 * (l1.length + 1) + s.1.length + s.2.1.length) := by
 have lr : (resB (l1 ++ [(⟨0, 0⟩ : S51)])).length = 16 * (l1.length + 1) := by rw [resB_length, List.length_append]; rfl
 unfold encF
 by_cases c2 : 40 + (resB (l1 ++ [(⟨0, 0⟩ : S51)])).length + s.1.length + s.2.1.length > 1048576
 ·left
  rw [if_pos c2]; exact ⟨Zq1, rfl⟩
 ·right
  rw [if_neg c2]; refine ⟨Zq1, _, rfl, ?_⟩; rw [List.length_append, List.length_append, List.length_append, headB_length, lr]; show 4 * 10 + _ = _; omega
theorem cell_read (p q : List Int) (v : Int) (h0 : 0 ≤ v) (h1 : v < 4294967296) : cellOk (p ++ cellB v ++ q) (p.length : Int) = true ∧ cellAt (p ++ cellB v ++ q) (p.length : Int) = v := by
 unfold cellOk cellAt; rw [cellAt_mid p q v h0 h1]; exact ⟨rfl, rfl⟩
theorem tok_read (k : Nat) (p q : List Int) (v : Int) (hv : v = 1 ∨ v = 2 ∨ v = 3 ∨ v = 9) : tokF (k + 1) (p ++ cellB v ++ q) (p.length : Int) = some (v, true, (p.length : Int) + 4) := by
 obtain ⟨h1, h2⟩ := cell_read p q v Zq1 Zq1; simp only [tokF]; rw [h1, h2, if_pos rfl]
 rcases hv with rfl | rfl | rfl | rfl <;> simp
theorem padOk_zero (n : Nat) : padOk (List.replicate n 0) = true := by
 unfold padOk
 have : Lib.countByte (Lib.bytesOf (List.replicate n 0)) 0 = n := by
  unfold Lib.countByte Lib.bytesOf; rw [List.map_replicate]
  simp
 rw [this]
 simp
theorem padN_nonneg (n : Nat) : 0 ≤ padN (n : Int) ∧ padN (n : Int) ≤ 3 := by
 rw [padN_eq _ Zq1]; omega
theorem take_read (p q l : List Int) : takeF (p ++ (l ++ padW l) ++ q) (p.length : Int) (l.length : Int) = (l, true, (p.length : Int) + ((l.length : Int) + padN (l.length : Int))) := by
 have hp := padN_nonneg l.length
 have hpl : (padW l).length = (padN (l.length : Int)).toNat := by unfold padW; rw [List.length_replicate]
 unfold takeF; rw [if_pos (by simp only [List.length_append, hpl]; omega)]
 have e1 : ((p.length : Int) + (l.length : Int)).toNat = p.length + l.length := by omega
 have e2 : ((p.length : Int) + ((l.length : Int) + padN (l.length : Int))).toNat = p.length + (l.length + (padW l).length) := by omega
 have e3 : ((p.length : Int)).toNat = p.length := by omega
 have a1 : (p ++ (l ++ padW l) ++ q) = (p ++ l) ++ (padW l ++ q) := by simp
 have a2 : (p ++ (l ++ padW l) ++ q) = (p ++ l ++ padW l) ++ q := by simp
 rw [e1, e2, e3]
 congr 1
 ·rw [a1, List.take_append_of_le_length Zq7, List.take_of_length_le Zq7, List.drop_left]
 ·congr 1
  rw [a2, List.take_append_of_le_length Zq7, List.take_of_length_le Zq7, show p.length + l.length = (p ++ l).length by simp, List.drop_left]; exact padOk_zero _
theorem index_nul : ∀ (x r : List UInt8), (∀ b ∈ x, b ≠ 0) → Lib.indexByte (x ++ 0 :: r) 0 = (x.length : Int)
 | [], r, _ => by simp [Lib.indexByte]
 | b :: l, r, h => by
  have ih := index_nul l r (fun c hc => h c (List.mem_cons_of_mem _ hc)); have hb : (b == 0) = false := beq_eq_false_iff_ne.mpr (h b List.mem_cons_self); have hn : ((l.length : Int) == -1) = false := beq_eq_false_iff_ne.mpr Zq1; simp only [List.cons_append, Lib.indexByte, hb, ih, hn, Bool.false_eq_true, if_false, List.length_cons]; omega
theorem lib_bytesOf (x : ByteArray) : Lib.bytesOf (bytesOf x) = x.data.toList := by
 unfold Lib.bytesOf bytesOf; rw [List.map_map]
 have : ((fun n : Int => UInt8.ofNat n.toNat) ∘ fun b : UInt8 => (b.toNat : Int)) = id := by
  funext b
  simp
 rw [this, List.map_id]
theorem str_bytesOf (x : ByteArray) : strOfNums (bytesOf x) = x := by
 obtain ⟨⟨l⟩⟩ := x; have h := lib_bytesOf ⟨⟨l⟩⟩; unfold Lib.bytesOf at h; unfold strOfNums; rw [h]
theorem index_read (x : ByteArray) (T2 : List Int) (hx : ∀ b ∈ x.data.toList, b ≠ 0) : bytes_IndexByte.f (bytesOf x ++ 0 :: T2) 0 = some (x.size : Int) := by
 have h1 : Lib.bytesOf (bytesOf x ++ 0 :: T2) = x.data.toList ++ 0 :: Lib.bytesOf T2 := by
  have := lib_bytesOf x; unfold Lib.bytesOf at this ⊢; rw [List.map_append, this]; rfl
 have h2 := index_nul x.data.toList (Lib.bytesOf T2) hx; rw [data_length, ← h1] at h2; have h0 : ((0 : Int).toNat.toUInt8) = 0 := rfl
 have hn : ¬ (bytesOf x ++ 0 :: T2).length = 0 := by rw [List.length_append, List.length_cons]; omega
 unfold bytes_IndexByte.f; rw [if_neg hn, h0, h2]
theorem wrap64_id (a : Int) (h0 : 0 ≤ a) (h1 : a ≤ 9223372036854775807) : wrap64 a = a := by unfold wrap64; omega
theorem text_read (k : Nat) (T1 T2 : List Int) (x : ByteArray) (hx : ∀ b ∈ x.data.toList, b ≠ 0) (hl : T1.length + x.size ≤ 1099511627776) : words_Text.f (k + 1) (T1 ++ (bytesOf x ++ [0]) ++ T2) (T1.length : Int) = some (x, true) := by
 have hlen : (bytesOf x).length = x.size := bytesOf_length x
 have e0 : ((T1.length : Int)).toNat = T1.length := by omega
 have hd : (T1 ++ (bytesOf x ++ [0]) ++ T2).drop T1.length = bytesOf x ++ 0 :: T2 := by
  rw [List.append_assoc, List.drop_left]
  simp
 have hi := index_read x T2 hx
 have hL : (T1 ++ (bytesOf x ++ [0]) ++ T2).length = T1.length + (x.size + 1) + T2.length := by simp [hlen]; omega
 have f1 : ¬ (T1.length : Int) < 0 := by omega
 have f2 : ¬ ((T1.length : Int) ≥ ((T1 ++ (bytesOf x ++ [0]) ++ T2).length : Int)) := by rw [hL]; omega
 have f3 : (0 : Int) ≤ (T1.length : Int) := by omega
 have f4 : (T1.length : Int) ≤ ((T1 ++ (bytesOf x ++ [0]) ++ T2).length : Int) := by rw [hL]; omega
 have f5 : ¬ (x.size : Int) < 0 := by omega
 have f6 : (T1.length : Int) ≤ (T1.length : Int) + (x.size : Int) := by omega
 have f7 : (T1.length : Int) + (x.size : Int) ≤ ((T1 ++ (bytesOf x ++ [0]) ++ T2).length : Int) := by rw [hL]; omega
 have e1 : ((T1.length : Int) + (x.size : Int)).toNat = (T1 ++ bytesOf x).length := by rw [List.length_append, hlen]; omega
 have a1 : (T1 ++ (bytesOf x ++ [0]) ++ T2) = (T1 ++ bytesOf x) ++ ([0] ++ T2) := by simp
 have a2 : (((T1 ++ (bytesOf x ++ [0]) ++ T2).take (T1 ++ bytesOf x).length).drop T1.length) = bytesOf x := by
  rw [a1, List.take_left, List.drop_left]
 have hw : wrap64 ((T1.length : Int) + (x.size : Int)) = (T1.length : Int) + (x.size : Int) := wrap64_id _ Zq1 Zq1; clear hx hl hL a1; generalize (T1 ++ (bytesOf x ++ [0]) ++ T2) = L at f2 f4 f7 hd a2 ⊢
 have hj : words_Text.j0 (k + 1) L (T1.length : Int) false = some (x, true) := by
  rw [words_Text.j0]; rw [if_neg Bool.false_ne_true, if_pos f3, if_pos f4, e0, hd, hi, Option.bind_some, if_neg f5, hw, if_pos f6, if_pos f7, e1, a2, str_bytesOf]
 unfold words_Text.f; rw [if_neg f1, decide_eq_false f2]; exact hj
theorem prop_read (k : Nat) (p q T1 T2 v : List Int) (x : ByteArray) (hs : List ByteArray) (hx : ∀ b ∈ x.data.toList, b ≠ 0) (hT : T1.length + x.size ≤ 1099511627776) (hT2 : T1.length < 4294967296) (hv : v.length < 4294967296) (hsz : x.size < 1099511627776) (hn : name_Prop.f (k + 1) x = some true) (hk : knownB hs x = false) (hhs : hs.length < 1099511627776) :
  propF (k + 1) (p ++ (cellB (v.length : Int) ++ (cellB (T1.length : Int) ++ (v ++ padW v))) ++ q) (T1 ++ (bytesOf x ++ [0]) ++ T2) (p.length : Int) hs = some (⟨x, v⟩, 0, (p.length : Int) + 4 + 4 + ((v.length : Int) + padN (v.length : Int))) := by
 obtain ⟨a1, a2⟩ := cell_read p (cellB (T1.length : Int) ++ (v ++ padW v) ++ q) (v.length : Int) Zq1 Zq1; obtain ⟨b1, b2⟩ := cell_read (p ++ cellB (v.length : Int)) ((v ++ padW v) ++ q) (T1.length : Int) Zq1 Zq1; have ht := take_read (p ++ cellB (v.length : Int) ++ cellB (T1.length : Int)) q v; have hr := text_read k T1 T2 x hx hT
 have l1 : ((p ++ cellB (v.length : Int)).length : Int) = (p.length : Int) + 4 := by rw [List.length_append, cellB_length]; omega
 have l2 : ((p ++ cellB (v.length : Int) ++ cellB (T1.length : Int)).length : Int) = (p.length : Int) + 4 + 4 := by rw [List.length_append, List.length_append, cellB_length, cellB_length]; omega
 rw [l1] at b1 b2; rw [l2] at ht
 have e1 : p ++ (cellB (v.length : Int) ++ (cellB (T1.length : Int) ++ (v ++ padW v))) ++ q = p ++ cellB (v.length : Int) ++ (cellB (T1.length : Int) ++ (v ++ padW v) ++ q) := by simp only [List.append_assoc]
 have e2 : p ++ (cellB (v.length : Int) ++ (cellB (T1.length : Int) ++ (v ++ padW v))) ++ q = p ++ cellB (v.length : Int) ++ cellB (T1.length : Int) ++ ((v ++ padW v) ++ q) := by simp only [List.append_assoc]
 have e3 : p ++ (cellB (v.length : Int) ++ (cellB (T1.length : Int) ++ (v ++ padW v))) ++ q = p ++ cellB (v.length : Int) ++ cellB (T1.length : Int) ++ (v ++ padW v) ++ q := by simp only [List.append_assoc]
 rw [← e1] at a1 a2; rw [← e2] at b1 b2; rw [← e3] at ht
 have hc : bytes_Clone.f v = some v := by
  unfold bytes_Clone.f; rw [if_pos Zq1]
 generalize p ++ (cellB (v.length : Int) ++ (cellB (T1.length : Int) ++ (v ++ padW v))) ++ q = L at *; generalize (T1 ++ (bytesOf x ++ [0]) ++ T2) = LT at *
 have hz : (x.size : Int) < 1099511627776 := by omega
 unfold propF; rw [if_pos a1, if_pos b1, b2, hr, Option.bind_some, a2, ht]; simp only [if_true]; rw [if_pos hz, hn, Option.bind_some, if_pos rfl, hk, if_neg Bool.false_ne_true, if_pos hhs, hc, Option.bind_some]
def nameOk (k : Nat) (a : ByteArray) (d : Int) : Prop := d ≤ 16 ∧ (if d = 1 then some (decide (a.toList = ([] : List UInt8))) else if d > 1 then name_Node.f k a else some true) = some true
theorem open_read (k : Nat) (p q : List Int) (a : ByteArray) (hs : List ByteArray) (d : Int) (hx : ∀ b ∈ a.data.toList, b ≠ 0) (hp : p.length + a.size ≤ 549755813888) (hn : nameOk (k + 1) a d) (hk : knownB hs a = false) (hhs : hs.length < 1099511627776) :
  openF (k + 1) (p ++ ((bytesOf a ++ [0]) ++ padW (bytesOf a ++ [0])) ++ q) (p.length : Int) hs d = some (a, 0, (p.length : Int) + (((bytesOf a ++ [0]).length : Int) + padN ((bytesOf a ++ [0]).length : Int))) := by
 have ht := take_read p q (bytesOf a ++ [0]); have hr := text_read k p (padW (bytesOf a ++ [0]) ++ q) a hx Zq1
 have e1 : p ++ ((bytesOf a ++ [0]) ++ padW (bytesOf a ++ [0])) ++ q = p ++ (bytesOf a ++ [0]) ++ (padW (bytesOf a ++ [0]) ++ q) := by simp only [List.append_assoc]
 rw [← e1] at hr
 have hl : (((bytesOf a ++ [0]).length : Nat) : Int) = (a.size : Int) + 1 := by rw [List.length_append, bytesOf_length]; rfl
 have hL : (0 : Int) ≤ (p.length : Int) ∧ (p.length : Int) ≤ ((p ++ ((bytesOf a ++ [0]) ++ padW (bytesOf a ++ [0])) ++ q).length : Int) := by
  rw [List.length_append, List.length_append]; omega
 have hz : (a.size : Int) < 1099511627776 := by omega
 rw [hl] at ht ⊢; generalize p ++ ((bytesOf a ++ [0]) ++ padW (bytesOf a ++ [0])) ++ q = L at *; obtain ⟨hd, hn⟩ := hn
 have hd2 : ¬ d > 16 := by omega
 unfold openF; rw [if_pos hL, hr, Option.bind_some, if_pos rfl, if_pos hz, ht]; simp only [if_true]; rw [if_neg hd2, hn, Option.bind_some, if_pos rfl, hk, if_neg Bool.false_ne_true, if_pos hhs]
end Go.Proofs.YtkopmkinlanhoaaGreat.PE

namespace Go.Proofs.YtkopmkinlanhoaaGreat.PE
open Go.RowKit Go.Proofs.YtkopmkinlanhoaaGreatW.PrintWords Go.Proofs.YtkopmkinlanhoaaGreatW.PrintLast Go.Proofs.YtkopmkinlanhoaaGreatW.PrintMore
attribute [local go_sem] max2_int min2_int max_two min_two max_three min_three max_four min_four
open Go.Proofs.YtkopmkinlanhoaaGreat.Aid Go.Proofs.YtkopmkinlanhoaaGreat.Rdr
mutual
def twN : S27 → WSt → WSt
 | ⟨a, ps, ks⟩, s => wCell 2 (twK ks (ps.foldl (fun s p => wProp p s) (wOpen a s)))
def twK : List S27 → WSt → WSt
 | [], s => s
 | x :: r, s => twK r (twN x s)
end
theorem take_rd {α : Type} (l : List α) (z : α) (i : Int) (h0 : 0 ≤ i) (h1 : i < (l.length : Int)) : l.drop i.toNat = l.getD i.toNat z :: l.drop (i + 1).toNat := by
 have e : (i + 1).toNat = i.toNat + 1 := by omega
 have hlt : i.toNat < l.length := by omega
 rw [e, List.drop_eq_getElem_cons hlt, List.getD_eq_getElem?_getD, List.getElem?_eq_getElem hlt]; rfl
theorem totW_prop (p : S68) (s : WSt) : totW s ≤ totW (wProp p s) := by
 have h6 := totW_text p.f0 (wCell ((p.f1.length : Int) % 4294967296) (wCell 3 s)); simp only [wProp, totW_bytes, totW_cell] at h6 ⊢; omega
theorem totW_open (a : ByteArray) (s : WSt) : totW s ≤ totW (wOpen a s) := by
 simp only [wOpen, totW_bytes, totW_cell]; omega
theorem totW_props : ∀ (ps : List S68) (s : WSt), totW s ≤ totW (ps.foldl (fun s p => wProp p s) s)
 | [], s => Nat.le_refl _
 | p :: r, s => Nat.le_trans (totW_prop p s) (totW_props r (wProp p s))
mutual
theorem totW_twN : ∀ (x : S27) (s : WSt), totW s ≤ totW (twN x s)
 | ⟨a, ps, ks⟩, s => by
  rw [twN, totW_cell]; exact Nat.le_trans (totW_open a s) (Nat.le_trans (totW_props ps _) (Nat.le_trans (totW_twK ks _) (Nat.le_add_right _ _)))
theorem totW_twK : ∀ (ks : List S27) (s : WSt), totW s ≤ totW (twK ks s)
 | [], s => by rw [twK]; exact Nat.le_refl _
 | x :: r, s => by
  rw [twK]; exact Nat.le_trans (totW_twN x s) (totW_twK r _)
end
mutual
def okN : S27 → Prop
 | ⟨_, ps, ks⟩ => (∀ p ∈ ps, p.f0.size ≤ 549755813888) ∧ ps.length < 1099511627776 ∧ ks.length < 1099511627776 ∧ okK ks
def okK : List S27 → Prop
 | [] => True
 | x :: r => okN x ∧ okK r
end
theorem wrP_ev (ps : List S68) (ks : List S27) (hsz : ∀ p ∈ ps, p.f0.size ≤ 549755813888) (hl : ps.length < 1099511627776) (hK : ∀ s, totW (wCell 2 (twK ks s)) ≤ 549755813888 → ∃ k0, ∀ k, k0 ≤ k → wrK k ks 0 s = some (wCell 2 (twK ks s))) :
  ∀ (n : Nat) (i : Int) (s : WSt), 0 ≤ i → i.toNat + n = ps.length → totW (wCell 2 (twK ks ((ps.drop i.toNat).foldl (fun s p => wProp p s) s))) ≤ 549755813888 → ∃ k0, ∀ k, k0 ≤ k → wrP k ps i ks s = some (wCell 2 (twK ks ((ps.drop i.toNat).foldl (fun s p => wProp p s) s)))
 | 0, i, s, h0, hn, ht => by
  have hd : ps.drop i.toNat = [] := List.drop_eq_nil_of_le Zq1
  have hi : ¬ i < (ps.length : Int) := by omega
  rw [hd] at ht ⊢; obtain ⟨k0, hk⟩ := hK s ht; refine ⟨k0 + 1, fun k hk2 => ?_⟩
  obtain ⟨k1, rfl⟩ : ∃ k1, k = k1 + 1 := ⟨k - 1, Zq1⟩
  rw [wrP, if_neg hi]; exact hk k1 Zq1
 | n + 1, i, s, h0, hn, ht => by
  have hi : i < (ps.length : Int) := by omega
  have hd := take_rd ps z68 i h0 hi
  have hm : ps.getD i.toNat z68 ∈ ps := by
   rw [List.getD_eq_getElem?_getD, List.getElem?_eq_getElem Zq1]; exact List.getElem_mem _
  have hw : wrap64 (i + 1) = i + 1 := wrap64_id _ Zq1 Zq1; rw [hd, List.foldl_cons] at ht ⊢
  have hs2 : totW (wProp (ps.getD i.toNat z68) s) ≤ 549755813888 := by
   refine Nat.le_trans ?_ ht; rw [totW_cell]; exact Nat.le_trans (totW_props (ps.drop (i + 1).toNat) _) (Nat.le_trans (totW_twK ks _) (Nat.le_add_right _ _))
  obtain ⟨k0, hk⟩ := wrP_ev ps ks hsz hl hK n (i + 1) (wProp (ps.getD i.toNat z68) s) Zq1 Zq1 ht; refine ⟨k0 + 1, fun k hk2 => ?_⟩
  obtain ⟨k1, rfl⟩ : ∃ k1, k = k1 + 1 := ⟨k - 1, Zq1⟩
  have hr : rd_T68 ps i = ps.getD i.toNat z68 := rfl
  have hc : capW (wProp (ps.getD i.toNat z68) s) = some (wProp (ps.getD i.toNat z68) s) := by
   unfold capW; rw [if_pos hs2]
  rw [wrP, if_pos hi, if_pos h0, hr, if_pos (hsz _ hm), hc, Option.bind_some, hw]; exact hk k1 Zq1
theorem wrK_ev (ks : List S27) (hl : ks.length < 1099511627776) (hN : ∀ x ∈ ks, ∀ s, totW (twN x s) ≤ 549755813888 → ∃ k0, ∀ k, k0 ≤ k → wrN k x s = some (twN x s)) :
  ∀ (n : Nat) (i : Int) (s : WSt), 0 ≤ i → i.toNat + n = ks.length → totW (wCell 2 (twK (ks.drop i.toNat) s)) ≤ 549755813888 → ∃ k0, ∀ k, k0 ≤ k → wrK k ks i s = some (wCell 2 (twK (ks.drop i.toNat) s))
 | 0, i, s, h0, hn, ht => by
  have hd : ks.drop i.toNat = [] := List.drop_eq_nil_of_le Zq1
  have hi : ¬ i < (ks.length : Int) := by omega
  rw [hd] at ht ⊢; rw [twK] at ht ⊢; refine ⟨1, fun k hk2 => ?_⟩
  obtain ⟨k1, rfl⟩ : ∃ k1, k = k1 + 1 := ⟨k - 1, Zq1⟩
  rw [wrK, if_neg hi]; unfold capW; rw [if_pos ht]
 | n + 1, i, s, h0, hn, ht => by
  have hi : i < (ks.length : Int) := by omega
  have hd := take_rd ks z27 i h0 hi
  have hm : ks.getD i.toNat z27 ∈ ks := by
   rw [List.getD_eq_getElem?_getD, List.getElem?_eq_getElem Zq1]; exact List.getElem_mem _
  have hw : wrap64 (i + 1) = i + 1 := wrap64_id _ Zq1 Zq1; rw [hd, twK] at ht ⊢
  have hs2 : totW (twN (ks.getD i.toNat z27) s) ≤ 549755813888 := by
   refine Nat.le_trans ?_ ht; rw [totW_cell]; exact Nat.le_trans (totW_twK (ks.drop (i + 1).toNat) _) (Nat.le_add_right _ _)
  obtain ⟨k1, hk1⟩ := hN _ hm s hs2; obtain ⟨k0, hk⟩ := wrK_ev ks hl hN n (i + 1) (twN (ks.getD i.toNat z27) s) Zq1 Zq1 ht; refine ⟨k0 + k1 + 1, fun k hk2 => ?_⟩
  obtain ⟨k2, rfl⟩ : ∃ k2, k = k2 + 1 := ⟨k - 1, Zq1⟩
  have hr : rd_T27 ks i = ks.getD i.toNat z27 := rfl; rw [wrK, if_pos hi, if_pos h0, hr, hk1 k2 Zq1, Option.bind_some, hw]; exact hk k2 Zq1
mutual
theorem wr_ev : ∀ (x : S27), okN x → ∀ s, totW (twN x s) ≤ 549755813888 → ∃ k0, ∀ k, k0 ≤ k → wrN k x s = some (twN x s)
 | ⟨a, ps, ks⟩, hx, s, ht => by
  rw [okN] at hx; obtain ⟨h1, h2, h3, h4⟩ := hx; rw [twN] at ht ⊢
  have hK : ∀ s, totW (wCell 2 (twK ks s)) ≤ 549755813888 → ∃ k0, ∀ k, k0 ≤ k → wrK k ks 0 s = some (wCell 2 (twK ks s)) := fun s hs => by
   have := wrK_ev ks h3 (wr_evK ks h4) ks.length 0 s Zq2 Zq7 (by simpa using hs)
   simpa using this
  obtain ⟨k0, hk⟩ := wrP_ev ps ks h1 h2 hK ps.length 0 (wOpen a s) Zq2 Zq7 (by simpa using ht)
  have hs2 : totW (wOpen a s) ≤ 549755813888 := by
   refine Nat.le_trans ?_ ht; rw [totW_cell]; exact Nat.le_trans (totW_props ps _) (Nat.le_trans (totW_twK ks _) (Nat.le_add_right _ _))
  refine ⟨k0 + 1, fun k hk2 => ?_⟩
  obtain ⟨k1, rfl⟩ : ∃ k1, k = k1 + 1 := ⟨k - 1, Zq1⟩
  have hc : capW (wOpen a s) = some (wOpen a s) := by
   unfold capW; rw [if_pos hs2]
  have h5 := hk k1 Zq1; rw [wrN, hc, Option.bind_some]
  simpa using h5
theorem wr_evK : ∀ (ks : List S27), okK ks → ∀ x ∈ ks, ∀ s, totW (twN x s) ≤ 549755813888 → ∃ k0, ∀ k, k0 ≤ k → wrN k x s = some (twN x s)
 | [], _, x, hx => by simp at hx
 | y :: r, hk, x, hx => by
  rw [okK] at hk
  rcases List.mem_cons.mp hx with h | hx
  ·rw [h]; exact wr_ev y hk.1
  ·exact wr_evK r hk.2 x hx
end
def Kn (T : List Int) (hs : List (ByteArray × Int)) : Prop := ∀ y i, firstI hs y = some i → ∃ T1 T2, T = T1 ++ (bytesOf y ++ [0]) ++ T2 ∧ i = (T1.length : Int)
theorem Kn.nil : Kn [] [] := fun y i h => by simp [firstI] at h
theorem bytesOf_same {x y : ByteArray} (h : x.data.toList = y.data.toList) : x = y := ba_ext h
theorem Kn.text {T : List Int} {hs : List (ByteArray × Int)} (h : Kn T hs) (x : ByteArray) : Kn (textT T hs x) (textH T hs x) ∧ (∃ Z, textT T hs x = T ++ Z) ∧ ∃ T1 T2, textT T hs x = T1 ++ (bytesOf x ++ [0]) ++ T2 ∧ textAt T hs x = (T1.length : Int) := by
 unfold textT textH textAt
 cases hf : firstI hs x with
 | some i =>
  simp only [Option.isSome_some, if_true, Option.getD_some]; exact ⟨h, ⟨[], Zq7⟩, h x i hf⟩
 | none =>
  simp only [Option.isSome_none, Bool.false_eq_true, if_false, Option.getD_none]; refine ⟨fun y i hy => ?_, ⟨_, rfl⟩, T, [], Zq7, rfl⟩; rw [firstI_append] at hy
  cases hg : firstI hs y with
  | some v =>
   rw [hg] at hy
   obtain rfl : v = i := by simpa using hy
   obtain ⟨T1, T2, h1, h2⟩ := h y v hg; exact ⟨T1, T2 ++ (bytesOf x ++ [0]), by rw [h1]; simp only [List.append_assoc], h2⟩
  | none =>
   rw [hg] at hy; simp only at hy
   split at hy
   ·next he =>
    obtain rfl : (T.length : Int) = i := by simpa using hy
    obtain rfl := bytesOf_same he; exact ⟨T, [], Zq7, rfl⟩
   ·simp at hy
def noNul (x : ByteArray) : Prop := ∀ b ∈ x.data.toList, b ≠ 0
theorem wProp_fst (p : S68) (s : WSt) : (wProp p s).1 = s.1 ++ cellB 3 ++ (cellB ((p.f1.length : Int) % 4294967296) ++ (cellB (textAt s.2.1 s.2.2 p.f0 % 4294967296) ++ (p.f1 ++ padW p.f1))) := by
 simp only [wProp, wBytes, wCell, wText, List.append_assoc]
theorem prop_step (k : Nat) (p : S68) (s : WSt) (q Z : List Int) (nm : ByteArray) (d : Int) (ps : List S68) (hx : noNul p.f0) (hT : (textT s.2.1 s.2.2 p.f0).length + p.f0.size < 4294967296) (hv : p.f1.length < 4294967296) (hn : name_Prop.f (k + 1) p.f0 = some true) (hk : knownB (ps.map (·.f0)) p.f0 = false) (hps : ps.length + 1 < 1099511627776) (hkn : Kn s.2.1 s.2.2) :
  nodeL (k + 2) ((wProp p s).1 ++ q) (textT s.2.1 s.2.2 p.f0 ++ Z) (s.1.length : Int) nm d ps [] = nodeL (k + 1) ((wProp p s).1 ++ q) (textT s.2.1 s.2.2 p.f0 ++ Z) ((wProp p s).1.length : Int) nm d (ps ++ [p]) [] := by
 obtain ⟨_, _, T1, T2, ht, ha⟩ := hkn.text p.f0; have hl := congrArg List.length ht; simp only [List.length_append, bytesOf_length] at hl
 have m1 : (p.f1.length : Int) % 4294967296 = (p.f1.length : Int) := by omega
 have m2 : textAt s.2.1 s.2.2 p.f0 % 4294967296 = (T1.length : Int) := by rw [ha]; omega
 have hw := wProp_fst p s; rw [m1, m2] at hw; have h1 := tok_read k s.1 ((cellB (p.f1.length : Int) ++ (cellB (T1.length : Int) ++ (p.f1 ++ padW p.f1))) ++ q) 3 Zq7; have h2 := prop_read k (s.1 ++ cellB 3) q T1 (T2 ++ Z) p.f1 p.f0 (ps.map (·.f0)) hx Zq1 Zq1 hv Zq1 hn hk Zq12
 have e1 : (wProp p s).1 ++ q = s.1 ++ cellB 3 ++ ((cellB (p.f1.length : Int) ++ (cellB (T1.length : Int) ++ (p.f1 ++ padW p.f1))) ++ q) := by rw [hw]; simp only [List.append_assoc]
 have e2 : (wProp p s).1 ++ q = s.1 ++ cellB 3 ++ (cellB (p.f1.length : Int) ++ (cellB (T1.length : Int) ++ (p.f1 ++ padW p.f1))) ++ q := by rw [hw]
 have e3 : textT s.2.1 s.2.2 p.f0 ++ Z = T1 ++ (bytesOf p.f0 ++ [0]) ++ (T2 ++ Z) := by rw [ht]; simp only [List.append_assoc]
 have l1 : ((s.1 ++ cellB 3).length : Int) = (s.1.length : Int) + 4 := by rw [List.length_append, cellB_length]; omega
 have l2 : ((wProp p s).1.length : Int) = (s.1.length : Int) + 4 + 4 + 4 + ((p.f1.length : Int) + padN (p.f1.length : Int)) := by
  have hp := padN_nonneg p.f1.length
  have hpl : (padW p.f1).length = (padN (p.f1.length : Int)).toNat := by unfold padW; rw [List.length_replicate]
  rw [hw]; simp only [List.length_append, cellB_length, hpl]; omega
 rw [← e1] at h1; rw [← e2, ← e3, l1] at h2; rw [l2]; generalize (wProp p s).1 ++ q = L at *; generalize textT s.2.1 s.2.2 p.f0 ++ Z = LT at *; have hpe : (⟨p.f0, p.f1⟩ : S68) = p := rfl; rw [hpe] at h2; rw [nodeL, h1, Option.bind_some]; simp only [if_true]; rw [if_neg Zq2, if_neg Zq7, h2, Option.bind_some, if_pos rfl, if_pos hps]
theorem prop_adds (p : S68) (s : WSt) (h : Kn s.2.1 s.2.2) : (∃ Q, (wProp p s).1 = s.1 ++ Q) ∧ (∃ Z, (wProp p s).2.1 = s.2.1 ++ Z) ∧ Kn (wProp p s).2.1 (wProp p s).2.2 := by
 obtain ⟨h1, h2, _⟩ := h.text p.f0; exact ⟨⟨_, (wProp_fst p s).trans (List.append_assoc _ _ _)⟩, h2, h1⟩
theorem props_add : ∀ (ps : List S68) (s : WSt), Kn s.2.1 s.2.2 → (∃ Q, (ps.foldl (fun s p => wProp p s) s).1 = s.1 ++ Q) ∧ (∃ Z, (ps.foldl (fun s p => wProp p s) s).2.1 = s.2.1 ++ Z) ∧ Kn (ps.foldl (fun s p => wProp p s) s).2.1 (ps.foldl (fun s p => wProp p s) s).2.2
 | [], s, h => ⟨⟨[], Zq7⟩, ⟨[], Zq7⟩, h⟩
 | p :: r, s, h => by
  obtain ⟨⟨Q1, a1⟩, ⟨Z1, b1⟩, h1⟩ := prop_adds p s h; obtain ⟨⟨Q2, a2⟩, ⟨Z2, b2⟩, h2⟩ := props_add r (wProp p s) h1; rw [List.foldl_cons]; exact ⟨⟨Q1 ++ Q2, by rw [a2, a1, List.append_assoc]⟩, ⟨Z1 ++ Z2, by rw [b2, b1, List.append_assoc]⟩, h2⟩
def nmP (K : Nat) (x : ByteArray) : Prop := noNul x ∧ ∀ k, K ≤ k → name_Prop.f k x = some true
def fmPs (K : Nat) : List ByteArray → List S68 → Prop
 | _, [] => True
 | hs, p :: r => nmP K p.f0 ∧ p.f1.length < 4294967296 ∧ p.f0.size ≤ 1073741824 ∧ knownB hs p.f0 = false ∧ fmPs K (hs ++ [p.f0]) r
theorem props_read (K : Nat) (nm : ByteArray) (d : Int) : ∀ (ps : List S68) (pre : List S68) (s : WSt) (k : Nat) (q Z : List Int), K ≤ k → Kn s.2.1 s.2.2 → fmPs K (pre.map (·.f0)) ps → pre.length + ps.length < 1099511627776 → (ps.foldl (fun s p => wProp p s) s).2.1.length ≤ 1073741824 →
  nodeL (k + 1 + ps.length) ((ps.foldl (fun s p => wProp p s) s).1 ++ q) ((ps.foldl (fun s p => wProp p s) s).2.1 ++ Z) (s.1.length : Int) nm d pre [] = nodeL (k + 1) ((ps.foldl (fun s p => wProp p s) s).1 ++ q) ((ps.foldl (fun s p => wProp p s) s).2.1 ++ Z) ((ps.foldl (fun s p => wProp p s) s).1.length : Int) nm d (pre ++ ps) []
 | [], pre, s, k, q, Z, _, _, _, _, _ => by simp
 | p :: r, pre, s, k, q, Z, hk, hkn, hf, hl, ht => by
  obtain ⟨⟨hn1, hn2⟩, hv, hsz, hkb, hf⟩ := hf; obtain ⟨_, _, hkn1⟩ := prop_adds p s hkn; obtain ⟨⟨Q2, a2⟩, ⟨Z2, b2⟩, h2⟩ := props_add r (wProp p s) hkn1; rw [List.foldl_cons] at ht ⊢; have ih := props_read K nm d r (pre ++ [p]) (wProp p s) k q Z hk hkn1 (by simpa using hf) (by simp at hl ⊢; omega) ht; have hT : (wProp p s).2.1 = textT s.2.1 s.2.2 p.f0 := rfl; have hst := prop_step (k + r.length) p s (Q2 ++ q) (Z2 ++ Z) nm d pre hn1 (by rw [b2, List.length_append, hT] at ht; omega) hv (hn2 _ Zq1) hkb (by simp at hl; omega) hkn; rw [← List.append_assoc, ← List.append_assoc, ← a2, ← hT, ← b2] at hst; rw [show k + 1 + (p :: r).length = k + r.length + 2 by simp; omega, hst, show k + r.length + 1 = k + 1 + r.length by omega, ih, List.append_assoc]; rfl
theorem open_fst (a : ByteArray) (s : WSt) : (wOpen a s).1 = s.1 ++ cellB 1 ++ ((bytesOf a ++ [0]) ++ padW (bytesOf a ++ [0])) := by
 simp only [wOpen, wBytes, wCell, List.append_assoc]
mutual
theorem twN_adds : ∀ (x : S27) (s : WSt), Kn s.2.1 s.2.2 → (∃ Q, (twN x s).1 = s.1 ++ Q) ∧ (∃ Z, (twN x s).2.1 = s.2.1 ++ Z) ∧ Kn (twN x s).2.1 (twN x s).2.2
 | ⟨a, ps, ks⟩, s, h => by
  obtain ⟨⟨Q1, a1⟩, ⟨Z1, b1⟩, h1⟩ := props_add ps (wOpen a s) h; obtain ⟨⟨Q2, a2⟩, ⟨Z2, b2⟩, h2⟩ := twK_adds ks (ps.foldl (fun s p => wProp p s) (wOpen a s)) h1; rw [twN]; refine ⟨⟨cellB 1 ++ ((bytesOf a ++ [0]) ++ padW (bytesOf a ++ [0])) ++ Q1 ++ Q2 ++ cellB 2, ?_⟩, ⟨Z1 ++ Z2, ?_⟩, h2⟩; (·show (twK ks (ps.foldl (fun s p => wProp p s) (wOpen a s))).1 ++ cellB 2 = _; rw [a2, a1, open_fst]; simp only [List.append_assoc]); (·show (twK ks (ps.foldl (fun s p => wProp p s) (wOpen a s))).2.1 = _; rw [b2, b1]; show s.2.1 ++ Z1 ++ Z2 = _; rw [List.append_assoc])
theorem twK_adds : ∀ (ks : List S27) (s : WSt), Kn s.2.1 s.2.2 → (∃ Q, (twK ks s).1 = s.1 ++ Q) ∧ (∃ Z, (twK ks s).2.1 = s.2.1 ++ Z) ∧ Kn (twK ks s).2.1 (twK ks s).2.2
 | [], s, h => by
  rw [twK]; exact ⟨⟨[], Zq7⟩, ⟨[], Zq7⟩, h⟩
 | x :: r, s, h => by
  obtain ⟨⟨Q1, a1⟩, ⟨Z1, b1⟩, h1⟩ := twN_adds x s h; obtain ⟨⟨Q2, a2⟩, ⟨Z2, b2⟩, h2⟩ := twK_adds r (twN x s) h1; rw [twK]; exact ⟨⟨Q1 ++ Q2, by rw [a2, a1, List.append_assoc]⟩, ⟨Z1 ++ Z2, by rw [b2, b1, List.append_assoc]⟩, h2⟩
end
mutual
/-- A node that may be, at a depth. -/
def fmN (K : Nat) : S27 → Int → Prop
 | ⟨a, ps, ks⟩, d => noNul a ∧ (∀ k, K ≤ k → nameOk k a d) ∧ fmPs K [] ps ∧ ps.length < 1073741824 ∧ ks.length < 1073741824 ∧ fmK K [] ks (wrap64 (d + 1))
def fmK (K : Nat) : List ByteArray → List S27 → Int → Prop
 | _, [], _ => True
 | hs, x :: r, d => knownB hs x.f0 = false ∧ fmN K x d ∧ fmK K (hs ++ [x.f0]) r d
end
theorem end_read (k : Nat) (s : WSt) (q lt : List Int) (nm : ByteArray) (d : Int) (ps : List S68) (ks : List S27) : nodeL (k + 2) ((wCell 2 s).1 ++ q) lt (s.1.length : Int) nm d ps ks = some (⟨nm, ps, ks⟩, 0, ((wCell 2 s).1.length : Int)) := by
 have h1 := tok_read k s.1 q 2 Zq7; have e : (wCell 2 s).1 = s.1 ++ cellB 2 := rfl
 have l : (((wCell 2 s).1.length : Nat) : Int) = (s.1.length : Int) + 4 := by rw [e, List.length_append, cellB_length]; omega
 rw [l, e, nodeL, h1, Option.bind_some]
 simp
theorem kid_step (k : Nat) (p q lt : List Int) (nm : ByteArray) (d e : Int) (ps : List S68) (ks : List S27) (x : S27) (hx : nodeF (k + 1) (p ++ cellB 1 ++ q) lt ((p.length : Int) + 4) (ks.map (·.f0)) (wrap64 (d + 1)) = some (x, 0, e)) (hks : ks.length + 1 < 1099511627776) :
  nodeL (k + 2) (p ++ cellB 1 ++ q) lt (p.length : Int) nm d ps ks = nodeL (k + 1) (p ++ cellB 1 ++ q) lt e nm d ps (ks ++ [x]) := by
 have h1 := tok_read k p q 1 Zq7; generalize p ++ cellB 1 ++ q = L at *; rw [nodeL, h1, Option.bind_some]; simp only [if_true]; rw [if_neg Zq2, if_neg Zq2, if_neg Zq2, hx, Option.bind_some, if_pos rfl, if_pos hks]
theorem node_open (j : Nat) (s : WSt) (q lt : List Int) (a : ByteArray) (hs : List ByteArray) (d : Int) (hx : noNul a) (hp : s.1.length + 4 + a.size ≤ 549755813888) (hn : nameOk (j + 1) a d) (hk : knownB hs a = false) (hhs : hs.length < 1099511627776) :
  nodeF (j + 2) ((wOpen a s).1 ++ q) lt ((s.1.length : Int) + 4) hs d = nodeL (j + 1) ((wOpen a s).1 ++ q) lt ((wOpen a s).1.length : Int) a d [] [] := by
 have h := open_read j (s.1 ++ cellB 1) q a hs d hx (by rw [List.length_append, cellB_length]; omega) hn hk hhs
 have l1 : ((s.1 ++ cellB 1).length : Int) = (s.1.length : Int) + 4 := by rw [List.length_append, cellB_length]; omega
 have hw := open_fst a s; have hp2 := padN_nonneg (bytesOf a ++ [0]).length
 have hpl : (padW (bytesOf a ++ [0])).length = (padN ((bytesOf a ++ [0]).length : Int)).toNat := by unfold padW; rw [List.length_replicate]
 have l2 : ((wOpen a s).1.length : Int) = (s.1.length : Int) + 4 + (((bytesOf a ++ [0]).length : Int) + padN ((bytesOf a ++ [0]).length : Int)) := by
  generalize bytesOf a ++ [0] = n at *; rw [hw]; simp only [List.length_append, cellB_length, hpl]; omega
 rw [l1, ← hw] at h; rw [nodeF, h, Option.bind_some, l2]
 simp
theorem twN_begin (x : S27) (s : WSt) (h : Kn s.2.1 s.2.2) : ∃ Q, (twN x s).1 = s.1 ++ cellB 1 ++ Q := by
 obtain ⟨a, ps, ks⟩ := x; obtain ⟨⟨Q1, a1⟩, ⟨Z1, b1⟩, h1⟩ := props_add ps (wOpen a s) h; obtain ⟨⟨Q2, a2⟩, ⟨Z2, b2⟩, h2⟩ := twK_adds ks (ps.foldl (fun s p => wProp p s) (wOpen a s)) h1; rw [twN]; refine ⟨((bytesOf a ++ [0]) ++ padW (bytesOf a ++ [0])) ++ Q1 ++ Q2 ++ cellB 2, ?_⟩; show (twK ks (ps.foldl (fun s p => wProp p s) (wOpen a s))).1 ++ cellB 2 = _; rw [a2, a1, open_fst]; simp only [List.append_assoc]
mutual
theorem node_read (K : Nat) : ∀ (x : S27) (d : Int) (s : WSt) (q Z : List Int) (hs : List ByteArray), fmN K x d → Kn s.2.1 s.2.2 → knownB hs x.f0 = false → hs.length < 1099511627776 → (twN x s).1.length ≤ 1073741824 → (twN x s).2.1.length ≤ 1073741824 → ∃ k0, ∀ k, k0 ≤ k → nodeF k ((twN x s).1 ++ q) ((twN x s).2.1 ++ Z) ((s.1.length : Int) + 4) hs d = some (x, 0, ((twN x s).1.length : Int))
 | ⟨a, ps, ks⟩, d, s, q, Z, hs, hf, hkn, hk, hhs, hb, ht => by
  rw [fmN] at hf; obtain ⟨hx, hn, hp, hl1, hl2, hks⟩ := hf; rw [twN] at hb ht ⊢; obtain ⟨⟨Q1, a1⟩, ⟨Z1, b1⟩, h1⟩ := props_add ps (wOpen a s) hkn; obtain ⟨⟨Q2, a2⟩, ⟨Z2, b2⟩, h2⟩ := twK_adds ks (ps.foldl (fun s p => wProp p s) (wOpen a s)) h1; obtain ⟨k0, hkr⟩ := kids_read K a d ps ks [] (ps.foldl (fun s p => wProp p s) (wOpen a s)) q Z (by simpa using hks) h1 Zq12 hb ht; refine ⟨k0 + K + ps.length + 4, fun k hk2 => ?_⟩
  obtain ⟨n, rfl⟩ : ∃ n, k = n + ps.length + 2 := ⟨k - (ps.length + 2), Zq1⟩
  have e1 : (wCell 2 (twK ks (ps.foldl (fun s p => wProp p s) (wOpen a s)))).1 = (twK ks (ps.foldl (fun s p => wProp p s) (wOpen a s))).1 ++ cellB 2 := rfl; have e2 : (wCell 2 (twK ks (ps.foldl (fun s p => wProp p s) (wOpen a s)))).2.1 = (twK ks (ps.foldl (fun s p => wProp p s) (wOpen a s))).2.1 := rfl
  have ls : s.1.length + 4 + a.size ≤ 549755813888 := by
   rw [e1, a2, a1, open_fst] at hb; simp only [List.length_append, bytesOf_length, cellB_length] at hb; omega
  have h3 := node_open (n + ps.length) s (Q1 ++ (Q2 ++ cellB 2 ++ q)) ((wCell 2 (twK ks (ps.foldl (fun s p => wProp p s) (wOpen a s)))).2.1 ++ Z) a hs d hx ls (hn _ Zq1) hk hhs; have h4 := props_read K a d ps [] (wOpen a s) n (Q2 ++ cellB 2 ++ q) (Z2 ++ Z) Zq1 hkn hp Zq12 (by rw [e2, b2] at ht; simp only [List.length_append] at ht; omega); have h5 := hkr (n + 1) Zq1
  have eL : (ps.foldl (fun s p => wProp p s) (wOpen a s)).1 ++ (Q2 ++ cellB 2 ++ q) = (wCell 2 (twK ks (ps.foldl (fun s p => wProp p s) (wOpen a s)))).1 ++ q := by rw [e1, a2]; simp only [List.append_assoc]
  have eT : (ps.foldl (fun s p => wProp p s) (wOpen a s)).2.1 ++ (Z2 ++ Z) = (wCell 2 (twK ks (ps.foldl (fun s p => wProp p s) (wOpen a s)))).2.1 ++ Z := by rw [e2, b2]; simp only [List.append_assoc]
  have eP : (wOpen a s).1 ++ (Q1 ++ (Q2 ++ cellB 2 ++ q)) = (wCell 2 (twK ks (ps.foldl (fun s p => wProp p s) (wOpen a s)))).1 ++ q := by rw [← eL, a1]; simp only [List.append_assoc]
  rw [eL, eT] at h4; rw [eP] at h3; rw [h3, show n + ps.length + 1 = n + 1 + ps.length by omega, h4, List.nil_append, h5]
  simp
theorem kids_read (K : Nat) (nm : ByteArray) (d : Int) (ps : List S68) : ∀ (ks : List S27) (dn : List S27) (s : WSt) (q Z : List Int), fmK K (dn.map (·.f0)) ks (wrap64 (d + 1)) → Kn s.2.1 s.2.2 → dn.length + ks.length < 1099511627776 → (wCell 2 (twK ks s)).1.length ≤ 1073741824 → (wCell 2 (twK ks s)).2.1.length ≤ 1073741824 → ∃ k0, ∀ k, k0 ≤ k → nodeL k ((wCell 2 (twK ks s)).1 ++ q) ((wCell 2 (twK ks s)).2.1 ++ Z) (s.1.length : Int) nm d ps dn = some (⟨nm, ps, dn ++ ks⟩, 0, ((wCell 2 (twK ks s)).1.length : Int))
 | [], dn, s, q, Z, _, _, _, _, _ => ⟨2, fun k hk => by
  obtain ⟨k1, rfl⟩ : ∃ k1, k = k1 + 2 := ⟨k - 2, Zq1⟩
  rw [twK, List.append_nil]
  exact end_read k1 s q _ nm d ps dn⟩
 | x :: r, dn, s, q, Z, hf, hkn, hl, hb, ht => by
  obtain ⟨hkb, hfx, hfr⟩ := hf; obtain ⟨⟨Q1, a1⟩, ⟨Z1, b1⟩, h1⟩ := twN_adds x s hkn; obtain ⟨⟨Q2, a2⟩, ⟨Z2, b2⟩, h2⟩ := twK_adds r (twN x s) h1; rw [twK] at hb ht ⊢; obtain ⟨Q0, a0⟩ := twN_begin x s hkn; have e1 : (wCell 2 (twK r (twN x s))).1 = (twK r (twN x s)).1 ++ cellB 2 := rfl; have e2 : (wCell 2 (twK r (twN x s))).2.1 = (twK r (twN x s)).2.1 := rfl; obtain ⟨k1, hx1⟩ := node_read K x (wrap64 (d + 1)) s (Q2 ++ cellB 2 ++ q) (Z2 ++ Z) (dn.map (·.f0)) hfx hkn hkb Zq12 (by rw [e1, a2] at hb; simp only [List.length_append] at hb; omega) (by rw [e2, b2] at ht; simp only [List.length_append] at ht; omega); obtain ⟨k2, hx2⟩ := kids_read K nm d ps r (dn ++ [x]) (twN x s) q Z (by simpa using hfr) h1 (by simp at hl ⊢; omega) hb ht; refine ⟨k1 + k2 + 2, fun k hk => ?_⟩
  obtain ⟨j, rfl⟩ : ∃ j, k = j + 2 := ⟨k - 2, Zq1⟩
  have h3 := hx1 (j + 1) Zq1; have h4 := hx2 (j + 1) Zq1
  have eL : (twN x s).1 ++ (Q2 ++ cellB 2 ++ q) = (wCell 2 (twK r (twN x s))).1 ++ q := by rw [e1, a2]; simp only [List.append_assoc]
  have eT : (twN x s).2.1 ++ (Z2 ++ Z) = (wCell 2 (twK r (twN x s))).2.1 ++ Z := by rw [e2, b2]; simp only [List.append_assoc]
  have eP : (wCell 2 (twK r (twN x s))).1 ++ q = s.1 ++ cellB 1 ++ (Q0 ++ (Q2 ++ cellB 2 ++ q)) := by rw [← eL, a0]; simp only [List.append_assoc]
  rw [eL, eT, eP] at h3; have h5 := kid_step j s.1 (Q0 ++ (Q2 ++ cellB 2 ++ q)) _ nm d _ ps dn x h3 (by simp at hl; omega); rw [← eP] at h5; rw [h5, h4, List.append_assoc]; rfl
end
def Hdr.cells (h : Hdr) : List Int := [h.c0, h.c1, h.c2, h.c3, h.c4, h.c5, h.c6, h.c7, h.c8, h.c9]
def Hdr.good (h : Hdr) : Prop := ∀ c ∈ h.cells, 0 ≤ c ∧ c < 4294967296
def hbytes (h : Hdr) (i : Nat) : List Int := (h.cells.take i).flatMap cellB
theorem hbytes_length (h : Hdr) (i : Nat) (hi : i ≤ 10) : (hbytes h i).length = 4 * i := by
 unfold hbytes; rw [List.length_flatMap]
 have : (h.cells.take i).map (fun a => (cellB a).length) = List.replicate i 4 := by
  rw [show (fun a => (cellB a).length) = (fun _ => 4) from rfl, List.map_const', List.length_take]; have : h.cells.length = 10 := rfl; rw [this, Nat.min_eq_left hi]
 rw [this]
 have sr : ∀ n : Nat, (List.replicate n 4).sum = 4 * n := by
  intro n
  induction n with
  | zero => rfl
  | succ n ih => rw [List.replicate_succ, List.sum_cons, ih]; omega
 exact sr i
theorem hbytes_next (h : Hdr) (i : Nat) (hi : i < 10) : hbytes h (i + 1) = hbytes h i ++ cellB (h.cells.getD i 0) := by
 have hl : i < h.cells.length := hi; unfold hbytes; rw [List.take_succ_eq_append_getElem hl, List.flatMap_append, List.getD_eq_getElem?_getD, List.getElem?_eq_getElem hl]
 simp
theorem hbytes_split (h : Hdr) (i : Nat) (hi : i < 10) (z : List Int) : ∃ q, hbytes h 10 ++ z = hbytes h i ++ cellB (h.cells.getD i 0) ++ q := by
 refine ⟨(h.cells.drop (i + 1)).flatMap cellB ++ z, ?_⟩; rw [← hbytes_next h i hi]; unfold hbytes
 have e : h.cells.take 10 = h.cells := by rfl
 rw [e, ← List.append_assoc, ← List.flatMap_append, List.take_append_drop]
theorem hdr_at (h : Hdr) (hg : h.good) (z : List Int) (i : Nat) (hi : i < 10) : cellAt (hbytes h 10 ++ z) (4 * (i : Int)) = h.cells.getD i 0 := by
 obtain ⟨q, hq⟩ := hbytes_split h i hi z; have hl : i < h.cells.length := hi
 have hm : h.cells.getD i 0 ∈ h.cells := by rw [List.getD_eq_getElem?_getD, List.getElem?_eq_getElem hl]; exact List.getElem_mem hl
 have h1 := cellAt_mid (hbytes h i) q (h.cells.getD i 0) (hg _ hm).1 (hg _ hm).2; rw [← hq, hbytes_length h i Zq1] at h1; unfold cellAt; rw [show (4 * (i : Int)) = ((4 * i : Nat) : Int) by omega, h1]; rfl
theorem hdr_of (h : Hdr) (hg : h.good) (z : List Int) : hdrOf (hbytes h 10 ++ z) = h := by
 have e := hdr_at h hg z; obtain ⟨c0, c1, c2, c3, c4, c5, c6, c7, c8, c9⟩ := h; unfold hdrOf; have e0 := e 0 Zq2; have e1 := e 1 Zq2; have e2 := e 2 Zq2; have e3 := e 3 Zq2; have e4 := e 4 Zq2; have e5 := e 5 Zq2; have e6 := e 6 Zq2; have e7 := e 7 Zq2; have e8 := e 8 Zq2; have e9 := e 9 Zq2; simp only [Hdr.cells] at e0 e1 e2 e3 e4 e5 e6 e7 e8 e9; rw [show cellAt _ 0 = _ from e0, show cellAt _ 4 = _ from e1, show cellAt _ 8 = _ from e2, show cellAt _ 12 = _ from e3, show cellAt _ 16 = _ from e4, show cellAt _ 20 = _ from e5, show cellAt _ 24 = _ from e6, show cellAt _ 28 = _ from e7, show cellAt _ 32 = _ from e8, show cellAt _ 36 = _ from e9]; rfl
theorem headB_hbytes (h : Hdr) (hg : h.good) : headB h.cells = hbytes h 10 := by
 have e : h.cells.take 10 = h.cells := rfl; unfold headB hbytes; rw [e, List.flatMap_def]
 congr 1
 apply List.map_congr_left; intro c hc; have := hg c hc; rw [Int.emod_eq_of_lt this.1 this.2]
end Go.Proofs.YtkopmkinlanhoaaGreat.PE

namespace Go.Proofs.YtkopmkinlanhoaaGreat.PE
open Go.RowKit Go.Proofs.YtkopmkinlanhoaaGreat.Aid Go.Proofs.YtkopmkinlanhoaaGreatW.PrintWords
def letterB (c : Int) : Bool := (decide (97 ≤ c) && decide (c ≤ 122)) || (decide (65 ≤ c) && decide (c ≤ 90))
def plainB (c : Int) : Bool := letterB c || (decide (48 ≤ c) && decide (c ≤ 57)) || c == 44 || c == 46 || c == 95 || c == 43 || c == 45
def okB (more : ByteArray) (c : Int) : Bool := plainB c || decide (0 ≤ Lib.indexByte more.data.toList c.toNat.toUInt8)
theorem byte_all {p : Int → Prop} (h : ∀ n : Fin 256, p (n.val : Int)) {c : Int} (h0 : 0 ≤ c) (h1 : c ≤ 255) : p c := by
 have := h ⟨c.toNat, Zq1⟩; simp only at this
 rwa [Int.toNat_of_nonneg h0] at this
theorem ok_none {c : Int} (h0 : 0 ≤ c) (h1 : c ≤ 255) : okB ⟨#[]⟩ c = plainB c := byte_all (p := fun c => okB ⟨#[]⟩ c = plainB c) (by decide +kernel) h0 h1
theorem ok_prop {c : Int} (h0 : 0 ≤ c) (h1 : c ≤ 255) : okB ⟨#[63, 35]⟩ c = (plainB c || c == 63 || c == 35) := byte_all (p := fun c => okB ⟨#[63, 35]⟩ c = (plainB c || c == 63 || c == 35)) (by decide +kernel) h0 h1
theorem bytesOf_range (s : ByteArray) : ∀ b ∈ bytesOf s, 0 ≤ b ∧ b ≤ 255 := by
 intro b hb; simp only [bytesOf, List.mem_map] at hb; obtain ⟨u, _, rfl⟩ := hb; have := u.toNat_lt; omega
theorem bytesOf_at (s : ByteArray) (i : Nat) (h : i < (bytesOf s).length) : bt s (i : Int) = (bytesOf s)[i] := by
 rw [← rd_bytesOf]
 simp [rd, List.getD_eq_getElem?_getD, List.getElem?_eq_getElem h]
theorem bytesOf_upto (s : ByteArray) (k : Nat) : bytesOf (s.extract 0 k) = (bytesOf s).take k := by
 unfold bytesOf; rw [Lib.Pa.extract_upto_list, List.map_take]
theorem bytesOf_from (s : ByteArray) (k : Nat) : bytesOf (s.extract k s.size) = (bytesOf s).drop k := by
 unfold bytesOf; rw [Lib.Pa.extract_from, ← List.map_drop]
def allB (more : ByteArray) (l : List Int) : Bool := l.all (okB more) && (decide (1 ≤ l.length) && decide (l.length ≤ 31))
def idx (c : Int) : List Int → Int
 | [] => -1
 | a :: l => if a = c then 0 else if idx c l = -1 then -1 else idx c l + 1
theorem idx_lib (c : UInt8) : ∀ l : List UInt8, Lib.indexByte l c = idx (c.toNat : Int) (l.map fun b => (b.toNat : Int))
 | [] => rfl
 | a :: l => by
  have ih := idx_lib c l; simp only [Lib.indexByte, idx, List.map_cons, ih]
  by_cases h : a = c
  ·simp [h]
  ·have h2 : ¬ ((a.toNat : Int) = (c.toNat : Int)) := by
    intro e; exact h (UInt8.toNat_inj.mp Zq1)
   simp [h, h2]
theorem idx_range (c : Int) : ∀ l : List Int, idx c l = -1 ∨ (0 ≤ idx c l ∧ idx c l < l.length)
 | [] => .inl rfl
 | a :: l => by
  have ih := idx_range c l; simp only [idx, List.length_cons]
  by_cases h : a = c
  ·rw [if_pos h]; right; omega
  ·rw [if_neg h]
   by_cases h1 : idx c l = -1
   ·rw [if_pos h1]; left; rfl
   ·rw [if_neg h1]; right; omega
theorem idx_split (c : Int) : ∀ (l : List Int) (j : Nat), idx c l = (j : Int) → l = l.take j ++ c :: l.drop (j + 1)
 | [], j, h => by simp [idx] at h
 | a :: l, j, h => by
  simp only [idx] at h
  by_cases h0 : a = c
  ·rw [if_pos h0] at h
   have : j = 0 := by omega
   subst this; subst h0; simp
  ·rw [if_neg h0] at h
   by_cases h1 : idx c l = -1
   ·rw [if_pos h1] at h; omega
   ·rw [if_neg h1] at h
    obtain ⟨j, rfl⟩ : ∃ m, j = m + 1 := ⟨j - 1, by have := idx_range c l; omega⟩
    have := idx_split c l j Zq1; simp only [List.take_succ_cons, List.drop_succ_cons, List.cons_append]; rw [← this]
def cutB (s : ByteArray) : ByteArray × ByteArray × Bool := if idx 64 (bytesOf s) = -1 then (s, ⟨#[]⟩, false) else (s.extract 0 (idx 64 (bytesOf s)).toNat, s.extract ((idx 64 (bytesOf s)).toNat + 1) s.size, true)
theorem stands_f {c : Int} (h0 : 0 ≤ c) (h1 : c ≤ 255) : arboretref01_stands.f c = some (plainB c) := byte_all (p := fun c => arboretref01_stands.f c = some (plainB c)) (by decide +kernel) h0 h1
theorem refcut_ev (s : ByteArray) (hs : s.size ≤ 140737488351232) : Ev (fun k => arboretref01_Cut.f k s) (idx 64 (bytesOf s)) := by
 have hn : (bytesOf s).length = s.size := bytesOf_length s; have main := loop (bytesOf s) (fun l => if idx 64 l = -1 then -1 else idx 64 l + ((s.size : Int) - l.length)) (fun k i => arboretref01_Cut.l0 k s (s.size : Int) i) ?_ ?_ 0 (Nat.zero_le _)
 ·have e : (if idx 64 ((bytesOf s).drop 0) = -1 then -1 else idx 64 ((bytesOf s).drop 0) + ((s.size : Int) - ((bytesOf s).drop 0).length)) = idx 64 (bytesOf s) := by
   rw [List.drop_zero, hn]
   split <;> omega
  rw [← e]; exact main
 ·rw [hn]; refine Ev.succ ⟨0, fun k _ => ?_⟩; simp only [arboretref01_Cut.l0]; rw [if_neg Zq1]; rfl
 ·intro i h ih; refine Ev.succ ?_
  have hw : wrap64 ((i : Int) + 1) = ((i + 1 : Nat) : Int) := by rw [w64 Zq1 Zq1]; omega
  simp only [arboretref01_Cut.l0, bytesOf_at s i h, hw]; refine Ev.pos Zq1 (Ev.pos (Int.natCast_nonneg i) (Ev.pos Zq1 ?_))
  have hl : ((bytesOf s).drop (i + 1)).length = s.size - (i + 1) := by rw [List.length_drop, hn]
  simp only [idx, List.length_cons, hl]; simp only [hl] at ih
  by_cases hc : (bytesOf s)[i] = 64
  ·rw [if_pos hc, if_neg Zq1]; refine Ev.pos hc (Ev.fix ?_)
   congr 1
   omega
  ·rw [if_neg hc]; refine Ev.neg hc ?_
   by_cases h1 : idx 64 ((bytesOf s).drop (i + 1)) = -1
   ·rw [if_pos h1] at ih; rw [if_pos h1, if_pos rfl]; exact ih
   ·rw [if_neg h1] at ih; have hr := idx_range 64 ((bytesOf s).drop (i + 1)); rw [if_neg h1, if_neg Zq1]
    have e : idx 64 ((bytesOf s).drop (i + 1)) + ((s.size : Int) - ((s.size - (i + 1) : Nat) : Int)) = idx 64 ((bytesOf s).drop (i + 1)) + 1 + ((s.size : Int) - ((s.size - (i + 1) + 1 : Nat) : Int)) := by omega
    rw [← e]; exact ih
def firstB (c : Int) : Bool := letterB c || c == 95
def unitB (l : List Int) : Bool := l.all plainB && (decide (1 ≤ l.length) && decide (l.length ≤ 31))
def baseB (l : List Int) : Bool := unitB l && firstB (l.getD 0 0)
def nodeB (s : ByteArray) : Bool := baseB (bytesOf (cutB s).1) && (!(cutB s).2.2 || unitB (bytesOf (cutB s).2.1))
def allBut (n : Nat) (at_ : Int) : List Int → Bool
 | [] => true
 | a :: l => (decide ((n : Int) - (l.length + 1 : Nat) = at_) || plainB a) && allBut n at_ l
theorem allBut_behind (n : Nat) (at_ : Int) : ∀ l : List Int, at_ < (n : Int) - l.length → allBut n at_ l = l.all plainB
 | [], _ => rfl
 | a :: l, h => by
  rw [List.length_cons] at h; have ih := allBut_behind n at_ l Zq1; simp only [allBut, List.all_cons, ih]; rw [decide_eq_false Zq1, Bool.false_or]
theorem allBut_at (n : Nat) (at_ : Int) (c : Int) (r : List Int) : ∀ l : List Int, (n : Int) = at_ + 1 + r.length → allBut n at_ (l ++ c :: r) = (l.all plainB && r.all plainB) := by
 intro l h
 induction l with
 | nil =>
  simp only [List.nil_append, allBut, List.all_nil, Bool.true_and]; rw [decide_eq_true Zq1, Bool.true_or, Bool.true_and, allBut_behind n at_ r Zq1]
 | cons a l ih =>
  simp only [List.cons_append, allBut, List.all_cons, ih, Bool.and_assoc]; rw [decide_eq_false (by simp only [List.length_append, List.length_cons]; omega), Bool.false_or]
def endB (l : List Int) : Bool := decide (1 ≤ l.length) && decide (l.length ≤ 31) && firstB (l.getD 0 0)
theorem refnode_loop (s b : ByteArray) (at_ : Int) (hs : s.size ≤ 140737488351232) :
  Ev (fun k => arboretref01_Node.j0 k s at_ b) (allBut s.size at_ (bytesOf s) && endB (bytesOf b)) := by
 have hn : (bytesOf s).length = s.size := bytesOf_length s; refine Ev.succ ?_; simp only [arboretref01_Node.j0]; have main := loop (bytesOf s) (fun l => allBut s.size at_ l && endB (bytesOf b)) (fun k i => arboretref01_Node.l0 k s at_ b (s.size : Int) i) ?_ ?_ 0 (Nat.zero_le _); (·exact main)
 ·rw [hn]; refine Ev.succ ?_; simp only [arboretref01_Node.l0, allBut, Bool.true_and]; refine Ev.neg Zq1 ⟨0, fun k _ => ?_⟩; have hl : (bytesOf b).length = b.size := bytesOf_length _; unfold endB; rw [hl]
  by_cases h1 : (b.size : Int) ≥ 1
  ·rw [if_pos h1, decide_eq_true (by omega : 1 ≤ b.size)]
   by_cases h2 : (b.size : Int) ≤ 31
   ·have hp : 0 < (bytesOf b).length := by omega
    have e0 : bt b 0 = (bytesOf b).getD 0 0 := by
     rw [getD_at hp]; exact bytesOf_at b 0 hp
    rw [if_pos h2, if_pos Zq1, decide_eq_true (by omega : b.size ≤ 31), e0]; obtain ⟨b0, b1⟩ := bytesOf_range b _ (List.getElem_mem hp); rw [← getD_at (d := 0) hp] at b0 b1; generalize (bytesOf b).getD 0 0 = c at b0 b1
    revert c
    intro c b0 b1; exact byte_all (p := fun c => (if c = 95 then some true else if c ≥ 97 then if c ≤ 122 then some true else if c ≥ 65 then some (decide (c ≤ 90)) else some false else if c ≥ 65 then some (decide (c ≤ 90)) else some false) = some (true && true && firstB c)) (by decide +kernel) b0 b1
   ·rw [if_neg h2, decide_eq_false (by omega : ¬ b.size ≤ 31)]; rfl
  ·rw [if_neg h1, decide_eq_false (by omega : ¬ 1 ≤ b.size)]; rfl
 ·intro i h ih
  have hw : wrap64 ((i : Int) + 1) = ((i + 1 : Nat) : Int) := by rw [w64 Zq1 Zq1]; omega
  have hl : ((bytesOf s).drop (i + 1)).length = s.size - (i + 1) := by rw [List.length_drop, hn]
  refine Ev.succ ?_; simp only [arboretref01_Node.l0, allBut, hl, hw]; refine Ev.pos Zq1 ?_
  by_cases ha : (i : Int) = at_
  ·rw [decide_eq_true Zq1, Bool.true_or, Bool.true_and]; exact Ev.pos ha ih
  ·rw [decide_eq_false Zq1, Bool.false_or]; obtain ⟨b0, b1⟩ := bytesOf_range s _ (List.getElem_mem h); simp only [bytesOf_at s i h, stands_f b0 b1, Option.bind_some]; refine Ev.neg ha (Ev.pos (Int.natCast_nonneg i) (Ev.pos Zq1 ?_))
   cases plainB (bytesOf s)[i] with
   | true => exact Ev.pos rfl (by rw [Bool.true_and]; exact ih)
   | false => exact Ev.neg Zq2 (Ev.some _)
theorem refnode_ev (s : ByteArray) (hs : s.size ≤ 140737488351232) : Ev (fun k => arboretref01_Node.f k s) (nodeB s) := by
 have hn : (bytesOf s).length = s.size := bytesOf_length s; have hr := idx_range 64 (bytesOf s); unfold arboretref01_Node.f
 refine Ev.then (refcut_ev s hs) ?_
 by_cases h : idx 64 (bytesOf s) = -1
 ·have e : nodeB s = (allBut s.size (-1) (bytesOf s) && endB (bytesOf s)) := by
   unfold nodeB baseB cutB unitB endB; rw [if_pos h, allBut_behind _ _ _ Zq1]; simp only [Bool.not_false, Bool.true_or, Bool.and_true, Bool.and_assoc]
  rw [e, h]; exact Ev.neg Zq2 (refnode_loop s s (-1) hs)
 ·obtain ⟨j, hj⟩ : ∃ j : Nat, idx 64 (bytesOf s) = (j : Int) := ⟨(idx 64 (bytesOf s)).toNat, Zq1⟩
  have hsp := idx_split 64 (bytesOf s) j hj
  have e1 : bytesOf (cutB s).1 = (bytesOf s).take j := by
   unfold cutB; rw [if_neg h, hj, Int.toNat_natCast]; exact bytesOf_upto s j
  have e2 : bytesOf (cutB s).2.1 = (bytesOf s).drop (j + 1) := by
   unfold cutB; rw [if_neg h, hj, Int.toNat_natCast]; exact bytesOf_from s (j + 1)
  have e3 : (cutB s).2.2 = true := by
   unfold cutB; rw [if_neg h]
  have hdl : ((bytesOf s).drop (j + 1)).length = s.size - (j + 1) := by rw [List.length_drop, hn]
  have eall : allBut s.size (j : Int) (bytesOf s) = (((bytesOf s).take j).all plainB && ((bytesOf s).drop (j + 1)).all plainB) := by
   have := allBut_at s.size (j : Int) 64 ((bytesOf s).drop (j + 1)) ((bytesOf s).take j) (by rw [hdl]; omega); rw [← hsp] at this; exact this
  have e : nodeB s = (decide (1 ≤ s.size - (j + 1)) && decide (s.size - (j + 1) ≤ 31) && (allBut s.size (j : Int) (bytesOf s) && endB (bytesOf (s.extract 0 j)))) := by
   rw [eall, bytesOf_upto]; unfold nodeB baseB unitB endB; rw [e1, e2, e3, hdl]; simp only [Bool.not_true, Bool.false_or]; generalize (List.all (List.take j (bytesOf s)) plainB) = a; generalize (List.all (List.drop (j + 1) (bytesOf s)) plainB) = b; generalize decide (1 ≤ s.size - (j + 1)) = c; generalize decide (s.size - (j + 1) ≤ 31) = d; generalize decide (1 ≤ (List.take j (bytesOf s)).length) = e; generalize decide ((List.take j (bytesOf s)).length ≤ 31) = f; generalize firstB ((List.take j (bytesOf s)).getD 0 0) = g; cases a <;> cases b <;> cases c <;> cases d <;> cases e <;> cases f <;> cases g <;> rfl
  have hw : wrap64 (wrap64 ((s.size : Int) - (j : Int)) - 1) = ((s.size - (j + 1) : Nat) : Int) := by
   rw [w64 (x := (s.size : Int) - (j : Int)) Zq1 Zq1, w64 Zq1 Zq1]; omega
  rw [hj, e, hw, Int.toNat_natCast]; refine Ev.pos (Int.natCast_nonneg j) (Ev.pos (Int.natCast_nonneg j) (Ev.pos Zq1 ?_))
  by_cases h1 : ((s.size - (j + 1) : Nat) : Int) < 1
  ·rw [decide_eq_false (by omega : ¬ 1 ≤ s.size - (j + 1))]; exact Ev.pos h1 (Ev.some _)
  ·rw [decide_eq_true (by omega : 1 ≤ s.size - (j + 1))]; refine Ev.neg h1 ?_
   by_cases h2 : ((s.size - (j + 1) : Nat) : Int) > 31
   ·rw [decide_eq_false (by omega : ¬ s.size - (j + 1) ≤ 31)]; exact Ev.pos h2 (Ev.some _)
   ·rw [decide_eq_true (by omega : s.size - (j + 1) ≤ 31)]; exact Ev.neg h2 (refnode_loop s (s.extract 0 j) (j : Int) hs)
def propB (l : List Int) : Bool := l.all (fun c => plainB c || c == 63 || c == 35) && (decide (1 ≤ l.length) && decide (l.length ≤ 31))
theorem refprop_ev (s : ByteArray) (hs : s.size ≤ 140737488351232) : Ev (fun k => arboretref01_Prop.f k s) (propB (bytesOf s)) := by
 have hn : (bytesOf s).length = s.size := bytesOf_length s; have main := loop (bytesOf s) (fun l => l.all (fun c => plainB c || c == 63 || c == 35) && (decide (1 ≤ s.size) && decide (s.size ≤ 31))) (fun k i => arboretref01_Prop.l0 k s (s.size : Int) i) ?_ ?_ 0 (Nat.zero_le _); (·unfold propB; rw [hn]; exact main)
 ·rw [hn]; refine Ev.succ ?_; simp only [arboretref01_Prop.l0]; refine Ev.neg Zq1 (Ev.fix ?_)
  by_cases h : (s.size : Int) ≥ 1
  ·rw [if_pos h, decide_eq_true (by omega : 1 ≤ s.size)]; have : decide ((s.size : Int) ≤ 31) = decide (s.size ≤ 31) := decide_eq_decide.mpr Zq1; rw [this]; rfl
  ·rw [if_neg h, decide_eq_false (by omega : ¬ 1 ≤ s.size)]; rfl
 ·intro i h ih
  have hw : wrap64 ((i : Int) + 1) = ((i + 1 : Nat) : Int) := by rw [w64 Zq1 Zq1]; omega
  obtain ⟨b0, b1⟩ := bytesOf_range s _ (List.getElem_mem h); refine Ev.succ ?_; simp only [arboretref01_Prop.l0, bytesOf_at s i h, stands_f b0 b1, hw, Option.bind_some, List.all_cons]; refine Ev.pos Zq1 (Ev.pos (Int.natCast_nonneg i) (Ev.pos Zq1 ?_))
  cases plainB (bytesOf s)[i] with
  | true =>
   simp only [Bool.true_or, Bool.true_and, if_true]; exact ih
  | false =>
   refine Ev.neg Zq2 ?_
   by_cases h63 : (bytesOf s)[i] = 63
   ·rw [h63]; exact Ev.pos rfl ih
   ·by_cases h35 : (bytesOf s)[i] = 35
    ·rw [h35]; exact Ev.neg Zq2 (Ev.pos rfl ih)
    ·have e1 : ((bytesOf s)[i] == 63) = false := by simpa using h63
     have e2 : ((bytesOf s)[i] == 35) = false := by simpa using h35
     rw [e1, e2]; exact Ev.neg h63 (Ev.neg h35 (Ev.some _))
theorem plain_f {c : Int} (h0 : 0 ≤ c) (h1 : c ≤ 255) : name_plain.f c = some (plainB c) := byte_all (p := fun c => name_plain.f c = some (plainB c)) (by decide +kernel) h0 h1
theorem letter_f {c : Int} (h0 : 0 ≤ c) (h1 : c ≤ 255) : name_letter.f c = some (letterB c) := byte_all (p := fun c => name_letter.f c = some (letterB c)) (by decide +kernel) h0 h1
theorem all_ev (s more : ByteArray) (hs : s.size ≤ 140737488351232) : Ev (fun k => name_all.f k s more) (allB more (bytesOf s)) := by
 have hn : (bytesOf s).length = s.size := bytesOf_length s; have main := loop (bytesOf s) (fun l => l.all (okB more) && (decide (1 ≤ s.size) && decide (s.size ≤ 31))) (fun k i => name_all.l0 k s more (s.size : Int) i) ?_ ?_ 0 (Nat.zero_le _)
 ·have e : allB more (bytesOf s) = (((bytesOf s).drop 0).all (okB more) && (decide (1 ≤ s.size) && decide (s.size ≤ 31))) := by
   unfold allB; rw [List.drop_zero, hn]
  rw [e]; exact main
 ·rw [hn]; refine Ev.succ ⟨0, fun k _ => ?_⟩; simp only [name_all.l0]; rw [if_neg Zq1]
  by_cases h : (s.size : Int) ≥ 1
  ·rw [if_pos h]
   have h1 : 1 ≤ s.size := by omega
   simp [h1, Int.ofNat_le]
   omega
  ·rw [if_neg h]
   have h1 : ¬ 1 ≤ s.size := by omega
   simp [h1]
 ·intro i h ih; obtain ⟨b0, b1⟩ := bytesOf_range s _ (List.getElem_mem h); refine Ev.succ ?_
  have hw : wrap64 ((i : Int) + 1) = ((i + 1 : Nat) : Int) := by rw [w64 Zq1 Zq1]; omega
  simp only [name_all.l0, bytesOf_at s i h, plain_f b0 b1, hw, Option.bind_some, List.all_cons]; refine Ev.pos Zq1 (Ev.pos (Int.natCast_nonneg i) (Ev.pos Zq1 ?_))
  cases hp : plainB (bytesOf s)[i] with
  | true =>
   have ho : okB more (bytesOf s)[i] = true := by unfold okB; rw [hp]; rfl
   rw [ho, Bool.true_and]; exact Ev.pos rfl ih
  | false =>
   refine Ev.neg Zq2 ?_; simp only [strings_IndexByte.f, Option.bind_some]
   by_cases hx : Lib.indexByte more.data.toList (bytesOf s)[i].toNat.toUInt8 < 0
   ·have ho : okB more (bytesOf s)[i] = false := by unfold okB; rw [hp, decide_eq_false Zq1]; rfl
    rw [ho]; exact Ev.pos hx (Ev.some _)
   ·have ho : okB more (bytesOf s)[i] = true := by unfold okB; rw [hp, decide_eq_true Zq1]; rfl
    rw [ho, Bool.true_and]; exact Ev.neg hx ih
theorem index_f (s : ByteArray) (u : UInt8) : stringslite_Index.f s ⟨#[u]⟩ = some (idx (u.toNat : Int) (bytesOf s)) := by
 unfold stringslite_Index.f; simp only; rw [idx_lib]; rfl
theorem cut_f (s : ByteArray) (hs : s.size ≤ 140737488351232) : strings_Cut.f s ⟨#[64]⟩ = some (cutB s) := by
 have hr := idx_range 64 (bytesOf s); rw [bytesOf_length] at hr
 have e : stringslite_Cut.f s ⟨#[64]⟩ = some (cutB s) := by
  unfold stringslite_Cut.f cutB; rw [index_f]; have e64 : ((64 : UInt8).toNat : Int) = 64 := rfl; rw [e64]; simp only [Option.bind_some]
  obtain ⟨j, hj⟩ : ∃ j, j = idx 64 (bytesOf s) := ⟨_, rfl⟩
  rw [← hj] at hr ⊢; have h1 : (((⟨#[64]⟩ : ByteArray).size : Nat) : Int) = 1 := rfl; rw [h1]
  by_cases h : j = -1
  ·rw [if_pos h, if_neg Zq1]
  ·have hw : wrap64 (j + 1) = j + 1 := w64 Zq1 Zq1; rw [if_neg h, hw, if_pos Zq1, if_pos Zq1, if_pos Zq1, if_pos Zq1, if_pos Zq1]
   have e1 : (j + 1).toNat = j.toNat + 1 := by omega
   rw [e1]
 unfold strings_Cut.f; rw [e]; rfl
theorem all_none (s : ByteArray) : allB ⟨#[]⟩ (bytesOf s) = unitB (bytesOf s) := by
 unfold allB unitB
 congr 1
 rw [Bool.eq_iff_iff, List.all_eq_true, List.all_eq_true]
 constructor
 ·intro h x hx; obtain ⟨h0, h1⟩ := bytesOf_range s x hx; rw [← ok_none h0 h1]; exact h x hx
 ·intro h x hx; obtain ⟨h0, h1⟩ := bytesOf_range s x hx; rw [ok_none h0 h1]; exact h x hx
theorem cutB_size (s : ByteArray) : (cutB s).1.size ≤ s.size ∧ (cutB s).2.1.size ≤ s.size := by
 unfold cutB
 split
 ·exact ⟨Nat.le_refl _, Nat.zero_le _⟩
 ·simp only [ByteArray.size_extract]; omega
theorem node_ev (s : ByteArray) (hs : s.size ≤ 140737488351232) : Ev (fun k => name_Node.f k s) (nodeB s) := by
 have hz := cutB_size s; unfold name_Node.f
 refine Ev.then (Ev.fix (cut_f s hs)) ?_
 have h1 := all_ev (cutB s).1 ⟨#[]⟩ Zq1; have h2 := all_ev (cutB s).2.1 ⟨#[]⟩ Zq1; rw [all_none] at h1 h2
 refine Ev.then h1 ?_
 have hl : (bytesOf (cutB s).1).length = (cutB s).1.size := bytesOf_length _; unfold nodeB baseB
 cases hb : unitB (bytesOf (cutB s).1) with
 | false => exact Ev.neg Zq2 (Ev.some _)
 | true =>
  have hp : 0 < (bytesOf (cutB s).1).length := by
   unfold unitB at hb; simp only [Bool.and_eq_true, decide_eq_true_eq] at hb; omega
  refine Ev.pos rfl (Ev.pos Zq1 ?_)
  have e0 : bt (cutB s).1 0 = (bytesOf (cutB s).1).getD 0 0 := by
   rw [getD_at hp]; exact bytesOf_at (cutB s).1 0 hp
  obtain ⟨b0, b1⟩ := bytesOf_range (cutB s).1 _ (List.getElem_mem hp); rw [← getD_at (d := 0) hp] at b0 b1; rw [e0]
  refine Ev.then (Ev.fix (letter_f b0 b1)) ?_
  unfold firstB
  have tail : Ev (fun k => if (cutB s).2.2 = true then ((name_all.f k (cutB s).2.1 (⟨#[]⟩ : ByteArray)).bind fun tcO => (some tcO)) else (some true)) (!(cutB s).2.2 || unitB (bytesOf (cutB s).2.1)) := by
   cases (cutB s).2.2 with
   | false => exact Ev.neg Zq2 (Ev.some _)
   | true => exact Ev.pos rfl (Ev.then h2 (Ev.some _))
  cases hc : letterB ((bytesOf (cutB s).1).getD 0 0) with
  | true =>
   simp only [Bool.true_or, Bool.and_true, Bool.true_and, if_true]; exact tail
  | false =>
   refine Ev.neg Zq2 ?_
   by_cases h95 : (bytesOf (cutB s).1).getD 0 0 = 95
   ·rw [h95]; exact Ev.pos rfl tail
   ·have : ((bytesOf (cutB s).1).getD 0 0 == 95) = false := by simpa using h95
    rw [this]; exact Ev.neg h95 (Ev.some _)
theorem prop_ev (s : ByteArray) (hs : s.size ≤ 140737488351232) : Ev (fun k => name_Prop.f k s) (propB (bytesOf s)) := by
 have e : allB ⟨#[63, 35]⟩ (bytesOf s) = propB (bytesOf s) := by
  unfold allB propB
  congr 1
  rw [Bool.eq_iff_iff, List.all_eq_true, List.all_eq_true]
  constructor
  ·intro h x hx; obtain ⟨h0, h1⟩ := bytesOf_range s x hx; rw [← ok_prop h0 h1]; exact h x hx
  ·intro h x hx; obtain ⟨h0, h1⟩ := bytesOf_range s x hx; rw [ok_prop h0 h1]; exact h x hx
 unfold name_Prop.f
 refine Ev.then (all_ev s ⟨#[63, 35]⟩ hs) ?_
 rw [e]; exact Ev.some _
end Go.Proofs.YtkopmkinlanhoaaGreat.PE

namespace Go.Proofs.YtkopmkinlanhoaaGreat.PE
open Go.RowKit Go.Proofs.YtkopmkinlanhoaaGreat.Rdr Go.Proofs.YtkopmkinlanhoaaGreat.Aid Go.Proofs.YtkopmkinlanhoaaGreatW.PrintWords
def TwiceFrom {α : Type} (l : List α) (i : Nat) : Prop := ∃ j, ∃ h : j < l.length, i ≤ j ∧ ∃ q, ∃ h' : q < j, l[q] = l[j]
theorem twice_nodup {α : Type} (l : List α) : TwiceFrom l 0 ↔ ¬ l.Nodup := by
 constructor
 ·rintro ⟨j, h, _, q, h', e⟩ hn; exact List.pairwise_iff_getElem.mp hn q j Zq1 h h' e
 ·intro hn
  refine Classical.byContradiction fun ht => hn ?_
  refine List.pairwise_iff_getElem.mpr fun q j hq hj hqj e => ht ⟨j, hj, Nat.zero_le _, q, hqj, e⟩
theorem dupB_iff (xs : List ByteArray) : dupB xs = true ↔ ¬ (txts xs).Nodup := by
 obtain ⟨ss, hss⟩ : ∃ ss, ss = (txts xs).mergeSort fun x y => decide (x ≤ y) := ⟨_, rfl⟩
 have hp : ss.Perm (txts xs) := by rw [hss]; exact List.mergeSort_perm _ _
 have hl : ss.length = xs.length := by rw [hp.length_eq, txts_len]
 have hs : ss.Pairwise (fun x y => x ≤ y) := by
  have := List.pairwise_mergeSort (le := fun x y : List UInt8 => decide (x ≤ y)) (fun a b c h1 h2 => by
   simp only [decide_eq_true_eq] at h1 h2 ⊢
   exact List.le_trans h1 h2) (fun a b => by
   simp only [Bool.or_eq_true, decide_eq_true_eq]
   exact List.le_total a b) (txts xs)
  rw [← hss] at this; exact this.imp (fun h => by simpa using h)
 have hd : dupB xs = decide ((Lib.compact ss).length < xs.length) := by rw [hss]; rfl
 rw [hd, decide_eq_true_eq, ← hl, ← hp.nodup_iff]
 constructor
 ·intro h hn
  have : Lib.compact ss = ss := Lib.compact_all ss (fun j hj => by
   rcases Nat.eq_zero_or_pos j with rfl | h0
   ·exact Lib.keeps_lt_one _ 0 Zq1
   ·refine Lib.keeps_pos ?_; rw [List.getElem!_toArray, List.getElem!_toArray, getElem!_pos ss j hj, getElem!_pos ss (j - 1) Zq1]
    exact fun e => List.pairwise_iff_getElem.mp hn (j - 1) j Zq1 hj Zq1 e.symm)
  rw [this] at h; omega
 ·intro hn
  refine Classical.byContradiction fun hlen => hn ?_
  have hle := Lib.compact_length_le ss
  have heq : (Lib.compact ss).length = ss.length := by omega
  have hk : ∀ j, j < ss.length → Lib.keeps ss.toArray j = true := by
   unfold Lib.compact Lib.compactUpTo at heq; rw [List.length_map] at heq
   have h2 : ((List.range ss.length).filter (Lib.keeps ss.toArray)).length = (List.range ss.length).length := by rw [heq, List.length_range]
   have h3 := List.length_filter_eq_length_iff.mp h2
   exact fun j hj => h3 j (List.mem_range.mpr hj)
  refine List.pairwise_iff_getElem.mpr fun q j hq hj hqj e => ?_
  have h1 := hk (q + 1) Zq1
  have h2 : ss[q + 1]'Zq1 ≠ ss[q] := by
   unfold Lib.keeps at h1; simp only [decide_eq_true_eq] at h1
   rcases h1 with h1 | h1
   ·omega
   ·rw [List.getElem!_toArray, List.getElem!_toArray, getElem!_pos ss (q + 1) Zq1, getElem!_pos ss (q + 1 - 1) Zq1] at h1; exact h1
  have h3 := List.pairwise_iff_getElem.mp hs q (q + 1) hq Zq1 Zq1
  rcases Nat.lt_or_ge (q + 1) j with h4 | h4
  ·have h5 := List.pairwise_iff_getElem.mp hs (q + 1) j Zq1 hj h4; rw [← e] at h5; exact h2 (List.le_antisymm h5 h3)
  ·have : q + 1 = j := by omega
   subst this; exact h2 e.symm
theorem dup_twice {α : Type} (l : List α) (f : α → ByteArray) : dupB (l.map f) = true ↔ TwiceFrom (l.map fun x => (f x).toList) 0 := by
 rw [dupB_iff, twice_nodup]
 have : txts (l.map f) = l.map fun x => (f x).toList := by
  unfold txts; rw [List.map_map]; apply List.map_congr_left; intro x _; show (f x).data.toList = (f x).toList; exact (ByteArray.toList_eq (f x)).symm
 rw [this]
theorem names_ev (nm : ByteArray) (ps : List S68) (ks : List S27) (hp : ps.length ≤ 1048576) (hk : ks.length ≤ 1048576) : Ev (fun k => tree_names.f k nm ps ks) (ps.map (·.f0), ks.map (·.f0)) := by
 have l1 : ∀ (j i : Nat) (acc : List ByteArray), i + j = ks.length → acc.length ≤ i → Ev (fun k => tree_names.l1 k (ps.map (·.f0)) acc ks (ks.length : Int) (i : Int)) (ps.map (·.f0), acc ++ (ks.drop i).map (·.f0)) := by
  intro j
  induction j with
  | zero =>
   intro i acc hi ha; rw [List.drop_of_length_le Zq1]; refine Ev.succ ?_; simp only [tree_names.l1, List.map_nil, List.append_nil]; exact Ev.neg Zq1 (Ev.some _)
  | succ j ih =>
   intro i acc hi ha; have hw := step64 (i := i) (n := ks.length) Zq1 hk; have := ih (i + 1) (acc ++ [(ks.getD i z27).f0]) Zq1 Zq12; rw [drop_at (l := ks) (d := z27) (i := i) Zq1, List.map_cons]; rw [List.append_assoc] at this; refine Ev.succ ?_; simp only [tree_names.l1, rdN, hw]; exact Ev.pos Zq1 (Ev.pos (Int.natCast_nonneg i) (Ev.pos Zq1 (Ev.pos Zq1 this)))
 have l0 : ∀ (j i : Nat) (acc : List ByteArray), i + j = ps.length → acc.length ≤ i → acc ++ (ps.drop i).map (·.f0) = ps.map (·.f0) → Ev (fun k => tree_names.l0 k acc ps (ps.length : Int) (i : Int) nm ps ks) (ps.map (·.f0), ks.map (·.f0)) := by
  intro j
  induction j with
  | zero =>
   intro i acc hi ha he; rw [List.drop_of_length_le Zq1, List.map_nil, List.append_nil] at he; refine Ev.succ ?_; simp only [tree_names.l0]; rw [he]; have := l1 ks.length 0 [] Zq1 Zq7; exact Ev.neg Zq1 (by simpa using this)
  | succ j ih =>
   intro i acc hi ha he; have hw := step64 (i := i) (n := ps.length) Zq1 hp; rw [drop_at (l := ps) (d := z68) (i := i) Zq1, List.map_cons] at he; have := ih (i + 1) (acc ++ [(ps.getD i z68).f0]) Zq1 Zq12 (by rw [List.append_assoc]; exact he); refine Ev.succ ?_; simp only [tree_names.l0, rdP, hw]; exact Ev.pos Zq1 (Ev.pos (Int.natCast_nonneg i) (Ev.pos Zq1 (Ev.pos Zq1 this)))
 have := l0 ps.length 0 [] Zq1 Zq7 Zq7; unfold tree_names.f; exact this
theorem bad_ev (xs : List ByteArray) (hs : ∀ s ∈ xs, s.size ≤ 1048576) : ∀ i : Nat, ∃ v : Int, Ev (fun k => badIx k xs i) v ∧ (0 ≤ v ↔ ¬ ∀ s ∈ xs, propB (bytesOf s) = true) := by
 induction xs with
 | nil => exact fun i => ⟨-1, Ev.some _, Zq7⟩
 | cons s r ih =>
  intro i; have hp := prop_ev s (by have := hs s Zq7; omega); obtain ⟨v, hv, hi⟩ := ih (fun s h => hs s (by simp [h])) (i + 1)
  cases hb : propB (bytesOf s) with
  | true =>
   rw [hb] at hp; refine ⟨v, ?_, by rw [hi]; simp [hb]⟩; simp only [badIx]
   exact Ev.then hp (Ev.pos rfl hv)
  | false =>
   rw [hb] at hp; refine ⟨(i : Int), ?_, by simp [hb]⟩; simp only [badIx]
   exact Ev.then hp (Ev.neg Zq2 (Ev.some _))
theorem ref_kids_twice (x : S27) (d : Int) (v5 : Int) (hk : x.f2.length ≤ 1048576) (e5 : Ev (fun k => arboretref01_wrong.l5 k d (x.f2.length : Int) 0 x.f0 x.f1 x.f2) v5) :
  ∃ v, Ev (fun k => arboretref01_wrong.l3 k d (x.f2.length : Int) 0 x.f0 x.f1 x.f2) v ∧ (TwiceFrom (x.f2.map fun y => y.f0.toList) 0 → v = 9) ∧ (¬ TwiceFrom (x.f2.map fun y => y.f0.toList) 0 → v = v5) := by
 have l34 : ∀ (j i : Nat), i + j = x.f2.length → ∃ v : Int, Ev (fun k => arboretref01_wrong.l3 k d (x.f2.length : Int) (i : Int) x.f0 x.f1 x.f2) v ∧ ((∃ a, a < x.f2.length ∧ i ≤ a ∧ ∃ q, q < a ∧ (x.f2.getD q z27).f0.toList = (x.f2.getD a z27).f0.toList) → v = 9) ∧ ((¬ ∃ a, a < x.f2.length ∧ i ≤ a ∧ ∃ q, q < a ∧ (x.f2.getD q z27).f0.toList = (x.f2.getD a z27).f0.toList) → v = v5) := by
  intro j
  induction j with
  | zero =>
   intro i hi; refine ⟨v5, Ev.succ ?_, fun ⟨a, h1, h2, _⟩ => by omega, fun _ => rfl⟩; simp only [arboretref01_wrong.l3]; exact Ev.neg Zq1 e5
  | succ j ihj =>
   intro i hi; obtain ⟨r, hr, hr9, hr5⟩ := ihj (i + 1) Zq1; have hw := step64 (i := i) (n := x.f2.length) Zq1 Zq1
   have inner : ∀ (p q : Nat), q + p = i → ∃ v : Int, Ev (fun k => arboretref01_wrong.l4 k d (i : Int) (x.f2.length : Int) (i : Int) (i : Int) (q : Int) x.f0 x.f1 x.f2) v ∧ ((∃ a, a < i ∧ q ≤ a ∧ (x.f2.getD a z27).f0.toList = (x.f2.getD i z27).f0.toList) → v = 9) ∧ ((¬ ∃ a, a < i ∧ q ≤ a ∧ (x.f2.getD a z27).f0.toList = (x.f2.getD i z27).f0.toList) → v = r) := by
    intro p
    induction p with
    | zero =>
     intro q hq0; refine ⟨r, Ev.succ ?_, fun ⟨a, h1, h2, _⟩ => by omega, fun _ => rfl⟩; simp only [arboretref01_wrong.l4, hw]; exact Ev.neg Zq1 hr
    | succ p ihp =>
     intro q hq0; have hw2 := step64 (i := q) (n := x.f2.length) Zq1 Zq1; obtain ⟨u, hu, hu9, hur⟩ := ihp (q + 1) Zq1
     by_cases c : (x.f2.getD q z27).f0.toList = (x.f2.getD i z27).f0.toList
     ·refine ⟨9, Ev.succ ?_, fun _ => rfl, fun h => absurd ⟨q, Zq1, Nat.le_refl _, c⟩ h⟩; simp only [arboretref01_wrong.l4, rdN]; exact Ev.pos Zq1 (Ev.pos (Int.natCast_nonneg q) (Ev.pos Zq1 (Ev.pos (Int.natCast_nonneg i) (Ev.pos Zq1 (Ev.pos c (Ev.some _))))))
     ·refine ⟨u, Ev.succ ?_, fun ⟨a, h1, h2, h3⟩ => hu9 ⟨a, h1, ?_, h3⟩, fun h => hur fun ⟨a, h1, h2, h3⟩ => h ⟨a, h1, Zq1, h3⟩⟩; (·simp only [arboretref01_wrong.l4, rdN, hw2]; exact Ev.pos Zq1 (Ev.pos (Int.natCast_nonneg q) (Ev.pos Zq1 (Ev.pos (Int.natCast_nonneg i) (Ev.pos Zq1 (Ev.neg c hu))))))
      ·rcases Nat.lt_or_ge q a with h4 | h4
       ·exact h4
       ·obtain rfl : a = q := by omega
        exact absurd h3 c
   obtain ⟨u, hu, hu9, hur⟩ := inner i 0 Zq1; refine ⟨u, Ev.succ ?_, ?_, ?_⟩; (·simp only [arboretref01_wrong.l3]; exact Ev.pos Zq1 hu)
   ·rintro ⟨a, h1, h2, q, h3, h4⟩
    rcases Nat.lt_or_ge i a with h5 | h5
    ·have hr' := hr9 ⟨a, h1, h5, q, h3, h4⟩
     by_cases hh : ∃ a, a < i ∧ 0 ≤ a ∧ (x.f2.getD a z27).f0.toList = (x.f2.getD i z27).f0.toList
     ·exact hu9 hh
     ·rw [hur hh, hr']
    ·obtain rfl : a = i := by omega
     exact hu9 ⟨q, h3, Nat.zero_le _, h4⟩
   ·intro h; rw [hur (fun ⟨a, h1, _, h3⟩ => h ⟨i, Zq1, Nat.le_refl _, a, h1, h3⟩)]; exact hr5 (fun ⟨a, h1, h2, h3⟩ => h ⟨a, h1, Zq1, h3⟩)
 obtain ⟨v, hv, h9, h5⟩ := l34 x.f2.length 0 Zq1; refine ⟨v, hv, ?_, ?_⟩
 ·rintro ⟨a, ha, _, q, hq, e⟩
  have ha' : a < x.f2.length := by simpa using ha
  refine h9 ⟨a, ha', Nat.zero_le _, q, hq, ?_⟩; rw [List.getElem_map, List.getElem_map] at e; rw [getD_at Zq1, getD_at ha']; exact e
 ·intro h; refine h5 ?_; rintro ⟨a, ha, _, q, hq, e⟩; rw [getD_at Zq1, getD_at ha] at e; exact h ⟨a, by simpa using ha, Nat.zero_le _, q, hq, by rw [List.getElem_map, List.getElem_map]; exact e⟩
theorem ref_props_twice (x : S27) (d : Int) (v3 : Int) (hk : x.f1.length ≤ 1048576) (e3 : Ev (fun k => arboretref01_wrong.l3 k d (x.f2.length : Int) 0 x.f0 x.f1 x.f2) v3) :
  ∃ v, Ev (fun k => arboretref01_wrong.l1 k d (x.f1.length : Int) 0 x.f0 x.f1 x.f2) v ∧ (TwiceFrom (x.f1.map fun y => y.f0.toList) 0 → v = 9) ∧ (¬ TwiceFrom (x.f1.map fun y => y.f0.toList) 0 → v = v3) := by
 have l34 : ∀ (j i : Nat), i + j = x.f1.length → ∃ v : Int, Ev (fun k => arboretref01_wrong.l1 k d (x.f1.length : Int) (i : Int) x.f0 x.f1 x.f2) v ∧ ((∃ a, a < x.f1.length ∧ i ≤ a ∧ ∃ q, q < a ∧ (x.f1.getD q z68).f0.toList = (x.f1.getD a z68).f0.toList) → v = 9) ∧ ((¬ ∃ a, a < x.f1.length ∧ i ≤ a ∧ ∃ q, q < a ∧ (x.f1.getD q z68).f0.toList = (x.f1.getD a z68).f0.toList) → v = v3) := by
  intro j
  induction j with
  | zero =>
   intro i hi; refine ⟨v3, Ev.succ ?_, fun ⟨a, h1, h2, _⟩ => by omega, fun _ => rfl⟩; simp only [arboretref01_wrong.l1]; exact Ev.neg Zq1 e3
  | succ j ihj =>
   intro i hi; obtain ⟨r, hr, hr9, hr5⟩ := ihj (i + 1) Zq1; have hw := step64 (i := i) (n := x.f1.length) Zq1 Zq1
   have inner : ∀ (p q : Nat), q + p = i → ∃ v : Int, Ev (fun k => arboretref01_wrong.l2 k d (i : Int) (x.f1.length : Int) (i : Int) (i : Int) (q : Int) x.f0 x.f1 x.f2) v ∧ ((∃ a, a < i ∧ q ≤ a ∧ (x.f1.getD a z68).f0.toList = (x.f1.getD i z68).f0.toList) → v = 9) ∧ ((¬ ∃ a, a < i ∧ q ≤ a ∧ (x.f1.getD a z68).f0.toList = (x.f1.getD i z68).f0.toList) → v = r) := by
    intro p
    induction p with
    | zero =>
     intro q hq0; refine ⟨r, Ev.succ ?_, fun ⟨a, h1, h2, _⟩ => by omega, fun _ => rfl⟩; simp only [arboretref01_wrong.l2, hw]; exact Ev.neg Zq1 hr
    | succ p ihp =>
     intro q hq0; have hw2 := step64 (i := q) (n := x.f1.length) Zq1 Zq1; obtain ⟨u, hu, hu9, hur⟩ := ihp (q + 1) Zq1
     by_cases c : (x.f1.getD q z68).f0.toList = (x.f1.getD i z68).f0.toList
     ·refine ⟨9, Ev.succ ?_, fun _ => rfl, fun h => absurd ⟨q, Zq1, Nat.le_refl _, c⟩ h⟩; simp only [arboretref01_wrong.l2, rdP]; exact Ev.pos Zq1 (Ev.pos (Int.natCast_nonneg q) (Ev.pos Zq1 (Ev.pos (Int.natCast_nonneg i) (Ev.pos Zq1 (Ev.pos c (Ev.some _))))))
     ·refine ⟨u, Ev.succ ?_, fun ⟨a, h1, h2, h3⟩ => hu9 ⟨a, h1, ?_, h3⟩, fun h => hur fun ⟨a, h1, h2, h3⟩ => h ⟨a, h1, Zq1, h3⟩⟩; (·simp only [arboretref01_wrong.l2, rdP, hw2]; exact Ev.pos Zq1 (Ev.pos (Int.natCast_nonneg q) (Ev.pos Zq1 (Ev.pos (Int.natCast_nonneg i) (Ev.pos Zq1 (Ev.neg c hu))))))
      ·rcases Nat.lt_or_ge q a with h4 | h4
       ·exact h4
       ·obtain rfl : a = q := by omega
        exact absurd h3 c
   obtain ⟨u, hu, hu9, hur⟩ := inner i 0 Zq1; refine ⟨u, Ev.succ ?_, ?_, ?_⟩; (·simp only [arboretref01_wrong.l1]; exact Ev.pos Zq1 hu)
   ·rintro ⟨a, h1, h2, q, h3, h4⟩
    rcases Nat.lt_or_ge i a with h5 | h5
    ·have hr' := hr9 ⟨a, h1, h5, q, h3, h4⟩
     by_cases hh : ∃ a, a < i ∧ 0 ≤ a ∧ (x.f1.getD a z68).f0.toList = (x.f1.getD i z68).f0.toList
     ·exact hu9 hh
     ·rw [hur hh, hr']
    ·obtain rfl : a = i := by omega
     exact hu9 ⟨q, h3, Nat.zero_le _, h4⟩
   ·intro h; rw [hur (fun ⟨a, h1, _, h3⟩ => h ⟨i, Zq1, Nat.le_refl _, a, h1, h3⟩)]; exact hr5 (fun ⟨a, h1, h2, h3⟩ => h ⟨a, h1, Zq1, h3⟩)
 obtain ⟨v, hv, h9, h5⟩ := l34 x.f1.length 0 Zq1; refine ⟨v, hv, ?_, ?_⟩
 ·rintro ⟨a, ha, _, q, hq, e⟩
  have ha' : a < x.f1.length := by simpa using ha
  refine h9 ⟨a, ha', Nat.zero_le _, q, hq, ?_⟩; rw [List.getElem_map, List.getElem_map] at e; rw [getD_at Zq1, getD_at ha']; exact e
 ·intro h; refine h5 ?_; rintro ⟨a, ha, _, q, hq, e⟩; rw [getD_at Zq1, getD_at ha] at e; exact h ⟨a, by simpa using ha, Nat.zero_le _, q, hq, by rw [List.getElem_map, List.getElem_map]; exact e⟩
theorem both_wrong (m : Nat) (hm : m ≤ 1048576) : ∀ (x : S27) (d : Nat), bulk27 x ≤ m → 1 ≤ d → ∃ v : Int, Ev (fun k => tree_check.f k x.f0 x.f1 x.f2 (d : Int)) v ∧ Ev (fun k => arboretref01_wrong.f k x.f0 x.f1 x.f2 (d : Int)) v := by
 induction m with
 | zero => intro x d hx; have := bulk_pos x; omega
 | succ m ih =>
  intro x d hx hd1; have hk := bulk_kids x; have hp := bulk_props x; have hnm := bulk_name x; have en := names_ev x.f0 x.f1 x.f2 Zq1 Zq1
  by_cases hd : (d : Int) > 16
  ·refine ⟨6, Ev.succ ?_, Ev.succ ?_⟩
   ·simp only [tree_check.f, tree_check.node]
    exact Ev.then (a := 6) (Ev.then en (Ev.pos hd (Ev.some _))) (Ev.neg Zq2 (Ev.some _))
   ·simp only [arboretref01_wrong.f]; exact Ev.pos hd (Ev.some _)
  have hdd : wrap64 ((d : Int) + 1) = ((d + 1 : Nat) : Int) := by rw [w64 Zq1 Zq1]; omega
  have l5 : ∀ (j i : Nat), i + j = x.f2.length → ∃ v : Int, Ev (fun k => tree_check.kids (fun a b c => tree_check.f k a b c (wrap64 ((d : Int) + 1))) (x.f2.drop i)) v ∧ Ev (fun k => arboretref01_wrong.l5 k (d : Int) (x.f2.length : Int) (i : Int) x.f0 x.f1 x.f2) v := by
   intro j
   induction j with
   | zero =>
    intro i hi; rw [List.drop_of_length_le Zq1]; refine ⟨0, Ev.some _, Ev.succ ?_⟩; simp only [arboretref01_wrong.l5]; exact Ev.neg Zq1 (Ev.some _)
   | succ j ihj =>
    intro i hi; have hw := step64 (i := i) (n := x.f2.length) Zq1 Zq1; have hmem := getN (xs := x.f2) (i := i) Zq1; obtain ⟨v, hv, hv2⟩ := ih Zq1 (x.f2.getD i z27) (d + 1) (by have := bulk_kid hmem; omega) Zq1; obtain ⟨r, hr, hr2⟩ := ihj (i + 1) Zq1; rw [drop_at (l := x.f2) (d := z27) (i := i) Zq1]; rw [← hdd] at hv hv2
    by_cases h0 : v = 0
    ·refine ⟨r, ?_, Ev.succ ?_⟩
     ·simp only [tree_check.kids]
      exact Ev.then hv (Ev.pos h0 hr)
     ·simp only [arboretref01_wrong.l5, rdN, hw]; exact Ev.pos Zq1 (Ev.pos (Int.natCast_nonneg i) (Ev.pos Zq1 (Ev.then hv2 (Ev.pos h0 hr2))))
    ·refine ⟨v, ?_, Ev.succ ?_⟩
     ·simp only [tree_check.kids]
      exact Ev.then hv (Ev.neg h0 (Ev.some _))
     ·simp only [arboretref01_wrong.l5, rdN, hw]; exact Ev.pos Zq1 (Ev.pos (Int.natCast_nonneg i) (Ev.pos Zq1 (Ev.then hv2 (Ev.neg h0 (Ev.some _)))))
  obtain ⟨v5, c5, e5⟩ := l5 x.f2.length 0 Zq1; rw [List.drop_zero] at c5; obtain ⟨v3, e3, h39, h35⟩ := ref_kids_twice x (d : Int) v5 Zq1 e5; obtain ⟨v1, e1, h19, h13⟩ := ref_props_twice x (d : Int) v3 Zq1 e3; have dk := dup_twice x.f2 (·.f0); have dp := dup_twice x.f1 (·.f0)

  have l0 : ∀ (j i : Nat), i + j = x.f1.length → ∃ v : Int, Ev (fun k => arboretref01_wrong.l0 k (d : Int) (x.f1.length : Int) (i : Int) x.f0 x.f1 x.f2) v ∧ ((∀ s ∈ (x.f1.drop i).map (·.f0), propB (bytesOf s) = true) → v = v1) ∧ ((¬ ∀ s ∈ (x.f1.drop i).map (·.f0), propB (bytesOf s) = true) → v = 5) := by
   intro j
   induction j with
   | zero =>
    intro i hi; rw [List.drop_of_length_le Zq1]; refine ⟨v1, Ev.succ ?_, fun _ => rfl, fun h => absurd Zq7 h⟩; simp only [arboretref01_wrong.l0]; exact Ev.neg Zq1 e1
   | succ j ihj =>
    intro i hi; obtain ⟨r, hr, hr1, hr5⟩ := ihj (i + 1) Zq1; have hw := step64 (i := i) (n := x.f1.length) Zq1 Zq1; have hmem := getP (xs := x.f1) (i := i) Zq1; have hb := bulk_prop hmem; have hv := bulk_value (x.f1.getD i z68); have hn := refprop_ev (x.f1.getD i z68).f0 Zq1; rw [drop_at (l := x.f1) (d := z68) (i := i) Zq1]; simp only [List.map_cons, List.mem_cons, forall_eq_or_imp]
    cases hc : propB (bytesOf (x.f1.getD i z68).f0) with
    | true =>
     rw [hc] at hn; refine ⟨r, Ev.succ ?_, fun h => hr1 h.2, fun h => hr5 (fun h2 => h ⟨rfl, h2⟩)⟩; simp only [arboretref01_wrong.l0, rdP, hw]; exact Ev.pos Zq1 (Ev.pos (Int.natCast_nonneg i) (Ev.pos Zq1 (Ev.then hn (Ev.pos rfl hr))))
    | false =>
     rw [hc] at hn; refine ⟨5, Ev.succ ?_, fun h => Bool.noConfusion h.1, fun _ => rfl⟩; simp only [arboretref01_wrong.l0, rdP, hw]; exact Ev.pos Zq1 (Ev.pos (Int.natCast_nonneg i) (Ev.pos Zq1 (Ev.then hn (Ev.neg Zq2 (Ev.some _)))))
  obtain ⟨v0, e0, h01, h05⟩ := l0 x.f1.length 0 Zq1; rw [List.drop_zero] at h01 h05
  obtain ⟨b0, eb, hb⟩ := bad_ev (x.f1.map (·.f0)) (fun s hs => by
   obtain ⟨p, hp1, rfl⟩ := List.mem_map.mp hs; have h1 := bulk_prop hp1; have h2 := bulk_value p
   omega) 0
  have tail : ∃ w : Int, Ev (fun k => (badIx k (x.f1.map (·.f0)) 0).bind fun i => if 0 ≤ i then some 5 else if (x.f1.map (·.f0)).length < 4611686018427387904 ∧ (x.f2.map (·.f0)).length < 4611686018427387904 then (if dupB (x.f1.map (·.f0)) = true then some 9 else if dupB (x.f2.map (·.f0)) = true then some 9 else some 0) else none) w ∧ ((w = 0 ∧ v0 = v5) ∨ (w = v0 ∧ v0 ≠ 0)) := by
   by_cases hb0 : 0 ≤ b0
   ·have hv0 : v0 = 5 := h05 (hb.mp hb0); exact ⟨5, Ev.then eb (Ev.pos hb0 (Ev.some _)), .inr ⟨hv0.symm, Zq1⟩⟩
   ·have hv0 : v0 = v1 := h01 (Classical.byContradiction fun h => hb0 (hb.mpr h))
    have hlen : (x.f1.map (·.f0)).length < 4611686018427387904 ∧ (x.f2.map (·.f0)).length < 4611686018427387904 := by simp only [List.length_map]; omega
    cases h1 : dupB (x.f1.map (·.f0)) with
    | true =>
     have hv9 : v0 = 9 := by rw [hv0]; exact h19 (dp.mp h1)
     exact ⟨9, Ev.then eb (Ev.neg hb0 (Ev.pos hlen (Ev.pos rfl (Ev.some _)))), .inr ⟨hv9.symm, Zq1⟩⟩
    | false =>
     have hv3 : v0 = v3 := by rw [hv0]; exact h13 (fun h => by rw [dp.mpr h] at h1; cases h1)
     cases h2 : dupB (x.f2.map (·.f0)) with
     | true =>
      have hv9 : v0 = 9 := by rw [hv3]; exact h39 (dk.mp h2)
      exact ⟨9, Ev.then eb (Ev.neg hb0 (Ev.pos hlen (Ev.neg Zq2 (Ev.pos rfl (Ev.some _))))), .inr ⟨hv9.symm, Zq1⟩⟩
     | false =>
      have hv5 : v0 = v5 := by rw [hv3]; exact h35 (fun h => by rw [dk.mpr h] at h2; cases h2)
      exact ⟨0, Ev.then eb (Ev.neg hb0 (Ev.pos hlen (Ev.neg Zq2 (Ev.neg Zq2 (Ev.some _))))), .inl ⟨rfl, hv5⟩⟩
  obtain ⟨wt, tail, htail⟩ := tail; have nn := node_ev x.f0 Zq1; have rn := refnode_ev x.f0 Zq1

  have whole : ∀ w : Int, w ≠ 0 → Ev (fun k => tree_check.node k x.f0 x.f1 x.f2 (d : Int)) w → Ev (fun k => tree_check.f k x.f0 x.f1 x.f2 (d : Int)) w := fun w h0 hw => by
   refine Ev.succ ?_; simp only [tree_check.f]
   exact Ev.then hw (Ev.neg h0 (Ev.some _))
  have whole0 : Ev (fun k => tree_check.node k x.f0 x.f1 x.f2 (d : Int)) 0 → Ev (fun k => tree_check.f k x.f0 x.f1 x.f2 (d : Int)) v5 := fun hw => by
   refine Ev.succ ?_; simp only [tree_check.f]
   exact Ev.then hw (Ev.pos rfl c5)
  have good : Ev (fun k => tree_check.node k x.f0 x.f1 x.f2 (d : Int)) wt → Ev (fun k => tree_check.f k x.f0 x.f1 x.f2 (d : Int)) v0 := by
   intro hh
   rcases htail with ⟨h1, h2⟩ | ⟨h1, h2⟩
   ·rw [h1] at hh; rw [h2]; exact whole0 hh
   ·rw [h1] at hh; exact whole v0 h2 hh
  have j0 : Ev (fun k => arboretref01_wrong.j0 k (d : Int) false x.f0 x.f1 x.f2) v0 := by
   refine Ev.succ ?_; simp only [arboretref01_wrong.j0]; exact Ev.neg (fun h => Bool.noConfusion h) e0
  have j5 : Ev (fun k => arboretref01_wrong.j0 k (d : Int) true x.f0 x.f1 x.f2) 5 := by
   refine Ev.succ ?_; simp only [arboretref01_wrong.j0]; exact Ev.pos trivial (Ev.some _)
  by_cases h1 : (d : Int) = 1
  ·by_cases hz : x.f0.toList = ([] : List UInt8)
   ·refine ⟨v0, good ?_, Ev.succ ?_⟩
    ·unfold tree_check.node
     exact Ev.then en (Ev.neg hd (Ev.neg Zq1 (Ev.then nn (Ev.neg (fun h => h.2 hz) (Ev.neg Zq1 tail)))))
    ·simp only [arboretref01_wrong.f]; exact Ev.neg hd (Ev.pos h1 (Ev.pos hz (Ev.neg Zq1 j0)))
   ·refine ⟨5, whole 5 Zq2 ?_, Ev.succ ?_⟩
    ·unfold tree_check.node
     exact Ev.then en (Ev.neg hd (Ev.neg Zq1 (Ev.then nn (Ev.pos ⟨h1, hz⟩ (Ev.some _)))))
    ·simp only [arboretref01_wrong.f]; exact Ev.neg hd (Ev.pos h1 (Ev.neg hz j5))
  ·cases hb1 : nodeB x.f0 with
   | true =>
    rw [hb1] at nn rn; refine ⟨v0, good ?_, Ev.succ ?_⟩
    ·unfold tree_check.node
     exact Ev.then en (Ev.neg hd (Ev.neg Zq1 (Ev.then nn (Ev.neg (fun h => h1 h.1) (Ev.neg (fun h => Bool.noConfusion h.2) tail)))))
    ·simp only [arboretref01_wrong.f]; exact Ev.neg hd (Ev.neg h1 (Ev.pos Zq1 (Ev.then rn j0)))
   | false =>
    rw [hb1] at nn rn; refine ⟨5, whole 5 Zq2 ?_, Ev.succ ?_⟩
    ·unfold tree_check.node
     exact Ev.then en (Ev.neg hd (Ev.neg Zq1 (Ev.then nn (Ev.neg (fun h => h1 h.1) (Ev.pos ⟨Zq1, rfl⟩ (Ev.some _))))))
    ·simp only [arboretref01_wrong.f]; exact Ev.neg hd (Ev.neg h1 (Ev.pos Zq1 (Ev.then rn j5)))
theorem count_both (m : Nat) (hm : m ≤ 1048576) : ∀ x : S27, bulk27 x ≤ m → ∃ v : Int × Int, Ev (fun k => tree_Count.f k x.f0 x.f1 x.f2) v ∧ Ev (fun k => arboretref01_Count.f k x.f0 x.f1 x.f2) v := by
 induction m with
 | zero => intro x hx; have := bulk_pos x; omega
 | succ m ih =>
  intro x hx; have hk := bulk_kids x
  have kids : ∀ (j i : Nat) (a b : Int), i + j = x.f2.length → ∃ v : Int × Int, Ev (fun k => tree_Count.l0 k a b x.f2 (x.f2.length : Int) (i : Int)) v ∧ Ev (fun k => arboretref01_Count.l0 k a b (x.f2.length : Int) (i : Int) x.f0 x.f1 x.f2) v := by
   intro j
   induction j with
   | zero =>
    intro i a b hi; refine ⟨(a, b), Ev.succ ?_, Ev.succ ?_⟩; (·simp only [tree_Count.l0]; exact Ev.neg Zq1 (Ev.some _)); (·simp only [arboretref01_Count.l0]; exact Ev.neg Zq1 (Ev.some _))
   | succ j ihj =>
    intro i a b hi; have hw := step64 (i := i) (n := x.f2.length) Zq1 Zq1; have hmem := getN (xs := x.f2) (i := i) Zq1; obtain ⟨v, hv, hv2⟩ := ih Zq1 (x.f2.getD i z27) (by have := bulk_kid hmem; omega); obtain ⟨r, hr, hr2⟩ := ihj (i + 1) (wrap64 (a + v.1)) (wrap64 (b + v.2)) Zq1; refine ⟨r, Ev.succ ?_, Ev.succ ?_⟩; (·simp only [tree_Count.l0, rdN, hw]; exact Ev.pos Zq1 (Ev.pos (Int.natCast_nonneg i) (Ev.pos Zq1 (Ev.then hv hr)))); (·simp only [arboretref01_Count.l0, rdN, hw]; exact Ev.pos Zq1 (Ev.pos (Int.natCast_nonneg i) (Ev.pos Zq1 (Ev.then hv2 hr2))))
  obtain ⟨v, hv, hv2⟩ := kids x.f2.length 0 1 (x.f1.length : Int) Zq1; refine ⟨v, Ev.succ ?_, Ev.succ ?_⟩; (·simp only [tree_Count.f]; exact hv); (·simp only [arboretref01_Count.f]; exact hv2)
theorem both_check (b : Int) (res : List S51) (x : S27) (hx : bulk27 x ≤ 1048576) (hr : res.length ≤ 1048576) :
  ∃ v : Int, Ev (fun k => tree_Check.f k b res x.f0 x.f1 x.f2) v ∧ Ev (fun k => arboretref01_Check.f k b res x.f0 x.f1 x.f2) v := by
 obtain ⟨v, hv, hv2⟩ := both_wrong 1048576 Zq1 x 1 hx Zq1; obtain ⟨c, hc, hc2⟩ := count_both 1048576 Zq1 x hx
 have l0 : ∀ (j i : Nat), i + j = res.length → ∃ v : Int, Ev (fun k => api_Reserve_48.l0 k res (res.length : Int) (i : Int) 0 0) v ∧ Ev (fun k => arboretref01_Check.l0 k (res.length : Int) (i : Int) b res x.f0 x.f1 x.f2) (if v ≥ 0 then 7 else 0) := by
  intro j
  induction j with
  | zero =>
   intro i hi; refine ⟨-1, Ev.succ ?_, Ev.succ ?_⟩; (·simp only [api_Reserve_48.l0]; exact Ev.neg Zq1 (Ev.some _)); (·simp only [arboretref01_Check.l0]; exact Ev.neg Zq1 (Ev.some _))
  | succ j ihj =>
   intro i hi; have hw := step64 (i := i) (n := res.length) Zq1 hr; obtain ⟨r, hq, hq2⟩ := ihj (i + 1) Zq1
   by_cases h0 : (rd_T51 res (i : Int)).f0 = 0
   ·by_cases h1 : (rd_T51 res (i : Int)).f1 = 0
    ·refine ⟨(i : Int), Ev.succ ?_, Ev.succ ?_⟩; (·simp only [api_Reserve_48.l0, hw]; exact Ev.pos Zq1 (Ev.pos (Int.natCast_nonneg i) (Ev.pos Zq1 (Ev.pos (by rw [h0, h1]; rfl) (Ev.some _))))); (·simp only [arboretref01_Check.l0, hw]; rw [if_pos (Int.natCast_nonneg i)]; exact Ev.pos Zq1 (Ev.pos (Int.natCast_nonneg i) (Ev.pos Zq1 (Ev.pos h0 (Ev.pos h1 (Ev.some _))))))
    ·refine ⟨r, Ev.succ ?_, Ev.succ ?_⟩; (·simp only [api_Reserve_48.l0, hw]; exact Ev.pos Zq1 (Ev.pos (Int.natCast_nonneg i) (Ev.pos Zq1 (Ev.neg (by simp only [Bool.and_eq_true, beq_iff_eq]; exact fun h => h1 h.2.symm) hq)))); (·simp only [arboretref01_Check.l0, hw]; exact Ev.pos Zq1 (Ev.pos (Int.natCast_nonneg i) (Ev.pos Zq1 (Ev.pos h0 (Ev.neg h1 hq2)))))
   ·refine ⟨r, Ev.succ ?_, Ev.succ ?_⟩; (·simp only [api_Reserve_48.l0, hw]; exact Ev.pos Zq1 (Ev.pos (Int.natCast_nonneg i) (Ev.pos Zq1 (Ev.neg (by simp only [Bool.and_eq_true, beq_iff_eq]; exact fun h => h0 h.1.symm) hq)))); (·simp only [arboretref01_Check.l0, hw]; exact Ev.pos Zq1 (Ev.pos (Int.natCast_nonneg i) (Ev.pos Zq1 (Ev.neg h0 hq2))))
 obtain ⟨w, hw, hw2⟩ := l0 res.length 0 Zq1
 have j7 : Ev (fun k => arboretref01_Check.j0 k true b res x.f0 x.f1 x.f2) 7 := by
  refine Ev.succ ?_; simp only [arboretref01_Check.j0]; exact Ev.pos trivial (Ev.some _)
 by_cases h0 : v = 0
 ·by_cases h1 : c.1 > 4096
  ·refine ⟨7, ?_, ?_⟩
   ·unfold tree_Check.f
    exact Ev.then hv (Ev.pos h0 (Ev.then hc (Ev.pos h1 (Ev.some _))))
   ·unfold arboretref01_Check.f
    exact Ev.then hv2 (Ev.pos h0 (Ev.then hc2 (Ev.pos h1 j7)))
  by_cases h2 : c.2 > 8192
  ·refine ⟨7, ?_, ?_⟩
   ·unfold tree_Check.f
    exact Ev.then hv (Ev.pos h0 (Ev.then hc (Ev.neg h1 (Ev.pos h2 (Ev.some _)))))
   ·unfold arboretref01_Check.f
    exact Ev.then hv2 (Ev.pos h0 (Ev.then hc2 (Ev.neg h1 (Ev.pos h2 j7))))
  by_cases h3 : (res.length : Int) > 64
  ·refine ⟨7, ?_, ?_⟩
   ·unfold tree_Check.f
    exact Ev.then hv (Ev.pos h0 (Ev.then hc (Ev.neg h1 (Ev.neg h2 (Ev.pos h3 (Ev.some _))))))
   ·unfold arboretref01_Check.f; rw [show decide ((res.length : Int) > 64) = true from decide_eq_true h3]
    exact Ev.then hv2 (Ev.pos h0 (Ev.then hc2 (Ev.neg h1 (Ev.neg h2 j7))))
  ·refine ⟨if w ≥ 0 then 7 else 0, ?_, ?_⟩
   ·unfold tree_Check.f
    refine Ev.then hv (Ev.pos h0 (Ev.then hc (Ev.neg h1 (Ev.neg h2 (Ev.neg h3 ?_)))))
    refine Ev.then (a := decide (w ≥ 0)) ?_ ?_
    ·unfold api_Reserve_29.f api_Reserve_48.f
     exact Ev.then hw (Ev.some _)
    ·by_cases h4 : w ≥ 0
     ·rw [if_pos h4]; exact Ev.pos (decide_eq_true h4) (Ev.some _)
     ·rw [if_neg h4]; exact Ev.neg (by simpa using h4) (Ev.some _)
   ·unfold arboretref01_Check.f; rw [show decide ((res.length : Int) > 64) = false from decide_eq_false h3]
    refine Ev.then hv2 (Ev.pos h0 (Ev.then hc2 (Ev.neg h1 (Ev.neg h2 (Ev.succ ?_)))))
    simp only [arboretref01_Check.j0]; exact Ev.neg (fun h => Bool.noConfusion h) hw2
 ·refine ⟨v, ?_, ?_⟩
  ·unfold tree_Check.f
   exact Ev.then hv (Ev.neg h0 (Ev.some _))
  ·unfold arboretref01_Check.f
   exact Ev.then hv2 (Ev.neg h0 (Ev.some _))
end Go.Proofs.YtkopmkinlanhoaaGreat.PE

namespace Go.Proofs.YtkopmkinlanhoaaGreat.PE
open Go.RowKit Go.Proofs.YtkopmkinlanhoaaGreatW.PrintWords Go.Proofs.YtkopmkinlanhoaaGreatW.PrintLast Go.Proofs.YtkopmkinlanhoaaGreatW.PrintMore
attribute [local go_sem] max2_int min2_int max_two min_two max_three min_three max_four min_four
open Go.Proofs.YtkopmkinlanhoaaGreat.Aid Go.Proofs.YtkopmkinlanhoaaGreat.Rdr
theorem ex_all {α : Type} {P : Nat → α → Prop} (hm : ∀ K K' x, K ≤ K' → P K x → P K' x) : ∀ l : List α, (∀ x ∈ l, ∃ K, P K x) → ∃ K, ∀ x ∈ l, P K x
 | [], _ => ⟨0, fun x hx => by simp at hx⟩
 | y :: r, h => by
  obtain ⟨K1, h1⟩ := h y List.mem_cons_self; obtain ⟨K2, h2⟩ := ex_all hm r (fun x hx => h x (List.mem_cons_of_mem _ hx)); refine ⟨K1 + K2, fun x hx => ?_⟩
  rcases List.mem_cons.mp hx with rfl | hx
  ·exact hm _ _ _ Zq1 h1
  ·exact hm _ _ _ Zq1 (h2 x hx)
theorem nmP.more {K K' : Nat} {x : ByteArray} (h : K ≤ K') (hn : nmP K x) : nmP K' x := ⟨hn.1, fun k hk => hn.2 k Zq1⟩
theorem fmPs.more {K K' : Nat} (h : K ≤ K') : ∀ (ps : List S68) (hs : List ByteArray), fmPs K hs ps → fmPs K' hs ps
 | [], _, _ => trivial
 | p :: r, hs, hf => ⟨nmP.more h hf.1, hf.2.1, hf.2.2.1, hf.2.2.2.1, fmPs.more h r _ hf.2.2.2.2⟩
mutual
theorem fmN.more {K K' : Nat} (h : K ≤ K') : ∀ (x : S27) (d : Int), fmN K x d → fmN K' x d
 | ⟨a, ps, ks⟩, d, hf => by
  rw [fmN] at hf ⊢; exact ⟨hf.1, fun k hk => hf.2.1 k Zq1, fmPs.more h _ _ hf.2.2.1, hf.2.2.2.1, hf.2.2.2.2.1, fmK.more h ks [] _ hf.2.2.2.2.2⟩
theorem fmK.more {K K' : Nat} (h : K ≤ K') : ∀ (ks : List S27) (hs : List ByteArray) (d : Int), fmK K hs ks d → fmK K' hs ks d
 | [], _, _, _ => by rw [fmK]; trivial
 | x :: r, hs, d, hf => by
  rw [fmK] at hf ⊢; exact ⟨hf.1, fmN.more h x d hf.2.1, fmK.more h r _ d hf.2.2⟩
end
theorem knownB_not {hs : List ByteArray} {x : ByteArray} {r : List (List UInt8)} (hn : (hs.map (·.data.toList) ++ x.data.toList :: r).Nodup) : knownB hs x = false := by
 unfold knownB
 refine decide_eq_false fun hm => ?_
 exact (List.nodup_append.mp hn).2.2 _ hm _ List.mem_cons_self rfl
theorem fmPs_of (K : Nat) : ∀ (ps : List S68) (hs : List ByteArray), (∀ p ∈ ps, nmP K p.f0 ∧ p.f1.length < 4294967296 ∧ p.f0.size ≤ 1073741824) → (hs.map (·.data.toList) ++ ps.map (·.f0.data.toList)).Nodup → fmPs K hs ps
 | [], _, _, _ => trivial
 | p :: r, hs, h, hn => by
  obtain ⟨h1, h2, h3⟩ := h p List.mem_cons_self; exact ⟨h1, h2, h3, knownB_not hn, fmPs_of K r (hs ++ [p.f0]) (fun q hq => h q (List.mem_cons_of_mem _ hq)) (by simpa using hn)⟩
theorem fmK_of (K : Nat) (d : Int) : ∀ (ks : List S27) (hs : List ByteArray), (∀ y ∈ ks, fmN K y d) → (hs.map (·.data.toList) ++ ks.map (·.f0.data.toList)).Nodup → fmK K hs ks d
 | [], _, _, _ => by rw [fmK]; trivial
 | x :: r, hs, h, hn => by
  rw [fmK]; exact ⟨knownB_not hn, h x List.mem_cons_self, fmK_of K d r (hs ++ [x.f0]) (fun q hq => h q (List.mem_cons_of_mem _ hq)) (by simpa using hn)⟩
theorem noNul_of (x : ByteArray) (f : Int → Bool) (h0 : f 0 = false) (h : (bytesOf x).all f = true) : noNul x := by
 intro b hb hz; subst hz; have := List.all_eq_true.mp h 0 (by unfold bytesOf; exact List.mem_map.mpr ⟨0, hb, rfl⟩); rw [h0] at this; cases this
theorem noNul_prop (x : ByteArray) (h : propB (bytesOf x) = true) : noNul x := by
 unfold propB at h; rw [Bool.and_eq_true] at h; exact noNul_of x _ Zq2 h.1
theorem noNul_node (s : ByteArray) (h : nodeB s = true) : noNul s := by
 have hr := idx_range 64 (bytesOf s); refine noNul_of s (fun c => plainB c || c == 64) Zq2 ?_; unfold nodeB baseB unitB at h; simp only [Bool.and_eq_true] at h; obtain ⟨⟨⟨h1, _⟩, _⟩, h2⟩ := h
 by_cases hi : idx 64 (bytesOf s) = -1
 ·have e1 : (cutB s).1 = s := by
   unfold cutB; rw [if_pos hi]
  rw [e1] at h1
  refine List.all_eq_true.mpr fun c hc => ?_
  rw [List.all_eq_true.mp h1 c hc]; rfl
 ·obtain ⟨j, hj⟩ : ∃ j : Nat, idx 64 (bytesOf s) = (j : Int) := ⟨(idx 64 (bytesOf s)).toNat, Zq1⟩
  have hsp := idx_split 64 (bytesOf s) j hj
  have e1 : bytesOf (cutB s).1 = (bytesOf s).take j := by
   unfold cutB; rw [if_neg hi, hj, Int.toNat_natCast]; exact bytesOf_upto s j
  have e2 : bytesOf (cutB s).2.1 = (bytesOf s).drop (j + 1) := by
   unfold cutB; rw [if_neg hi, hj, Int.toNat_natCast]; exact bytesOf_from s (j + 1)
  have e3 : (cutB s).2.2 = true := by
   unfold cutB; rw [if_neg hi]
  rw [e3, e2] at h2; rw [e1] at h1; simp only [Bool.not_true, Bool.false_or, Bool.and_eq_true] at h2; rw [hsp]
  refine List.all_eq_true.mpr fun c hc => ?_
  rcases List.mem_append.mp hc with hc | hc
  ·rw [List.all_eq_true.mp h1 c hc]; rfl
  ·rcases List.mem_cons.mp hc with rfl | hc
   ·decide
   ·rw [List.all_eq_true.mp h2.1 c hc]; rfl
theorem kids_all {F : ByteArray → List S68 → List S27 → Option Int} : ∀ (ks : List S27), tree_check.kids F ks = some 0 → ∀ y ∈ ks, F y.f0 y.f1 y.f2 = some 0
 | [], _, y, hy => by simp at hy
 | x :: r, h, y, hy => by
  unfold tree_check.kids at h; obtain ⟨e, he, h⟩ := Option.bind_eq_some_iff.mp h
  by_cases h0 : e = 0
  ·rw [if_pos h0] at h; subst h0
   rcases List.mem_cons.mp hy with rfl | hy
   ·exact he
   ·exact kids_all r h y hy
  ·rw [if_neg h0] at h; exact absurd (Option.some.inj h) h0
theorem nodup_of {xs : List ByteArray} (h : ¬ dupB xs = true) : (xs.map (·.data.toList)).Nodup := Classical.byContradiction fun hn => h ((dupB_iff xs).mpr hn)
theorem fm_of (m : Nat) (hm : m ≤ 1048576) : ∀ (x : S27) (d : Nat), bulk27 x ≤ m → 1 ≤ d → (∃ k, tree_check.f k x.f0 x.f1 x.f2 (d : Int) = some 0) → ∃ K, fmN K x (d : Int) := by
 induction m with
 | zero => intro x d hx; have := bulk_pos x; omega
 | succ m ih =>
  intro x d hx hd1 hc; have hk := bulk_kids x; have hp := bulk_props x; have hnm := bulk_name x; obtain ⟨k, hc⟩ := hc
  cases k with
  | zero => simp [tree_check.f] at hc
  | succ k =>
   rw [tree_check.f] at hc; obtain ⟨e, hn, hc⟩ := Option.bind_eq_some_iff.mp hc
   by_cases he : e = 0
   rotate_left; (·rw [if_neg he] at hc; exact absurd (Option.some.inj hc) he); rw [if_pos he] at hc; subst he; unfold tree_check.node at hn; obtain ⟨lm, h1, hn⟩ := Option.bind_eq_some_iff.mp hn; have hlm : lm = (x.f1.map (·.f0), x.f2.map (·.f0)) := Ev.unique (Ev.of (fun k => tree_names.mono _ _ _ k) h1) (names_ev x.f0 x.f1 x.f2 Zq1 Zq1); subst hlm
   by_cases h16 : (d : Int) > 16
   ·rw [if_pos h16] at hn; simp at hn
   rw [if_neg h16, if_neg Zq1] at hn; obtain ⟨b, hb, hn⟩ := Option.bind_eq_some_iff.mp hn
   by_cases ha : (d : Int) = 1 ∧ x.f0.toList ≠ []
   ·rw [if_pos ha] at hn; simp at hn
   rw [if_neg ha] at hn
   by_cases hb2 : (d : Int) > 1 ∧ b = false
   ·rw [if_pos hb2] at hn; simp at hn
   rw [if_neg hb2] at hn; obtain ⟨i, hi, hn⟩ := Option.bind_eq_some_iff.mp hn
   by_cases hi0 : 0 ≤ i
   ·rw [if_pos hi0] at hn; simp at hn
   rw [if_neg hi0] at hn
   by_cases hl : (x.f1.map (·.f0)).length < 4611686018427387904 ∧ (x.f2.map (·.f0)).length < 4611686018427387904
   rotate_left; (·exact absurd (by simp only [List.length_map]; omega) hl); rw [if_pos hl] at hn
   by_cases d1 : dupB (x.f1.map (·.f0)) = true
   ·rw [if_pos d1] at hn; simp at hn
   rw [if_neg d1] at hn
   by_cases d2 : dupB (x.f2.map (·.f0)) = true
   ·rw [if_pos d2] at hn; simp at hn
   clear hn hl; have n1 := nodup_of d1; have n2 := nodup_of d2; rw [List.map_map] at n1 n2

   have sz : ∀ p ∈ x.f1, p.f0.size ≤ 1048576 ∧ p.f1.length ≤ 1048576 := fun p hp1 => by
    have h1 := bulk_prop hp1; have h2 := bulk_value p; omega
   obtain ⟨v, hv, hvi⟩ := bad_ev (x.f1.map (·.f0)) (fun s hs => by
    obtain ⟨p, hp1, rfl⟩ := List.mem_map.mp hs
    exact (sz p hp1).1) 0
   have hvv : v = i := Ev.unique hv (Ev.of (fun k => badIx.mono k _ _) hi); rw [hvv] at hvi
   have hpr : ∀ s ∈ x.f1.map (·.f0), propB (bytesOf s) = true := Classical.byContradiction fun h => hi0 (hvi.mpr h)
   obtain ⟨K1, hK1⟩ := ex_all (P := fun K (p : S68) => nmP K p.f0 ∧ p.f1.length < 4294967296 ∧ p.f0.size ≤ 1073741824) (fun K K' p h hq => ⟨nmP.more h hq.1, hq.2⟩) x.f1 (fun p hp1 => by
    have h1 := hpr p.f0 (List.mem_map.mpr ⟨p, hp1, rfl⟩); obtain ⟨s1, s2⟩ := sz p hp1; obtain ⟨K, hK⟩ := prop_ev p.f0 Zq1; rw [h1] at hK
    exact ⟨K, ⟨noNul_prop _ h1, hK⟩, Zq1, Zq1⟩)

   have hdd : wrap64 ((d : Int) + 1) = ((d + 1 : Nat) : Int) := by rw [w64 Zq1 Zq1]; omega
   have hks := kids_all x.f2 hc
   obtain ⟨K2, hK2⟩ := ex_all (P := fun K (y : S27) => fmN K y (wrap64 ((d : Int) + 1))) (fun K K' y h hq => fmN.more h y _ hq) x.f2 (fun y hy => by
    have h1 := hks y hy; have h2 := bulk_kid hy; simp only [hdd] at h1 ⊢
    exact ih Zq1 y (d + 1) Zq1 Zq1 ⟨k, h1⟩)

   have hname : noNul x.f0 ∧ ∃ K, ∀ k, K ≤ k → nameOk k x.f0 (d : Int) := by
    have hnd := Ev.of (fun k => name_Node.mono _ k) hb
    by_cases h1 : (d : Int) = 1
    ·have hz : x.f0.toList = [] := Classical.byContradiction fun h => ha ⟨h1, h⟩
     refine ⟨fun b hb => ?_, 0, fun k _ => ⟨Zq1, ?_⟩⟩
     ·rw [ByteArray.toList_eq] at hz; rw [hz] at hb
      simp at hb
     ·rw [if_pos h1, decide_eq_true hz]
    ·have hbt : b = true := by
      cases b with
      | true => rfl
      | false => exact absurd ⟨Zq1, rfl⟩ hb2
     rw [hbt] at hnd; have e : nodeB x.f0 = true := (Ev.unique hnd (node_ev x.f0 (by omega))).symm; obtain ⟨K, hK⟩ := hnd; refine ⟨noNul_node _ e, K, fun k hk => ⟨Zq1, ?_⟩⟩; rw [if_neg h1, if_pos Zq1]; exact hK k hk
   obtain ⟨hnn, K3, hK3⟩ := hname; refine ⟨K1 + K2 + K3, ?_⟩; obtain ⟨a, ps, ks⟩ := x; rw [fmN]; exact ⟨hnn, fun k hk => hK3 k Zq1, fmPs_of _ ps [] (fun p hp1 => ⟨nmP.more Zq1 (hK1 p hp1).1, (hK1 p hp1).2⟩) (by rw [List.map_nil, List.nil_append]; exact n1), by simp only at hp; omega, by simp only at hk; omega, fmK_of _ _ ks [] (fun y hy => fmN.more Zq1 y _ (hK2 y hy)) (by rw [List.map_nil, List.nil_append]; exact n2)⟩
open Go.Proofs.YtkopmkinlanhoaaGreat.Aid Go.Proofs.YtkopmkinlanhoaaGreat.Rdr
theorem padW_le (l : List Int) : (padW l).length ≤ 3 := by
 have := padW_length l; omega
theorem totW_text_le (x : ByteArray) (s : WSt) : totW (wText x s) ≤ totW s + x.size + 2 := by
 simp only [totW, wText, textT, textH]
 split
 ·omega
 ·simp [bytesOf_length]
  omega
theorem totW_prop_le (p : S68) (s : WSt) : totW (wProp p s) ≤ totW s + p.f1.length + p.f0.size + 17 := by
 have h6 := totW_text_le p.f0 (wCell ((p.f1.length : Int) % 4294967296) (wCell 3 s)); have h7 := padW_le p.f1; simp only [wProp, totW_bytes, totW_cell] at h6 ⊢; omega
theorem totW_open_le (a : ByteArray) (s : WSt) : totW (wOpen a s) ≤ totW s + a.size + 8 := by
 have h7 := padW_le (bytesOf a ++ [0])
 have h8 : (bytesOf a ++ [0]).length = a.size + 1 := by rw [List.length_append, bytesOf_length]; rfl
 simp only [wOpen, totW_bytes, totW_cell]; omega
theorem totW_props_le : ∀ (ps : List S68) (s : WSt), totW (ps.foldl (fun s p => wProp p s) s) ≤ totW s + 8 * sumB bulk68 ps
 | [], s => by simp [sumB]
 | p :: r, s => by
  have h1 := totW_prop_le p s; have h2 := totW_props_le r (wProp p s); have h3 := bulk_value p; rw [List.foldl_cons]; simp only [sumB]; omega
mutual
theorem totW_twN_le : ∀ (x : S27) (s : WSt), totW (twN x s) ≤ totW s + 8 * bulk27 x
 | ⟨a, ps, ks⟩, s => by
  have h1 := totW_open_le a s; have h2 := totW_props_le ps (wOpen a s); have h3 := totW_twK_le ks (ps.foldl (fun s p => wProp p s) (wOpen a s)); have h4 := bulk_eq ⟨a, ps, ks⟩; simp only at h4; rw [twN, totW_cell]; omega
theorem totW_twK_le : ∀ (ks : List S27) (s : WSt), totW (twK ks s) ≤ totW s + 8 * sumB bulk27 ks
 | [], s => by rw [twK]; omega
 | x :: r, s => by
  have h1 := totW_twN_le x s; have h2 := totW_twK_le r (twN x s); rw [twK]; simp only [sumB]; omega
end
mutual
theorem okN_of : ∀ (x : S27), bulk27 x ≤ 1048576 → okN x
 | ⟨a, ps, ks⟩, h => by
  have h4 := bulk_eq ⟨a, ps, ks⟩; have h5 := bulk_props ⟨a, ps, ks⟩; have h6 := bulk_kids ⟨a, ps, ks⟩; simp only at h4 h5 h6; rw [okN]; refine ⟨fun p hp => ?_, Zq1, Zq1, okK_of ks Zq1⟩; have h7 := sumB_mem (B := bulk68) hp; have h8 := bulk_value p; omega
theorem okK_of : ∀ (ks : List S27), sumB bulk27 ks ≤ 1048576 → okK ks
 | [], _ => by rw [okK]; trivial
 | x :: r, h => by
  simp only [sumB] at h; rw [okK]; exact ⟨okN_of x Zq1, okK_of r Zq1⟩
end
open Go.Proofs.YtkopmkinlanhoaaGreat.Aid Go.Proofs.YtkopmkinlanhoaaGreat.Rdr
theorem numb_eight (a b c d e f g h : Int) (ha : 0 ≤ a ∧ a ≤ 255) (hb : 0 ≤ b ∧ b ≤ 255) (hc : 0 ≤ c ∧ c ≤ 255) (hd : 0 ≤ d ∧ d ≤ 255) (he : 0 ≤ e ∧ e ≤ 255) (hf : 0 ≤ f ∧ f ≤ 255) (hg : 0 ≤ g ∧ g ≤ 255) (hh : 0 ≤ h ∧ h ≤ 255) :
  numb [a, b, c, d, e, f, g, h] = (a * 16777216 + b * 65536 + c * 256 + d) * 4294967296 + (e * 16777216 + f * 65536 + g * 256 + h) := by
 unfold numb; simp only [List.foldl_cons, List.foldl_nil]; rw [or_byte (x := 0) Zq1 Zq1 ha.1 ha.2]; rw [or_byte Zq1 Zq1 hb.1 hb.2, or_byte Zq1 Zq1 hc.1 hc.2, or_byte Zq1 Zq1 hd.1 hd.2]; rw [or_byte Zq1 Zq1 he.1 he.2, or_byte Zq1 Zq1 hf.1 hf.2, or_byte Zq1 Zq1 hg.1 hg.2, or_byte Zq1 Zq1 hh.1 hh.2]; omega
theorem cell8_length (v : Int) : (cell8 v).length = 8 := rfl
theorem numb_cell8 (v : Int) (h0 : 0 ≤ v) (h1 : v < 18446744073709551616) : numb (cell8 v) = v := by
 show numb [v / 4294967296 / 16777216 % 256, v / 4294967296 / 65536 % 256, v / 4294967296 / 256 % 256, v / 4294967296 % 256, v / 16777216 % 256, v / 65536 % 256, v / 256 % 256, v % 256] = v
 obtain ⟨w, hw⟩ : ∃ w, w = v / 4294967296 := ⟨_, rfl⟩
 rw [← hw]; rw [numb_eight _ _ _ _ _ _ _ _ Zq1 Zq1 Zq1 Zq1 Zq1 Zq1 Zq1 Zq1]; omega
theorem get64_mid (p q : List Int) (v : Int) (h0 : 0 ≤ v) (h1 : v < 18446744073709551616) : words_Get64.f (p ++ cell8 v ++ q) (p.length : Int) = some (v, true) := by
 unfold words_Get64.f; rw [if_pos ⟨Int.natCast_nonneg _, by simp only [List.length_append, cell8_length]; omega⟩]
 have e : (((p ++ cell8 v ++ q).take ((p.length : Int) + 8).toNat).drop (p.length : Int).toNat) = cell8 v := by
  have e1 : ((p.length : Int) + 8).toNat = (p ++ cell8 v).length := by rw [List.length_append, cell8_length]; omega
  rw [e1, List.take_left, Int.toNat_natCast, List.drop_left]
 rw [e, numb_cell8 v h0 h1]
def resOk (r : S51) : Prop := 0 ≤ r.f0 ∧ r.f0 < 18446744073709551616 ∧ 0 ≤ r.f1 ∧ r.f1 < 18446744073709551616
theorem resB_cons (r : S51) (l : List S51) : resB (r :: l) = cell8 r.f0 ++ cell8 r.f1 ++ resB l := rfl
theorem res_two (P Q : List Int) (r : S51) (hr : resOk r) (hP : P.length ≤ 1099511627776) : words_Get64.f (P ++ (cell8 r.f0 ++ cell8 r.f1) ++ Q) (P.length : Int) = some (r.f0, true) ∧ words_Get64.f (P ++ (cell8 r.f0 ++ cell8 r.f1) ++ Q) (wrap64 ((P.length : Int) + 8)) = some (r.f1, true) := by
 obtain ⟨h0, h1, h2, h3⟩ := hr; have a1 := get64_mid P (cell8 r.f1 ++ Q) r.f0 h0 h1; have a2 := get64_mid (P ++ cell8 r.f0) Q r.f1 h2 h3
 have e1 : P ++ cell8 r.f0 ++ (cell8 r.f1 ++ Q) = P ++ (cell8 r.f0 ++ cell8 r.f1) ++ Q := by simp only [List.append_assoc]
 have e2 : P ++ cell8 r.f0 ++ cell8 r.f1 ++ Q = P ++ (cell8 r.f0 ++ cell8 r.f1) ++ Q := by simp only [List.append_assoc]
 have l2 : ((P ++ cell8 r.f0).length : Int) = (P.length : Int) + 8 := by rw [List.length_append, cell8_length]; omega
 rw [e1] at a1; rw [e2, l2] at a2; rw [wrap64_id _ Zq1 Zq1]; exact ⟨a1, a2⟩
theorem res_read (Q : List Int) : ∀ (l pre : List S51) (P : List Int), (∀ r ∈ l, resOk r ∧ ¬ (r.f0 = 0 ∧ r.f1 = 0)) → pre.length + l.length ≤ 64 → P.length + 16 * l.length ≤ 1099511627776 → ∃ k0, ∀ k, k0 ≤ k → decode_reserves.l0 k (P ++ resB (l ++ [⟨0, 0⟩]) ++ Q) (P.length : Int) pre = some (pre ++ l, 0)
 | [], pre, P, _, hl, hP => ⟨2, fun k hk => by
  obtain ⟨k1, rfl⟩ : ∃ k1, k = k1 + 2 := ⟨k - 2, Zq1⟩
  obtain ⟨a1, a2⟩ := res_two P Q ⟨0, 0⟩ ⟨Zq2, Zq2, Zq2, Zq2⟩ (by simp at hP; omega)
  have e : resB ([] ++ [(⟨0, 0⟩ : S51)]) = cell8 0 ++ cell8 0 := by rw [List.nil_append, resB_cons]; simp [resB]
  rw [e]; simp only at a1 a2
  have hl2 : ¬ (pre.length : Int) > 64 := by simp at hl; omega
  rw [decode_reserves.l0, a1, Option.bind_some, a2, Option.bind_some]; simp only [if_true]; rw [decode_reserves.j1]; simp only [BEq.rfl, if_true]; rw [if_neg hl2, List.append_nil]⟩
 | r :: l, pre, P, hr, hl, hP => by
  obtain ⟨h1, h2⟩ := hr r List.mem_cons_self; obtain ⟨k0, ih⟩ := res_read Q l (pre ++ [r]) (P ++ (cell8 r.f0 ++ cell8 r.f1)) (fun x hx => hr x (List.mem_cons_of_mem _ hx)) (by simp at hl ⊢; omega) (by simp [cell8_length] at hP ⊢; omega); refine ⟨k0 + 2, fun k hk => ?_⟩
  obtain ⟨k1, rfl⟩ : ∃ k1, k = k1 + 2 := ⟨k - 2, Zq1⟩
  obtain ⟨a1, a2⟩ := res_two P (resB (l ++ [⟨0, 0⟩]) ++ Q) r h1 Zq1
  have e1 : P ++ (cell8 r.f0 ++ cell8 r.f1) ++ (resB (l ++ [⟨0, 0⟩]) ++ Q) = P ++ resB (r :: l ++ [⟨0, 0⟩]) ++ Q := by
   rw [List.cons_append, resB_cons]; simp only [List.append_assoc]
  have e2 : P ++ (cell8 r.f0 ++ cell8 r.f1) ++ resB (l ++ [⟨0, 0⟩]) ++ Q = P ++ resB (r :: l ++ [⟨0, 0⟩]) ++ Q := by
   rw [← e1]; simp only [List.append_assoc]
  have l2 : (((P ++ (cell8 r.f0 ++ cell8 r.f1)).length : Nat) : Int) = (P.length : Int) + 16 := by simp only [List.length_append, cell8_length]; omega
  have ih := ih k1 Zq1; rw [e1] at a1 a2; rw [e2, l2] at ih
  have hlp : pre.length < 8796093022208 := by omega
  have hw : wrap64 ((P.length : Int) + 16) = (P.length : Int) + 16 := wrap64_id _ Zq1 Zq1
  have hj : decode_reserves.j1 (k1 + 1) (P ++ resB (r :: l ++ [⟨0, 0⟩]) ++ Q) (P.length : Int) pre r.f0 r.f1 false = some (pre ++ r :: l, 0) := by
   rw [decode_reserves.j1, if_neg Bool.false_ne_true, if_pos hlp, hw]; have : (⟨r.f0, r.f1⟩ : S51) = r := rfl; rw [this, ih]
   simp
  rw [decode_reserves.l0, a1, Option.bind_some, a2, Option.bind_some]; simp only [if_true]
  by_cases c : r.f0 = 0
  ·have c2 : (r.f1 == 0) = false := beq_eq_false_iff_ne.mpr (fun h => h2 ⟨c, h⟩); rw [if_pos c, c2]; exact hj
  ·rw [if_neg c]; exact hj
theorem inB_of {a s n : Int} (ha : 40 ≤ a) (hs : 0 ≤ s) (h : a + s ≤ n) (hn : n ≤ 1048576) : inB a s n = true := by
 unfold inB; rw [if_pos ha, u64_small (x := a) Zq1 Zq1, u64_small (x := s) Zq1 Zq1, u64_small (x := n) Zq1 Zq1, u64_small (x := a + s) Zq1 Zq1]; exact decide_eq_true h
theorem partB_mid (A B C : List Int) : partB (A ++ (B ++ C)) (A.length : Int) (B.length : Int) = B := by
 unfold partB
 have e1 : ((A.length : Int) + (B.length : Int)).toNat = (A ++ B).length := by rw [List.length_append]; omega
 rw [e1, Int.toNat_natCast, ← List.append_assoc, List.take_left, List.drop_left]
theorem blob_read (a0 : Int) (ha : 0 ≤ a0 ∧ a0 < 4294967296) (l1 : List S51) (hr : ∀ r ∈ l1, resOk r ∧ ¬ (r.f0 = 0 ∧ r.f1 = 0)) (hl : l1.length ≤ 64) (x : S27) (K : Nat) (hf : fmN K x 1) (c : Int × Int)
  (hc : Ev (fun k => tree_Count.f k x.f0 x.f1 x.f2) c) (h1 : ¬ c.1 > 4096) (h2 : ¬ c.2 > 8192) (T : List Int) (hT : encF a0 l1 (wCell 9 (twN x ([], [], []))) = (T, 0)) : Ev (fun k => decode_Decode.f k T) (⟨a0, l1, x⟩, 0) ∧ T.length ≤ 1048576 := by
 obtain ⟨S, hS⟩ : ∃ S, S = twN x ([], [], []) := ⟨_, rfl⟩
 obtain ⟨Q, hQ⟩ := twN_begin x ([], [], []) Kn.nil; rw [← hS] at hT hQ; have e1 : (wCell 9 S).1 = S.1 ++ cellB 9 := rfl; have e2 : (wCell 9 S).2.1 = S.2.1 := rfl
 have lr : (resB (l1 ++ [(⟨0, 0⟩ : S51)])).length = 16 * (l1.length + 1) := by rw [resB_length, List.length_append]; rfl
 unfold encF at hT
 by_cases cc : 40 + (resB (l1 ++ [(⟨0, 0⟩ : S51)])).length + (wCell 9 S).1.length + (wCell 9 S).2.1.length > 1048576
 ·rw [if_pos cc] at hT
  simp at hT
 rw [if_neg cc] at hT; have hT := (Prod.mk.inj hT).1
 have hsl : (wCell 9 S).1.length = S.1.length + 4 := by rw [e1, List.length_append, cellB_length]
 obtain ⟨R, hR⟩ : ∃ R, R = resB (l1 ++ [(⟨0, 0⟩ : S51)]) := ⟨_, rfl⟩
 obtain ⟨S1, hS1⟩ : ∃ S1, S1 = (wCell 9 S).1 := ⟨_, rfl⟩
 obtain ⟨S2, hS2⟩ : ∃ S2, S2 = (wCell 9 S).2.1 := ⟨_, rfl⟩
 rw [← hR, ← hS1, ← hS2] at hT cc; rw [← hR] at lr; rw [← hS1] at hsl e1; rw [← hS2] at e2
 obtain ⟨h, hh⟩ : ∃ h : Hdr, h = ⟨3490578157, (40 + R.length + S1.length + S2.length : Nat), (40 + R.length : Nat), (40 + R.length + S1.length : Nat), 40, 17, 16, a0, (S2.length : Nat), (S1.length : Nat)⟩ := ⟨_, rfl⟩
 have hcells : headV (40 + R.length + S1.length + S2.length : Nat) (40 + R.length : Nat) (40 + R.length + S1.length : Nat) a0 (S2.length : Nat) (S1.length : Nat) = h.cells := by rw [hh]; rfl
 have hg : h.good := by
  intro v hv; rw [hh] at hv; simp only [Hdr.cells, List.mem_cons, List.not_mem_nil, or_false] at hv
  rcases hv with rfl | rfl | rfl | rfl | rfl | rfl | rfl | rfl | rfl | rfl <;> first | exact ha | omega
 rw [hcells, headB_hbytes h hg] at hT; have hH := hbytes_length h 10 Zq2
 have hTl : T.length = 40 + R.length + S1.length + S2.length := by
  rw [← hT]; simp only [List.length_append, hH]; omega
 have k0 : h.c0 = 3490578157 := by rw [hh]
 have k1 : h.c1 = ((40 + R.length + S1.length + S2.length : Nat) : Int) := by rw [hh]
 have k2 : h.c2 = ((40 + R.length : Nat) : Int) := by rw [hh]
 have k3 : h.c3 = ((40 + R.length + S1.length : Nat) : Int) := by rw [hh]
 have k4 : h.c4 = 40 := by rw [hh]
 have k5 : h.c5 = 17 := by rw [hh]
 have k6 : h.c6 = 16 := by rw [hh]
 have k7 : h.c7 = a0 := by rw [hh]
 have k8 : h.c8 = ((S2.length : Nat) : Int) := by rw [hh]
 have k9 : h.c9 = ((S1.length : Nat) : Int) := by rw [hh]
 clear hh hcells
 have hdr : decode_Header.f T = some (h, 0) := by
  have e : hdrOf T = h := by rw [← hT]; exact hdr_of h hg _
  have z : hdrErr h (T.length : Int) = 0 := by
   unfold hdrErr; rw [if_pos k0, if_pos k5, if_pos k6, if_pos (by rw [k1, hTl]), if_pos (inB_of Zq1 Zq1 Zq1 Zq1), if_pos (inB_of Zq1 Zq1 Zq1 Zq1), if_pos (inB_of Zq1 Zq1 Zq1 Zq1), if_pos Zq1, if_pos Zq1]
  unfold decode_Header.f; rw [if_neg Zq1, if_neg Zq1, e, if_pos z]
 have hres : Ev (fun k => decode_reserves.f k T h.c4) (l1, 0) := by
  obtain ⟨k0, hk⟩ := res_read (S1 ++ S2) l1 [] (hbytes h 10) hr (by simpa using hl) Zq1; refine ⟨k0, fun k hk2 => ?_⟩; have := hk k hk2; rw [← hR, List.append_assoc, hT, hH, List.nil_append] at this; unfold decode_reserves.f; rw [k4]; exact this
 have p1 : partB T h.c2 h.c9 = S1 := by
  rw [k2, k9, ← hT, ← List.append_assoc]
  have : 40 + R.length = (hbytes h 10 ++ R).length := by rw [List.length_append, hH]
  rw [this]; exact partB_mid _ _ _
 have p2 : partB T h.c3 h.c8 = S2 := by
  rw [k3, k8, ← hT, ← List.append_assoc, ← List.append_assoc]
  have : 40 + R.length + S1.length = (hbytes h 10 ++ R ++ S1).length := by rw [List.length_append, List.length_append, hH]
  rw [this]; have := partB_mid (hbytes h 10 ++ R ++ S1) S2 []; rw [List.append_nil] at this; exact this
 have t1 : Ev (fun k => tokF k (partB T h.c2 h.c9) 0) (1, true, 4) := ⟨1, fun k hk => by
  obtain ⟨k1, rfl⟩ : ∃ k1, k = k1 + 1 := ⟨k - 1, Zq1⟩
  have := tok_read k1 [] (Q ++ cellB 9) 1 Zq7; rw [← List.append_assoc, ← hQ, ← e1] at this; rw [p1]
  exact this⟩
 obtain ⟨kn, hn⟩ := node_read K x 1 ([], [], []) (cellB 9) [] [] hf Kn.nil rfl Zq2 (by rw [← hS]; omega) (by rw [← hS, ← e2]; omega); rw [← hS, ← e1, List.append_nil, ← e2] at hn
 have t2 : Ev (fun k => nodeF k (partB T h.c2 h.c9) (partB T h.c3 h.c8) 4 [] 1) (x, 0, (S.1.length : Int)) := ⟨kn, fun k hk => by
  rw [p1, p2]
  exact hn k hk⟩
 have t3 : Ev (fun k => tokF k (partB T h.c2 h.c9) (S.1.length : Int)) (9, true, (S.1.length : Int) + 4) := ⟨1, fun k hk => by
  obtain ⟨k1, rfl⟩ : ∃ k1, k = k1 + 1 := ⟨k - 1, Zq1⟩
  have := tok_read k1 S.1 [] 9 Zq7; rw [List.append_nil, ← e1] at this; rw [p1]
  exact this⟩
 have t4 : (S.1.length : Int) + 4 = ((partB T h.c2 h.c9).length : Int) := by rw [p1]; omega
 refine ⟨?_, Zq1⟩; rw [← k7]; unfold decode_Decode.f
 exact Ev.then (Ev.fix hdr) (Ev.pos rfl (Ev.then hres (Ev.pos rfl (Ev.then t1 (Ev.pos rfl (Ev.pos rfl (Ev.then t2 (Ev.pos rfl (Ev.then t3 (Ev.pos rfl (Ev.pos rfl (Ev.pos t4 (Ev.then hc (Ev.neg h1 (Ev.neg h2 (Ev.some _))))))))))))))))
end Go.Proofs.YtkopmkinlanhoaaGreat.PE

namespace Go.Proofs.YtkopmkinlanhoaaGreat.PE
end Go.Proofs.YtkopmkinlanhoaaGreat.PE

namespace Go.Proofs.YtkopmkinlanhoaaGreat.PE
open Go.RowKit Go.Proofs.YtkopmkinlanhoaaGreatW.PrintWords Go.Proofs.YtkopmkinlanhoaaGreatW.PrintLast Go.Proofs.YtkopmkinlanhoaaGreatW.PrintMore
attribute [local go_sem] max2_int min2_int max_two min_two max_three min_three max_four min_four
open Go.Proofs.YtkopmkinlanhoaaGreat.Aid Go.Proofs.YtkopmkinlanhoaaGreat.Rdr
theorem most_ev (m : Nat) (hm : m ≤ 1048576) : ∀ (x : S27) (acc : Int), bulk27 x ≤ m → 0 ≤ acc → acc ≤ 1048576 → ∃ v b, Ev (fun k => encode_most.f k x.f0 x.f1 x.f2 acc) (v, b) ∧ acc ≤ v ∧ v ≤ acc + bulk27 x ∧ (acc + bulk27 x ≤ 1048576 → b = false) ∧ (b = false → v ≤ 1048576) := by
 induction m with
 | zero => intro x acc hx; have := bulk_pos x; omega
 | succ m ih =>
  intro x acc hx h0 h1; have hk := bulk_kids x; have hp := bulk_props x; have hb := bulk_eq x
  have kids : ∀ (j i : Nat) (acc : Int), 0 ≤ acc → acc ≤ 1048576 → i + j = x.f2.length → ∃ v b, Ev (fun k => encode_most.l1 k acc x.f2 (x.f2.length : Int) (i : Int)) (v, b) ∧ acc ≤ v ∧ v ≤ acc + sumB bulk27 (x.f2.drop i) ∧ (acc + sumB bulk27 (x.f2.drop i) ≤ 1048576 → b = false) ∧ (b = false → v ≤ 1048576) := by
   intro j
   induction j with
   | zero =>
    intro i acc h0 h1 hi; refine ⟨acc, false, Ev.succ ?_, Zq1, Zq1, fun _ => rfl, fun _ => h1⟩; simp only [encode_most.l1]; exact Ev.neg Zq1 (Ev.some _)
   | succ j ihj =>
    intro i acc h0 h1 hi; have hw := step64 (i := i) (n := x.f2.length) Zq1 Zq1; have hmem := getN (xs := x.f2) (i := i) Zq1; have hbk := bulk_kid hmem; obtain ⟨v, b, hv, v1, v2, v3, v4⟩ := ih Zq1 (x.f2.getD i z27) acc Zq1 h0 h1; have hd := drop_at (l := x.f2) (d := z27) (i := i) Zq1
    have hs : sumB bulk27 (x.f2.drop i) = bulk27 (x.f2.getD i z27) + sumB bulk27 (x.f2.drop (i + 1)) := by rw [hd]; rfl
    cases b with
    | true =>
     refine ⟨v, true, Ev.succ ?_, v1, Zq1, fun h => v3 Zq1, fun h => by cases h⟩; simp only [encode_most.l1, rdN]; exact Ev.pos Zq1 (Ev.pos (Int.natCast_nonneg i) (Ev.pos Zq1 (Ev.then hv (Ev.pos rfl (Ev.some _)))))
    | false =>
     have v5 := v4 rfl; obtain ⟨u, c, hu, u1, u2, u3, u4⟩ := ihj (i + 1) v Zq1 v5 Zq1; refine ⟨u, c, Ev.succ ?_, Zq1, Zq1, fun h => u3 Zq1, u4⟩; simp only [encode_most.l1, rdN, hw]; exact Ev.pos Zq1 (Ev.pos (Int.natCast_nonneg i) (Ev.pos Zq1 (Ev.then hv (Ev.neg Bool.false_ne_true hu))))
  have props : ∀ (j i : Nat) (acc : Int), 0 ≤ acc → acc ≤ 1048576 → i + j = x.f1.length → ∃ v b, Ev (fun k => encode_most.l0 k acc x.f1 (x.f1.length : Int) (i : Int) x.f0 x.f1 x.f2) (v, b) ∧ acc ≤ v ∧ v ≤ acc + sumB bulk68 (x.f1.drop i) + sumB bulk27 x.f2 ∧ (acc + sumB bulk68 (x.f1.drop i) + sumB bulk27 x.f2 ≤ 1048576 → b = false) ∧ (b = false → v ≤ 1048576) := by
   intro j
   induction j with
   | zero =>
    intro i acc h0 h1 hi; obtain ⟨v, b, hv, v1, v2, v3, v4⟩ := kids x.f2.length 0 acc h0 h1 Zq1; rw [List.drop_zero] at v2 v3; refine ⟨v, b, Ev.succ ?_, v1, Zq1, fun h => v3 Zq1, v4⟩; simp only [encode_most.l0]; exact Ev.neg Zq1 hv
   | succ j ihj =>
    intro i acc h0 h1 hi; have hw := step64 (i := i) (n := x.f1.length) Zq1 Zq1; have hmem := getP (xs := x.f1) (i := i) Zq1; have hbp := bulk_prop hmem; have hbv := bulk_value (x.f1.getD i z68); have hd := drop_at (l := x.f1) (d := z68) (i := i) Zq1
    have hs : sumB bulk68 (x.f1.drop i) = bulk68 (x.f1.getD i z68) + sumB bulk68 (x.f1.drop (i + 1)) := by rw [hd]; rfl
    have hwa : wrap64 (acc + ((x.f1.getD i z68).f1.length : Int)) = acc + ((x.f1.getD i z68).f1.length : Int) := wrap64_id _ Zq1 Zq1
    by_cases c : acc + ((x.f1.getD i z68).f1.length : Int) > 1048576
    ·refine ⟨acc + ((x.f1.getD i z68).f1.length : Int), true, Ev.succ ?_, Zq1, Zq1, fun h => by omega, fun h => by cases h⟩; simp only [encode_most.l0, rdP, hwa]; exact Ev.pos Zq1 (Ev.pos (Int.natCast_nonneg i) (Ev.pos Zq1 (Ev.pos c (Ev.some _))))
    ·obtain ⟨u, b, hu, u1, u2, u3, u4⟩ := ihj (i + 1) (acc + ((x.f1.getD i z68).f1.length : Int)) Zq1 Zq1 Zq1; refine ⟨u, b, Ev.succ ?_, Zq1, Zq1, fun h => u3 Zq1, u4⟩; simp only [encode_most.l0, rdP, hwa, hw]; exact Ev.pos Zq1 (Ev.pos (Int.natCast_nonneg i) (Ev.pos Zq1 (Ev.neg c hu)))
  obtain ⟨v, b, hv, v1, v2, v3, v4⟩ := props x.f1.length 0 acc h0 h1 Zq1; rw [List.drop_zero] at v2 v3; refine ⟨v, b, Ev.succ ?_, v1, Zq1, fun h => v3 Zq1, v4⟩; simp only [encode_most.f]; exact hv
theorem res_none (l : List S51) (hl : l.length ≤ 1048576) : ∀ (n i k : Nat) (v : Int), i + n = l.length → api_Reserve_48.l0 k l (l.length : Int) (i : Int) 0 0 = some v → v < 0 → ∀ j, i ≤ j → j < l.length → ¬ ((l.getD j z51).f0 = 0 ∧ (l.getD j z51).f1 = 0)
 | 0, i, k, v, hi, h, hv, j, h1, h2 => by omega
 | n + 1, i, 0, v, hi, h, hv, j, h1, h2 => by simp [api_Reserve_48.l0] at h
 | n + 1, i, k + 1, v, hi, h, hv, j, h1, h2 => by
  have hw := step64 (i := i) (n := l.length) Zq1 hl
  have hr : rd_T51 l (i : Int) = l.getD i z51 := by simp [rd_T51]
  rw [api_Reserve_48.l0, if_pos Zq1, if_pos (Int.natCast_nonneg i), if_pos Zq1, hr, hw] at h
  by_cases c : ((0 : Int) == (l.getD i z51).f0 && ((0 : Int) == (l.getD i z51).f1)) = true
  ·rw [if_pos c] at h; have := Option.some.inj h; omega
  ·rw [if_neg c] at h
   by_cases e : j = i
   ·subst e; rintro ⟨c1, c2⟩; exact c (by rw [c1, c2]; rfl)
   ·exact res_none l hl n (i + 1) k v Zq1 h hv j Zq1 h2
theorem check_inv (k : Nat) (a0 : Int) (l1 : List S51) (x : S27) (hx : bulk27 x ≤ 1048576) (hl : l1.length ≤ 1048576) (h : tree_Check.f k a0 l1 x.f0 x.f1 x.f2 = some 0) :
  (∃ K, fmN K x 1) ∧ (∃ c, Ev (fun k => tree_Count.f k x.f0 x.f1 x.f2) c ∧ ¬ c.1 > 4096 ∧ ¬ c.2 > 8192) ∧ l1.length ≤ 64 ∧ ∀ r ∈ l1, ¬ (r.f0 = 0 ∧ r.f1 = 0) := by
 unfold tree_Check.f at h; obtain ⟨e, he, h⟩ := Option.bind_eq_some_iff.mp h
 by_cases c0 : e = 0
 rotate_left; (·rw [if_neg c0] at h; exact absurd (Option.some.inj h) c0); rw [if_pos c0] at h; subst c0; obtain ⟨c, hc, h⟩ := Option.bind_eq_some_iff.mp h
 by_cases c1 : c.1 > 4096
 ·rw [if_pos c1] at h; simp at h
 rw [if_neg c1] at h
 by_cases c2 : c.2 > 8192
 ·rw [if_pos c2] at h; simp at h
 rw [if_neg c2] at h
 by_cases c3 : (l1.length : Int) > 64
 ·rw [if_pos c3] at h; simp at h
 rw [if_neg c3] at h; obtain ⟨b, hb, h⟩ := Option.bind_eq_some_iff.mp h
 by_cases c4 : b = true
 ·rw [if_pos c4] at h; simp at h
 unfold api_Reserve_29.f api_Reserve_48.f at hb; obtain ⟨v, hv, hb⟩ := Option.bind_eq_some_iff.mp hb
 have hv0 : v < 0 := by
  have : decide (v ≥ 0) = b := Option.some.inj hb
  have h2 : ¬ v ≥ 0 := fun hh => c4 (by rw [← this]; exact decide_eq_true hh)
  omega
 refine ⟨fm_of 1048576 Zq1 x 1 hx Zq1 ⟨k, he⟩, ⟨c, Ev.of (fun k => tree_Count.mono _ _ _ k) hc, c1, c2⟩, Zq1, fun r hr => ?_⟩; obtain ⟨j, hj, rfl⟩ := List.getElem_of_mem hr; have := res_none l1 hl l1.length 0 k v Zq1 hv hv0 j Zq1 hj
 rwa [getD_at hj] at this
theorem enc_ev (a0 : Int) (l1 : List S51) (x : S27) (hx : bulk27 x ≤ 1048576) (v : Int) (hv : Ev (fun k => tree_Check.f k a0 l1 x.f0 x.f1 x.f2) v) (hl : v = 0 → l1.length ≤ 64) :
  ∃ r e, Ev (fun k => encode_Encode.f k a0 l1 x.f0 x.f1 x.f2) (r, e) ∧ ((e ≠ 0 ∧ r = []) ∨ (e = 0 ∧ v = 0 ∧ encF a0 l1 (wCell 9 (twN x ([], [], []))) = (r, 0))) := by
 by_cases h0 : v = 0
 rotate_left
 ·refine ⟨[], v, ?_, .inl ⟨h0, rfl⟩⟩; unfold encode_Encode.f
  exact Ev.then hv (Ev.neg h0 (Ev.some _))
 subst h0; obtain ⟨m, b, hm, m1, m2, m3, m4⟩ := most_ev 1048576 Zq1 x 0 hx Zq1 Zq1
 cases b with
 | true =>
  refine ⟨[], 7, ?_, .inl ⟨Zq2, rfl⟩⟩; unfold encode_Encode.f
  exact Ev.then hv (Ev.pos rfl (Ev.then hm (Ev.pos rfl (Ev.some _))))
 | false =>
  have ht := totW_twN_le x ([], [], []); have ht0 : totW ([], [], []) = 0 := rfl; have hw := wr_ev x (okN_of x hx) ([], [], []) Zq1
  have hcap : capW (wCell 9 (twN x ([], [], []))) = some (wCell 9 (twN x ([], [], []))) := by
   unfold capW; rw [if_pos]; rw [totW_cell]; omega
  have hx3 : (⟨x.f0, x.f1, x.f2⟩ : S27) = x := by cases x; rfl
  have main : Ev (fun k => encode_Encode.f k a0 l1 x.f0 x.f1 x.f2) (encF a0 l1 (wCell 9 (twN x ([], [], [])))) := by
   unfold encode_Encode.f; rw [hx3]
   exact Ev.then hv (Ev.pos rfl (Ev.then hm (Ev.neg Bool.false_ne_true (Ev.then (a := twN x ([], [], [])) hw (Ev.then (Ev.fix hcap) (Ev.pos (hl rfl) (Ev.some _)))))))
  generalize wCell 9 (twN x ([], [], [])) = s at main ⊢
  rcases encF_len a0 l1 s with ⟨_, hE⟩ | ⟨_, X, hE, _⟩
  ·exact ⟨[], 7, by rw [hE] at main; exact main, .inl ⟨Zq2, rfl⟩⟩
  ·exact ⟨X, 0, by rw [hE] at main; exact main, .inr ⟨rfl, rfl, hE⟩⟩
theorem back_ev (a0 : Int) (ha : 0 ≤ a0 ∧ a0 < 4294967296) (l1 : List S51) (hr : ∀ r ∈ l1, resOk r) (x : S27) (hx : bulk27 x ≤ 1048576) (hl : l1.length ≤ 1048576) :
  ∃ r e, Ev (fun k => encode_Encode.f k a0 l1 x.f0 x.f1 x.f2) (r, e) ∧ ((e ≠ 0 ∧ r = []) ∨ (e = 0 ∧ r.length ≤ 1048576 ∧ Ev (fun k => decode_Decode.f k r) (⟨a0, l1, x⟩, 0))) := by
 obtain ⟨v, hv, _⟩ := both_check a0 l1 x hx hl
 have inv := fun (h : v = 0) => (by
  obtain ⟨k, hk⟩ := hv.rounds
  exact check_inv k a0 l1 x hx hl (by rw [hk, h]) : _ ∧ _ ∧ _)
 obtain ⟨r, e, he, h⟩ := enc_ev a0 l1 x hx v hv (fun h => (inv h).2.2.1); refine ⟨r, e, he, ?_⟩
 rcases h with h | ⟨h1, h2, h3⟩
 ·exact .inl h
 ·obtain ⟨⟨K, f1⟩, ⟨c, c1, c2, c3⟩, f2, f3⟩ := inv h2; obtain ⟨g1, g2⟩ := blob_read a0 ha l1 (fun q hq => ⟨hr q hq, f3 q hq⟩) f2 x K f1 c c1 c2 c3 r h3; exact .inr ⟨h1, g2, g1⟩
open Go.Proofs.YtkopmkinlanhoaaGreat.Aid Go.Proofs.YtkopmkinlanhoaaGreat.Rdr
structure TreeC (W : World) (t : S29) (A1 : Option Addr) (c1 : Nat) (A3 : Option Addr) (c3 : Nat) (A4 : Option Addr) (c4 : Nat) : Prop where
 r1 : Kd.C k51 W A1 t.f1.length t.f1
 l1 : t.f1.length ≤ c1
 r3 : Kd.C k68 W A3 t.f2.f1.length t.f2.f1
 l3 : t.f2.f1.length ≤ c3
 r4 : Kd.C k27 W A4 t.f2.f2.length t.f2.f2
 l4 : t.f2.f2.length ≤ c4
theorem TreeC.below {W W' : World} {t : S29} {A1 A3 A4 : Option Addr} {c1 c3 c4 : Nat} (h : TreeC W t A1 c1 A3 c3 A4 c4) (hb : Below W.heap.size W W') : TreeC W' t A1 c1 A3 c3 A4 c4 := ⟨Kd.C_below h.r1 hb, h.l1, Kd.C_below h.r3 hb, h.l3, Kd.C_below h.r4 hb, h.l4⟩
abbrev treeV (t : S29) (A1 : Option Addr) (c1 : Nat) (A3 : Option Addr) (c3 : Nat) (A4 : Option Addr) (c4 : Nat) : Value := .agg #[.int .u32 t.f0, .slice A1 t.f1.length c1, .string t.f2.f0, .slice A3 t.f2.f1.length c3, .slice A4 t.f2.f2.length c4]
open Go.Proofs.YtkopmkinlanhoaaGreat.Aid Go.Proofs.YtkopmkinlanhoaaGreat.Rdr
theorem bytes_eight (v : Int) (h0 : 0 ≤ v) (h1 : v < 18446744073709551616) : arboretref01_Bytes.f 9 v 8 = some (cell8 v) := by
 have d : ∀ x : Int, 0 ≤ x → x < 18446744073709551616 → IntKind.u64.wrap (x.tdiv 256) = x / 256 := fun x h h' => by
  rw [Int.tdiv_eq_ediv_of_nonneg h, u64_small Zq1 Zq1]
 have m : ∀ x : Int, 0 ≤ x → x.tmod 256 % 256 = x % 256 := fun x h => by
  rw [Int.tmod_eq_emod_of_nonneg h]; omega
 have w7 : wrap64 (8 - 1) = 7 := by unfold wrap64; omega
 have w6 : wrap64 (7 - 1) = 6 := by unfold wrap64; omega
 have w5 : wrap64 (6 - 1) = 5 := by unfold wrap64; omega
 have w4 : wrap64 (5 - 1) = 4 := by unfold wrap64; omega
 have w3 : wrap64 (4 - 1) = 3 := by unfold wrap64; omega
 have w2 : wrap64 (3 - 1) = 2 := by unfold wrap64; omega
 have w1 : wrap64 (2 - 1) = 1 := by unfold wrap64; omega
 have w0 : wrap64 (1 - 1) = 0 := by unfold wrap64; omega
 have wm : wrap64 (0 - 1) = -1 := by unfold wrap64; omega
 obtain ⟨v1, e1⟩ : ∃ v1, v1 = v / 256 := ⟨_, rfl⟩
 obtain ⟨v2, e2⟩ : ∃ v2, v2 = v1 / 256 := ⟨_, rfl⟩
 obtain ⟨v3, e3⟩ : ∃ v3, v3 = v2 / 256 := ⟨_, rfl⟩
 obtain ⟨v4, e4⟩ : ∃ v4, v4 = v3 / 256 := ⟨_, rfl⟩
 obtain ⟨v5, e5⟩ : ∃ v5, v5 = v4 / 256 := ⟨_, rfl⟩
 obtain ⟨v6, e6⟩ : ∃ v6, v6 = v5 / 256 := ⟨_, rfl⟩
 obtain ⟨v7, e7⟩ : ∃ v7, v7 = v6 / 256 := ⟨_, rfl⟩
 have f : cell8 v = [v7 % 256, v6 % 256, v5 % 256, v4 % 256, v3 % 256, v2 % 256, v1 % 256, v % 256] := by
  show [v / 4294967296 / 16777216 % 256, v / 4294967296 / 65536 % 256, v / 4294967296 / 256 % 256, v / 4294967296 % 256, v / 16777216 % 256, v / 65536 % 256, v / 256 % 256, v % 256] = _
  have g1 : v / 65536 = v2 := by omega
  have g2 : v / 16777216 = v3 := by omega
  have g3 : v / 4294967296 = v4 := by omega
  rw [g3]
  have g4 : v4 / 65536 = v6 := by omega
  have g5 : v4 / 16777216 = v7 := by omega
  rw [g1, g2, g4, g5, ← e5, ← e1]
 unfold arboretref01_Bytes.f; rw [if_pos Zq2, if_pos Zq2, w7]; have l8 : (List.replicate (8 : Int).toNat (0 : Int)) = [0, 0, 0, 0, 0, 0, 0, 0] := rfl; rw [l8]; simp only [arboretref01_Bytes.l0]; rw [if_pos Zq2, if_pos Zq2, if_pos Zq2, w6, d v h0 h1, m v h0, ← e1]; rw [if_pos Zq2, if_pos Zq2, if_pos Zq7, w5, d _ Zq1 Zq1, m _ Zq1, ← e2]; rw [if_pos Zq2, if_pos Zq2, if_pos Zq7, w4, d _ Zq1 Zq1, m _ Zq1, ← e3]; rw [if_pos Zq2, if_pos Zq2, if_pos Zq7, w3, d _ Zq1 Zq1, m _ Zq1, ← e4]; rw [if_pos Zq2, if_pos Zq2, if_pos Zq7, w2, d _ Zq1 Zq1, m _ Zq1, ← e5]; rw [if_pos Zq2, if_pos Zq2, if_pos Zq7, w1, d _ Zq1 Zq1, m _ Zq1, ← e6]; rw [if_pos Zq2, if_pos Zq2, if_pos Zq7, w0, d _ Zq1 Zq1, m _ Zq1, ← e7]; rw [if_pos Zq2, if_pos Zq2, if_pos Zq7, wm, m _ Zq1]; rw [if_neg Zq2, f]; rfl
theorem resB_app (a b : List S51) : resB (a ++ b) = resB a ++ resB b := by unfold resB; rw [List.map_append, List.flatten_append]
def txB (l : List ByteArray) : List Int := l.foldl (fun o x => o ++ (bytesOf x ++ [0])) []
theorem txB_from : ∀ (l : List ByteArray) (o : List Int), (l.foldl (fun o x => o ++ (bytesOf x ++ [0])) o).length = o.length + sizes l
 | [], o => by simp [sizes]
 | x :: r, o => by
  rw [List.foldl_cons, txB_from r]; simp only [List.length_append, bytesOf_length, List.length_cons, List.length_nil, sizes]; omega
theorem txB_len (l : List ByteArray) : (txB l).length = sizes l := by
 unfold txB; rw [txB_from]
 simp
theorem sizes_take : ∀ (l : List ByteArray) (i : Nat), sizes (l.take i) ≤ sizes l
 | [], i => by simp [sizes]
 | x :: r, 0 => by simp [sizes]
 | x :: r, i + 1 => by
  have := sizes_take r i; simp only [List.take_succ_cons, sizes]; omega
def hdB (vs : List Int) : List Int := vs.foldl (fun o v => o ++ cellB v) []
theorem hdB_from : ∀ (vs : List Int) (o : List Int), (vs.foldl (fun o v => o ++ cellB v) o).length = o.length + 4 * vs.length
 | [], o => by simp
 | v :: r, o => by
  rw [List.foldl_cons, hdB_from r]; simp only [List.length_append, cellB_length, List.length_cons]; omega
def hdV (boot : Int) (r s x : Nat) : List Int := [3490578157, ((40 + r + s + x : Nat) : Int), ((40 + r : Nat) : Int), ((40 + r + s : Nat) : Int), 40, 17, 16, boot, (x : Int), (s : Int)]
def blobB (t : S29) : List Int :=
 hdB (hdV t.f0 ((resB t.f1).length + 16) ((ndB (txN t.f2 []) t.f2).length + 4) (txB (txN t.f2 [])).length) ++ (resB t.f1 ++ List.replicate 16 0) ++ (ndB (txN t.f2 []) t.f2 ++ [0, 0, 0, 9]) ++ txB (txN t.f2 [])
theorem hd_sums (r s x : Nat) (h1 : r ≤ 20000000) (h2 : s ≤ 1073741828) (h3 : x ≤ 1073741824) : wrap64 (40 + (r : Int)) = ((40 + r : Nat) : Int) ∧ wrap64 ((40 + r : Nat) : Int) = ((40 + r : Nat) : Int) ∧ wrap64 (((40 + r : Nat) : Int) + (s : Int)) = ((40 + r + s : Nat) : Int) ∧ wrap64 ((40 + r + s : Nat) : Int) = ((40 + r + s : Nat) : Int) ∧ wrap64 (((40 + r + s : Nat) : Int) + (x : Int)) = ((40 + r + s + x : Nat) : Int) := by
 refine ⟨?_, ?_, ?_, ?_, ?_⟩ <;> (rw [w64 Zq1 Zq1]; try omega)
theorem hd_range (boot : Int) (r s x : Nat) (h0 : 0 ≤ boot ∧ boot < 4294967296) (h1 : r ≤ 20000000) (h2 : s ≤ 1073741828) (h3 : x ≤ 1073741824) : ∀ v ∈ hdV boot r s x, 0 ≤ v ∧ v < 4294967296 := by
 intro v hv; simp only [hdV, List.mem_cons, List.not_mem_nil, or_false] at hv
 rcases hv with rfl | rfl | rfl | rfl | rfl | rfl | rfl | rfl | rfl | rfl <;> first | exact h0 | omega
theorem next_ix (i n : Nat) (h : i < n) (hn : n ≤ 1073741824) : wrap64 ((i : Int) + 1) = ((i + 1 : Nat) : Int) := by rw [w64 Zq1 Zq1]; omega
theorem len_small (r s x : Nat) (h1 : r ≤ 20000000) (h2 : s ≤ 1073741828) (h3 : x ≤ 1073741824) : (0 + r + s + x + 100) * 1 ≤ 140737488355328 := by omega
theorem getD_mem (l : List Int) (i : Nat) (h : i < l.length) : l.getD i 0 ∈ l := by
 rw [List.getD_eq_getElem?_getD, List.getElem?_eq_getElem h]; exact List.getElem_mem h
theorem i64_cell {w : World} {A : Option Addr} {xs : List Int} (h : Kd.C (Kd.int .i64) w A xs.length xs) (i : Nat) (hi : i < xs.length) : ∃ ad, A = some ad ∧ w.cell? (ad.add i) = some (.int .i64 (xs.getD i 0)) := by
 have hR : ReadsInt w .i64 A xs.length xs := Kd.reads_of_C (enc := Value.int .i64) (d := (0 : Int)) (h1 := fun _ => rfl) h; obtain ⟨ad, e, hc⟩ := hR.2.2 Zq1; exact ⟨ad, e, hc i hi⟩
open Go.Proofs.YtkopmkinlanhoaaGreat.Aid Go.Proofs.YtkopmkinlanhoaaGreat.Rdr
attribute [local irreducible] Go.Calls in
set_option maxRecDepth 100000 in
set_option maxHeartbeats 8000000 in
theorem blob.calls (t : S29) (A1 : Option Addr) (c1 : Nat) (A3 : Option Addr) (c3 : Nat) (A4 : Option Addr) (c4 : Nat) (W : World) (hT : TreeC W t A1 c1 A3 c3 A4 c4) (ha : 0 ≤ t.f0 ∧ t.f0 < 4294967296) (hres : ∀ r ∈ t.f1, resOk r) (hx : bulk27 t.f2 ≤ 1048576) (hl : t.f1.length ≤ 1048576)
  (hsz : sizes (txN t.f2 []) ≤ 1073741824) (hnb : (ndB (txN t.f2 []) t.f2).length ≤ 1073741824) :
  Calls Tryz.prog 8 #[treeV t A1 c1 A3 c3 A4 c4, .int .i64 0, .int .i64 0] W fun e w' => ∃ v', e = .returned v' ∧ Kd.R (Kd.int .u8) 5 w' W.heap.size (fun _ => True) v' (blobB t) ∧ Below W.heap.size W w' := by
 have hu29 := Tryz.underlying29; have hu27 := Tryz.underlying27; have HT0 := AK hT; have hb0 : Below W.heap.size W (W.alloc (.cells #[.int .u32 t.f0, .slice A1 t.f1.length c1, .string t.f2.f0, .slice A3 t.f2.f1.length c3, .slice A4 t.f2.f2.length c4] 29)) := below_alloc (Below.refl _ _) _
 have BX : Aside0 ((W.alloc (.cells #[.int .u32 t.f0, .slice A1 t.f1.length c1, .string t.f2.f0, .slice A3 t.f2.f1.length c3, .slice A4 t.f2.f2.length c4] 29)).heap[W.heap.size]? = some (Obj.cells #[.int .u32 t.f0, .slice A1 t.f1.length c1, .string t.f2.f0, .slice A3 t.f2.f1.length c3, .slice A4 t.f2.f2.length c4] 29 (0, 0))) := ⟨blk_new _ _⟩
 have hll : (txN t.f2 []).length ≤ 1099511627776 := by have := sizes_len (txN t.f2 []); omega
 have HQT := AK (texts.calls W 1048576 Zq1 t.f2 A3 c3 A4 c4 [] (.slice none 0 0) _ hx hT.r3 hT.r4 hb0 (Kd.R_nil _ _ _ _ _) hll)
 obtain ⟨fin, hfin⟩ : ∃ fin, fin = blobB t := ⟨_, rfl⟩
 rw [← hfin]; unfold blobB at hfin
 obtain ⟨l, hlt⟩ : ∃ l, l = txN t.f2 [] := ⟨_, rfl⟩
 rw [← hlt] at hfin hsz hnb hll; have HLT := AK hlt
 obtain ⟨nb, hnbe⟩ : ∃ nb, nb = ndB l t.f2 := ⟨_, rfl⟩
 rw [← hnbe] at hfin hnb; have HQN := AK (fun (A : Option Addr) (c : Nat) (w : World) (hb : Below W.heap.size W w) (hC : Kd.C Kd.string w A l.length l) (hc : l.length ≤ c) => ndB.calls 1048576 Zq1 t.f2 A3 c3 A4 c4 l A c w hx (Kd.C_below hT.r3 hb) (Kd.C_below hT.r4 hb) hC hc hsz (by rw [← hnbe]; omega)); rw [← hnbe] at HQN
 obtain ⟨sb, hsb⟩ : ∃ sb, sb = nb ++ [0, 0, 0, 9] := ⟨_, rfl⟩
 have hsbl : sb.length = nb.length + 4 := by rw [hsb, List.length_append]; rfl
 rw [← hsb, ← hsbl] at hfin; have HSB := AK hsb
 obtain ⟨rb, hrb⟩ : ∃ rb, rb = resB t.f1 ++ List.replicate 16 0 := ⟨_, rfl⟩
 have hrbl : rb.length = (resB t.f1).length + 16 := by rw [hrb, List.length_append, List.length_replicate]
 rw [← hrb, ← hrbl] at hfin; have HRB := AK hrb
 have HRL : Aside0 (rb.length ≤ 20000000 ∧ sb.length ≤ 1073741828) := ⟨by rw [hrbl, hsbl, resB_length]; omega⟩
 have HLR : Aside0 (((resB t.f1).length + (16 : Int).toNat) * 1 ≤ 140737488355328) := ⟨by rw [resB_length]; have : (16 : Int).toNat = 16 := rfl; omega⟩
 obtain ⟨xb, hxb⟩ : ∃ xb, xb = txB l := ⟨_, rfl⟩
 rw [← hxb] at hfin; have HXB0 := AK hxb
 have hxl : xb.length ≤ 1073741824 := by rw [hxb, txB_len]; exact hsz
 have HLE0 := AK (len_small rb.length sb.length xb.length HRL.out.1 HRL.out.2 hxl); have eb := w64 (x := t.f0) (Int.le_trans Zq2 ha.1) (Int.le_trans (Int.le_of_lt ha.2) Zq2); have HEB := AK eb; clear eb; obtain ⟨e1, f1, e2, f2, e3⟩ := hd_sums rb.length sb.length xb.length HRL.out.1 HRL.out.2 hxl; have HPR0 := hd_range t.f0 rb.length sb.length xb.length ha HRL.out.1 HRL.out.2 hxl; have hhv : hdV t.f0 rb.length sb.length xb.length = [3490578157, ((40 + rb.length + sb.length + xb.length : Nat) : Int), ((40 + rb.length : Nat) : Int), ((40 + rb.length + sb.length : Nat) : Int), 40, 17, 16, t.f0, (xb.length : Int), (sb.length : Int)] := rfl; rw [hhv] at hfin HPR0; clear hhv
 obtain ⟨p1, hp1⟩ : ∃ p1 : Int, p1 = ((40 + rb.length : Nat) : Int) := ⟨_, rfl⟩
 obtain ⟨p2, hp2⟩ : ∃ p2 : Int, p2 = ((40 + rb.length + sb.length : Nat) : Int) := ⟨_, rfl⟩
 obtain ⟨p3, hp3⟩ : ∃ p3 : Int, p3 = ((40 + rb.length + sb.length + xb.length : Nat) : Int) := ⟨_, rfl⟩
 rw [← hp1, ← hp2, ← hp3] at hfin HPR0; rw [← hp1] at e1 f1 e2; rw [← hp2] at e2 f2 e3; rw [← hp3] at e3; have HE1 := AK e1; have HF1 := AK f1; have HE2 := AK e2; have HF2 := AK f2; have HE3 := AK e3; have e0 : Go.RowKit.wrap64 40 = 40 := w64 Zq2 Zq2; have HE0 := AK e0; have HPR := AK HPR0; clear HPR0 hp1 hp2 hp3 e0 e1 e2 e3 f1 f2 hxb hxl; have HFIN := AK hfin; have HSZ := AK hsz; have HRES := AK hres; have HA := AK ha; have HX := AK hx; have HLL := AK hl; have HNB := AK hnb
 have HLA : Aside0 ((nb.length + 4) * 1 ≤ 140737488355328) := ⟨Zq1⟩
 clear hT hb0 hres hx hl hsz hnb hfin hlt hnbe ha hll hsb hsbl hrb hrbl; go_enter Tryz.func8, Tryz.ntmps8; go_wp2_with (first | (go_at_call 21; refine HQT.out.mono ?_; rintro e w22 ⟨v22, rfl, hs⟩; obtain ⟨Al, cl, rfl, hcl, hCl⟩ := Kd.R_reads hs.row; rw [← HLT.out] at hcl hCl ⊢; have HB22 := AK hs.bel; have BX22 := AK (hs.box BX.out (by simp [Value.ownBlock])); have HL22 := AK (And.intro hCl hcl); have z0 := (blk_cell BX22.out 0).trans rfl; have z1 := (blk_cell BX22.out 1).trans rfl; have z2 := (blk_cell BX22.out 2).trans rfl; have z3 := (blk_cell BX22.out 3).trans rfl; have z4 := (blk_cell BX22.out 4).trans rfl; clear hs hcl hCl) | (go_at_call 22; refine (HQN.out Al cl w22 HB22.out HL22.out.1 HL22.out.2).mono ?_; rintro e w27 ⟨v27, rfl, hr, hb⟩; have HR27 := AK hr; have HB27 := AK hb; have BX27 := AK (blk_below BX22.out hb); have HL27 := AK (And.intro (Kd.C_below HL22.out.1 hb) HL22.out.2); have HW27 := AK (below_step HB22.out hb); clear hr hb))
 go_loopg [8, 29] 1 (fun kq v8 v29 w' => v8 = v27 ∧ v29 = .int .i64 0 ∧ w' = w27)
 case atStart => exact ⟨rfl, rfl, rfl⟩
 case round =>
  obtain ⟨rfl, rfl, rfl⟩ := hrel; go_wp2_with (first | ((with_reducible refine gate_builtin (b := .append) (xs := #[.tmp 35, .tmp 36]) rfl ?_); at_builtin; refine Kd.R_append_rows (Kd.int .u8) (w0 := w22) w22.heap.size rfl (.tmp 35) (.tmp 36) 32 5 (.int .u8 0) 1 rfl Tryz.underlying32 info5 rfl Zq2 Zq1 _ nb [0, 0, 0, 9] _ _ _ (fun _ => True) (fun _ => False) rfl rfl ?aO ?aR (fun _ _ h => h) (fun _ h => h.elim) (fun _ _ => trivial) ?aB ?aS ?aL ?_; (case aO => exact (Kd.R_alloc HR27.out _)); (case aR => exact (lit_C wr [0, 0, 0, 9] Zq2)); (case aB => exact (below_alloc HB27.out _)); (case aS => exact ((below_alloc HB27.out _)).size); (case aL => exact HLA.out); intro v37 w37 ho ho2 hg hat; rw [← HSB.out] at ho; have BX37 := AK (blk_below BX22.out ho2); have HT37 := AK (below_step HB22.out ho2); obtain ⟨As, cs, rfl, hcs, hCs⟩ := Kd.R_reads ho; have HS37 := AK (And.intro hCs hcs); have HL37 := AK (Kd.C_below HL22.out.1 ho2); have q1 := (blk_cell BX37.out 1).trans rfl; clear ho ho2 hg hat hcs hCs))
  go_loopg [9, 41] (t.f1.length + 1) (fun kq v9 v41 w' => ∃ (i : Nat), v41 = .int .i64 (i : Int) ∧ Aside0 (i + kq = t.f1.length + 1) ∧ Aside0 (Kd.R (Kd.int .u8) 5 w' w37.heap.size (fun _ => True) v9 (resB (t.f1.take i))) ∧ Aside0 (Below w37.heap.size w37 w'))
  case atStart => exact ⟨0, rfl, ⟨Zq1⟩, ⟨by rw [List.take_zero]; exact Kd.R_nil _ _ _ _ _⟩, ⟨Below.refl _ _⟩⟩
  case round =>
   clear q1; obtain ⟨i, rfl, HI, HRr, HBr⟩ := hrel; have BXr := AK (blk_below BX37.out HBr.out); have HTr := AK (below_step HT37.out HBr.out); have q1 := (blk_cell BXr.out 1).trans rfl
   by_cases ci : (i : Int) < (t.f1.length : Int)
   ·have cib : decide ((i : Int) < (t.f1.length : Int)) = true := decide_eq_true ci
    have cil : i < t.f1.length := by omega
    cases gk with
    | zero => have := HI.out; omega
    | succ k1 =>
     obtain ⟨ad, e405, hx0, hx1⟩ := at_T51 HT0.out.r1 (i : Int) (Int.natCast_nonneg i) ci; cases e405
     have hrd : rd_T51 t.f1 (i : Int) = t.f1.getD i z51 := by simp [rd_T51]
     rw [hrd] at hx0 hx1; rw [Int.toNat_natCast] at hx0 hx1
     have hnx : resB (t.f1.take (i + 1)) = resB (t.f1.take i) ++ cell8 (t.f1.getD i z51).f0 ++ cell8 (t.f1.getD i z51).f1 := by
      rw [take_next t.f1 z51 i cil, resB_app, List.append_assoc]; rfl
     have hok : resOk (t.f1.getD i z51) := HRES.out _ (by rw [getD_at cil]; exact List.getElem_mem cil); generalize t.f1.getD i z51 = x at hx0 hx1 hnx hok
     have hol : (resB (t.f1.take i)).length ≤ 16 * 1048576 := by
      rw [resB_length, List.length_take]; have := HLL.out; omega
     generalize resB (t.f1.take i) = o at HRr hnx hol
     obtain ⟨y0, hy0⟩ : ∃ y0, y0 = cell8 x.f0 := ⟨_, rfl⟩
     obtain ⟨y1, hy1⟩ : ∃ y1, y1 = cell8 x.f1 := ⟨_, rfl⟩
     have HY0 := AK (bytes_eight x.f0 hok.1 hok.2.1); have HY1 := AK (bytes_eight x.f1 hok.2.2.1 hok.2.2.2)
     have hl0 : y0.length = 8 := by rw [hy0]; rfl
     have hl1 : y1.length = 8 := by rw [hy1]; rfl
     rw [← hy0] at HY0 hnx; rw [← hy1] at HY1 hnx
     have HL1 : Aside0 ((o.length + y0.length) * 1 ≤ 140737488355328) := ⟨Zq1⟩
     have HL2 : Aside0 (((o ++ y0).length + y1.length) * 1 ≤ 140737488355328) := ⟨by rw [List.length_append]; omega⟩
     have HX0 := AK hx0; have HX1 := AK hx1; have HNX := AK hnx; have hw2 : Go.RowKit.wrap64 ((i : Int) + 1) = ((i + 1 : Nat) : Int) := next_ix i _ cil (Nat.le_trans HLL.out Zq2); clear hx0 hx1 hnx hok hol hy0 hy1 hl0 hl1; go_wp2; refine start_ (n := 18) (S := fun w' => w'.cell? ⟨W.heap.size, 1, none⟩ = some (.slice (some ad) t.f1.length c1) ∧ w'.cell? (ad.add (i * 2)) = some (.int .u64 x.f0) ∧ w'.cell? ⟨(ad.add (i * 2)).block, (ad.add (i * 2)).off + 1, none⟩ = some (.int .u64 x.f1)) (ds := []) #[false, false, false, false, false, false, false, false, false, false, false, false, false, false, false, false, false, false] Zq3 rfl rfl ⟨((blk_cell BXr.out 1).trans rfl), ((HTr.out.cell (World.block_lt_of_cell? W _ HX0.out)).trans HX0.out), ((HTr.out.cell (World.block_lt_of_cell? W _ HX1.out)).trans HX1.out)⟩ (fun hHeld => ?_); refine pure_ (i := 0) (N := some 44) (v := ?_) (a' := ?_) #[true, false, false, false, false, false, false, false, false, false, false, false, false, false, false, false, false, false] rfl rfl Zq3 (fun _ _ _ h => h) (Or.inl ⟨Zq9, ?_⟩) ?_ ?_; rotate_left; (·intro w'; go_simp; with_reducible rfl); rotate_left; (·simp only [Sx]; rfl); refine pure_ (i := 1) (N := some 45) (v := ?_) (a' := ?_) #[true, true, false, false, false, false, false, false, false, false, false, false, false, false, false, false, false, false] rfl rfl Zq3 (fun _ _ _ h => h) (Or.inl ⟨Zq9, ?_⟩) ?_ ?_; rotate_left; (·intro w'; go_simp; with_reducible rfl); rotate_left; (·simp only [Sx]; rfl); refine pure_ (i := 3) (N := some 47) (v := ?_) (a' := ?_) #[true, true, false, true, false, false, false, false, false, false, false, false, false, false, false, false, false, false] rfl rfl Zq3 (fun _ _ _ h => h) (Or.inl ⟨Zq9, ?_⟩) ?_ ?_; rotate_left; (·intro w'; go_simp; with_reducible rfl); rotate_left; (·simp only [Sx]; rfl); refine pure_ (i := 9) (N := some 53) (v := ?_) (a' := ?_) #[true, true, false, true, false, false, false, false, false, true, false, false, false, false, false, false, false, false] rfl rfl Zq3 (fun _ _ _ h => h) (Or.inl ⟨Zq9, ?_⟩) ?_ ?_; rotate_left; (·intro w'; go_simp; with_reducible rfl); rotate_left; (·simp only [Sx]; rfl); refine pure_ (i := 11) (N := some 55) (v := ?_) (a' := ?_) #[true, true, false, true, false, false, false, false, false, true, false, true, false, false, false, false, false, false] rfl rfl Zq3 (fun _ _ _ h => h) (Or.inl ⟨Zq9, ?_⟩) ?_ ?_; rotate_left; (·intro w'; go_simp; with_reducible rfl); rotate_left; (·simp only [Sx]; rfl); refine take_ (i := 2) (N := some 46) (v := ?_) (a' := ?_) #[true, true, true, true, false, false, false, false, false, true, false, true, false, false, false, false, false, false] rfl rfl Zq3 (fun _ _ _ h => h) (Or.inl ⟨Zq9, ?_⟩) hHeld ?_ ?_; rotate_left; (·rintro w' ⟨s0, s1, s2⟩; go_simp; with_reducible rfl); rotate_left; (·simp only [Sx]; rfl); refine pure_ (i := 4) (N := some 48) (v := ?_) (a' := ?_) #[true, true, true, true, true, false, false, false, false, true, false, true, false, false, false, false, false, false] rfl rfl Zq3 (fun _ _ _ h => h) (Or.inl ⟨Zq9, ?_⟩) ?_ ?_; rotate_left; (·intro w'; go_simp; with_reducible rfl); rotate_left; (·simp only [Sx]; rfl); refine pure_ (i := 5) (N := some 49) (v := ?_) (a' := ?_) #[true, true, true, true, true, true, false, false, false, true, false, true, false, false, false, false, false, false] rfl rfl Zq3 (fun _ _ _ h => h) (Or.inl ⟨Zq9, ?_⟩) ?_ ?_; rotate_left; (·intro w'; go_simp; with_reducible rfl); rotate_left; (·simp only [Sx]; rfl); refine take_ (i := 6) (N := some 50) (v := ?_) (a' := ?_) #[true, true, true, true, true, true, true, false, false, true, false, true, false, false, false, false, false, false] rfl rfl Zq3 (fun _ _ _ h => h) (Or.inl ⟨Zq9, ?_⟩) hHeld ?_ ?_; rotate_left; (·rintro w' ⟨s0, s1, s2⟩; go_simp; with_reducible rfl); rotate_left; (·simp only [Sx]; rfl); refine take_ (i := 10) (N := some 54) (v := ?_) (a' := ?_) #[true, true, true, true, true, true, true, false, false, true, true, true, false, false, false, false, false, false] rfl rfl Zq3 (fun _ _ _ h => h) (Or.inl ⟨Zq9, ?_⟩) hHeld ?_ ?_; rotate_left; (·rintro w' ⟨s0, s1, s2⟩; go_simp; with_reducible rfl); rotate_left; (·simp only [Sx]; rfl); refine pure_ (i := 12) (N := some 56) (v := ?_) (a' := ?_) #[true, true, true, true, true, true, true, false, false, true, true, true, true, false, false, false, false, false] rfl rfl Zq3 (fun _ _ _ h => h) (Or.inl ⟨Zq9, ?_⟩) ?_ ?_; rotate_left; (·intro w'; go_simp; with_reducible rfl); rotate_left; (·simp only [Sx]; rfl); refine pure_ (i := 13) (N := some 57) (v := ?_) (a' := ?_) #[true, true, true, true, true, true, true, false, false, true, true, true, true, true, false, false, false, false] rfl rfl Zq3 (fun _ _ _ h => h) (Or.inl ⟨Zq9, ?_⟩) ?_ ?_; rotate_left; (·intro w'; go_simp; with_reducible rfl); rotate_left; (·simp only [Sx]; rfl); refine take_ (i := 14) (N := some 58) (v := ?_) (a' := ?_) #[true, true, true, true, true, true, true, false, false, true, true, true, true, true, true, false, false, false] rfl rfl Zq3 (fun _ _ _ h => h) (Or.inl ⟨Zq9, ?_⟩) hHeld ?_ ?_; rotate_left; (·rintro w' ⟨s0, s1, s2⟩; go_simp; with_reducible rfl); rotate_left; (·simp only [Sx]; rfl)
     refine one_ (i := 7) (N := some 51) #[true, true, true, true, true, true, true, true, false, true, true, true, true, true, true, false, false, false] rfl rfl Zq3 Zq2 (fun K hK => ?_); refine goes_ Tryz.func23 Zq3 rfl #[.int .u64 x.f0, .int .i64 8] Zq9 rfl rfl Zq33 ?_; refine (arboretref01_Bytes.calls 9 _ _ _ _ HY0.out).mono ?_; rintro e w51 ⟨v51, rfl, hr, hb0⟩; have hb := below_step (below_drew1 (Below.refl wr.heap.size wr)) hb0; have BX51 := AK (blk_below BXr.out hb); have HT51 := AK (below_step HTr.out hb); have HB51 := AK (below_step HBr.out hb); have HR51 := AK (Kd.R_below HRr.out hb); obtain ⟨A51, c51, rfl, hc51, hC51⟩ := Kd.R_reads hr; have HC51 := AK hC51; clear hr hb hb0 hC51 hc51; refine ⟨_, rfl, ?_⟩; refine hK.out _ _ ⟨((blk_cell BX51.out 1).trans rfl), ((HT51.out.cell (World.block_lt_of_cell? W _ HX0.out)).trans HX0.out), ((HT51.out.cell (World.block_lt_of_cell? W _ HX1.out)).trans HX1.out)⟩ (fun hHeld => ?_); clear hK K; refine norm_ (a' := ?_) ?_ ?_; rotate_left; (·show Act.put _ (some 51) _ = _; simp only [Sx]; rfl); refine one_ (i := 8) (N := some 52) #[true, true, true, true, true, true, true, true, true, true, true, true, true, true, true, false, false, false] rfl rfl Zq3 Zq2 (fun K hK => ?_); refine Kd.R_append_rows_step (Kd.int .u8) (w0 := w37) w37.heap.size Zq9 (.tmp 44) (.tmp 51) 32 5 (.int .u8 0) 1 rfl Tryz.underlying32 info5 rfl Zq2 Zq1 _ o y0 _ _ _ (fun _ => True) (fun _ => False) rfl rfl HR51.out HC51.out (fun _ _ h => h) (fun _ h => h.elim) (fun _ _ => trivial) HB51.out (HB51.out).size HL1.out ?_; intro v52 w52 ho ho2 hg hat; have BX52 := AK (blk_below BX37.out ho2); have HT52 := AK (below_step HT37.out ho2); have HB52 := AK ho2; have HR52 := AK ho; clear ho ho2 hg hat; refine hK.out _ _ ⟨((blk_cell BX52.out 1).trans rfl), ((HT52.out.cell (World.block_lt_of_cell? W _ HX0.out)).trans HX0.out), ((HT52.out.cell (World.block_lt_of_cell? W _ HX1.out)).trans HX1.out)⟩ (fun hHeld => ?_); clear hK K; refine norm_ (a' := ?_) ?_ ?_; rotate_left; (·show Act.put _ (some 52) _ = _; simp only [Sx]; rfl); refine one_ (i := 15) (N := some 59) #[true, true, true, true, true, true, true, true, true, true, true, true, true, true, true, true, false, false] rfl rfl Zq3 Zq2 (fun K hK => ?_); refine goes_ Tryz.func23 Zq3 rfl #[.int .u64 x.f1, .int .i64 8] Zq9 rfl rfl Zq33 ?_; refine (arboretref01_Bytes.calls 9 _ _ _ w52 HY1.out).mono ?_; rintro e w59 ⟨v59, rfl, hr, hb⟩; have BX59 := AK (blk_below BX52.out hb); have HT59 := AK (below_step HT52.out hb); have HB59 := AK (below_step HB52.out hb); have HR59 := AK (Kd.R_below HR52.out hb); obtain ⟨A59, c59, rfl, hc59, hC59⟩ := Kd.R_reads hr; have HC59 := AK hC59; clear hr hb hC59 hc59; refine ⟨_, rfl, ?_⟩; refine hK.out _ _ ⟨((blk_cell BX59.out 1).trans rfl), ((HT59.out.cell (World.block_lt_of_cell? W _ HX0.out)).trans HX0.out), ((HT59.out.cell (World.block_lt_of_cell? W _ HX1.out)).trans HX1.out)⟩ (fun hHeld => ?_); clear hK K; refine norm_ (a' := ?_) ?_ ?_; rotate_left; (·show Act.put _ (some 59) _ = _; simp only [Sx]; rfl); refine one_ (i := 16) (N := some 60) #[true, true, true, true, true, true, true, true, true, true, true, true, true, true, true, true, true, false] rfl rfl Zq3 Zq2 (fun K hK => ?_); refine Kd.R_append_rows_step (Kd.int .u8) (w0 := w37) w37.heap.size Zq9 (.tmp 52) (.tmp 59) 32 5 (.int .u8 0) 1 rfl Tryz.underlying32 info5 rfl Zq2 Zq1 _ (o ++ y0) y1 _ _ _ (fun _ => True) (fun _ => False) rfl rfl HR59.out HC59.out (fun _ _ h => h) (fun _ h => h.elim) (fun _ _ => trivial) HB59.out (HB59.out).size HL2.out ?_; intro v60 w60 ho ho2 hg hat; have BX60 := AK (blk_below BX37.out ho2); have HT60 := AK (below_step HT37.out ho2); have HB60 := AK ho2; have HR60 := AK ho; clear ho ho2 hg hat; refine hK.out _ _ ⟨((blk_cell BX60.out 1).trans rfl), ((HT60.out.cell (World.block_lt_of_cell? W _ HX0.out)).trans HX0.out), ((HT60.out.cell (World.block_lt_of_cell? W _ HX1.out)).trans HX1.out)⟩ (fun hHeld => ?_); clear hK K; refine norm_ (a' := ?_) ?_ ?_; rotate_left; (·show Act.put _ (some 60) _ = _; simp only [Sx]; rfl); refine pure_ (i := 17) (N := some 9) (v := ?_) (a' := ?_) #[true, true, true, true, true, true, true, true, true, true, true, true, true, true, true, true, true, true] rfl rfl Zq3 (fun _ _ _ h => h) (Or.inl ⟨Zq9, ?_⟩) ?_ ?_; rotate_left; (·intro w'; go_simp; with_reducible rfl); rotate_left; (·simp only [Sx]; rfl); refine done_ Zq3 ?_; go_wp2
     go_roundg k1
     case measure => exact Nat.lt_succ_self _
     case rel => exact ⟨i + 1, congrArg (Value.int .i64) hw2, ⟨step_ix HI.out⟩, ⟨by rw [HNX.out]; exact HR60.out⟩, HB60⟩
   ·have cib : decide ((i : Int) < (t.f1.length : Int)) = false := decide_eq_false ci; have ht : t.f1.take i = t.f1 := List.take_of_length_le Zq1; rw [ht] at HRr; clear ht; go_wp2_with (first | ((with_reducible refine gate_builtin (b := .append) (xs := #[.tmp 62, Operand.const (.int .i64 16)]) rfl ?_); at_builtin; refine Kd.R_append_zeros (Kd.int .u8) (w0 := w37) w37.heap.size rfl (.tmp 62) (Operand.const (.int .i64 16)) 32 3 5 (.int .u8 0) 1 rfl Tryz.underlying32 Tryz.underlying3 info5 rfl Zq2 Zq1 _ (resB t.f1) 0 16 (fun _ => True) rfl rfl rfl (fun _ _ => trivial) ?aO Zq2 ?aB ?aS ?aL ?_; (case aO => exact HRr.out); (case aB => exact HBr.out); (case aS => exact HBr.out.size); (case aL => exact HLR.out); intro v63 w63 ho ho2 hg hat; rw [show List.replicate (16 : Int).toNat (0 : Int) = List.replicate 16 0 from rfl, ← HRB.out] at ho; have BX63 := AK (blk_below BX37.out ho2); have HT63 := AK (below_step HT37.out ho2); obtain ⟨Ar, cr, rfl, hcr, hCr⟩ := Kd.R_reads ho; have HR63 := AK (And.intro hCr hcr); have HS63 := AK (And.intro (Kd.C_below HS37.out.1 ho2) HS37.out.2); have HL63 := AK (Kd.C_below HL37.out ho2); clear ho ho2 hg hat hcr hCr))
    go_loopg [10, 66] (l.length + 1) (fun kq v10 v66 w' => ∃ (i : Nat), v66 = .int .i64 (i : Int) ∧ Aside0 (i + kq = l.length + 1) ∧ Aside0 (Kd.R (Kd.int .u8) 5 w' w63.heap.size (fun _ => True) v10 ((l.take i).foldl (fun o x => o ++ (bytesOf x ++ [0])) [])) ∧ Aside0 (Below w63.heap.size w63 w'))
    case atStart => exact ⟨0, rfl, ⟨Zq1⟩, ⟨by rw [List.take_zero]; exact Kd.R_nil _ _ _ _ _⟩, ⟨Below.refl _ _⟩⟩
    case round =>
     clear HRr HBr BXr HTr q1 cib ci; obtain ⟨i, rfl, HI, HRx, HBx⟩ := hrel
     by_cases ci : (i : Int) < (l.length : Int)
     ·have cib : decide ((i : Int) < (l.length : Int)) = true := decide_eq_true ci
      have cil : i < l.length := by omega
      cases gk with
      | zero => have := HI.out; omega
      | succ k1 =>
       obtain ⟨ad2, e2, hy0⟩ := str_cell (Kd.C_below HL63.out HBx.out) i cil; subst e2; have hnx := foldl_next (fun (o : List Int) (x : ByteArray) => o ++ (bytesOf x ++ [0])) [] l ⟨#[]⟩ i cil; have hlen := txB_from (l.take (i + 1)) []; have hst := sizes_take l (i + 1); have hsz := HSZ.out; rw [hnx] at hlen; generalize l.getD i ⟨#[]⟩ = y at hy0 hnx hlen; generalize (l.take i).foldl (fun o x => o ++ (bytesOf x ++ [0])) [] = o at HRx hnx hlen; simp only [List.length_append, bytesOf_length, List.length_cons, List.length_nil] at hlen
       have HL1 : Aside0 (o.length + y.size ≤ 140737488355328) := ⟨Zq1⟩
       have HL2 : Aside0 (((o ++ bytesOf y).length + 1) * 1 ≤ 140737488355328) := ⟨by rw [List.length_append, bytesOf_length]; omega⟩
       have HNX := AK hnx; have hw2 : Go.RowKit.wrap64 ((i : Int) + 1) = ((i + 1 : Nat) : Int) := next_ix i _ cil (Nat.le_trans (sizes_len l) HSZ.out); clear hnx hlen hst hsz; go_wp2_with (first | ((with_reducible refine gate_builtin (b := .append) (xs := #[.tmp 69, .tmp 73]) rfl ?_); at_builtin; refine R_append_str (w0 := w63) w63.heap.size rfl (.tmp 69) (.tmp 73) 32 9 5 rfl Tryz.underlying32 Tryz.underlying9 info5 _ o y (fun _ => True) rfl rfl (fun _ _ => trivial) HRx.out HBx.out HBx.out.size HL1.out ?_; intro v74 w74 ho ho2 hg hat; obtain ⟨oy, hoy⟩ : ∃ oy, oy = o ++ bytesOf y := ⟨_, rfl⟩; rw [← hoy] at ho; have HOY := AK hoy; have HL3 : Aside0 ((oy.length + 1) * 1 ≤ 140737488355328) := ⟨by rw [hoy]; exact HL2.out⟩; have HR74 := AK ho; have HB74 := AK ho2; clear ho ho2 hg hat hoy) | ((with_reducible refine gate_builtin (b := .append) (xs := #[.tmp 74, .tmp 75]) rfl ?_); at_builtin; refine Kd.R_append_rows (Kd.int .u8) (w0 := w63) w63.heap.size rfl (.tmp 74) (.tmp 75) 32 5 (.int .u8 0) 1 rfl Tryz.underlying32 info5 rfl Zq2 Zq1 _ oy [0] _ _ _ (fun _ => True) (fun _ => False) rfl rfl ?aO ?aR (fun _ _ h => h) (fun _ h => h.elim) (fun _ _ => trivial) ?aB ?aS ?aL ?_; (case aO => exact (Kd.R_alloc HR74.out _)); (case aR => exact (lit_C w74 [0] Zq2)); (case aB => exact (below_alloc HB74.out _)); (case aS => exact ((below_alloc HB74.out _)).size); (case aL => exact HL3.out); intro v76 w76 ho ho2 hg hat; have HR76 := AK ho; have HB76 := AK ho2; clear ho ho2 hg hat))
       go_roundg k1
       case measure => exact Nat.lt_succ_self _
       case rel => exact ⟨i + 1, congrArg (Value.int .i64) hw2, ⟨step_ix HI.out⟩, ⟨by rw [HNX.out, ← List.append_assoc, ← HOY.out]; exact HR76.out⟩, HB76⟩
     ·have cib : decide ((i : Int) < (l.length : Int)) = false := decide_eq_false ci; have ht : l.take i = l := List.take_of_length_le Zq1; rw [ht] at HRx
      have HRX : Aside0 (Kd.R (Kd.int .u8) 5 wr w63.heap.size (fun _ => True) u10 xb) := ⟨by rw [HXB0.out]; exact HRx.out⟩
      obtain ⟨Ax, cx, rfl, hcx, hCx⟩ := Kd.R_reads HRX.out; have HXB := AK (And.intro hCx hcx); have HR64 := AK (And.intro (Kd.C_below HR63.out.1 HBx.out) HR63.out.2); have HS64 := AK (And.intro (Kd.C_below HS63.out.1 HBx.out) HS63.out.2); have BX64 := AK (blk_below BX63.out HBx.out); have HT64 := AK (below_step HT63.out HBx.out); have e0 := HE0.out; have e1 := HE1.out; have f1 := HF1.out; have e2 := HE2.out; have f2 := HF2.out; have e3 := HE3.out; have eb := HEB.out; clear ht hCx hcx; go_wp2_with (first | ((with_reducible refine gate_dst (N := 79) rfl ?_); refine Kd.R_make (Kd.int .u8) _ 5 rfl (N := 79) rfl 32 _ _ rfl 0 rfl rfl Tryz.underlying32 (.int .u8 0) 1 info5 rfl Zq2 Zq2 0 (ok := fun _ => True) (okp := fun _ => True) rfl (fun _ hk => hk) trivial (Int.le_refl 0) Zq2 (Below.refl _ _) (Nat.le_refl _) ?_; intro v79 w79 ho hb hg hnew; rw [show List.replicate (0 : Int).toNat (0 : Int) = [] from rfl] at ho; obtain ⟨Ae, ce, rfl, hce, hCe⟩ := Kd.R_reads ho; have HE79 := AK hCe; have HXB79 := AK (Kd.C_below HXB.out.1 hb); have HR79 := AK (Kd.C_below HR64.out.1 hb); have HS79 := AK (Kd.C_below HS64.out.1 hb); have HT79 := AK (below_step HT64.out hb); have q0 := (blk_cell (blk_below BX64.out hb) 0).trans rfl; clear ho hb hg hnew hce hCe))
      obtain ⟨waj, hw108⟩ : ∃ waj, waj = w79.alloc (.cells #[.int .i64 3490578157, .int .i64 p3, .int .i64 p1, .int .i64 p2, .int .i64 40, .int .i64 17, .int .i64 16, .int .i64 t.f0, .int .i64 xb.length, .int .i64 sb.length] 3) := ⟨_, rfl⟩
      have hbl := blk_new w79 (.cells #[.int .i64 3490578157, .int .i64 p3, .int .i64 p1, .int .i64 p2, .int .i64 40, .int .i64 17, .int .i64 16, .int .i64 t.f0, .int .i64 xb.length, .int .i64 sb.length] 3 (0, 0)); have hba := below_alloc (Below.refl w79.heap.size w79) (.cells #[.int .i64 3490578157, .int .i64 p3, .int .i64 p1, .int .i64 p2, .int .i64 40, .int .i64 17, .int .i64 16, .int .i64 t.f0, .int .i64 xb.length, .int .i64 sb.length] 3); rw [← hw108] at hbl hba ⊢
      obtain ⟨hv, hhv⟩ : ∃ hv : List Int, hv = [3490578157, p3, p1, p2, 40, 17, 16, t.f0, (xb.length : Int), (sb.length : Int)] := ⟨_, rfl⟩
      have HBL := AK (ints_C waj w79.heap.size 3 hv (by rw [hhv]; exact hbl) (by rw [hhv]; exact Nat.le_of_ble_eq_true rfl))
      have HVL : Aside0 (hv.length = 10) := ⟨by rw [hhv]; rfl⟩
      have HPV := HPR; rw [← hhv] at HPV HFIN; have HE8 := AK (Kd.C_below HE79.out hba); have HX8 := AK (Kd.C_below HXB79.out hba); have HR8 := AK (Kd.C_below HR79.out hba); have HS8 := AK (Kd.C_below HS79.out hba); have HT8 := AK (below_step HT79.out hba); clear hw108 hbl hba hhv e0 e1 f1 e2 f2 e3 eb q0
      go_loopg [17, 110] 11 (fun kq v17 v110 w' => ∃ (i : Nat), v110 = .int .i64 (i : Int) ∧ Aside0 (i + kq = 11) ∧ Aside0 (Kd.R (Kd.int .u8) 5 w' waj.heap.size (fun _ => True) v17 ((hv.take i).foldl (fun o v => o ++ cellB v) [])) ∧ Aside0 (Below waj.heap.size waj w'))
      case atStart => exact ⟨0, rfl, ⟨rfl⟩, ⟨by rw [List.take_zero]; exact Kd.R_nil _ _ _ _ _⟩, ⟨Below.refl _ _⟩⟩
      case round =>
       clear HRx HBx HRX ci cib; obtain ⟨i, rfl, HI, HRo, HBo⟩ := hrel
       by_cases ci : (i : Int) < 10
       ·have cib : decide ((i : Int) < 10) = true := decide_eq_true ci
        have cil : i < hv.length := by rw [HVL.out]; omega
        cases gk with
        | zero => have := HI.out; omega
        | succ k1 =>
         obtain ⟨ad3, e3, hi0⟩ := i64_cell (Kd.C_below HBL.out HBo.out) i cil; obtain rfl := Option.some.inj e3; rw [add_plain] at hi0; have hnx := foldl_next (fun (o : List Int) (v : Int) => o ++ cellB v) [] hv 0 i cil; have hlen := hdB_from (hv.take (i + 1)) []; have hpr := HPV.out _ (getD_mem hv i cil); rw [hnx] at hlen; generalize hv.getD i 0 = y at hi0 hnx hlen hpr; generalize (hv.take i).foldl (fun o v => o ++ cellB v) [] = o at HRo hnx hlen
         have HL1 : Aside0 ((o.length + (cellB y).length) * 1 ≤ 140737488355328) := ⟨by
          rw [List.length_append, List.length_take] at hlen; have := HVL.out; simp only [List.length_nil] at hlen
          omega⟩
         obtain ⟨kc, hc1⟩ := (cell_ev y hpr.1 hpr.2).rounds; have HC1 := AK hc1; have HNX := AK hnx; have hw2 := next_ix i _ cil (by rw [HVL.out]; decide); clear hnx hlen hpr hc1; go_wp2_with (first | (go_at_call 24; refine (arboretref04_cell.calls kc y _ wr HC1.out).mono ?_; rintro e wbK ⟨v116, rfl, hr, hb⟩; have HB116 := AK (below_step HBo.out hb); have HRbK := AK (Kd.R_below HRo.out hb); obtain ⟨AbK, cbK, rfl, hc116, hC116⟩ := Kd.R_reads hr; have HCbK := AK hC116; clear hr hb hC116 hc116) | ((with_reducible refine gate_builtin (b := .append) (xs := #[.tmp 114, .tmp 116]) rfl ?_); at_builtin; refine Kd.R_append_rows (Kd.int .u8) (w0 := waj) waj.heap.size rfl (.tmp 114) (.tmp 116) 32 5 (.int .u8 0) 1 rfl Tryz.underlying32 info5 rfl Zq2 Zq1 _ o (cellB y) _ _ _ (fun _ => True) (fun _ => False) rfl rfl ?aO ?aR (fun _ _ h => h) (fun _ h => h.elim) (fun _ _ => trivial) ?aB ?aS ?aL ?_; (case aO => exact HRbK.out); (case aR => exact HCbK.out); (case aB => exact HB116.out); (case aS => exact (HB116.out).size); (case aL => exact HL1.out); intro v117 wcd ho ho2 hg hat; have HRcd := AK ho; have HB117 := AK ho2; clear ho ho2 hg hat))
         go_roundg k1
         case measure => exact Nat.lt_succ_self _
         case rel => exact ⟨i + 1, rfl, ⟨step_ix HI.out⟩, ⟨by rw [HNX.out]; exact HRcd.out⟩, HB117⟩
       ·have cib : decide ((i : Int) < 10) = false := decide_eq_false ci; have ht : hv.take i = hv := List.take_of_length_le (by rw [HVL.out]; omega); rw [ht] at HRo
        obtain ⟨hb_, hhb⟩ : ∃ hb_, hb_ = hdB hv := ⟨_, rfl⟩
        have HH : Aside0 (hb_ = hdB hv) := ⟨hhb⟩
        have HR0 : Aside0 (Kd.R (Kd.int .u8) 5 wr waj.heap.size (fun _ => True) u17 hb_) := ⟨by rw [hhb]; exact HRo.out⟩
        have HHL : hb_.length = 40 := by rw [hhb]; unfold hdB; rw [hdB_from, HVL.out]; rfl
        have hq := HLE0.out
        obtain ⟨o1, ho1⟩ : ∃ o1, o1 = hb_ ++ rb := ⟨_, rfl⟩
        obtain ⟨o2, ho2⟩ : ∃ o2, o2 = o1 ++ sb := ⟨_, rfl⟩
        have HO1 := AK ho1; have HO2 := AK ho2
        have l1 : o1.length = 40 + rb.length := by rw [ho1, List.length_append, HHL]
        have l2 : o2.length = 40 + rb.length + sb.length := by rw [ho2, List.length_append, l1]
        have HLa : Aside0 ((hb_.length + 0) * 1 ≤ 140737488355328) := ⟨Zq1⟩
        have HLb : Aside0 ((hb_.length + rb.length) * 1 ≤ 140737488355328) := ⟨Zq1⟩
        have HLc : Aside0 ((o1.length + 0) * 1 ≤ 140737488355328) := ⟨Zq1⟩
        have HLd : Aside0 ((o1.length + sb.length) * 1 ≤ 140737488355328) := ⟨Zq1⟩
        have HLe : Aside0 ((o2.length + 0) * 1 ≤ 140737488355328) := ⟨Zq1⟩
        have HLf : Aside0 ((o2.length + xb.length) * 1 ≤ 140737488355328) := ⟨Zq1⟩
        clear ht hq l1 l2 ho1 ho2 HHL hhb; (go_wp2_with (first | ((with_reducible refine gate_builtin (b := .append) (xs := #[.tmp 119, .tmp 120]) rfl ?_); at_builtin; refine Kd.R_append_rows (Kd.int .u8) (w0 := waj) waj.heap.size rfl (.tmp 119) (.tmp 120) 32 5 (.int .u8 0) 1 rfl Tryz.underlying32 info5 rfl Zq2 Zq1 _ hb_ [] _ _ _ (fun _ => True) (fun _ => False) rfl rfl ?aO ?aR (fun _ _ h => h) (fun _ h => h.elim) (fun _ _ => trivial) ?aB ?aS ?aL ?_; (case aO => exact HR0.out); (case aR => exact (Kd.C_below HE8.out HBo.out)); (case aB => exact HBo.out); (case aS => exact (HBo.out).size); (case aL => exact HLa.out); intro va wa ho ho2 hg hat; rw [List.append_nil] at ho; have HRa := AK ho; have HBa := AK ho2; clear ho ho2 hg hat) | ((with_reducible refine gate_builtin (b := .append) (xs := #[.tmp 121, .tmp 122]) rfl ?_); at_builtin; refine Kd.R_append_rows (Kd.int .u8) (w0 := waj) waj.heap.size rfl (.tmp 121) (.tmp 122) 32 5 (.int .u8 0) 1 rfl Tryz.underlying32 info5 rfl Zq2 Zq1 _ hb_ rb _ _ _ (fun _ => True) (fun _ => False) rfl rfl ?aO ?aR (fun _ _ h => h) (fun _ h => h.elim) (fun _ _ => trivial) ?aB ?aS ?aL ?_; (case aO => exact HRa.out); (case aR => exact (Kd.C_below HR8.out HBa.out)); (case aB => exact HBa.out); (case aS => exact (HBa.out).size); (case aL => exact HLb.out); intro vb wb ho ho2 hg hat; rw [← HO1.out] at ho; have HRb := AK ho; have HBb := AK ho2; clear ho ho2 hg hat) | ((with_reducible refine gate_builtin (b := .append) (xs := #[.tmp 123, .tmp 124]) rfl ?_); at_builtin; refine Kd.R_append_rows (Kd.int .u8) (w0 := waj) waj.heap.size rfl (.tmp 123) (.tmp 124) 32 5 (.int .u8 0) 1 rfl Tryz.underlying32 info5 rfl Zq2 Zq1 _ o1 [] _ _ _ (fun _ => True) (fun _ => False) rfl rfl ?aO ?aR (fun _ _ h => h) (fun _ h => h.elim) (fun _ _ => trivial) ?aB ?aS ?aL ?_; (case aO => exact HRb.out); (case aR => exact (Kd.C_below HE8.out HBb.out)); (case aB => exact HBb.out); (case aS => exact (HBb.out).size); (case aL => exact HLc.out); intro vc wc ho ho2 hg hat; rw [List.append_nil] at ho; have HRc := AK ho; have HBc := AK ho2; clear ho ho2 hg hat) | ((with_reducible refine gate_builtin (b := .append) (xs := #[.tmp 125, .tmp 126]) rfl ?_); at_builtin; refine Kd.R_append_rows (Kd.int .u8) (w0 := waj) waj.heap.size rfl (.tmp 125) (.tmp 126) 32 5 (.int .u8 0) 1 rfl Tryz.underlying32 info5 rfl Zq2 Zq1 _ o1 sb _ _ _ (fun _ => True) (fun _ => False) rfl rfl ?aO ?aR (fun _ _ h => h) (fun _ h => h.elim) (fun _ _ => trivial) ?aB ?aS ?aL ?_; (case aO => exact HRc.out); (case aR => exact (Kd.C_below HS8.out HBc.out)); (case aB => exact HBc.out); (case aS => exact (HBc.out).size); (case aL => exact HLd.out); intro vd wd ho ho2 hg hat; rw [← HO2.out] at ho; have HRd := AK ho; have HBd := AK ho2; clear ho ho2 hg hat) | ((with_reducible refine gate_builtin (b := .append) (xs := #[.tmp 128, .tmp 129]) rfl ?_); at_builtin; refine Kd.R_append_rows (Kd.int .u8) (w0 := waj) waj.heap.size rfl (.tmp 128) (.tmp 129) 32 5 (.int .u8 0) 1 rfl Tryz.underlying32 info5 rfl Zq2 Zq1 _ o2 [] _ _ _ (fun _ => True) (fun _ => False) rfl rfl ?aO ?aR (fun _ _ h => h) (fun _ h => h.elim) (fun _ _ => trivial) ?aB ?aS ?aL ?_; (case aO => exact HRd.out); (case aR => exact (Kd.C_below HE8.out HBd.out)); (case aB => exact HBd.out); (case aS => exact (HBd.out).size); (case aL => exact HLe.out); intro ve we ho ho2 hg hat; rw [List.append_nil] at ho; have HRe := AK ho; have HBe := AK ho2; clear ho ho2 hg hat) | ((with_reducible refine gate_builtin (b := .append) (xs := #[.tmp 130, .tmp 131]) rfl ?_); at_builtin; refine Kd.R_append_rows (Kd.int .u8) (w0 := waj) waj.heap.size rfl (.tmp 130) (.tmp 131) 32 5 (.int .u8 0) 1 rfl Tryz.underlying32 info5 rfl Zq2 Zq1 _ o2 xb _ _ _ (fun _ => True) (fun _ => False) rfl rfl ?aO ?aR (fun _ _ h => h) (fun _ h => h.elim) (fun _ _ => trivial) ?aB ?aS ?aL ?_; (case aO => exact HRe.out); (case aR => exact (Kd.C_below HX8.out HBe.out)); (case aB => exact HBe.out); (case aS => exact (HBe.out).size); (case aL => exact HLf.out); intro vf wf ho ho2 hg hat; have HRf := AK ho; have HBf := AK ho2; clear ho ho2 hg hat))); refine bodyPost_ret (results_tmp rfl _ _ _) rfl ?_; exact ⟨_, rfl, Kd.R_lower (base' := W.heap.size) (by rw [HFIN.out, ← HH.out, ← HO1.out, ← HO2.out]; exact HRf.out) HT8.out.size, below_step HT8.out HBf.out⟩
open Go.Proofs.YtkopmkinlanhoaaGreat.Aid Go.Proofs.YtkopmkinlanhoaaGreat.Rdr
theorem sizes_add (l : List ByteArray) (x : ByteArray) : sizes (l ++ [x]) = sizes l + x.size + 1 := by
 induction l with
 | nil => simp [sizes]
 | cons y r ih =>
  rw [List.cons_append, sizes, sizes, ih]; omega
theorem sizes_addT (l : List ByteArray) (x : ByteArray) : sizes (addT l x) ≤ sizes l + x.size + 1 := by
 unfold addT
 split
 ·omega
 ·rw [sizes_add]; exact Nat.le_refl _
theorem sizes_props : ∀ (ps : List S68) (l : List ByteArray), sizes (ps.foldl (fun l p => addT l p.f0) l) ≤ sizes l + sumB bulk68 ps
 | [], l => by simp [sumB]
 | p :: r, l => by
  have h1 := sizes_addT l p.f0; have h2 := sizes_props r (addT l p.f0); have h3 := bulk_value p; rw [List.foldl_cons]; simp only [sumB]; omega
mutual
theorem sizes_txN : ∀ (x : S27) (l : List ByteArray), sizes (txN x l) ≤ sizes l + bulk27 x
 | ⟨a, ps, ks⟩, l => by
  have h2 := sizes_props ps l; have h3 := sizes_txK ks (ps.foldl (fun l p => addT l p.f0) l); have h4 := bulk_eq ⟨a, ps, ks⟩; simp only at h4; rw [txN]; omega
theorem sizes_txK : ∀ (ks : List S27) (l : List ByteArray), sizes (txK ks l) ≤ sizes l + sumB bulk27 ks
 | [], l => by rw [txK]; omega
 | x :: r, l => by
  have h1 := sizes_txN x l; have h2 := sizes_txK r (txN x l); rw [txK]; simp only [sumB]; omega
end
theorem prB_len_le (l : List ByteArray) (p : S68) : (prB l p).length ≤ p.f1.length + 15 := by
 have h := padW_le p.f1; unfold prB; simp only [List.length_append, cellB_length, List.length_cons, List.length_nil]; omega
theorem prs_len_le (l : List ByteArray) : ∀ (ps : List S68) (o : List Int), (ps.foldl (fun o p => o ++ prB l p) o).length ≤ o.length + 8 * sumB bulk68 ps
 | [], o => by simp [sumB]
 | p :: r, o => by
  have h1 := prB_len_le l p; have h2 := prs_len_le l r (o ++ prB l p); have h3 := bulk_value p; rw [List.length_append] at h2; rw [List.foldl_cons]; simp only [sumB]; omega
mutual
theorem ndB_len_le (l : List ByteArray) : ∀ x : S27, (ndB l x).length ≤ 8 * bulk27 x
 | ⟨a, ps, ks⟩ => by
  have h1 := prs_len_le l ps ([0, 0, 0, 1] ++ ((bytesOf a ++ [0]) ++ padW (bytesOf a ++ [0]))); have h2 := kdA_len_le l ks (ps.foldl (fun o p => o ++ prB l p) ([0, 0, 0, 1] ++ ((bytesOf a ++ [0]) ++ padW (bytesOf a ++ [0])))); have h4 := bulk_eq ⟨a, ps, ks⟩; have h7 := padW_le (bytesOf a ++ [0]); simp only at h4; rw [ndB, List.length_append]; simp only [List.length_append, bytesOf_length, List.length_cons, List.length_nil] at h1 ⊢; omega
theorem kdA_len_le (l : List ByteArray) : ∀ (ks : List S27) (o : List Int), (kdA l ks o).length ≤ o.length + 8 * sumB bulk27 ks
 | [], o => by rw [kdA]; omega
 | x :: r, o => by
  have h1 := ndB_len_le l x; have h2 := kdA_len_le l r (o ++ ndB l x); rw [List.length_append] at h2; rw [kdA]; simp only [sumB]; omega
end
theorem hdB_flat : ∀ (vs : List Int) (o : List Int), vs.foldl (fun o v => o ++ cellB v) o = o ++ vs.flatMap cellB
 | [], o => by simp
 | v :: r, o => by rw [List.foldl_cons, hdB_flat r, List.flatMap_cons, List.append_assoc]
structure BlobOk (t : S29) : Prop where
 boot : 0 ≤ t.f0 ∧ t.f0 < 4294967296
 res : ∀ r ∈ t.f1, resOk r
 bulk : bulk27 t.f2 ≤ 1048576
 len : t.f1.length ≤ 1048576
theorem BlobOk.szs {t : S29} (h : BlobOk t) : sizes (txN t.f2 []) ≤ 1048576 := by
 have h1 := sizes_txN t.f2 []; have h2 := h.bulk; have h3 : sizes [] = 0 := rfl; omega
theorem BlobOk.toks {t : S29} (h : BlobOk t) : (ndB (txN t.f2 []) t.f2).length ≤ 8388608 := by
 have := ndB_len_le (txN t.f2 []) t.f2; have := h.bulk; omega
open Go.Proofs.YtkopmkinlanhoaaGreat.Aid Go.Proofs.YtkopmkinlanhoaaGreat.Rdr
theorem toList_iff (x y : ByteArray) : x.toList = y.toList ↔ x = y := by
 rw [ByteArray.toList_eq, ByteArray.toList_eq]; exact ⟨fun h => bytesOf_same h, fun h => h ▸ rfl⟩
theorem hasB_mem (l : List ByteArray) (x : ByteArray) : hasB l x = true ↔ x ∈ l := by
 unfold hasB; rw [List.any_eq_true]
 constructor
 ·rintro ⟨y, hy, h⟩; have := (toList_iff y x).mp (by simpa using h); exact this ▸ hy
 ·exact fun h => ⟨x, h, Zq7⟩
theorem whereI_app (m : List ByteArray) (x : ByteArray) : ∀ l : List ByteArray, x ∈ l → whereI (l ++ m) x = whereI l x
 | y :: r, h => by
  rw [List.cons_append, whereI, whereI]
  split
  ·rfl
  ·next hne => rw [whereI_app m x r ((List.mem_cons.mp h).resolve_left (fun e => hne (by rw [e])))]
theorem whereI_new (x : ByteArray) : ∀ l : List ByteArray, x ∉ l → whereI (l ++ [x]) x = sizes l
 | [], _ => by simp [whereI, sizes]
 | y :: r, h => by
  rw [List.cons_append, whereI, sizes, if_neg (fun e => h (by rw [(toList_iff y x).mp e]; exact List.mem_cons_self)), whereI_new x r (fun e => h (List.mem_cons_of_mem _ e))]
theorem txB_snoc (l : List ByteArray) (x : ByteArray) : txB (l ++ [x]) = txB l ++ (bytesOf x ++ [0]) := by
 unfold txB; rw [List.foldl_append]; rfl
structure TxR (l : List ByteArray) (s : WSt) : Prop where
 bytes : s.2.1 = txB l
 has : ∀ y, y ∈ l → firstI s.2.2 y = some ((whereI l y : Nat) : Int)
 no : ∀ y, y ∉ l → firstI s.2.2 y = none
theorem TxR.nil : TxR [] ([], [], []) := ⟨rfl, fun y h => by simp at h, fun y _ => rfl⟩
theorem TxR.same {l : List ByteArray} {s s2 : WSt} (h : TxR l s) (e : s2.2 = s.2) : TxR l s2 := ⟨by rw [e]; exact h.bytes, by rw [e]; exact h.has, by rw [e]; exact h.no⟩
theorem addT_mem (l : List ByteArray) (x : ByteArray) : x ∈ addT l x := by
 unfold addT
 split
 ·next h => exact (hasB_mem l x).mp h
 ·simp
theorem addT_app (l : List ByteArray) (x : ByteArray) : ∃ m, addT l x = l ++ m := by
 unfold addT
 split
 ·exact ⟨[], Zq7⟩
 ·exact ⟨[x], rfl⟩
theorem TxR.text {l : List ByteArray} {s : WSt} (h : TxR l s) (x : ByteArray) : TxR (addT l x) (wText x s) ∧ textAt s.2.1 s.2.2 x = ((whereI (addT l x) x : Nat) : Int) := by
 by_cases hx : x ∈ l
 ·have ha : addT l x = l := by unfold addT; rw [if_pos ((hasB_mem l x).mpr hx)]
  have hf := h.has x hx; rw [ha]
  have e1 : textT s.2.1 s.2.2 x = s.2.1 := by unfold textT; rw [hf]; rfl
  have e2 : textH s.2.1 s.2.2 x = s.2.2 := by unfold textH; rw [hf]; rfl
  refine ⟨h.same ?_, ?_⟩; (·show (textT s.2.1 s.2.2 x, textH s.2.1 s.2.2 x) = _; rw [e1, e2]); (·unfold textAt; rw [hf]; rfl)
 ·have ha : addT l x = l ++ [x] := by unfold addT; rw [if_neg (fun e => hx ((hasB_mem l x).mp e))]
  have hf := h.no x hx
  have hl : s.2.1.length = sizes l := by rw [h.bytes, txB_len]
  have e1 : textT s.2.1 s.2.2 x = s.2.1 ++ (bytesOf x ++ [0]) := by unfold textT; rw [hf]; rfl
  have e2 : textH s.2.1 s.2.2 x = s.2.2 ++ [(x, (s.2.1.length : Int))] := by unfold textH; rw [hf]; rfl
  rw [ha]; refine ⟨⟨?_, fun y hy => ?_, fun y hy => ?_⟩, ?_⟩; (·show textT s.2.1 s.2.2 x = _; rw [e1, txB_snoc, h.bytes])
  ·show firstI (textH s.2.1 s.2.2 x) y = _; rw [e2, firstI_append]
   by_cases hy2 : y ∈ l
   ·rw [h.has y hy2, whereI_app _ _ _ hy2]
   ·have hyx : y = x := by
     rcases List.mem_append.mp hy with q | q
     ·exact absurd q hy2
     ·exact List.mem_singleton.mp q
    subst hyx; rw [hf]; simp only; rw [if_pos trivial, whereI_new _ _ hx, hl]
  ·show firstI (textH s.2.1 s.2.2 x) y = _
   have h1 : y ∉ l := fun q => hy (List.mem_append_left _ q)
   have h2 : ¬ x.data.toList = y.data.toList := fun q => hy (List.mem_append_right _ (List.mem_singleton.mpr (bytesOf_same q).symm))
   rw [e2, firstI_append, h.no y h1]; simp only; rw [if_neg h2]
  ·unfold textAt; rw [hf, whereI_new _ _ hx, ← hl]; rfl
theorem TxR.prop {l : List ByteArray} {s : WSt} (h : TxR l s) (p : S68) : TxR (addT l p.f0) (wProp p s) := ((h.same (s2 := wCell ((p.f1.length : Int) % 4294967296) (wCell 3 s)) rfl).text p.f0).1.same rfl
theorem TxR.prop_at {l m : List ByteArray} {s : WSt} (h : TxR l s) (p : S68) (hv : p.f1.length < 4294967296) (hs : sizes (addT l p.f0 ++ m) < 4294967296) : (wProp p s).1 = s.1 ++ prB (addT l p.f0 ++ m) p := by
 have h1 := (h.text p.f0).2; have h2 := whereI_le p.f0 (addT l p.f0 ++ m); have h3 := whereI_app m p.f0 _ (addT_mem l p.f0); rw [wProp_fst, h1, ← h3]; unfold prB; rw [Int.emod_eq_of_lt Zq1 Zq1, Int.emod_eq_of_lt Zq1 Zq1]; have c3 : cellB 3 = [0, 0, 0, 3] := rfl; rw [c3]; simp only [List.append_assoc]
theorem txPs_app : ∀ (ps : List S68) (l : List ByteArray), ∃ m, ps.foldl (fun l p => addT l p.f0) l = l ++ m
 | [], l => ⟨[], Zq7⟩
 | p :: r, l => by
  obtain ⟨m1, h1⟩ := addT_app l p.f0; obtain ⟨m2, h2⟩ := txPs_app r (addT l p.f0); exact ⟨m1 ++ m2, by rw [List.foldl_cons, h2, h1, List.append_assoc]⟩
end Go.Proofs.YtkopmkinlanhoaaGreat.PE

namespace Go.Proofs.YtkopmkinlanhoaaGreat.PE
open Go.RowKit Go.Proofs.YtkopmkinlanhoaaGreatW.PrintWords Go.Proofs.YtkopmkinlanhoaaGreatW.PrintLast Go.Proofs.YtkopmkinlanhoaaGreatW.PrintMore
attribute [local go_sem] max2_int min2_int max_two min_two max_three min_three max_four min_four
open Go.Proofs.YtkopmkinlanhoaaGreat.Aid Go.Proofs.YtkopmkinlanhoaaGreat.Rdr
mutual
theorem txN_app : ∀ (x : S27) (l : List ByteArray), ∃ m, txN x l = l ++ m
 | ⟨a, ps, ks⟩, l => by
  obtain ⟨m1, h1⟩ := txPs_app ps l; obtain ⟨m2, h2⟩ := txK_app ks (ps.foldl (fun l p => addT l p.f0) l); exact ⟨m1 ++ m2, by rw [txN, h2, h1, List.append_assoc]⟩
theorem txK_app : ∀ (ks : List S27) (l : List ByteArray), ∃ m, txK ks l = l ++ m
 | [], l => ⟨[], by rw [txK]; simp⟩
 | x :: r, l => by
  obtain ⟨m1, h1⟩ := txN_app x l; obtain ⟨m2, h2⟩ := txK_app r (txN x l); exact ⟨m1 ++ m2, by rw [txK, h2, h1, List.append_assoc]⟩
end
theorem prs_flat (l : List ByteArray) : ∀ (ps : List S68) (o : List Int), ps.foldl (fun o p => o ++ prB l p) o = o ++ ps.flatMap (prB l)
 | [], o => by simp
 | p :: r, o => by rw [List.foldl_cons, prs_flat l r, List.flatMap_cons, List.append_assoc]
theorem kdA_flat (l : List ByteArray) : ∀ (ks : List S27) (o : List Int), kdA l ks o = o ++ ks.flatMap (ndB l)
 | [], o => by rw [kdA]; simp
 | x :: r, o => by rw [kdA, kdA_flat l r, List.flatMap_cons, List.append_assoc]
theorem TxR.props : ∀ (ps : List S68) (l : List ByteArray) (s : WSt), TxR l s → (∀ p ∈ ps, p.f1.length < 4294967296) → TxR (ps.foldl (fun l p => addT l p.f0) l) (ps.foldl (fun s p => wProp p s) s) ∧ ∀ m, sizes (ps.foldl (fun l p => addT l p.f0) l ++ m) < 4294967296 → (ps.foldl (fun s p => wProp p s) s).1 = s.1 ++ ps.flatMap (prB (ps.foldl (fun l p => addT l p.f0) l ++ m))
 | [], l, s, h, _ => ⟨h, fun m _ => by simp⟩
 | p :: r, l, s, h, hv => by
  obtain ⟨h1, h2⟩ := TxR.props r (addT l p.f0) (wProp p s) (h.prop p) (fun q hq => hv q (List.mem_cons_of_mem _ hq)); obtain ⟨m1, e1⟩ := txPs_app r (addT l p.f0); refine ⟨h1, fun m hm => ?_⟩; rw [List.foldl_cons] at hm ⊢; rw [List.foldl_cons, h2 m hm, List.flatMap_cons]; rw [e1, List.append_assoc] at hm ⊢; rw [h.prop_at p (hv p List.mem_cons_self) hm, List.append_assoc]
mutual
theorem TxR.node : ∀ (x : S27) (l : List ByteArray) (s : WSt), TxR l s → bulk27 x ≤ 1048576 → TxR (txN x l) (twN x s) ∧ ∀ m, sizes (txN x l ++ m) < 4294967296 → (twN x s).1 = s.1 ++ ndB (txN x l ++ m) x
 | ⟨a, ps, ks⟩, l, s, h, hb => by
  have h4 := bulk_eq ⟨a, ps, ks⟩; simp only at h4
  have hv : ∀ p ∈ ps, p.f1.length < 4294967296 := fun p hp => by
   have h7 := sumB_mem (B := bulk68) hp; have h8 := bulk_value p; omega
  obtain ⟨p1, p2⟩ := TxR.props ps l (wOpen a s) (h.same rfl) hv; obtain ⟨k1, k2⟩ := TxR.kids ks _ _ p1 Zq1; obtain ⟨m1, e1⟩ := txK_app ks (ps.foldl (fun l p => addT l p.f0) l); rw [txN, twN]; refine ⟨k1.same rfl, fun m hm => ?_⟩; have q1 := k2 m hm; rw [e1, List.append_assoc] at hm; have q2 := p2 (m1 ++ m) hm; rw [← List.append_assoc, ← e1] at q2; show (twK ks (ps.foldl (fun s p => wProp p s) (wOpen a s))).1 ++ cellB 2 = _; rw [q1, q2, open_fst, ndB, kdA_flat, prs_flat]; have c1 : cellB 1 = [0, 0, 0, 1] := rfl; have c2 : cellB 2 = [0, 0, 0, 2] := rfl; rw [c1, c2]; simp only [List.append_assoc]
theorem TxR.kids : ∀ (ks : List S27) (l : List ByteArray) (s : WSt), TxR l s → sumB bulk27 ks ≤ 1048576 → TxR (txK ks l) (twK ks s) ∧ ∀ m, sizes (txK ks l ++ m) < 4294967296 → (twK ks s).1 = s.1 ++ ks.flatMap (ndB (txK ks l ++ m))
 | [], l, s, h, _ => by
  rw [txK, twK]; exact ⟨h, fun m _ => by simp⟩
 | x :: r, l, s, h, hb => by
  simp only [sumB] at hb; obtain ⟨a1, a2⟩ := TxR.node x l s h Zq1; obtain ⟨b1, b2⟩ := TxR.kids r _ _ a1 Zq1; obtain ⟨m1, e1⟩ := txK_app r (txN x l); rw [txK, twK]; refine ⟨b1, fun m hm => ?_⟩; have q1 := b2 m hm; rw [e1, List.append_assoc] at hm; have q2 := a2 (m1 ++ m) hm; rw [← List.append_assoc, ← e1] at q2; rw [q1, q2, List.flatMap_cons, List.append_assoc]
end
theorem encF_blob (t : S29) (h : BlobOk t) : encF t.f0 t.f1 (wCell 9 (twN t.f2 ([], [], []))) = if (blobB t).length > 1048576 then ([], 7) else (blobB t, 0) := by
 obtain ⟨h1, h2⟩ := TxR.node t.f2 [] ([], [], []) TxR.nil h.bulk; have hsz := h.szs; have hnb := h.toks; have q := h2 [] (by rw [List.append_nil]; omega); rw [List.append_nil, List.nil_append] at q
 have e1 : (wCell 9 (twN t.f2 ([], [], []))).1 = ndB (txN t.f2 []) t.f2 ++ [0, 0, 0, 9] := by
  show (twN t.f2 ([], [], [])).1 ++ cellB 9 = _; rw [q]; rfl
 have e2 : (wCell 9 (twN t.f2 ([], [], []))).2.1 = txB (txN t.f2 []) := h1.bytes
 have e3 : resB (t.f1 ++ [⟨0, 0⟩]) = resB t.f1 ++ List.replicate 16 0 := by
  rw [resB_app]; rfl
 have hrl := resB_length t.f1; have hxl := txB_len (txN t.f2 []); have hl := h.len; have hbt := h.boot; unfold encF blobB; rw [e1, e2, e3]
 have l1 : (resB t.f1 ++ List.replicate 16 (0 : Int)).length = (resB t.f1).length + 16 := by rw [List.length_append, List.length_replicate]
 have l2 : (ndB (txN t.f2 []) t.f2 ++ [0, 0, 0, (9 : Int)]).length = (ndB (txN t.f2 []) t.f2).length + 4 := by rw [List.length_append]; rfl
 have l3 : (hdB (hdV t.f0 ((resB t.f1).length + 16) ((ndB (txN t.f2 []) t.f2).length + 4) (txB (txN t.f2 [])).length)).length = 40 := by
  unfold hdB; rw [hdB_from]; rfl
 have hr := hd_range t.f0 ((resB t.f1).length + 16) ((ndB (txN t.f2 []) t.f2).length + 4) (txB (txN t.f2 [])).length hbt Zq1 Zq1 Zq1
 have hh : headB (hdV t.f0 ((resB t.f1).length + 16) ((ndB (txN t.f2 []) t.f2).length + 4) (txB (txN t.f2 [])).length) = hdB (hdV t.f0 ((resB t.f1).length + 16) ((ndB (txN t.f2 []) t.f2).length + 4) (txB (txN t.f2 [])).length) := by
  unfold hdB; rw [hdB_flat, List.nil_append]; generalize hdV t.f0 ((resB t.f1).length + 16) ((ndB (txN t.f2 []) t.f2).length + 4) (txB (txN t.f2 [])).length = vs at hr; clear l3
  induction vs with
  | nil => rfl
  | cons v r ih =>
   have hv := hr v List.mem_cons_self; have := ih (fun y hy => hr y (List.mem_cons_of_mem _ hy)); unfold headB at this ⊢; rw [List.map_cons, List.flatten_cons, List.flatMap_cons, this, Int.emod_eq_of_lt hv.1 hv.2]
 rw [← hh] at l3 ⊢; simp only [List.length_append, l3] at l1 l2 ⊢; simp only [List.append_assoc]; rfl
open Go.Proofs.YtkopmkinlanhoaaGreat.Aid Go.Proofs.YtkopmkinlanhoaaGreat.Rdr
theorem enc_val (a0 : Int) (l1 : List S51) (x : S27) (hx : bulk27 x ≤ 1048576) (v : Int) (hv : Ev (fun k => tree_Check.f k a0 l1 x.f0 x.f1 x.f2) v) (hl : v = 0 → l1.length ≤ 64) :
  (v ≠ 0 → Ev (fun k => encode_Encode.f k a0 l1 x.f0 x.f1 x.f2) ([], v)) ∧ (v = 0 → Ev (fun k => encode_Encode.f k a0 l1 x.f0 x.f1 x.f2) (encF a0 l1 (wCell 9 (twN x ([], [], []))))) := by
 constructor
 ·intro h0; unfold encode_Encode.f
  exact Ev.then hv (Ev.neg h0 (Ev.some _))
 ·intro h0; subst h0; obtain ⟨m, b, hm, m1, m2, m3, m4⟩ := most_ev 1048576 Zq1 x 0 hx Zq1 Zq1; obtain rfl : b = false := m3 Zq1; have ht := totW_twN_le x ([], [], []); have ht0 : totW ([], [], []) = 0 := rfl; have hw := wr_ev x (okN_of x hx) ([], [], []) Zq1
  have hcap : capW (wCell 9 (twN x ([], [], []))) = some (wCell 9 (twN x ([], [], []))) := by
   unfold capW; rw [if_pos]; rw [totW_cell]; omega
  have hx3 : (⟨x.f0, x.f1, x.f2⟩ : S27) = x := by cases x; rfl
  unfold encode_Encode.f; rw [hx3]
  exact Ev.then hv (Ev.pos rfl (Ev.then hm (Ev.neg Bool.false_ne_true (Ev.then (a := twN x ([], [], [])) hw (Ev.then (Ev.fix hcap) (Ev.pos (hl rfl) (Ev.some _)))))))
theorem layout_self (k : Nat) (t : S29) (ha : 0 ≤ t.f0 ∧ t.f0 < 4294967296) (c : List Int) (hen : encode_Encode.f k t.f0 t.f1 t.f2.f0 t.f2.f1 t.f2.f2 = some (c, 0)) (hdc : decode_Decode.f k c = some (t, 0)) : encode_Layout.f k c = some true := by
 unfold encode_Layout.f; rw [hdc, Option.bind_some, if_pos rfl, if_pos ha, hen, Option.bind_some, if_pos rfl]; unfold bytes_Equal.f; rw [beq_self_eq_true]
def WritesFact (k : Nat) (t : S29) : Prop := BlobOk t ∧ (∃ few, arboretlaw03_Few.f k t.f0 t.f1 t.f2.f0 t.f2.f1 t.f2.f2 = some few) ∧ ∃ chk r e, arboretref01_Check.f k t.f0 t.f1 t.f2.f0 t.f2.f1 t.f2.f2 = some chk ∧ encode_Encode.f k t.f0 t.f1 t.f2.f0 t.f2.f1 t.f2.f2 = some (r, e) ∧
 ((chk ≠ 0 ∧ e = chk ∧ r = []) ∨ (chk = 0 ∧ (blobB t).length > 1048576 ∧ e = 7 ∧ r = []) ∨ (chk = 0 ∧ (blobB t).length ≤ 1048576 ∧ e = 0 ∧ r = blobB t ∧ encode_Layout.f k (blobB t) = some true))
theorem writes_ev (t : S29) (h : BlobOk t) : ∃ k, WritesFact k t := by
 obtain ⟨few, k1, hf⟩ := few_ends t.f0 t.f1 t.f2 h.bulk; obtain ⟨v, hv, k2, hr⟩ := both_check t.f0 t.f1 t.f2 h.bulk h.len
 have hl : v = 0 → t.f1.length ≤ 64 := fun h0 => by
  obtain ⟨k, hk⟩ := hv.rounds; exact (check_inv k t.f0 t.f1 t.f2 h.bulk h.len (by rw [hk, h0])).2.2.1
 obtain ⟨e1, e2⟩ := enc_val t.f0 t.f1 t.f2 h.bulk v hv hl
 by_cases h0 : v = 0
 ·have q := e2 h0; rw [encF_blob t h] at q
  by_cases hb : (blobB t).length > 1048576
  ·rw [if_pos hb] at q; obtain ⟨k3, q⟩ := q; exact ⟨k1 + k2 + k3, h, ⟨few, hf _ Zq1⟩, v, [], 7, hr _ Zq1, q _ Zq1, .inr (.inl ⟨h0, hb, rfl, rfl⟩)⟩
  ·rw [if_neg hb] at q; obtain ⟨r, e, ⟨k4, he⟩, hc⟩ := back_ev t.f0 h.boot t.f1 h.res t.f2 h.bulk h.len; obtain ⟨k3, q⟩ := q
   have hre : (r, e) = (blobB t, (0 : Int)) := by
    have a := he (k3 + k4) Zq1; have b := q (k3 + k4) Zq1; exact Option.some.inj (a.symm.trans b)
   obtain ⟨rfl, rfl⟩ := Prod.mk.inj hre
   rcases hc with ⟨hc, _⟩ | ⟨_, _, k5, hd⟩
   ·exact absurd rfl hc
   ·exact ⟨k1 + k2 + k3 + k4 + k5, h, ⟨few, hf _ Zq1⟩, v, _, 0, hr _ Zq1, q _ Zq1, .inr (.inr ⟨h0, Zq1, rfl, rfl, layout_self _ t h.boot _ (q _ Zq1) (hd _ Zq1)⟩)⟩
 ·obtain ⟨k3, q⟩ := e1 h0; exact ⟨k1 + k2 + k3, h, ⟨few, hf _ Zq1⟩, v, [], v, hr _ Zq1, q _ Zq1, .inl ⟨h0, rfl, rfl⟩⟩
set_option maxRecDepth 100000 in
set_option maxHeartbeats 2000000 in
theorem awake05.calls (w : World) : Calls Tryz.prog 4 #[] w fun e w' => e = .returned (.bool true) ∧ Below w.heap.size w w' := by
 have HE := AK (encode_Encode.calls 20 0 none 0 [] ⟨#[]⟩ none 0 [] none 0 [] b72 0 w (Kd.C_nil _ _) (Nat.le_refl _) (Kd.C_nil _ _) (Nat.le_refl _) (Kd.C_nil _ _) (Nat.le_refl _) Zq2 enc72)
 have HL : Aside0 (∀ (A : Option Addr) (c : Nat) (W : World), Kd.C (Kd.int .u8) W A 72 b72 → 72 ≤ c → Calls Tryz.prog 9 #[.slice A 72 c] W fun e w' => e = .returned (.bool true) ∧ Below W.heap.size W w') := ⟨fun A c W h1 h2 => by
  have h := encode_Layout.calls 80 A c b72 true W (by rw [len72]; exact h1) (by rw [len72]; exact h2) lay72; rw [len72] at h
  exact h⟩
 go_enter Tryz.func4, Tryz.ntmps4; (go_wp2_with (first | (go_at_call 6; refine HE.out.mono ?_; rintro e w1 ⟨v, rfl, hr, hb⟩; obtain ⟨Ab, cb, rfl, hcb, hCb⟩ := Kd.R_reads hr; rw [len72] at hcb hCb ⊢; have HX := AK (And.intro hCb hcb); have HB1 := AK hb; clear hr hb hcb hCb) | (go_at_call 9; refine (HL.out Ab cb w1 HX.out.1 HX.out.2).mono ?_; rintro e w2 ⟨rfl, hb⟩; have HB2 := Zq103; clear hb))); refine bodyPost_ret (results_tmp rfl _ _ _) rfl ?_; exact ⟨rfl, HB2.out⟩
open Go.Proofs.YtkopmkinlanhoaaGreat.Aid Go.Proofs.YtkopmkinlanhoaaGreat.Rdr
set_option maxRecDepth 100000 in
set_option maxHeartbeats 4000000 in
theorem writes.calls (t : S29) (A1 : Option Addr) (c1 : Nat) (A3 : Option Addr) (c3 : Nat) (A4 : Option Addr) (c4 : Nat) (w : World) (hT : TreeC w t A1 c1 A3 c3 A4 c4) (k : Nat) (hfact : WritesFact k t) :
  Calls Tryz.prog 3 #[treeV t A1 c1 A3 c3 A4 c4] w fun e w' => e = .returned (.bool true) ∧ Below w.heap.size w w' := by
 obtain ⟨hok, ⟨few, hfew⟩, chk, r, er, hchk, hen, hcase⟩ := hfact; have hu29 := Tryz.underlying29; have hu27 := Tryz.underlying27; have hb0 : Below w.heap.size w (w.alloc (.cells #[.int .u32 t.f0, .slice A1 t.f1.length c1, .string t.f2.f0, .slice A3 t.f2.f1.length c3, .slice A4 t.f2.f2.length c4] 29)) := below_alloc (Below.refl w.heap.size w) _; have HB0 := AK hb0; have HK := AK (blk_new w (.cells #[.int .u32 t.f0, .slice A1 t.f1.length c1, .string t.f2.f0, .slice A3 t.f2.f1.length c3, .slice A4 t.f2.f2.length c4] 29 (0, 0))); have HAW := AK awake05.calls; have HF := AK (fun (W : World) (hb : Below w.heap.size w W) => arboretlaw03_Few.calls k t.f0 A1 c1 t.f1 t.f2.f0 A3 c3 t.f2.f1 A4 c4 t.f2.f2 few W (hT.below hb).r1 hT.l1 (hT.below hb).r3 hT.l3 (hT.below hb).r4 hT.l4 hfew); have HE := AK (fun (W : World) (hb : Below w.heap.size w W) => encode_Encode.calls k t.f0 A1 c1 t.f1 t.f2.f0 A3 c3 t.f2.f1 A4 c4 t.f2.f2 r er W (hT.below hb).r1 hT.l1 (hT.below hb).r3 hT.l3 (hT.below hb).r4 hT.l4 hok.boot hen); have HC := AK (fun (W : World) (hb : Below w.heap.size w W) => arboretref01_Check.calls k t.f0 A1 c1 t.f1 t.f2.f0 A3 c3 t.f2.f1 A4 c4 t.f2.f2 chk W (hT.below hb).r1 hT.l1 (hT.below hb).r3 hT.l3 (hT.below hb).r4 hT.l4 hchk); have hszs := hok.szs; have htoks := hok.toks
 obtain ⟨xb, hxb⟩ : ∃ xb, xb = blobB t := ⟨_, rfl⟩
 have HX := AK (fun (W : World) (hb : Below w.heap.size w W) => blob.calls t A1 c1 A3 c3 A4 c4 W (hT.below hb) hok.boot hok.res hok.bulk hok.len Zq1 Zq1); rw [← hxb] at HX hcase
 cases few with
 | false =>
  clear hT hok hfew hchk hen hszs htoks hcase hxb HX HC HE; go_enter Tryz.func3, Tryz.ntmps3; (go_wp2_with (first | (go_at_call 4; refine (HAW.out w2).mono ?_; rintro e w3 ⟨rfl, hb⟩; have HB3 := AK (below_step HB2.out hb); clear hb) | (go_at_call 5; refine (HF.out _ HB1.out).mono ?_; rintro e w2 ⟨rfl, hb⟩; have HB2 := Zq103; have HK := Zq77; have z0 : w2.cell? ⟨w.heap.size, 0, none⟩ = some (.int .u32 t.f0) := (blk_cell HK.out 0).trans rfl; have z1 : w2.cell? ⟨w.heap.size, 1, none⟩ = some (.slice A1 t.f1.length c1) := (blk_cell HK.out 1).trans rfl; have z2 : w2.cell? ⟨w.heap.size, 2, none⟩ = some (.string t.f2.f0) := (blk_cell HK.out 2).trans rfl; have z3 : w2.cell? ⟨w.heap.size, 3, none⟩ = some (.slice A3 t.f2.f1.length c3) := (blk_cell HK.out 3).trans rfl; have z4 : w2.cell? ⟨w.heap.size, 4, none⟩ = some (.slice A4 t.f2.f2.length c4) := (blk_cell HK.out 4).trans rfl; clear hb) | (go_at_call 4; refine (HAW.out (w.alloc (.cells #[.int .u32 t.f0, .slice A1 t.f1.length c1, .string t.f2.f0, .slice A3 t.f2.f1.length c3, .slice A4 t.f2.f2.length c4] 29))).mono ?_; rintro e w1 ⟨rfl, hb⟩; have HB1 := Zq102; have HK := Zq77; have z0 : w1.cell? ⟨w.heap.size, 0, none⟩ = some (.int .u32 t.f0) := (blk_cell HK.out 0).trans rfl; have z1 : w1.cell? ⟨w.heap.size, 1, none⟩ = some (.slice A1 t.f1.length c1) := (blk_cell HK.out 1).trans rfl; have z2 : w1.cell? ⟨w.heap.size, 2, none⟩ = some (.string t.f2.f0) := (blk_cell HK.out 2).trans rfl; have z3 : w1.cell? ⟨w.heap.size, 3, none⟩ = some (.slice A3 t.f2.f1.length c3) := (blk_cell HK.out 3).trans rfl; have z4 : w1.cell? ⟨w.heap.size, 4, none⟩ = some (.slice A4 t.f2.f2.length c4) := (blk_cell HK.out 4).trans rfl; clear hb))); refine bodyPost_ret (results_tmp rfl _ _ _) rfl ?_; exact ⟨rfl, HB3.out⟩
 | true =>
  rcases hcase with ⟨hc, he, rfl⟩ | ⟨hc, hg, he, rfl⟩ | ⟨hc, hg, he, hr, hly⟩
  ·subst he; have b1 : (er != 0) = true := bne_iff_ne.mpr hc; clear hT hok hfew hchk hen hszs htoks hxb HX hc; go_enter Tryz.func3, Tryz.ntmps3; (go_wp2_with (first | (go_at_call 7; refine (HC.out _ HB3.out).mono ?_; rintro e w4 ⟨rfl, hb⟩; have HX4 := AK (Kd.C_below HX3.out hb); have HB4 := AK (below_step HB3.out hb); have HK := Zq77; have z0 : w4.cell? ⟨w.heap.size, 0, none⟩ = some (.int .u32 t.f0) := (blk_cell HK.out 0).trans rfl; have z1 : w4.cell? ⟨w.heap.size, 1, none⟩ = some (.slice A1 t.f1.length c1) := (blk_cell HK.out 1).trans rfl; have z2 : w4.cell? ⟨w.heap.size, 2, none⟩ = some (.string t.f2.f0) := (blk_cell HK.out 2).trans rfl; have z3 : w4.cell? ⟨w.heap.size, 3, none⟩ = some (.slice A3 t.f2.f1.length c3) := (blk_cell HK.out 3).trans rfl; have z4 : w4.cell? ⟨w.heap.size, 4, none⟩ = some (.slice A4 t.f2.f2.length c4) := (blk_cell HK.out 4).trans rfl; clear hb) | (go_at_call 6; refine (HE.out _ HB2.out).mono ?_; rintro e w3 ⟨v3, rfl, hr, hb⟩; obtain ⟨A6, c6, rfl, hc6, hC6⟩ := Kd.R_reads hr; have HX3 := AK hC6; have HL3 := AK hc6; have HB3 := AK (below_step HB2.out hb); have HK := Zq77; have z0 : w3.cell? ⟨w.heap.size, 0, none⟩ = some (.int .u32 t.f0) := (blk_cell HK.out 0).trans rfl; have z1 : w3.cell? ⟨w.heap.size, 1, none⟩ = some (.slice A1 t.f1.length c1) := (blk_cell HK.out 1).trans rfl; have z2 : w3.cell? ⟨w.heap.size, 2, none⟩ = some (.string t.f2.f0) := (blk_cell HK.out 2).trans rfl; have z3 : w3.cell? ⟨w.heap.size, 3, none⟩ = some (.slice A3 t.f2.f1.length c3) := (blk_cell HK.out 3).trans rfl; have z4 : w3.cell? ⟨w.heap.size, 4, none⟩ = some (.slice A4 t.f2.f2.length c4) := (blk_cell HK.out 4).trans rfl; clear hb hr hC6 hc6) | (go_at_call 5; refine (HF.out _ HB1.out).mono ?_; rintro e w2 ⟨rfl, hb⟩; have HB2 := Zq103; have HK := Zq77; have z0 : w2.cell? ⟨w.heap.size, 0, none⟩ = some (.int .u32 t.f0) := (blk_cell HK.out 0).trans rfl; have z1 : w2.cell? ⟨w.heap.size, 1, none⟩ = some (.slice A1 t.f1.length c1) := (blk_cell HK.out 1).trans rfl; have z2 : w2.cell? ⟨w.heap.size, 2, none⟩ = some (.string t.f2.f0) := (blk_cell HK.out 2).trans rfl; have z3 : w2.cell? ⟨w.heap.size, 3, none⟩ = some (.slice A3 t.f2.f1.length c3) := (blk_cell HK.out 3).trans rfl; have z4 : w2.cell? ⟨w.heap.size, 4, none⟩ = some (.slice A4 t.f2.f2.length c4) := (blk_cell HK.out 4).trans rfl; clear hb) | (go_at_call 4; refine (HAW.out (w.alloc (.cells #[.int .u32 t.f0, .slice A1 t.f1.length c1, .string t.f2.f0, .slice A3 t.f2.f1.length c3, .slice A4 t.f2.f2.length c4] 29))).mono ?_; rintro e w1 ⟨rfl, hb⟩; have HB1 := Zq102; have HK := Zq77; have z0 : w1.cell? ⟨w.heap.size, 0, none⟩ = some (.int .u32 t.f0) := (blk_cell HK.out 0).trans rfl; have z1 : w1.cell? ⟨w.heap.size, 1, none⟩ = some (.slice A1 t.f1.length c1) := (blk_cell HK.out 1).trans rfl; have z2 : w1.cell? ⟨w.heap.size, 2, none⟩ = some (.string t.f2.f0) := (blk_cell HK.out 2).trans rfl; have z3 : w1.cell? ⟨w.heap.size, 3, none⟩ = some (.slice A3 t.f2.f1.length c3) := (blk_cell HK.out 3).trans rfl; have z4 : w1.cell? ⟨w.heap.size, 4, none⟩ = some (.slice A4 t.f2.f2.length c4) := (blk_cell HK.out 4).trans rfl; clear hb))); refine bodyPost_ret (results_tmp rfl _ _ _) rfl ?_; exact ⟨rfl, HB4.out⟩
  ·subst hc he; have d1 : decide ((1048576 : Int) < (xb.length : Int)) = true := decide_eq_true Zq1
   obtain ⟨r, hr⟩ : ∃ r : List Int, r = [] := ⟨_, rfl⟩
   rw [← hr] at HE
   have hrl : r.length = 0 := by rw [hr]; rfl
   clear hT hok hfew hchk hen hszs htoks hxb hg hr; go_enter Tryz.func3, Tryz.ntmps3; (go_wp2_with (first | (go_at_call 8; refine (HX.out _ HB4.out).mono ?_; rintro e w5 ⟨v5, rfl, hr, hb⟩; obtain ⟨A7, c7, rfl, hc7, hC7⟩ := Kd.R_reads hr; have HX5 := AK (Kd.C_below HX4.out hb); have HY5 := AK hC7; have HB5 := AK (below_step HB4.out hb); have hcvA6 := Kd.C_string (P := Tryz.prog) (A := A6) (c := c6) Tryz.underlying32 Tryz.underlying5 Tryz.underlying9 HX5.out; have hcvA7 := Kd.C_string (P := Tryz.prog) (A := A7) (c := c7) Tryz.underlying32 Tryz.underlying5 Tryz.underlying9 HY5.out; clear hr hb hC7 hc7) | (go_at_call 7; refine (HC.out _ HB3.out).mono ?_; rintro e w4 ⟨rfl, hb⟩; have HX4 := AK (Kd.C_below HX3.out hb); have HB4 := AK (below_step HB3.out hb); have HK := Zq77; have z0 : w4.cell? ⟨w.heap.size, 0, none⟩ = some (.int .u32 t.f0) := (blk_cell HK.out 0).trans rfl; have z1 : w4.cell? ⟨w.heap.size, 1, none⟩ = some (.slice A1 t.f1.length c1) := (blk_cell HK.out 1).trans rfl; have z2 : w4.cell? ⟨w.heap.size, 2, none⟩ = some (.string t.f2.f0) := (blk_cell HK.out 2).trans rfl; have z3 : w4.cell? ⟨w.heap.size, 3, none⟩ = some (.slice A3 t.f2.f1.length c3) := (blk_cell HK.out 3).trans rfl; have z4 : w4.cell? ⟨w.heap.size, 4, none⟩ = some (.slice A4 t.f2.f2.length c4) := (blk_cell HK.out 4).trans rfl; clear hb) | (go_at_call 6; refine (HE.out _ HB2.out).mono ?_; rintro e w3 ⟨v3, rfl, hr, hb⟩; obtain ⟨A6, c6, rfl, hc6, hC6⟩ := Kd.R_reads hr; have HX3 := AK hC6; have HL3 := AK hc6; have HB3 := AK (below_step HB2.out hb); have HK := Zq77; have z0 : w3.cell? ⟨w.heap.size, 0, none⟩ = some (.int .u32 t.f0) := (blk_cell HK.out 0).trans rfl; have z1 : w3.cell? ⟨w.heap.size, 1, none⟩ = some (.slice A1 t.f1.length c1) := (blk_cell HK.out 1).trans rfl; have z2 : w3.cell? ⟨w.heap.size, 2, none⟩ = some (.string t.f2.f0) := (blk_cell HK.out 2).trans rfl; have z3 : w3.cell? ⟨w.heap.size, 3, none⟩ = some (.slice A3 t.f2.f1.length c3) := (blk_cell HK.out 3).trans rfl; have z4 : w3.cell? ⟨w.heap.size, 4, none⟩ = some (.slice A4 t.f2.f2.length c4) := (blk_cell HK.out 4).trans rfl; clear hb hr hC6 hc6) | (go_at_call 5; refine (HF.out _ HB1.out).mono ?_; rintro e w2 ⟨rfl, hb⟩; have HB2 := Zq103; have HK := Zq77; have z0 : w2.cell? ⟨w.heap.size, 0, none⟩ = some (.int .u32 t.f0) := (blk_cell HK.out 0).trans rfl; have z1 : w2.cell? ⟨w.heap.size, 1, none⟩ = some (.slice A1 t.f1.length c1) := (blk_cell HK.out 1).trans rfl; have z2 : w2.cell? ⟨w.heap.size, 2, none⟩ = some (.string t.f2.f0) := (blk_cell HK.out 2).trans rfl; have z3 : w2.cell? ⟨w.heap.size, 3, none⟩ = some (.slice A3 t.f2.f1.length c3) := (blk_cell HK.out 3).trans rfl; have z4 : w2.cell? ⟨w.heap.size, 4, none⟩ = some (.slice A4 t.f2.f2.length c4) := (blk_cell HK.out 4).trans rfl; clear hb) | (go_at_call 4; refine (HAW.out (w.alloc (.cells #[.int .u32 t.f0, .slice A1 t.f1.length c1, .string t.f2.f0, .slice A3 t.f2.f1.length c3, .slice A4 t.f2.f2.length c4] 29))).mono ?_; rintro e w1 ⟨rfl, hb⟩; have HB1 := Zq102; have HK := Zq77; have z0 : w1.cell? ⟨w.heap.size, 0, none⟩ = some (.int .u32 t.f0) := (blk_cell HK.out 0).trans rfl; have z1 : w1.cell? ⟨w.heap.size, 1, none⟩ = some (.slice A1 t.f1.length c1) := (blk_cell HK.out 1).trans rfl; have z2 : w1.cell? ⟨w.heap.size, 2, none⟩ = some (.string t.f2.f0) := (blk_cell HK.out 2).trans rfl; have z3 : w1.cell? ⟨w.heap.size, 3, none⟩ = some (.slice A3 t.f2.f1.length c3) := (blk_cell HK.out 3).trans rfl; have z4 : w1.cell? ⟨w.heap.size, 4, none⟩ = some (.slice A4 t.f2.f2.length c4) := (blk_cell HK.out 4).trans rfl; clear hb))); refine bodyPost_ret (results_tmp rfl _ _ _) rfl ?_; exact ⟨rfl, HB5.out⟩
  ·subst hc he; rw [hr] at HE; have d1 : decide ((1048576 : Int) < (xb.length : Int)) = false := decide_eq_false Zq1; have HLY := AK hly; clear hT hok hfew hchk hen hszs htoks hxb hg hly hr; go_enter Tryz.func3, Tryz.ntmps3; (go_wp2_with (first | (go_at_call 9; refine (encode_Layout.calls k A6 c6 xb true w5 HX5.out HL3.out HLY.out).mono ?_; rintro e w6 ⟨rfl, hb⟩; have HB6 := AK (below_step HB5.out hb); clear hb) | (go_at_call 8; refine (HX.out _ HB4.out).mono ?_; rintro e w5 ⟨v5, rfl, hr, hb⟩; obtain ⟨A7, c7, rfl, hc7, hC7⟩ := Kd.R_reads hr; have HX5 := AK (Kd.C_below HX4.out hb); have HY5 := AK hC7; have HB5 := AK (below_step HB4.out hb); have hcvA6 := Kd.C_string (P := Tryz.prog) (A := A6) (c := c6) Tryz.underlying32 Tryz.underlying5 Tryz.underlying9 HX5.out; have hcvA7 := Kd.C_string (P := Tryz.prog) (A := A7) (c := c7) Tryz.underlying32 Tryz.underlying5 Tryz.underlying9 HY5.out; clear hr hb hC7 hc7) | (go_at_call 7; refine (HC.out _ HB3.out).mono ?_; rintro e w4 ⟨rfl, hb⟩; have HX4 := AK (Kd.C_below HX3.out hb); have HB4 := AK (below_step HB3.out hb); have HK := Zq77; have z0 : w4.cell? ⟨w.heap.size, 0, none⟩ = some (.int .u32 t.f0) := (blk_cell HK.out 0).trans rfl; have z1 : w4.cell? ⟨w.heap.size, 1, none⟩ = some (.slice A1 t.f1.length c1) := (blk_cell HK.out 1).trans rfl; have z2 : w4.cell? ⟨w.heap.size, 2, none⟩ = some (.string t.f2.f0) := (blk_cell HK.out 2).trans rfl; have z3 : w4.cell? ⟨w.heap.size, 3, none⟩ = some (.slice A3 t.f2.f1.length c3) := (blk_cell HK.out 3).trans rfl; have z4 : w4.cell? ⟨w.heap.size, 4, none⟩ = some (.slice A4 t.f2.f2.length c4) := (blk_cell HK.out 4).trans rfl; clear hb) | (go_at_call 6; refine (HE.out _ HB2.out).mono ?_; rintro e w3 ⟨v3, rfl, hr, hb⟩; obtain ⟨A6, c6, rfl, hc6, hC6⟩ := Kd.R_reads hr; have HX3 := AK hC6; have HL3 := AK hc6; have HB3 := AK (below_step HB2.out hb); have HK := Zq77; have z0 : w3.cell? ⟨w.heap.size, 0, none⟩ = some (.int .u32 t.f0) := (blk_cell HK.out 0).trans rfl; have z1 : w3.cell? ⟨w.heap.size, 1, none⟩ = some (.slice A1 t.f1.length c1) := (blk_cell HK.out 1).trans rfl; have z2 : w3.cell? ⟨w.heap.size, 2, none⟩ = some (.string t.f2.f0) := (blk_cell HK.out 2).trans rfl; have z3 : w3.cell? ⟨w.heap.size, 3, none⟩ = some (.slice A3 t.f2.f1.length c3) := (blk_cell HK.out 3).trans rfl; have z4 : w3.cell? ⟨w.heap.size, 4, none⟩ = some (.slice A4 t.f2.f2.length c4) := (blk_cell HK.out 4).trans rfl; clear hb hr hC6 hc6) | (go_at_call 5; refine (HF.out _ HB1.out).mono ?_; rintro e w2 ⟨rfl, hb⟩; have HB2 := Zq103; have HK := Zq77; have z0 : w2.cell? ⟨w.heap.size, 0, none⟩ = some (.int .u32 t.f0) := (blk_cell HK.out 0).trans rfl; have z1 : w2.cell? ⟨w.heap.size, 1, none⟩ = some (.slice A1 t.f1.length c1) := (blk_cell HK.out 1).trans rfl; have z2 : w2.cell? ⟨w.heap.size, 2, none⟩ = some (.string t.f2.f0) := (blk_cell HK.out 2).trans rfl; have z3 : w2.cell? ⟨w.heap.size, 3, none⟩ = some (.slice A3 t.f2.f1.length c3) := (blk_cell HK.out 3).trans rfl; have z4 : w2.cell? ⟨w.heap.size, 4, none⟩ = some (.slice A4 t.f2.f2.length c4) := (blk_cell HK.out 4).trans rfl; clear hb) | (go_at_call 4; refine (HAW.out (w.alloc (.cells #[.int .u32 t.f0, .slice A1 t.f1.length c1, .string t.f2.f0, .slice A3 t.f2.f1.length c3, .slice A4 t.f2.f2.length c4] 29))).mono ?_; rintro e w1 ⟨rfl, hb⟩; have HB1 := Zq102; have HK := Zq77; have z0 : w1.cell? ⟨w.heap.size, 0, none⟩ = some (.int .u32 t.f0) := (blk_cell HK.out 0).trans rfl; have z1 : w1.cell? ⟨w.heap.size, 1, none⟩ = some (.slice A1 t.f1.length c1) := (blk_cell HK.out 1).trans rfl; have z2 : w1.cell? ⟨w.heap.size, 2, none⟩ = some (.string t.f2.f0) := (blk_cell HK.out 2).trans rfl; have z3 : w1.cell? ⟨w.heap.size, 3, none⟩ = some (.slice A3 t.f2.f1.length c3) := (blk_cell HK.out 3).trans rfl; have z4 : w1.cell? ⟨w.heap.size, 4, none⟩ = some (.slice A4 t.f2.f2.length c4) := (blk_cell HK.out 4).trans rfl; clear hb))); refine bodyPost_ret (results_tmp rfl _ _ _) rfl ?_; exact ⟨rfl, HB6.out⟩
noncomputable def arboretlaw05_EncodeWrites.f (k : Nat) (a0 : Int) (l1 : List S51) (a2 : ByteArray) (l3 : List S68) (l4 : List S27) : Option Bool := @ite _ (WritesFact k ⟨a0, l1, ⟨a2, l3, l4⟩⟩) (Classical.propDecidable _) (some true) none
theorem arboretlaw05_EncodeWrites.calls (k : Nat) (a0 : Int) (A1 : Option Addr) (c1 : Nat) (l1 : List S51) (a2 : ByteArray) (A3 : Option Addr) (c3 : Nat) (l3 : List S68) (A4 : Option Addr) (c4 : Nat) (l4 : List S27) (r : Bool) (w : World)
  (hr1 : Kd.C k51 w A1 l1.length l1) (hc1 : l1.length ≤ c1) (hr3 : Kd.C k68 w A3 l3.length l3) (hc3 : l3.length ≤ c3) (hr4 : Kd.C k27 w A4 l4.length l4) (hc4 : l4.length ≤ c4) (h : arboretlaw05_EncodeWrites.f k a0 l1 a2 l3 l4 = some r) :
  Calls Tryz.prog 3 #[.agg #[.int .u32 a0, .slice A1 l1.length c1, .string a2, .slice A3 l3.length c3, .slice A4 l4.length c4]] w fun e w' => e = .returned (.bool r) ∧ Below w.heap.size w w' := by
 unfold arboretlaw05_EncodeWrites.f at h
 by_cases hf : WritesFact k ⟨a0, l1, ⟨a2, l3, l4⟩⟩
 ·rw [if_pos hf] at h; obtain rfl := Option.some.inj h; exact writes.calls ⟨a0, l1, ⟨a2, l3, l4⟩⟩ A1 c1 A3 c3 A4 c4 w ⟨hr1, hc1, hr3, hc3, hr4, hc4⟩ k hf
 ·rw [if_neg hf] at h; cases h
end Go.Proofs.YtkopmkinlanhoaaGreat.PE

namespace Go.Proofs.YtkopmkinlanhoaaGreat.PE
open Go.RowKit Go.Proofs.YtkopmkinlanhoaaGreat.Rdr Go.Proofs.YtkopmkinlanhoaaGreatW.PrintWords Go.Proofs.YtkopmkinlanhoaaGreatW.PrintLast Go.Proofs.YtkopmkinlanhoaaGreatW.PrintMore
def arboretlaw05_EncodeWrites.Pure : Prop := ∀ (x0 : S29), bulk29 x0 ≤ 1048576 → good29 x0 → ∃ k, arboretlaw05_EncodeWrites.f k x0.f0 x0.f1 x0.f2.f0 x0.f2.f1 x0.f2.f2 = some true
end Go.Proofs.YtkopmkinlanhoaaGreat.PE

namespace Go.Proofs.YtkopmkinlanhoaaGreat.Pure
open Go.RowKit Go.Proofs.YtkopmkinlanhoaaGreat.PE Go.Proofs.YtkopmkinlanhoaaGreat.Rdr Go.Proofs.YtkopmkinlanhoaaGreat.Aid Go.Proofs.YtkopmkinlanhoaaGreatW.PrintWords
theorem EncodeWrites : arboretlaw05_EncodeWrites.Pure := by
 intro t hb gt; have hb2 : 1 + (sumB bulk51 t.f1 + 1) + bulk27 t.f2 + 1 ≤ 1048576 := hb
 have hx : bulk27 t.f2 ≤ 1048576 := by omega
 have hr : t.f1.length ≤ 1048576 := by
  have := sumB_len (B := bulk51) (fun r => by unfold bulk51; omega) t.f1; omega
 obtain ⟨g0, g1, _⟩ := gt; have ha := wf_u32.mp g0
 have hres : ∀ r ∈ t.f1, resOk r := fun r hr => by
  obtain ⟨q0, q1⟩ := g1 r hr; have a := wf_u64.mp q0; have b := wf_u64.mp q1; exact ⟨a.1, Zq1, b.1, Zq1⟩
 obtain ⟨k, hk⟩ := writes_ev t ⟨⟨ha.1, Zq1⟩, hres, hx, hr⟩; refine ⟨k, ?_⟩; obtain ⟨a0, l1, ⟨a2, l3, l4⟩⟩ := t; unfold arboretlaw05_EncodeWrites.f; exact if_pos hk
end Go.Proofs.YtkopmkinlanhoaaGreat.Pure

namespace Go.Proofs.YtkopmkinlanhoaaGreat.encodeWrites
open Go.ChangeShapes Go.WideShapes Go.ChangeAt Go.RowKit Go.Proofs.YtkopmkinlanhoaaGreat.Rdr Go.Proofs.YtkopmkinlanhoaaGreat.PE
open Go.ChangeMaps (open_string shut_string)
theorem own : ownKnob Tryz.prog.godebug = none := by kernel_rfl
theorem laidOut : laidOutB Tryz.prog = true := by kernel_rfl
set_option maxRecDepth 100000 in
theorem contract (H : Type) (enc : TypeId × Value → H) (W : World) (base : Nat) (args : Array Value) (ds gs : List (DataW H)) (before : List MemPlace)
  (hval0 : ∀ (j : Nat) t v, Tryz.f3.params[j]? = some t → args[j]? = some v → Value.okWide Tryz.prog W .any base t v)
  (hW : DataW.Whole enc Tryz.prog Tryz.f3.params.toList Rows.encodeWritesSpec.vars false W args.toList ds gs before) (hk : Rows.uptoSmall H (ds ++ gs) = true) :
  Calls Tryz.prog 3 args W fun e W' => ∃ v, e = .returned v ∧ Rows.encodeWritesSpec.post enc Tryz.prog Tryz.f3 false true false false W args v W' := by
 have hval : ∀ (j : Nat) t v, Tryz.f3.params[j]? = some t → args[j]? = some v → Value.okWide Tryz.prog W .any base t v := hval0; have hW' := hW; obtain ⟨p, q, hA0, hV, rfl, hfz, hnd⟩ := hW; have hA : DataW.TrodAll enc Tryz.prog W 0 (fun _ => true) true Tryz.f3.params.toList args.toList ds p := hA0; rw [Tryz.params3] at hA hval; obtain ⟨v0, vs0, d0, ds0, p0, q0, hargs, rfl, rfl, h0, tr0⟩ := trodAll_cons hA; obtain ⟨rfl, rfl, rfl⟩ := trodAll_nil tr0
 obtain rfl : args = #[v0] := by cases args; simp_all
 obtain ⟨rfl, rfl⟩ := trodVars_none hV; have hb := bound hk; simp only [List.append_nil, Rows.uptoBulkAll, List.nil_append] at hb; have k0 := h0
 have lt0 : ∀ x ∈ p0, x.block < W.heap.size := by obtain ⟨m, hm⟩ := k0; exact DataW.trod_lt m _ _ _ hm
 obtain ⟨cs0, rfl, hcs0⟩ : ∃ cs, v0 = .agg cs ∧ True := by
  have z := (hval 0 29 v0 rfl rfl)
  simp only [Value.okWide, Tryz.underlying29] at z; obtain ⟨cs, hc, _⟩ := z; exact ⟨cs, hc, trivial⟩
 obtain ⟨f0, hf0⟩ := h0; obtain ⟨x0, K0, b0, g0⟩ := rd29 W f0 H enc f0 (Nat.le_refl _) _ _ hf0; obtain ⟨A0_1, c0_1, A0_3, c0_3, A0_4, c0_4, e0, l0_1, r0_1, l0_3, r0_3, l0_4, r0_4⟩ := k29_open K0; obtain ⟨cl0⟩ := cs0; have e0' : cl0 = _ := e0; subst e0'; obtain ⟨k, hk_⟩ := Pure.EncodeWrites x0 (by (try simp only [Rows.uptoBulk, Array.length_toList] at hb); first | omega | (simp only [ByteArray.size] at *; omega)) g0
 refine (arboretlaw05_EncodeWrites.calls k x0.f0 A0_1 c0_1 x0.f1 x0.f2.f0 A0_3 c0_3 x0.f2.f1 A0_4 c0_4 x0.f2.f2 true W r0_1 l0_1 r0_3 l0_3 r0_4 l0_4 hk_).mono fun e W' ⟨he, bel0⟩ => ?_
 have bel : Below W.heap.size W W' := bel0; subst he; exact ⟨_, rfl, _, _, _, [], _, [], hW', trodAll_mk1 (shut_bool Tryz.underlying4 _), (trodAll_cons_mk (Below.trod laidOut Zq3 (of_decide_eq_true Zq3) k0 bel lt0) trodAll_mk0), rfl, bel.frame _, fun h => by cases h⟩
set_option maxRecDepth 100000 in
theorem lifted (os : Os) (started : os.Started) (H : Type) (enc : TypeId × Value → H) (F : Stop.Interp) :
  ReturnsInHanded {} Tryz.checked os 3 .any ((Rows.OpenSpec.upto Rows.encodeWritesSpec).pre6 enc Tryz.prog Tryz.f3 Rows.encodeWritesUptoRow.domain false) (((Rows.OpenSpec.upto Rows.encodeWritesSpec).at F).post enc Tryz.prog Tryz.f3 false true false false) := by
 refine returnsInHanded_of_cond (C := Tryz.checked) (s := Rows.OpenSpec.upto Rows.encodeWritesSpec) (k := Rows.uptoSmall) rfl own started Zq3 Tryz.func3
  (OpenSpec.witness (enc := enc) (C := Tryz.checked) (s := Rows.OpenSpec.upto Rows.encodeWritesSpec) (k := Rows.uptoSmall) rfl false ⟨#[], #[.agg #[.int .u32 0, .slice none 0 0, .string ByteArray.empty, .slice none 0 0, .slice none 0 0]], []⟩ 16 Zq3 Zq3 Zq3
   (x := ([.agg [.lit (.int .u32 0), .nil, .agg [.lit (.string []), .nil, .nil]]], [], [])) Zq3 rfl Zq3) ?_
 intro W base args ds gs before hval hW _ hk _; exact contract H enc W base args ds gs before hval hW hk
theorem over : Rows.encodeWritesUptoRow.holds Tryz.pinned (Rows.OpenSpec.upto Rows.encodeWritesSpec) :=
 OpenClaim.holds_of_cond 3 Tryz.f3 rfl rfl rfl rfl rfl rfl rfl ⟨rfl, rfl, rfl, rfl, rfl⟩ rfl rfl rfl rfl rfl Zq3 Tryz.func3 Zq3
  (of_decide_eq_true Zq3) (by unfold Func.isWrapper; first | (rw [if_pos (by decide +kernel)]; kernel_rfl) | (rw [if_neg (by decide +kernel)]; exact ⟨rfl, rfl⟩))
  (fun os started H enc _ F => lifted os started H enc F)
theorem proved : Rows.EncodeWritesUptoSaid := over
end Go.Proofs.YtkopmkinlanhoaaGreat.encodeWrites
namespace Go.Proofs.YtkopmkinlanhoaaGreat
theorem encodeWrites_holds : Rows.EncodeWritesUptoSaid := encodeWrites.proved
end Go.Proofs.YtkopmkinlanhoaaGreat
