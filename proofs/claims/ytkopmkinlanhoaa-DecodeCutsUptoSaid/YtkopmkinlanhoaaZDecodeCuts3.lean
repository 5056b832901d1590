/- DecodeCuts: texts of this session's, and what the kit's print laid for this seat, as far as the law's row uses them (Blob3, PEx_encode_most, PEx_eq82, PEx_api_Reserve_91, PEx_api_Reserve_73, PEx_tree_Check, PEx_bytes_Equal, PEx_api_Reserve_50, Enc8, Enc9, Enc10, Enc11, Enc12, Bk1, Bk2, Bk3, Bk4, Bk5, Bk6, Bk7, Bk8, Bk9, Bk10, Bk11, Bk12, Bk13, Bk14, Bk15, Bk16, Bk17, NameB, NameD, NameRef, Name, NameEv, Chk, Bk18, Bk19, Bk20, Bk21, Bk22, Bk23, Bk24, Enc13, Bk25, Blob4, Blob5, Blob6, Blob7, Blob8, PEStateDecodeCuts, PureDecodeCuts, LawDecodeCuts). -/
import Derived.Lib.PathFns
import Derived.Lib.IndexBytes
import Derived.Lib.RowBridge
import Derived.ProofKit
import Derived.OpenShut
import Derived.ShutString
import Derived.ChangeOld
import Derived.JoinedCond
import Derived.Deep.CondSized
import Derived.Test.YtkopmkinlanhoaaZDecodeCuts2
set_option linter.unusedVariables false
set_option linter.unusedSimpArgs false
namespace Go.Proofs.Ytkopmkinlanhoaa.PE
open Go.RowKit Go.Proofs.YtkopmkinlanhoaaW.PrintWords Go.Proofs.YtkopmkinlanhoaaW.PrintLast Go.Proofs.YtkopmkinlanhoaaW.PrintMore
attribute [local go_sem] max2_int min2_int max_two min_two max_three min_three max_four min_four
set_option linter.unusedVariables false
set_option linter.unusedSimpArgs false
open Go.Proofs.Ytkopmkinlanhoaa.Aid Go.Proofs.Ytkopmkinlanhoaa.Rdr
def prB (l : List ByteArray) (p : S63) : List Int := [0, 0, 0, 3] ++ cellB (p.f1.length : Int) ++ cellB (whereI l p.f0 : Nat) ++ (p.f1 ++ padW p.f1)
mutual
def ndB (l : List ByteArray) : S27 → List Int
  | ⟨a, ps, ks⟩ => kdA l ks (ps.foldl (fun o p => o ++ prB l p) ([0, 0, 0, 1] ++ ((bytesOf a ++ [0]) ++ padW (bytesOf a ++ [0])))) ++ [0, 0, 0, 2]
def kdA (l : List ByteArray) : List S27 → List Int → List Int
  | [], o => o
  | y :: r, o => kdA l r (o ++ ndB l y)
end
theorem prs_len (l : List ByteArray) : ∀ (ps : List S63) (o : List Int), o.length ≤ (ps.foldl (fun o p => o ++ prB l p) o).length
  | [], o => Nat.le_refl _
  | p :: r, o => by
    have := prs_len l r (o ++ prB l p)
    rw [List.length_append] at this
    rw [List.foldl_cons]
    omega
theorem kdA_len (l : List ByteArray) : ∀ (ks : List S27) (o : List Int), o.length ≤ (kdA l ks o).length
  | [], o => by rw [kdA]; exact Nat.le_refl _
  | y :: r, o => by
    have := kdA_len l r (o ++ ndB l y)
    rw [List.length_append] at this
    rw [kdA]
    omega
theorem kdA_append (l : List ByteArray) (b : List S27) : ∀ (a : List S27) (o : List Int), kdA l (a ++ b) o = kdA l b (kdA l a o)
  | [], o => by rw [List.nil_append, kdA]
  | x :: r, o => by rw [List.cons_append, kdA, kdA, kdA_append l b r]
theorem kdA_next (l : List ByteArray) (ks : List S27) (o : List Int) (i : Nat) (h : i < ks.length) : kdA l (ks.take (i + 1)) o = kdA l (ks.take i) o ++ ndB l (ks.getD i z27) := by
  rw [take_next ks z27 i h, kdA_append, kdA, kdA]
theorem kdA_take_len (l : List ByteArray) (ks : List S27) (o : List Int) (i : Nat) : (kdA l (ks.take i) o).length ≤ (kdA l ks o).length := by
  have := kdA_len l (ks.drop i) (kdA l (ks.take i) o)
  rwa [← kdA_append, List.take_append_drop] at this
theorem prs_take_len (l : List ByteArray) (ps : List S63) (o : List Int) (i : Nat) : ((ps.take i).foldl (fun o p => o ++ prB l p) o).length ≤ (ps.foldl (fun o p => o ++ prB l p) o).length := by
  have := prs_len l (ps.drop i) ((ps.take i).foldl (fun o p => o ++ prB l p) o)
  rwa [← List.foldl_append, List.take_append_drop] at this
attribute [local irreducible] Go.Calls in
set_option maxRecDepth 100000 in
set_option maxHeartbeats 8000000 in
theorem ndB.calls (m : Nat) (hm : m ≤ 1048576) : ∀ (x : S27) (A1 : Option Addr) (c1 : Nat) (A2 : Option Addr) (c2 : Nat) (l : List ByteArray) (A : Option Addr) (c : Nat) (W : World), bulk27 x ≤ m →
    Kd.C k63 W A1 x.f1.length x.f1 → Kd.C k27 W A2 x.f2.length x.f2 → Kd.C Kd.string W A l.length l → l.length ≤ c → sizes l ≤ 1073741824 → (ndB l x).length ≤ 1099511627776 →
    Calls Try.prog 40 #[.agg #[.string x.f0, .slice A1 x.f1.length c1, .slice A2 x.f2.length c2], .slice A l.length c, .int .i64 0] W fun e w' => ∃ v', e = .returned v' ∧ Kd.R (Kd.int .u8) 5 w' W.heap.size (fun _ => True) v' (ndB l x) ∧ Below W.heap.size W w' := by
  induction m with
  | zero => intro x A1 c1 A2 c2 l A c W hx; have := bulk_pos x; omega
  | succ m ih =>
  intro x A1 c1 A2 c2 l A c W hx hr1 hr2 hr hc hsz hlen
  have hk := bulk_kids x
  have hp := bulk_props x
  have hnmz := bulk_name x
  have IH := Aside0.mk (ih (by omega))
  have HR1 := Aside0.mk hr1
  have HR2 := Aside0.mk hr2
  have HL := Aside0.mk (And.intro hr hc)
  have HX := Aside0.mk hx
  have HSZ := Aside0.mk hsz
  have hu27 := Try.underlying27
  have hu63 := Try.underlying63
  obtain ⟨nm, ps, ks⟩ := x
  simp only at hk hp hnmz hr1 hr2 HR1 HR2 ⊢
  obtain ⟨fin, hfin⟩ : ∃ fin, fin = ndB l ⟨nm, ps, ks⟩ := ⟨_, rfl⟩
  rw [← hfin]
  rw [ndB] at hlen hfin
  have HFIN := Aside0.mk hfin
  clear hfin
  have HK := Aside0.mk (And.intro hk (And.intro hp hnmz))
  have HLEN := Aside0.mk hlen
  have HB : Aside0 (Below W.heap.size W (W.alloc (.cells #[.string nm, .slice A1 ps.length c1, .slice A2 ks.length c2] 27))) := ⟨below_alloc (Below.refl _ _) _⟩
  have BX : Aside0 ((W.alloc (.cells #[.string nm, .slice A1 ps.length c1, .slice A2 ks.length c2] 27)).heap[W.heap.size]? = some (Obj.cells #[.string nm, .slice A1 ps.length c1, .slice A2 ks.length c2] 27 (0, 0))) := ⟨blk_new _ _⟩
  clear ih hr1 hr2 hx hr hc hsz hlen
  go_enter Try.func40, Try.ntmps40
  go_wp2
  go_loopg [7, 13] 1 (fun kq v7 v13 w' => v7 = .slice none 0 0 ∧ v13 = .int .i64 0 ∧ Aside0 (Below W.heap.size W w') ∧ Aside0 (w'.heap[W.heap.size]? = some (Obj.cells #[.string nm, .slice A1 ps.length c1, .slice A2 ks.length c2] 27 (0, 0))))
  case atStart => exact ⟨rfl, rfl, HB, BX⟩
  case round =>
    clear HB BX
    obtain ⟨rfl, rfl, HB, BX⟩ := hrel
    go_wp2
    -- REGION 6
    obtain ⟨lm, hlm⟩ : ∃ lm, lm = bytesOf nm ++ [0] := ⟨_, rfl⟩
    have HSZ2 : Aside0 (nm.size ≤ 1099511627776 ∧ (([0, 0, 0, 1] : List Int).length + (lm ++ padW lm).length) * 1 ≤ 140737488355328) := ⟨by
      have h8 := HK.out
      have h9 := HX.out
      have h7 : lm.length = nm.size + 1 := by rw [hlm, List.length_append, bytesOf_length]; rfl
      have h6 := padW_three lm
      refine ⟨by omega, ?_⟩
      rw [List.length_append, h7]
      simp only [List.length_cons, List.length_nil]
      omega⟩
    obtain ⟨kp, hkp⟩ := (padded_ev lm (by have := HSZ2.out.2; rw [List.length_append] at this; simp only [List.length_cons, List.length_nil] at this; have h8 := HK.out; have h9 := HX.out; have h7 : lm.length = nm.size + 1 := by { rw [hlm, List.length_append, bytesOf_length]; rfl }; omega)).rounds
    have HPD := Aside0.mk (fun (A' : Option Addr) (c' : Nat) (w : World) (hC : Kd.C (Kd.int .u8) w A' lm.length lm) (hc : lm.length ≤ c') => arboretref04_padded.calls kp A' c' lm _ w hC hc hkp)
    clear hkp
    refine wp_region_inv_lit (fun D a w => ∃ u19 u20 u21 u22 u23 u24 u25 u26 u27 u28 u29 u30 u8 b, a = { tmps := List.toArray (Value.agg #[Value.string nm, Value.slice A1 ps.length c1, Value.slice A2 ks.length c2] :: Value.slice A l.length c :: Value.int IntKind.i64 0 :: Value.pointer (some { block := W.heap.size, off := 0 }) :: undef :: undef :: Value.slice none 0 0 :: Value.slice none 0 0 :: u8 :: undef :: undef :: undef :: Value.int IntKind.i64 0 :: Value.int IntKind.i64 0 :: Value.bool false :: u15 :: u16 :: u17 :: u18 :: u19 :: u20 :: u21 :: u22 :: u23 :: u24 :: u25 :: u26 :: u27 :: u28 :: u29 :: u30 :: undef :: undef :: undef :: undef :: undef :: undef :: undef :: undef :: undef :: undef :: undef :: undef :: undef :: undef :: undef :: undef :: undef :: undef :: undef :: undef :: undef :: undef :: undef :: undef :: undef :: undef :: undef :: undef :: undef :: undef :: undef :: undef :: undef :: undef :: undef :: undef :: undef :: undef :: undef :: undef :: undef :: undef :: undef :: undef :: undef :: undef :: undef :: undef :: undef :: undef :: undef :: undef :: undef :: undef :: undef :: undef :: []), defers := [] } ∧ R6 W W.heap.size (Obj.cells #[.string nm, .slice A1 ps.length c1, .slice A2 ks.length c2] 27 (0, 0)) nm lm (lm ++ padW lm) D b u19 u20 u21 u22 u23 u24 u25 u26 u27 u28 u29 u30 u8 w) (by kernel_rfl) ?_ (by kernel_rfl) ?_ ?_ ?_
    · rintro D D' a w hj ⟨u19, u20, u21, u22, u23, u24, u25, u26, u27, u28, u29, u30, u8, b, rfl, F⟩
      exact ⟨u19, u20, u21, u22, u23, u24, u25, u26, u27, u28, u29, u30, u8, b, rfl, F.iff hj⟩
    · exact ⟨_, _, _, _, _, _, _, _, _, _, _, _, _, 0, rfl, ⟨below_drew1 HB.out, blk_drew BX.out, fun d => absurd (by decide) d, fun d => absurd (by decide) d, fun d => absurd (by decide) d, fun d => absurd (by decide) d, fun d => absurd (by decide) d, fun d => absurd (by decide) d, fun d => absurd (by decide) d, fun d => absurd (by decide) d, fun d => absurd (by decide) d, fun d => absurd (by decide) d, fun d => absurd (by decide) d, fun d => absurd (by decide) d, fun d => absurd (by decide) d, fun d => absurd (by decide) d, fun d => absurd (by decide) d, fun d => absurd (by decide) d, fun d => absurd (by decide) d, fun d => absurd (by decide) d⟩⟩
    · refine ⟨?_, ?_, ?_, ?_, ?_, ?_, ?_, ?_, ?_, ?_, ?_, ?_, ?_, trivial⟩
      · intro D a w hnd hb hI
        obtain ⟨u19, u20, u21, u22, u23, u24, u25, u26, u27, u28, u29, u30, u8, b, rfl, F⟩ := hI
        simp only [needsD, Region.binds, true_implies, and_true] at hb
        have hgl := F.glt
        refine value_ (w1 := ?_) (v := ?_) (by rfl) rfl ?_ ?_
        rotate_left 2
        · go_simp
          constructor
          · rfl
          · rfl
        exact ⟨_, _, _, _, _, _, _, _, _, _, _, _, _, b, rfl, R6.n0 (F.below (below_alloc (Below.refl _ _) _) (Nat.le_of_lt hgl)) _⟩
      · intro D a w hnd hb hI
        obtain ⟨u19, u20, u21, u22, u23, u24, u25, u26, u27, u28, u29, u30, u8, b, rfl, F⟩ := hI
        simp only [needsD, Region.binds, true_implies, and_true] at hb
        have hgl := F.glt
        refine value_ (w1 := ?_) (v := ?_) (by rfl) rfl ?_ ?_
        rotate_left 2
        · go_simp
          constructor
          · rfl
          · rfl
        exact ⟨_, _, _, _, _, _, _, _, _, _, _, _, _, b, rfl, R6.n1 F⟩
      · intro D a w hnd hb hI
        obtain ⟨u19, u20, u21, u22, u23, u24, u25, u26, u27, u28, u29, u30, u8, b, rfl, F⟩ := hI
        simp only [needsD, Region.binds, true_implies, and_true] at hb
        have hgl := F.glt
        obtain ⟨z, rfl⟩ := F.f0 hb.1
        obtain rfl := F.f1 hb.2
        refine step_app (.tmp 19) (.tmp 20) 45 rfl rfl rfl rfl (run_app_none _ z w) ?_
        exact ⟨_, _, _, _, _, _, _, _, _, _, _, _, _, b, rfl, R6.n2 F z⟩
      · intro D a w hnd hb hI
        obtain ⟨u19, u20, u21, u22, u23, u24, u25, u26, u27, u28, u29, u30, u8, b, rfl, F⟩ := hI
        simp only [needsD, Region.binds, true_implies, and_true] at hb
        have hgl := F.glt
        refine value_ (w1 := ?_) (v := ?_) (by rfl) rfl ?_ ?_
        rotate_left 2
        · go_simp
          constructor
          · rfl
          · rfl
        exact ⟨_, _, _, _, _, _, _, _, _, _, _, _, _, b, rfl, R6.n3 (F.below (below_alloc (Below.refl _ _) _) (Nat.le_of_lt hgl)) _ (lit_C w [0, 0, 0, 1] (by decide))⟩
      · intro D a w hnd hb hI
        obtain ⟨u19, u20, u21, u22, u23, u24, u25, u26, u27, u28, u29, u30, u8, b, rfl, F⟩ := hI
        simp only [needsD, Region.binds, true_implies, and_true] at hb
        have hgl := F.glt
        obtain ⟨z, rfl⟩ := F.f2 hb.1
        obtain ⟨z2, rfl, h2⟩ := F.f3 hb.2.1 hnd
        obtain ⟨v', w', hrun, hR, hbel⟩ := run_app_empty _ z z2 4 [0, 0, 0, 1] w (by decide) (by decide) h2
        refine step_app (.tmp 21) (.tmp 22) 45 rfl rfl rfl rfl hrun ?_
        have h9 : ¬ D 9 := fun d => hnd (F.o94 d)
        have hR4 : Kd.R (Kd.int .u8) 5 w' W.heap.size (fun k => D 7 → k ≠ b) v' [0, 0, 0, 1] := Kd.R_mono (Kd.R_lower (Kd.R_bound hR) (Nat.le_of_lt hgl)) (fun k hk d7 => by have := (F.f7 d7 h9).lt; have := hk.2.1; omega)
        exact ⟨_, _, _, _, _, _, _, _, _, _, _, _, _, b, rfl, R6.n4 (F.below hbel (Nat.le_of_lt hgl)) v' hR4⟩
      · intro D a w hnd hb hI
        obtain ⟨u19, u20, u21, u22, u23, u24, u25, u26, u27, u28, u29, u30, u8, b, rfl, F⟩ := hI
        simp only [needsD, Region.binds, true_implies, and_true] at hb
        have hgl := F.glt
        refine value_ (w1 := ?_) (v := ?_) (by rfl) rfl ?_ ?_
        rotate_left 2
        · go_simp
          constructor
          · rfl
          · rfl
        exact ⟨_, _, _, _, _, _, _, _, _, _, _, _, _, b, rfl, R6.n5 F⟩
      · intro D a w hnd hb hI
        obtain ⟨u19, u20, u21, u22, u23, u24, u25, u26, u27, u28, u29, u30, u8, b, rfl, F⟩ := hI
        simp only [needsD, Region.binds, true_implies, and_true] at hb
        have hgl := F.glt
        obtain rfl := F.f5 hb
        have q0 := (blk_cell F.box 0).trans rfl
        refine value_ (w1 := ?_) (v := ?_) (by rfl) rfl ?_ ?_
        rotate_left 2
        · go_simp
          constructor
          · rfl
          · rfl
        exact ⟨_, _, _, _, _, _, _, _, _, _, _, _, _, b, rfl, R6.n6 F⟩
      · intro D a w hnd hb hI
        obtain ⟨u19, u20, u21, u22, u23, u24, u25, u26, u27, u28, u29, u30, u8, b, rfl, F⟩ := hI
        simp only [needsD, Region.binds, true_implies, and_true] at hb
        have hgl := F.glt
        obtain rfl := F.f6 hb
        have hcv := conv_made nm w
        refine value_ (w1 := ?_) (v := ?_) (by rfl) rfl ?_ ?_
        rotate_left 2
        · go_simp
          constructor
          · rfl
          · rfl
        have hbel := bytes_below (Below.refl w.heap.size w) (Nat.le_refl _) 5 nm
        exact ⟨_, _, _, _, _, _, _, _, _, _, _, _, _, w.heap.size, rfl, R6.n7 F hbel _ (Conv.made nm w)⟩
      · intro D a w hnd hb hI
        obtain ⟨u19, u20, u21, u22, u23, u24, u25, u26, u27, u28, u29, u30, u8, b, rfl, F⟩ := hI
        simp only [needsD, Region.binds, true_implies, and_true] at hb
        have hgl := F.glt
        refine value_ (w1 := ?_) (v := ?_) (by rfl) rfl ?_ ?_
        rotate_left 2
        · go_simp
          constructor
          · rfl
          · rfl
        exact ⟨_, _, _, _, _, _, _, _, _, _, _, _, _, b, rfl, R6.n8 (F.below (below_alloc (Below.refl _ _) _) (Nat.le_of_lt hgl)) _ (lit_C w [0] (by decide))⟩
      · intro D a w hnd hb hI
        obtain ⟨u19, u20, u21, u22, u23, u24, u25, u26, u27, u28, u29, u30, u8, b, rfl, F⟩ := hI
        simp only [needsD, Region.binds, true_implies, and_true] at hb
        have hgl := F.glt
        obtain ⟨h7, h8, h4⟩ := hb
        obtain ⟨z, rfl, hz⟩ := F.f8 h8 hnd
        have hcv := F.f7 h7 hnd
        obtain ⟨A', c', w', hrun, hc', hC', hgr⟩ := run_app_name 45 b u26 nm w z 1 HSZ2.out.1 hcv hz
        rw [← hlm] at hrun hc' hC'
        refine step_app (.tmp 26) (.tmp 27) 45 rfl rfl rfl rfl hrun ?_
        exact ⟨_, _, _, _, _, _, _, _, _, _, _, _, _, b, rfl, R6.n9 F h4 h7 hnd hgr A' c' hc' hC'⟩
      · intro D a w hnd hb hI
        obtain ⟨u19, u20, u21, u22, u23, u24, u25, u26, u27, u28, u29, u30, u8, b, rfl, F⟩ := hI
        simp only [needsD, Region.binds, true_implies, and_true] at hb
        have hgl := F.glt
        obtain ⟨A', c', rfl, hc', hC'⟩ := F.f9 hb.1 hnd
        refine goes_ Try.func66 (by kernel_rfl) rfl #[.slice A' lm.length c'] (by rfl) rfl rfl (by simp only [List.map_toArray, List.map_cons, List.map_nil]; rfl) ?_
        refine (HPD.out A' c' w hC' hc').mono ?_
        rintro e w' ⟨v', rfl, hR, hbel⟩
        obtain ⟨A2', c2', rfl, hc2, hC2⟩ := Kd.R_reads hR
        refine ⟨_, rfl, ?_⟩
        exact ⟨_, _, _, _, _, _, _, _, _, _, _, _, _, b, rfl, R6.n10 (F.below hbel (Nat.le_of_lt hgl)) hb.1 A2' c2' hc2 hC2⟩
      · intro D a w hnd hb hI
        obtain ⟨u19, u20, u21, u22, u23, u24, u25, u26, u27, u28, u29, u30, u8, b, rfl, F⟩ := hI
        simp only [needsD, Region.binds, true_implies, and_true] at hb
        have hgl := F.glt
        have h9 := F.o109 hb.2.1
        have h4 := hb.1
        obtain ⟨A', c', rfl, hc', hC'⟩ := F.f10 hb.2.1 hnd
        have hR4 := F.f4 h4 hnd
        refine Kd.R_append_rows_step (Kd.int .u8) (w0 := W) W.heap.size (by rfl) (.tmp 23) (.tmp 29) 45 5 (.int .u8 0) 1 rfl Try.underlying45 info5 rfl (by decide) (by omega) _ [0, 0, 0, 1] (lm ++ padW lm) _ _ _ (fun _ => True) (fun _ => False) rfl rfl (Kd.R_mono hR4 (fun _ _ => trivial)) hC' (fun _ _ h => h) (fun _ h => h.elim) (fun _ _ => trivial) F.bel (Nat.le_of_lt hgl) HSZ2.out.2 ?_
        intro v1 w1 hR1 hbel hgr hat
        have hbx := blk_grown F.box hgr (Kd.R_ne hR4 F.box (by decide))
        exact ⟨_, _, _, _, _, _, _, _, _, _, _, _, _, b, rfl, R6.n11 F h4 h9 hb.2.1 (fun d => hnd (F.o1211 d)) v1 hbel hbx hR1⟩
      · intro D a w hnd hb hI
        obtain ⟨u19, u20, u21, u22, u23, u24, u25, u26, u27, u28, u29, u30, u8, b, rfl, F⟩ := hI
        simp only [needsD, Region.binds, true_implies, and_true] at hb
        have hgl := F.glt
        refine value_ (w1 := ?_) (v := ?_) (by rfl) rfl ?_ ?_
        rotate_left 2
        · go_simp
          constructor
          · rfl
          · rfl
        exact ⟨_, _, _, _, _, _, _, _, _, _, _, _, _, b, rfl, R6.n12 F hb.1⟩
    -- BEHIND REGION 6
    · intro D a w8 hall hI
      obtain ⟨u19, u20, u21, u22, u23, u24, u25, u26, u27, u28, u29, u30, u8, b, rfl, F⟩ := hI
      have hu := F.f12 (hall 12 (by decide))
      have hR0 := F.f11 (hall 11 (by decide))
      rw [← hu] at hR0
      clear hu
      obtain ⟨o0, ho0⟩ : ∃ o0, o0 = ([0, 0, 0, 1] : List Int) ++ (lm ++ padW lm) := ⟨_, rfl⟩
      rw [← ho0] at hR0
      have HO0 : Aside0 (o0 = [0, 0, 0, 1] ++ ((bytesOf nm ++ [0]) ++ padW (bytesOf nm ++ [0]))) := ⟨by rw [ho0, hlm]⟩
      have HR0 := Aside0.mk hR0
      have HB0 := Aside0.mk F.bel
      have BX0 := Aside0.mk F.box
      have HLE0 : Aside0 ((kdA l ks (ps.foldl (fun o p => o ++ prB l p) o0)).length + 4 ≤ 1099511627776) := ⟨by
        have := HLEN.out
        rw [← HO0.out, List.length_append] at this
        exact this⟩
      clear F hall hR0 ho0 HLEN HPD HSZ2 HB BX
      have q0 := (blk_cell BX0.out 0).trans rfl
      have q1 := (blk_cell BX0.out 1).trans rfl
      have q2 := (blk_cell BX0.out 2).trans rfl
      go_wp2
      go_loopg [8, 34] (ps.length + 1) (fun kq v8 v34 w' => ∃ (i : Nat), v34 = .int .i64 (i : Int) ∧ Aside0 (i + kq = ps.length + 1) ∧ Aside0 (Kd.R (Kd.int .u8) 5 w' W.heap.size (fun _ => True) v8 ((ps.take i).foldl (fun o p => o ++ prB l p) o0)) ∧ Aside0 (Below W.heap.size W w') ∧ Aside0 (w'.heap[W.heap.size]? = some (Obj.cells #[.string nm, .slice A1 ps.length c1, .slice A2 ks.length c2] 27 (0, 0))))
      case atStart => exact ⟨0, rfl, ⟨by omega⟩, HR0, HB0, BX0⟩
      case round =>
        clear HR0 HB0 BX0 q0 q1 q2
        obtain ⟨i, rfl, HI, HRr, HBr, BXr⟩ := hrel
        by_cases ci : (i : Int) < (ps.length : Int)
        · have cib : decide ((i : Int) < (ps.length : Int)) = true := decide_eq_true ci
          have cil : i < ps.length := by omega
          cases gk with
          | zero => have := HI.out; omega
          | succ k1 =>
          have hnx := foldl_next (fun (o : List Int) (p : S63) => o ++ prB l p) o0 ps z63 i cil
          have hle := Nat.le_trans (Nat.add_le_add_right (Nat.le_trans (prs_take_len l ps o0 (i + 1)) (kdA_len l ks _)) 4) HLE0.out
          rw [hnx] at hle
          have hmem := getP (xs := ps) (i := i) cil
          have hbv : (ps.getD i z63).f1.length ≤ 1048576 := by
            have h1 := bulk_prop (x := ⟨nm, ps, ks⟩) hmem
            have h2 := bulk_value (ps.getD i z63)
            have h3 := HX.out
            omega
          clear hmem
          obtain ⟨ad, Ap, cp, e405, hx0, hx1, hlp, hip⟩ := at_T63 HR1.out (i : Int) (Int.natCast_nonneg i) ci
          cases e405
          have hbw := HBr.out
          rw [rdP] at hx0 hx1 hlp hip
          rw [Int.toNat_natCast] at hx0 hx1
          replace hx0 := (hbw.cell (World.block_lt_of_cell? W _ hx0)).trans hx0
          replace hx1 := (hbw.cell (World.block_lt_of_cell? W _ hx1)).trans hx1
          generalize ps.getD i z63 = p at hnx hle hx0 hx1 hlp hip hbv
          generalize (ps.take i).foldl (fun o p => o ++ prB l p) o0 = o at HRr hnx hle
          obtain ⟨s, vl⟩ := p
          dsimp only at hx0 hx1 hlp hip hbv
          have hpr : prB l ⟨s, vl⟩ = [0, 0, 0, 3] ++ cellB (vl.length : Int) ++ cellB ((whereI l s : Nat) : Int) ++ (vl ++ padW vl) := rfl
          rw [hpr] at hnx hle
          clear hpr
          simp only [List.length_append, cellB_length, List.length_cons, List.length_nil] at hle
          have HL1 : Aside0 ((o.length + 0) * 1 ≤ 140737488355328) := ⟨by omega⟩
          have HL2 : Aside0 ((o.length + 4) * 1 ≤ 140737488355328) := ⟨by omega⟩
          have HL3 : Aside0 (((o ++ [0, 0, 0, 3]).length + (cellB (vl.length : Int)).length) * 1 ≤ 140737488355328) := ⟨by simp only [List.length_append, cellB_length, List.length_cons, List.length_nil]; omega⟩
          have HL4 : Aside0 (((o ++ [0, 0, 0, 3] ++ cellB (vl.length : Int)).length + (cellB ((whereI l s : Nat) : Int)).length) * 1 ≤ 140737488355328) := ⟨by simp only [List.length_append, cellB_length, List.length_cons, List.length_nil]; omega⟩
          have HL5 : Aside0 (((o ++ [0, 0, 0, 3] ++ cellB (vl.length : Int) ++ cellB ((whereI l s : Nat) : Int)).length + (vl ++ padW vl).length) * 1 ≤ 140737488355328) := ⟨by simp only [List.length_append, cellB_length, List.length_cons, List.length_nil]; omega⟩
          obtain ⟨pv, hpv⟩ : ∃ pv, pv = vl ++ padW vl := ⟨_, rfl⟩
          rw [← hpv] at hnx
          rw [← hpv] at HL5
          have hwh := whereI_le s l
          have hsz := HSZ.out
          obtain ⟨kc1, hc1⟩ := (cell_ev (vl.length : Int) (by omega) (by omega)).rounds
          obtain ⟨kc2, hc2⟩ := (cell_ev ((whereI l s : Nat) : Int) (by omega) (by omega)).rounds
          obtain ⟨kw, hw1⟩ := (where_ev l s (by have := sizes_len l; omega) (by omega)).rounds
          obtain ⟨kd, hp1⟩ := (padded_ev vl (by omega)).rounds
          have HC1 := Aside0.mk hc1
          have HC2 := Aside0.mk hc2
          have HW1 := Aside0.mk hw1
          rw [← hpv] at hp1
          have HP1 := Aside0.mk hp1
          have HIP := Aside0.mk (And.intro hip hlp)
          have HNX := Aside0.mk hnx
          have HBP := Aside0.mk (blk_new wr (.cells #[.string s, .slice Ap vl.length cp] 63 (0, 0)))
          have hw2 : Go.RowKit.wrap64 ((i : Int) + 1) = ((i + 1 : Nat) : Int) := by have h8 := HK.out; have h9 := HX.out; unfold Go.RowKit.wrap64; omega
          have q0 := (blk_cell BXr.out 0).trans rfl
          have q1 := (blk_cell BXr.out 1).trans rfl
          have q2 := (blk_cell BXr.out 2).trans rfl
          clear hpv hle hnx hc1 hc2 hw1 hp1 hip hlp hbv hwh hsz hbw
          go_wp2_with (first | ((with_reducible refine gate_builtin (b := .append) (xs := #[.tmp 42, .tmp 43]) rfl ?_); at_builtin; refine Kd.R_append_rows (Kd.int .u8) (w0 := W) W.heap.size rfl (.tmp 42) (.tmp 43) 45 5 (.int .u8 0) 1 rfl Try.underlying45 info5 rfl (by decide) (by omega) _ o [] _ _ _ (fun _ => True) (fun _ => False) rfl rfl ?aO ?aR (fun _ _ h => h) (fun _ h => h.elim) (fun _ _ => trivial) ?aB ?aS ?aL ?_; (case aO => exact (Kd.R_alloc HRr.out _)); (case aR => exact (Kd.C_nil _ _)); (case aB => exact (below_alloc HBr.out _)); (case aS => exact ((below_alloc HBr.out _)).size); (case aL => exact HL1.out); intro v44 w44 ho hb hg hat; rw [List.append_nil] at ho; have BX44 := Aside0.mk (blk_grown (blk_alloc BXr.out _) hg (Kd.R_ne HRr.out BXr.out (by decide))); have BP44 := Aside0.mk (blk_grown HBP.out hg (Kd.R_ne (Kd.R_alloc HRr.out _) HBP.out (by decide))); have HB44 := Aside0.mk hb; have HR44 := Aside0.mk ho; clear ho hb hg hat) | ((with_reducible refine gate_builtin (b := .append) (xs := #[.tmp 44, .tmp 45]) rfl ?_); at_builtin; refine Kd.R_append_rows (Kd.int .u8) (w0 := W) W.heap.size rfl (.tmp 44) (.tmp 45) 45 5 (.int .u8 0) 1 rfl Try.underlying45 info5 rfl (by decide) (by omega) _ o [0, 0, 0, 3] _ _ _ (fun _ => True) (fun _ => False) rfl rfl ?aO ?aR (fun _ _ h => h) (fun _ h => h.elim) (fun _ _ => trivial) ?aB ?aS ?aL ?_; (case aO => exact (Kd.R_alloc HR44.out _)); (case aR => exact (lit_C w44 [0, 0, 0, 3] (by decide))); (case aB => exact (below_alloc HB44.out _)); (case aS => exact ((below_alloc HB44.out _)).size); (case aL => exact HL2.out); intro v46 w46 ho hb hg hat; have BX46 := Aside0.mk (blk_grown (blk_alloc BX44.out _) hg (Kd.R_ne HR44.out BX44.out (by decide))); have BP46 := Aside0.mk (blk_grown (blk_alloc BP44.out _) hg (Kd.R_ne HR44.out BP44.out (by decide))); have HB46 := Aside0.mk hb; have HR46 := Aside0.mk ho; clear ho hb hg hat))
          refine start_ (n := 13) (S := fun w' => w'.cell? ⟨wr.heap.size, 0, none⟩ = some (.string s) ∧ w'.cell? ⟨wr.heap.size, 1, none⟩ = some (.slice Ap vl.length cp)) (ds := []) #[false, false, false, false, false, false, false, false, false, false, false, false, false] (by kernel_rfl) rfl rfl ⟨((blk_cell BP46.out 0).trans rfl), ((blk_cell BP46.out 1).trans rfl)⟩ (fun hHeld => ?_)
          refine pure_ (i := 0) (N := some 47) (v := ?_) (a' := ?_) #[true, false, false, false, false, false, false, false, false, false, false, false, false] rfl rfl (by kernel_rfl) (fun _ _ _ h => h) (Or.inl ⟨by rfl, ?_⟩) ?_ ?_
          rotate_left
          · intro w'
            go_simp
            with_reducible rfl
          rotate_left
          · simp only [Act.put, List.setIfInBounds_toArray, List.set_cons_zero, List.set_cons_succ, i64_w, i32_w]
            rfl
          refine pure_ (i := 1) (N := some 48) (v := ?_) (a' := ?_) #[true, true, false, false, false, false, false, false, false, false, false, false, false] rfl rfl (by kernel_rfl) (fun _ _ _ h => h) (Or.inl ⟨by rfl, ?_⟩) ?_ ?_
          rotate_left
          · intro w'
            go_simp
            with_reducible rfl
          rotate_left
          · simp only [Act.put, List.setIfInBounds_toArray, List.set_cons_zero, List.set_cons_succ, i64_w, i32_w]
            rfl
          refine pure_ (i := 6) (N := some 53) (v := ?_) (a' := ?_) #[true, true, false, false, false, false, true, false, false, false, false, false, false] rfl rfl (by kernel_rfl) (fun _ _ _ h => h) (Or.inl ⟨by rfl, ?_⟩) ?_ ?_
          rotate_left
          · intro w'
            go_simp
            with_reducible rfl
          rotate_left
          · simp only [Act.put, List.setIfInBounds_toArray, List.set_cons_zero, List.set_cons_succ, i64_w, i32_w]
            rfl
          refine pure_ (i := 7) (N := some 54) (v := ?_) (a' := ?_) #[true, true, false, false, false, false, true, true, false, false, false, false, false] rfl rfl (by kernel_rfl) (fun _ _ _ h => h) (Or.inl ⟨by rfl, ?_⟩) ?_ ?_
          rotate_left
          · intro w'
            go_simp
            with_reducible rfl
          rotate_left
          · simp only [Act.put, List.setIfInBounds_toArray, List.set_cons_zero, List.set_cons_succ, i64_w, i32_w]
            rfl
          refine take_ (i := 2) (N := some 49) (v := ?_) (a' := ?_) #[true, true, true, false, false, false, true, true, false, false, false, false, false] rfl rfl (by kernel_rfl) (fun _ _ _ h => h) (Or.inl ⟨by rfl, ?_⟩) hHeld ?_ ?_
          rotate_left
          · rintro w' ⟨s0, s1⟩
            go_simp
            with_reducible rfl
          rotate_left
          · simp only [Act.put, List.setIfInBounds_toArray, List.set_cons_zero, List.set_cons_succ, i64_w, i32_w]
            rfl
          refine pure_ (i := 3) (N := some 50) (v := ?_) (a' := ?_) #[true, true, true, true, false, false, true, true, false, false, false, false, false] rfl rfl (by kernel_rfl) (fun _ _ _ h => h) (Or.inl ⟨by rfl, ?_⟩) ?_ ?_
          rotate_left
          · intro w'
            go_simp
            with_reducible rfl
          rotate_left
          · simp only [Act.put, List.setIfInBounds_toArray, List.set_cons_zero, List.set_cons_succ, i64_w, i32_w]
            rfl
          refine take_ (i := 8) (N := some 55) (v := ?_) (a' := ?_) #[true, true, true, true, false, false, true, true, true, false, false, false, false] rfl rfl (by kernel_rfl) (fun _ _ _ h => h) (Or.inl ⟨by rfl, ?_⟩) hHeld ?_ ?_
          rotate_left
          · rintro w' ⟨s0, s1⟩
            go_simp
            with_reducible rfl
          rotate_left
          · simp only [Act.put, List.setIfInBounds_toArray, List.set_cons_zero, List.set_cons_succ, i64_w, i32_w]
            rfl
          refine one_ (i := 4) (N := some 51) #[true, true, true, true, true, false, true, true, true, false, false, false, false] rfl rfl (by kernel_rfl) (by decide) (fun K hK => ?_)
          refine goes_ Try.func41 (by kernel_rfl) rfl #[.int .i64 (vl.length : Int)] (by rfl) rfl rfl (by simp only [List.map_toArray, List.map_cons, List.map_nil]; rfl) ?_
          refine (arboretref04_cell.calls kc1 _ _ _ HC1.out).mono ?_
          rintro e w51 ⟨v51, rfl, hr, hb0⟩
          have hb := below_step (below_drew1 (Below.refl w46.heap.size w46)) hb0
          have BX51 := Aside0.mk (blk_below BX46.out hb)
          have BP51 := Aside0.mk (blk_below BP46.out hb)
          have HB51 := Aside0.mk (below_step HB46.out hb)
          have HR51 := Aside0.mk (Kd.R_below HR46.out hb)
          obtain ⟨A51, c51, rfl, hc51, hC51⟩ := Kd.R_reads hr
          have HC51 := Aside0.mk hC51
          clear hr hb hb0 hC51 hc51
          refine ⟨_, rfl, ?_⟩
          refine hK.out _ _ ⟨((blk_cell BP51.out 0).trans rfl), ((blk_cell BP51.out 1).trans rfl)⟩ (fun hHeld => ?_)
          clear hK K
          refine norm_ (a' := ?_) ?_ ?_
          rotate_left
          · show Act.put _ (some 51) _ = _
            simp only [Act.put, List.setIfInBounds_toArray, List.set_cons_zero, List.set_cons_succ, i64_w, i32_w]
            rfl
          refine one_ (i := 5) (N := some 52) #[true, true, true, true, true, true, true, true, true, false, false, false, false] rfl rfl (by kernel_rfl) (by decide) (fun K hK => ?_)
          refine Kd.R_append_rows_step (Kd.int .u8) (w0 := W) W.heap.size (by rfl) (.tmp 47) (.tmp 51) 45 5 (.int .u8 0) 1 rfl Try.underlying45 info5 rfl (by decide) (by omega) _ (o ++ [0, 0, 0, 3]) (cellB (vl.length : Int)) _ _ _ (fun _ => True) (fun _ => False) rfl rfl HR51.out HC51.out (fun _ _ h => h) (fun _ h => h.elim) (fun _ _ => trivial) HB51.out (HB51.out).size HL3.out ?_
          intro v52 w52 ho hb hg hat
          have BX52 := Aside0.mk (blk_grown BX51.out hg (Kd.R_ne HR51.out BX51.out (by decide)))
          have BP52 := Aside0.mk (blk_grown BP51.out hg (Kd.R_ne HR51.out BP51.out (by decide)))
          have HB52 := Aside0.mk hb
          have HR52 := Aside0.mk ho
          clear ho hb hg hat
          refine hK.out _ _ ⟨((blk_cell BP52.out 0).trans rfl), ((blk_cell BP52.out 1).trans rfl)⟩ (fun hHeld => ?_)
          clear hK K
          refine norm_ (a' := ?_) ?_ ?_
          rotate_left
          · show Act.put _ (some 52) _ = _
            simp only [Act.put, List.setIfInBounds_toArray, List.set_cons_zero, List.set_cons_succ, i64_w, i32_w]
            rfl
          refine one_ (i := 9) (N := some 56) #[true, true, true, true, true, true, true, true, true, true, false, false, false] rfl rfl (by kernel_rfl) (by decide) (fun K hK => ?_)
          refine goes_ Try.func67 (by kernel_rfl) rfl #[.slice A l.length c, .string s] (by rfl) rfl rfl (by simp only [List.map_toArray, List.map_cons, List.map_nil]; rfl) ?_
          refine (arboretref04_where.calls kw A c l s _ w52 (Kd.C_below HL.out.1 HB52.out) HL.out.2 HW1.out).mono ?_
          rintro e w56 ⟨rfl, ⟨nd, rfl⟩⟩
          have hb := pw_below_drewN (Below.refl w52.heap.size w52) nd
          generalize w52.drewN nd = w56 at hb ⊢
          have BX56 := Aside0.mk (blk_below BX52.out hb)
          have BP56 := Aside0.mk (blk_below BP52.out hb)
          have HB56 := Aside0.mk (below_step HB52.out hb)
          have HR56 := Aside0.mk (Kd.R_below HR52.out hb)
          clear hb
          refine ⟨_, rfl, ?_⟩
          refine hK.out _ _ ⟨((blk_cell BP56.out 0).trans rfl), ((blk_cell BP56.out 1).trans rfl)⟩ (fun hHeld => ?_)
          clear hK K
          refine norm_ (a' := ?_) ?_ ?_
          rotate_left
          · show Act.put _ (some 56) _ = _
            simp only [Act.put, List.setIfInBounds_toArray, List.set_cons_zero, List.set_cons_succ, i64_w, i32_w]
            rfl
          refine one_ (i := 10) (N := some 57) #[true, true, true, true, true, true, true, true, true, true, true, false, false] rfl rfl (by kernel_rfl) (by decide) (fun K hK => ?_)
          refine goes_ Try.func41 (by kernel_rfl) rfl #[.int .i64 ((whereI l s : Nat) : Int)] (by rfl) rfl rfl (by simp only [List.map_toArray, List.map_cons, List.map_nil]; rfl) ?_
          refine (arboretref04_cell.calls kc2 _ _ w56 HC2.out).mono ?_
          rintro e w57 ⟨v57, rfl, hr, hb⟩
          have BX57 := Aside0.mk (blk_below BX56.out hb)
          have BP57 := Aside0.mk (blk_below BP56.out hb)
          have HB57 := Aside0.mk (below_step HB56.out hb)
          have HR57 := Aside0.mk (Kd.R_below HR56.out hb)
          obtain ⟨A57, c57, rfl, hc57, hC57⟩ := Kd.R_reads hr
          have HC57 := Aside0.mk hC57
          clear hr hb hC57 hc57
          refine ⟨_, rfl, ?_⟩
          refine hK.out _ _ ⟨((blk_cell BP57.out 0).trans rfl), ((blk_cell BP57.out 1).trans rfl)⟩ (fun hHeld => ?_)
          clear hK K
          refine norm_ (a' := ?_) ?_ ?_
          rotate_left
          · show Act.put _ (some 57) _ = _
            simp only [Act.put, List.setIfInBounds_toArray, List.set_cons_zero, List.set_cons_succ, i64_w, i32_w]
            rfl
          refine one_ (i := 11) (N := some 58) #[true, true, true, true, true, true, true, true, true, true, true, true, false] rfl rfl (by kernel_rfl) (by decide) (fun K hK => ?_)
          refine Kd.R_append_rows_step (Kd.int .u8) (w0 := W) W.heap.size (by rfl) (.tmp 52) (.tmp 57) 45 5 (.int .u8 0) 1 rfl Try.underlying45 info5 rfl (by decide) (by omega) _ (o ++ [0, 0, 0, 3] ++ cellB (vl.length : Int)) (cellB ((whereI l s : Nat) : Int)) _ _ _ (fun _ => True) (fun _ => False) rfl rfl HR57.out HC57.out (fun _ _ h => h) (fun _ h => h.elim) (fun _ _ => trivial) HB57.out (HB57.out).size HL4.out ?_
          intro v58 w58 ho hb hg hat
          have BX58 := Aside0.mk (blk_grown BX57.out hg (Kd.R_ne HR57.out BX57.out (by decide)))
          have BP58 := Aside0.mk (blk_grown BP57.out hg (Kd.R_ne HR57.out BP57.out (by decide)))
          have HB58 := Aside0.mk hb
          have HR58 := Aside0.mk ho
          clear ho hb hg hat
          refine hK.out _ _ ⟨((blk_cell BP58.out 0).trans rfl), ((blk_cell BP58.out 1).trans rfl)⟩ (fun hHeld => ?_)
          clear hK K
          refine norm_ (a' := ?_) ?_ ?_
          rotate_left
          · show Act.put _ (some 58) _ = _
            simp only [Act.put, List.setIfInBounds_toArray, List.set_cons_zero, List.set_cons_succ, i64_w, i32_w]
            rfl
          refine pure_ (i := 12) (N := some 8) (v := ?_) (a' := ?_) #[true, true, true, true, true, true, true, true, true, true, true, true, true] rfl rfl (by kernel_rfl) (fun _ _ _ h => h) (Or.inl ⟨by rfl, ?_⟩) ?_ ?_
          rotate_left
          · intro w'
            go_simp
            with_reducible rfl
          rotate_left
          · simp only [Act.put, List.setIfInBounds_toArray, List.set_cons_zero, List.set_cons_succ, i64_w, i32_w]
            rfl
          refine done_ (by kernel_rfl) ?_
          go_wp2_with (first | (go_at_call 66; refine (arboretref04_padded.calls kd Ap cp vl _ w58 (Kd.C_below HIP.out.1 HB58.out) HIP.out.2 HP1.out).mono ?_; rintro e w62 ⟨v62, rfl, hr, hb⟩; have BX62 := Aside0.mk (blk_below BX58.out hb); have HB62 := Aside0.mk (below_step HB58.out hb); have HR62 := Aside0.mk (Kd.R_below HR58.out hb); obtain ⟨A62, c62, rfl, hc62, hC62⟩ := Kd.R_reads hr; have HC62 := Aside0.mk hC62; clear hr hb hC62 hc62) | ((with_reducible refine gate_builtin (b := .append) (xs := #[.tmp 59, .tmp 62]) rfl ?_); at_builtin; refine Kd.R_append_rows (Kd.int .u8) (w0 := W) W.heap.size rfl (.tmp 59) (.tmp 62) 45 5 (.int .u8 0) 1 rfl Try.underlying45 info5 rfl (by decide) (by omega) _ (o ++ [0, 0, 0, 3] ++ cellB (vl.length : Int) ++ cellB ((whereI l s : Nat) : Int)) pv _ _ _ (fun _ => True) (fun _ => False) rfl rfl ?aO ?aR (fun _ _ h => h) (fun _ h => h.elim) (fun _ _ => trivial) ?aB ?aS ?aL ?_; (case aO => exact HR62.out); (case aR => exact HC62.out); (case aB => exact HB62.out); (case aS => exact (HB62.out).size); (case aL => exact HL5.out); intro v63 w63 ho hb hg hat; have BX63 := Aside0.mk (blk_grown BX62.out hg (Kd.R_ne HR62.out BX62.out (by decide))); have HB63 := Aside0.mk hb; have HR63 := Aside0.mk ho; clear ho hb hg hat))
          go_roundg k1
          case measure => exact Nat.lt_succ_self _
          case rel => exact ⟨i + 1, congrArg (Value.int .i64) hw2, ⟨step_ix HI.out⟩, ⟨by rw [HNX.out, ← List.append_assoc, ← List.append_assoc, ← List.append_assoc]; exact HR63.out⟩, HB63, BX63⟩
        · have cib : decide ((i : Int) < (ps.length : Int)) = false := decide_eq_false ci
          have ht : ps.take i = ps := List.take_of_length_le (by omega)
          rw [ht] at HRr
          obtain ⟨o1, ho1⟩ : ∃ o1, o1 = ps.foldl (fun o p => o ++ prB l p) o0 := ⟨_, rfl⟩
          rw [← ho1] at HRr
          have HO1 := Aside0.mk ho1
          have HLE1 : Aside0 ((kdA l ks o1).length + 4 ≤ 1099511627776) := ⟨by rw [HO1.out]; exact HLE0.out⟩
          have q0 := (blk_cell BXr.out 0).trans rfl
          have q1 := (blk_cell BXr.out 1).trans rfl
          have q2 := (blk_cell BXr.out 2).trans rfl
          clear ht ho1
          go_wp2
          go_loopg [8, 68] (ks.length + 1) (fun kq v8 v68 w' => ∃ (i : Nat), v68 = .int .i64 (i : Int) ∧ Aside0 (i + kq = ks.length + 1) ∧ Aside0 (Kd.R (Kd.int .u8) 5 w' W.heap.size (fun _ => True) v8 (kdA l (ks.take i) o1)) ∧ Aside0 (Below W.heap.size W w') ∧ Aside0 (w'.heap[W.heap.size]? = some (Obj.cells #[.string nm, .slice A1 ps.length c1, .slice A2 ks.length c2] 27 (0, 0))))
          case atStart => exact ⟨0, rfl, ⟨by omega⟩, ⟨by rw [List.take_zero, kdA]; exact HRr.out⟩, HBr, BXr⟩
          case round =>
            clear HRr HBr BXr q0 q1 q2 cib
            obtain ⟨j, rfl, HJ, HRq, HBq, BXq⟩ := hrel
            by_cases cj : (j : Int) < (ks.length : Int)
            · have cjb : decide ((j : Int) < (ks.length : Int)) = true := decide_eq_true cj
              have cjl : j < ks.length := by omega
              cases gk with
              | zero => have := HJ.out; omega
              | succ k2 =>
              have hmem := getN (xs := ks) (i := j) cjl
              have hbk : bulk27 (ks.getD j z27) ≤ m := by
                have h1 := bulk_kid (x := ⟨nm, ps, ks⟩) hmem
                have h2 := HX.out
                omega
              have hnx := kdA_next l ks o1 j cjl
              have hle := kdA_take_len l ks o1 (j + 1)
              rw [hnx, List.length_append] at hle
              have h9 := HLE1.out
              obtain ⟨ad, Ap, cp, Aq, cq, e407, hx0, hx1, hx2, hlp, hip, hlq, hiq⟩ := at_T27 HR2.out (j : Int) (Int.natCast_nonneg j) cj
              cases e407
              have hbw := HBq.out
              rw [rdN] at hx0 hx1 hx2 hlp hip hlq hiq
              rw [Int.toNat_natCast] at hx0 hx1 hx2
              replace hx0 := (hbw.cell (World.block_lt_of_cell? W _ hx0)).trans hx0
              replace hx1 := (hbw.cell (World.block_lt_of_cell? W _ hx1)).trans hx1
              replace hx2 := (hbw.cell (World.block_lt_of_cell? W _ hx2)).trans hx2
              clear hmem
              generalize ks.getD j z27 = y at hbk hnx hle hx0 hx1 hx2 hlp hip hlq hiq
              have HLx : Aside0 (((kdA l (ks.take j) o1).length + (ndB l y).length) * 1 ≤ 140737488355328) := ⟨by omega⟩
              have HQ := Aside0.mk (IH.out y Ap cp Aq cq l A c _ hbk (Kd.C_below hip hbw) (Kd.C_below hiq hbw) (Kd.C_below HL.out.1 hbw) HL.out.2 HSZ.out (by omega))
              have HNX := Aside0.mk hnx
              obtain ⟨yb, hyb⟩ : ∃ yb, yb = ndB l y := ⟨_, rfl⟩
              rw [← hyb] at HQ HNX HLx
              clear hyb
              obtain ⟨ya, yp, yk⟩ := y
              dsimp only at hx0 hx1 hx2 HQ
              have q0 := (blk_cell BXq.out 0).trans rfl
              have q1 := (blk_cell BXq.out 1).trans rfl
              have q2 := (blk_cell BXq.out 2).trans rfl
              have hw2 : Go.RowKit.wrap64 ((j : Int) + 1) = ((j + 1 : Nat) : Int) := by have h8 := HK.out; have h9 := HX.out; unfold Go.RowKit.wrap64; omega
              clear hbk hnx hle h9 hip hiq hlp hlq hbw
              go_wp2_with (first | (go_at_call 40; refine HQ.out.mono ?_; rintro e w79 ⟨v79, rfl, hr, hb⟩; have BX79 := Aside0.mk (blk_below BXq.out hb); have HB79 := Aside0.mk (below_step HBq.out hb); have HR79 := Aside0.mk (Kd.R_below HRq.out hb); obtain ⟨A79, c79, rfl, hc79, hC79⟩ := Kd.R_reads hr; have HC79 := Aside0.mk hC79; clear hr hb hC79 hc79) | ((with_reducible refine gate_builtin (b := .append) (xs := #[.tmp 71, .tmp 79]) rfl ?_); at_builtin; refine Kd.R_append_rows (Kd.int .u8) (w0 := W) W.heap.size rfl (.tmp 71) (.tmp 79) 45 5 (.int .u8 0) 1 rfl Try.underlying45 info5 rfl (by decide) (by omega) _ (kdA l (ks.take j) o1) yb _ _ _ (fun _ => True) (fun _ => False) rfl rfl ?aO ?aR (fun _ _ h => h) (fun _ h => h.elim) (fun _ _ => trivial) ?aB ?aS ?aL ?_; (case aO => exact HR79.out); (case aR => exact HC79.out); (case aB => exact HB79.out); (case aS => exact (HB79.out).size); (case aL => exact HLx.out); intro v80 w80 ho hb hg hat; have BX80 := Aside0.mk (blk_grown BX79.out hg (Kd.R_ne HR79.out BX79.out (by decide))); have HB80 := Aside0.mk hb; have HR80 := Aside0.mk ho; clear ho hb hg hat))
              go_roundg k2
              case measure => exact Nat.lt_succ_self _
              case rel => exact ⟨j + 1, congrArg (Value.int .i64) hw2, ⟨step_ix HJ.out⟩, ⟨by rw [HNX.out]; exact HR80.out⟩, HB80, BX80⟩
            · have cjb : decide ((j : Int) < (ks.length : Int)) = false := decide_eq_false cj
              have ht : ks.take j = ks := List.take_of_length_le (by omega)
              rw [ht] at HRq
              have HLy : Aside0 (((kdA l ks o1).length + 0) * 1 ≤ 140737488355328) := ⟨by have := HLE1.out; omega⟩
              have HLz : Aside0 (((kdA l ks o1).length + 4) * 1 ≤ 140737488355328) := ⟨by have := HLE1.out; omega⟩
              clear ht
              go_wp2_with (first | ((with_reducible refine gate_builtin (b := .append) (xs := #[.tmp 82, .tmp 83]) rfl ?_); at_builtin; refine Kd.R_append_rows (Kd.int .u8) (w0 := W) W.heap.size rfl (.tmp 82) (.tmp 83) 45 5 (.int .u8 0) 1 rfl Try.underlying45 info5 rfl (by decide) (by omega) _ (kdA l ks o1) [] _ _ _ (fun _ => True) (fun _ => False) rfl rfl ?aO ?aR (fun _ _ h => h) (fun _ h => h.elim) (fun _ _ => trivial) ?aB ?aS ?aL ?_; (case aO => exact HRq.out); (case aR => exact (Kd.C_nil _ _)); (case aB => exact HBq.out); (case aS => exact (HBq.out).size); (case aL => exact HLy.out); intro v84 w84 ho hb hg hat; rw [List.append_nil] at ho; have HB84 := Aside0.mk hb; have HR84 := Aside0.mk ho; clear ho hb hg hat) | ((with_reducible refine gate_builtin (b := .append) (xs := #[.tmp 84, .tmp 85]) rfl ?_); at_builtin; refine Kd.R_append_rows (Kd.int .u8) (w0 := W) W.heap.size rfl (.tmp 84) (.tmp 85) 45 5 (.int .u8 0) 1 rfl Try.underlying45 info5 rfl (by decide) (by omega) _ (kdA l ks o1) [0, 0, 0, 2] _ _ _ (fun _ => True) (fun _ => False) rfl rfl ?aO ?aR (fun _ _ h => h) (fun _ h => h.elim) (fun _ _ => trivial) ?aB ?aS ?aL ?_; (case aO => exact (Kd.R_alloc HR84.out _)); (case aR => exact (lit_C w84 [0, 0, 0, 2] (by decide))); (case aB => exact (below_alloc HB84.out _)); (case aS => exact ((below_alloc HB84.out _)).size); (case aL => exact HLz.out); intro v86 w86 ho hb hg hat; have HB86 := Aside0.mk hb; have HR86 := Aside0.mk ho; clear ho hb hg hat))
              refine bodyPost_ret (results_tmp rfl _ _ _) rfl ?_
              exact ⟨_, rfl, by rw [HFIN.out, ← HO0.out, ← HO1.out]; exact HR86.out, HB86.out⟩
end Go.Proofs.Ytkopmkinlanhoaa.PE

namespace Go.Proofs.Ytkopmkinlanhoaa.PE
open Go.RowKit Go.Proofs.YtkopmkinlanhoaaW.PrintWords Go.Proofs.YtkopmkinlanhoaaW.PrintLast Go.Proofs.YtkopmkinlanhoaaW.PrintMore
attribute [local go_sem] max2_int min2_int max_two min_two max_three min_three max_four min_four   -- for this text's walks alone
set_option linter.unusedVariables false
set_option linter.unusedSimpArgs false
mutual
def encode_most.l0 : Nat → Int → List (S63) → Int → Int → ByteArray → List (S63) → List (S27) → Option (Int × Bool)
  | 0, _, _, _, _, _, _, _ => none
  | k + 1, x1, x12, x13, x14, x405000, x405001, x405002 => if x14 < x13 then (if 0 ≤ x14 then (if x14 < (x12.length : Int) then (if (wrap64 (x1 + (((rd_T63 x12 x14).f1).length : Int))) > 1048576 then (some (wrap64 (x1 + (((rd_T63 x12 x14).f1).length : Int)), true)) else (encode_most.l0 k (wrap64 (x1 + (((rd_T63 x12 x14).f1).length : Int))) x12 x13 (wrap64 (x14 + 1)) x405000 x405001 x405002)) else (none)) else (none)) else (encode_most.l1 k x1 x405002 (x405002.length : Int) 0)
def encode_most.l1 : Nat → Int → List (S27) → Int → Int → Option (Int × Bool)
  | 0, _, _, _, _ => none
  | k + 1, x1, x28, x29, x30 => if x30 < x29 then (if 0 ≤ x30 then (if x30 < (x28.length : Int) then ((encode_most.f k ((rd_T27 x28 x30).f0) ((rd_T27 x28 x30).f1) ((rd_T27 x28 x30).f2) x1).bind fun bt409 => (if bt409.2 = true then (some (bt409.1, true)) else (encode_most.l1 k bt409.1 x28 x29 (wrap64 (x30 + 1))))) else (none)) else (none)) else (some (x1, false))
def encode_most.f : Nat → ByteArray → List (S63) → List (S27) → Int → Option (Int × Bool)
  | 0, _, _, _, _ => none
  | k + 1, a0_0, l0_1, l0_2, a1 => encode_most.l0 k a1 l0_1 (l0_1.length : Int) 0 a0_0 l0_1 l0_2
end
theorem encode_most.mono_l : ∀ k, (∀ y0 y1 y2 y3, LeO (encode_most.f k y0 y1 y2 y3) (encode_most.f (k + 1) y0 y1 y2 y3)) ∧ (∀ y0 y1 y2 y3 y4 y5 y6, LeO (encode_most.l0 k y0 y1 y2 y3 y4 y5 y6) (encode_most.l0 (k + 1) y0 y1 y2 y3 y4 y5 y6)) ∧ (∀ y0 y1 y2 y3, LeO (encode_most.l1 k y0 y1 y2 y3) (encode_most.l1 (k + 1) y0 y1 y2 y3))
  | 0 => ⟨fun _ _ _ _ r h => by simp [encode_most.f] at h, fun _ _ _ _ _ _ _ r h => by simp [encode_most.l0] at h, fun _ _ _ _ r h => by simp [encode_most.l1] at h⟩
  | k + 1 => by
    obtain ⟨ih0, ih1, ih2⟩ := encode_most.mono_l k
    refine ⟨?_, ?_, ?_⟩
    · intro y0 y1 y2 y3
      unfold encode_most.f
      repeat' first
      | (with_reducible exact ih0 _ _ _ _)
      | (with_reducible exact ih1 _ _ _ _ _ _ _)
      | (with_reducible exact ih2 _ _ _ _)
      | (with_reducible exact LeO.refl _)
      | (with_reducible exact LeO.none _)
      | (with_reducible refine LeO.ite ?_ ?_)
      | (with_reducible refine LeO.bind ?_ (fun _ => ?_))
      | exact ih0 _ _ _ _
      | exact ih1 _ _ _ _ _ _ _
      | exact ih2 _ _ _ _
      | exact LeO.none _
      | refine LeO.ite ?_ ?_
      | refine LeO.bind ?_ (fun _ => ?_)
    · intro y0 y1 y2 y3 y4 y5 y6
      unfold encode_most.l0
      repeat' first
      | (with_reducible exact ih0 _ _ _ _)
      | (with_reducible exact ih1 _ _ _ _ _ _ _)
      | (with_reducible exact ih2 _ _ _ _)
      | (with_reducible exact LeO.refl _)
      | (with_reducible exact LeO.none _)
      | (with_reducible refine LeO.ite ?_ ?_)
      | (with_reducible refine LeO.bind ?_ (fun _ => ?_))
      | exact ih0 _ _ _ _
      | exact ih1 _ _ _ _ _ _ _
      | exact ih2 _ _ _ _
      | exact LeO.none _
      | refine LeO.ite ?_ ?_
      | refine LeO.bind ?_ (fun _ => ?_)
    · intro y0 y1 y2 y3
      unfold encode_most.l1
      repeat' first
      | (with_reducible exact ih0 _ _ _ _)
      | (with_reducible exact ih1 _ _ _ _ _ _ _)
      | (with_reducible exact ih2 _ _ _ _)
      | (with_reducible exact LeO.refl _)
      | (with_reducible exact LeO.none _)
      | (with_reducible refine LeO.ite ?_ ?_)
      | (with_reducible refine LeO.bind ?_ (fun _ => ?_))
      | exact ih0 _ _ _ _
      | exact ih1 _ _ _ _ _ _ _
      | exact ih2 _ _ _ _
      | exact LeO.none _
      | refine LeO.ite ?_ ?_
      | refine LeO.bind ?_ (fun _ => ?_)
theorem encode_most.mono : ∀ a0 a1 a2 a3 k, LeO (encode_most.f k a0 a1 a2 a3) (encode_most.f (k + 1) a0 a1 a2 a3) := by
  intro a0 a1 a2 a3 k
  obtain ⟨ih0, ih1, ih2⟩ := encode_most.mono_l k
  exact ih0 a0 a1 a2 a3
end Go.Proofs.Ytkopmkinlanhoaa.PE

namespace Go.Proofs.Ytkopmkinlanhoaa.PE
open Go.RowKit Go.Proofs.YtkopmkinlanhoaaW.PrintWords Go.Proofs.YtkopmkinlanhoaaW.PrintLast Go.Proofs.YtkopmkinlanhoaaW.PrintMore
attribute [local go_sem] max2_int min2_int max_two min_two max_three min_three max_four min_four   -- for this text's walks alone
set_option linter.unusedVariables false
set_option linter.unusedSimpArgs false
theorem eqA82 (d : Nat) (w : World) (x0 y0 : Int) (x1 y1 : Int) :
    (Op.equalIn (d + 2) 82 (.agg #[.int .u64 x0, .int .u64 x1]) (.agg #[.int .u64 y0, .int .u64 y1])).run Try.prog w = .ok (x0 == y0 && (x1 == y1)) w := by
  refine eqA_of Try.underlying82 (by kernel_rfl) ?_
  refine eqf_cons (by rfl) (by go_simp; rfl) (by go_simp; rfl) (by go_simp) ?_
  exact eqf_last (by rfl) (by go_simp; rfl) (by go_simp; rfl) (by go_simp)
end Go.Proofs.Ytkopmkinlanhoaa.PE

namespace Go.Proofs.Ytkopmkinlanhoaa.PE
open Go.RowKit Go.Proofs.YtkopmkinlanhoaaW.PrintWords Go.Proofs.YtkopmkinlanhoaaW.PrintLast Go.Proofs.YtkopmkinlanhoaaW.PrintMore
attribute [local go_sem] max2_int min2_int max_two min_two max_three min_three max_four min_four   -- for this text's walks alone
set_option linter.unusedVariables false
set_option linter.unusedSimpArgs false
attribute [local go_sem high] eqA82
def api_Reserve_91.l0 : Nat → List (S82) → Int → Int → Int → Int → Option (Int)
  | 0, _, _, _, _, _ => none
  | k + 1, x0, x7, x8, x396000, x396001 => if x8 < x7 then (if 0 ≤ x8 then (if x8 < (x0.length : Int) then (if (x396000 == ((rd_T82 x0 x8).f0) && (x396001 == ((rd_T82 x0 x8).f1))) = true then (some x8) else (api_Reserve_91.l0 k x0 x7 (wrap64 (x8 + 1)) x396000 x396001)) else (none)) else (none)) else (some (-1))
def api_Reserve_91.f (k : Nat) (l0 : List (S82)) (a1_0 : Int) (a1_1 : Int) : Option (Int) := api_Reserve_91.l0 k l0 (l0.length : Int) 0 a1_0 a1_1
theorem api_Reserve_91.mono_l : ∀ k, (∀ y0 y1 y2 y3 y4, LeO (api_Reserve_91.l0 k y0 y1 y2 y3 y4) (api_Reserve_91.l0 (k + 1) y0 y1 y2 y3 y4))
  | 0 => fun _ _ _ _ _ r h => by simp [api_Reserve_91.l0] at h
  | k + 1 => by
    have ih0 := api_Reserve_91.mono_l k
    · intro y0 y1 y2 y3 y4
      unfold api_Reserve_91.l0
      repeat' first
      | (with_reducible exact ih0 _ _ _ _ _)
      | (with_reducible exact LeO.refl _)
      | (with_reducible exact LeO.none _)
      | (with_reducible refine LeO.ite ?_ ?_)
      | (with_reducible refine LeO.bind ?_ (fun _ => ?_))
      | exact ih0 _ _ _ _ _
      | exact LeO.none _
      | refine LeO.ite ?_ ?_
      | refine LeO.bind ?_ (fun _ => ?_)
theorem api_Reserve_91.mono : ∀ a0 a1 a2 k, LeO (api_Reserve_91.f k a0 a1 a2) (api_Reserve_91.f (k + 1) a0 a1 a2) := by
  intro a0 a1 a2 k
  have ih0 := api_Reserve_91.mono_l k
  unfold api_Reserve_91.f
  repeat' first
      | (with_reducible exact ih0 _ _ _ _ _)
      | (with_reducible exact LeO.refl _)
      | (with_reducible exact LeO.none _)
      | (with_reducible refine LeO.ite ?_ ?_)
      | (with_reducible refine LeO.bind ?_ (fun _ => ?_))
      | exact ih0 _ _ _ _ _
      | exact LeO.none _
      | refine LeO.ite ?_ ?_
      | refine LeO.bind ?_ (fun _ => ?_)
end Go.Proofs.Ytkopmkinlanhoaa.PE

namespace Go.Proofs.Ytkopmkinlanhoaa.PE
open Go.RowKit Go.Proofs.YtkopmkinlanhoaaW.PrintWords Go.Proofs.YtkopmkinlanhoaaW.PrintLast Go.Proofs.YtkopmkinlanhoaaW.PrintMore
attribute [local go_sem] max2_int min2_int max_two min_two max_three min_three max_four min_four   -- for this text's walks alone
set_option linter.unusedVariables false
set_option linter.unusedSimpArgs false
def api_Reserve_73.f (k : Nat) (l0 : List (S82)) (a1_0 : Int) (a1_1 : Int) : Option (Bool) := (api_Reserve_91.f k l0 a1_0 a1_1).bind fun t398 => (some (decide (t398 ≥ 0)))
theorem api_Reserve_73.mono : ∀ a0 a1 a2 k, LeO (api_Reserve_73.f k a0 a1 a2) (api_Reserve_73.f (k + 1) a0 a1 a2) := by
  intro a0 a1 a2 k
  unfold api_Reserve_73.f
  repeat' first
      | (with_reducible exact api_Reserve_91.mono _ _ _ _)
      | (with_reducible exact LeO.refl _)
      | (with_reducible exact LeO.none _)
      | (with_reducible refine LeO.ite ?_ ?_)
      | (with_reducible refine LeO.bind ?_ (fun _ => ?_))
      | exact api_Reserve_91.mono _ _ _ _
      | exact LeO.none _
      | refine LeO.ite ?_ ?_
      | refine LeO.bind ?_ (fun _ => ?_)
end Go.Proofs.Ytkopmkinlanhoaa.PE

namespace Go.Proofs.Ytkopmkinlanhoaa.PE
open Go.RowKit Go.Proofs.YtkopmkinlanhoaaW.PrintWords Go.Proofs.YtkopmkinlanhoaaW.PrintLast Go.Proofs.YtkopmkinlanhoaaW.PrintMore
attribute [local go_sem] max2_int min2_int max_two min_two max_three min_three max_four min_four   -- for this text's walks alone
set_option linter.unusedVariables false
set_option linter.unusedSimpArgs false
def tree_Check.f (k : Nat) (a0_0 : Int) (l0_1 : List (S82)) (a0_2 : ByteArray) (l0_3 : List (S63)) (l0_4 : List (S27)) : Option (Int) := (tree_check.f k a0_2 l0_3 l0_4 1).bind fun t400 => (if t400 = 0 then ((tree_Count.f k a0_2 l0_3 l0_4).bind fun bt401 => (if bt401.1 > 4096 then (some 7) else (if bt401.2 > 8192 then (some 7) else (if (l0_1.length : Int) > 64 then (some 7) else ((api_Reserve_73.f k l0_1 0 0).bind fun t403 => (if t403 = true then (some 7) else (some 0))))))) else (some t400))
theorem tree_Check.mono : ∀ a0 a1 a2 a3 a4 k, LeO (tree_Check.f k a0 a1 a2 a3 a4) (tree_Check.f (k + 1) a0 a1 a2 a3 a4) := by
  intro a0 a1 a2 a3 a4 k
  unfold tree_Check.f
  repeat' first
      | (with_reducible exact api_Reserve_73.mono _ _ _ _)
      | (with_reducible exact tree_Count.mono _ _ _ _)
      | (with_reducible exact tree_check.mono _ _ _ _ _)
      | (with_reducible exact LeO.refl _)
      | (with_reducible exact LeO.none _)
      | (with_reducible refine LeO.ite ?_ ?_)
      | (with_reducible refine LeO.bind ?_ (fun _ => ?_))
      | exact api_Reserve_73.mono _ _ _ _
      | exact tree_Count.mono _ _ _ _
      | exact tree_check.mono _ _ _ _ _
      | exact LeO.none _
      | refine LeO.ite ?_ ?_
      | refine LeO.bind ?_ (fun _ => ?_)
end Go.Proofs.Ytkopmkinlanhoaa.PE

namespace Go.Proofs.Ytkopmkinlanhoaa.PE
open Go.RowKit Go.Proofs.YtkopmkinlanhoaaW.PrintWords Go.Proofs.YtkopmkinlanhoaaW.PrintLast Go.Proofs.YtkopmkinlanhoaaW.PrintMore
attribute [local go_sem] max2_int min2_int max_two min_two max_three min_three max_four min_four   -- for this text's walks alone
set_option linter.unusedVariables false
set_option linter.unusedSimpArgs false
def bytes_Equal.f (l0 : List Int) (l1 : List Int) : Option (Bool) := some ((strOfNums l0).toList == (strOfNums l1).toList)
end Go.Proofs.Ytkopmkinlanhoaa.PE

namespace Go.Proofs.Ytkopmkinlanhoaa.PE
open Go.RowKit Go.Proofs.YtkopmkinlanhoaaW.PrintWords Go.Proofs.YtkopmkinlanhoaaW.PrintLast Go.Proofs.YtkopmkinlanhoaaW.PrintMore
attribute [local go_sem] max2_int min2_int max_two min_two max_three min_three max_four min_four   -- for this text's walks alone
set_option linter.unusedVariables false
set_option linter.unusedSimpArgs false
def api_Reserve_50.f (l0 : List (S82)) : Option (List (S82)) := if l0.length < 8796093022208 then (some l0) else (none)
end Go.Proofs.Ytkopmkinlanhoaa.PE

namespace Go.Proofs.Ytkopmkinlanhoaa.PE
open Go.RowKit Go.Proofs.YtkopmkinlanhoaaW.PrintWords Go.Proofs.YtkopmkinlanhoaaW.PrintLast Go.Proofs.YtkopmkinlanhoaaW.PrintMore
attribute [local go_sem] max2_int min2_int max_two min_two max_three min_three max_four min_four
set_option linter.unusedVariables false
set_option linter.unusedSimpArgs false
theorem WrT.bel {w0 W : World} {g mb : Nat} {s : WSt} (h : WrT w0 W g mb s) : Below w0.heap.size w0 W := by
  obtain ⟨_, _, hh⟩ := h
  exact hh.bel
end Go.Proofs.Ytkopmkinlanhoaa.PE

namespace Go.Proofs.Ytkopmkinlanhoaa.PE
end Go.Proofs.Ytkopmkinlanhoaa.PE

namespace Go.Proofs.Ytkopmkinlanhoaa.PE
open Go.RowKit Go.Proofs.YtkopmkinlanhoaaW.PrintWords Go.Proofs.YtkopmkinlanhoaaW.PrintLast Go.Proofs.YtkopmkinlanhoaaW.PrintMore
attribute [local go_sem] max2_int min2_int max_two min_two max_three min_three max_four min_four
set_option linter.unusedVariables false
set_option linter.unusedSimpArgs false
def cell8 (v : Int) : List Int := cellB (v / 4294967296) ++ cellB v
def resB (l : List S82) : List Int := (l.map fun x => cell8 x.f0 ++ cell8 x.f1).flatten
def headV (total structure_ texts_ boot tl bl : Int) : List Int := [3490578157, total, structure_, texts_, 40, 17, 16, boot, tl, bl]
def headB (vs : List Int) : List Int := (vs.map fun v => cellB (v % 4294967296)).flatten
theorem resB_length (l : List S82) : (resB l).length = 16 * l.length := by
  induction l with
  | nil => rfl
  | cons x r ih =>
    simp only [resB, List.map_cons, List.flatten_cons, List.length_append, List.length_cons] at ih ⊢
    rw [ih]
    simp [cell8, cellB_length]
    omega
theorem ints_C (W : World) (b : Nat) (t : Nat) (vs : List Int) (h : W.heap[b]? = some (.cells (vs.map (Value.int .i64)).toArray t (0, 0))) (hl : vs.length ≤ 1000) : Kd.C (Kd.int .i64) W (some ⟨b, 0, none⟩) vs.length vs := by
  refine Kd.C_of_reads (d := (0 : Int)) ⟨rfl, by omega, fun _ => ⟨_, rfl, fun j hj => ?_⟩⟩
  rw [add_plain, blk_cell h j]
  simp [List.getD_eq_getElem?_getD, hj]
def encF (a0 : Int) (l1 : List S82) (s : WSt) : List Int × Int :=
  if 40 + (resB (l1 ++ [⟨0, 0⟩])).length + s.1.length + s.2.1.length > 1048576 then ([], 7)
  else (headB (headV (40 + (resB (l1 ++ [⟨0, 0⟩])).length + s.1.length + s.2.1.length : Nat) (40 + (resB (l1 ++ [⟨0, 0⟩])).length : Nat) (40 + (resB (l1 ++ [⟨0, 0⟩])).length + s.1.length : Nat) a0 s.2.1.length s.1.length) ++ (resB (l1 ++ [⟨0, 0⟩]) ++ (s.1 ++ s.2.1)), 0)
def encode_Encode.f (k : Nat) (a0 : Int) (l1 : List S82) (a2 : ByteArray) (l3 : List S63) (l4 : List S27) : Option (List Int × Int) :=
  (tree_Check.f k a0 l1 a2 l3 l4).bind fun c => if c = 0 then (encode_most.f k a2 l3 l4 0).bind fun m => (if m.2 = true then some ([], 7) else (wrN k ⟨a2, l3, l4⟩ ([], [], [])).bind fun s => (capW (wCell 9 s)).bind fun s1 => if l1.length ≤ 64 then some (encF a0 l1 s1) else none) else some ([], c)
end Go.Proofs.Ytkopmkinlanhoaa.PE

namespace Go.Proofs.Ytkopmkinlanhoaa.PE
open Go.RowKit Go.Proofs.YtkopmkinlanhoaaW.PrintWords Go.Proofs.YtkopmkinlanhoaaW.PrintLast Go.Proofs.YtkopmkinlanhoaaW.PrintMore
attribute [local go_sem] max2_int min2_int max_two min_two max_three min_three max_four min_four
set_option linter.unusedVariables false
set_option linter.unusedSimpArgs false
def encode_Layout.f (k : Nat) (b : List Int) : Option Bool :=
  (decode_Decode.f k b).bind fun d => if d.2 = 0 then (if 0 ≤ d.1.f0 ∧ d.1.f0 < 4294967296 then (encode_Encode.f k d.1.f0 d.1.f1 d.1.f2.f0 d.1.f2.f1 d.1.f2.f2).bind fun c => (if c.2 = 0 then bytes_Equal.f b c.1 else some false) else none) else some false
end Go.Proofs.Ytkopmkinlanhoaa.PE

namespace Go.Proofs.Ytkopmkinlanhoaa.PE
open Go.RowKit Go.Proofs.YtkopmkinlanhoaaW.PrintWords Go.Proofs.YtkopmkinlanhoaaW.PrintLast Go.Proofs.YtkopmkinlanhoaaW.PrintMore
attribute [local go_sem] max2_int min2_int max_two min_two max_three min_three max_four min_four
set_option linter.unusedVariables false
set_option linter.unusedSimpArgs false
theorem padW_length (l : List Int) : ((padW l).length : Int) = (4 - (l.length : Int) % 4) % 4 := by
  unfold padW
  rw [List.length_replicate, padN_eq _ (by omega)]
  omega
end Go.Proofs.Ytkopmkinlanhoaa.PE

namespace Go.Proofs.Ytkopmkinlanhoaa.PE
end Go.Proofs.Ytkopmkinlanhoaa.PE

namespace Go.Proofs.Ytkopmkinlanhoaa.PE
end Go.Proofs.Ytkopmkinlanhoaa.PE

namespace Go.Proofs.Ytkopmkinlanhoaa.PE
end Go.Proofs.Ytkopmkinlanhoaa.PE

namespace Go.Proofs.Ytkopmkinlanhoaa.PE
end Go.Proofs.Ytkopmkinlanhoaa.PE

namespace Go.Proofs.Ytkopmkinlanhoaa.PE
end Go.Proofs.Ytkopmkinlanhoaa.PE

namespace Go.Proofs.Ytkopmkinlanhoaa.PE
end Go.Proofs.Ytkopmkinlanhoaa.PE

namespace Go.Proofs.Ytkopmkinlanhoaa.PE
end Go.Proofs.Ytkopmkinlanhoaa.PE

namespace Go.Proofs.Ytkopmkinlanhoaa.PE
end Go.Proofs.Ytkopmkinlanhoaa.PE

namespace Go.Proofs.Ytkopmkinlanhoaa.PE
end Go.Proofs.Ytkopmkinlanhoaa.PE

namespace Go.Proofs.Ytkopmkinlanhoaa.PE
end Go.Proofs.Ytkopmkinlanhoaa.PE

namespace Go.Proofs.Ytkopmkinlanhoaa.PE
end Go.Proofs.Ytkopmkinlanhoaa.PE

namespace Go.Proofs.Ytkopmkinlanhoaa.PE
end Go.Proofs.Ytkopmkinlanhoaa.PE

namespace Go.Proofs.Ytkopmkinlanhoaa.PE
end Go.Proofs.Ytkopmkinlanhoaa.PE

namespace Go.Proofs.Ytkopmkinlanhoaa.PE
end Go.Proofs.Ytkopmkinlanhoaa.PE

namespace Go.Proofs.Ytkopmkinlanhoaa.PE
end Go.Proofs.Ytkopmkinlanhoaa.PE

namespace Go.Proofs.Ytkopmkinlanhoaa.PE
end Go.Proofs.Ytkopmkinlanhoaa.PE

namespace Go.Proofs.Ytkopmkinlanhoaa.PE
open Go.RowKit Go.Proofs.YtkopmkinlanhoaaW.PrintWords Go.Proofs.YtkopmkinlanhoaaW.PrintLast Go.Proofs.YtkopmkinlanhoaaW.PrintMore
attribute [local go_sem] max2_int min2_int max_two min_two max_three min_three max_four min_four
set_option linter.unusedVariables false
set_option linter.unusedSimpArgs false
def Hdr.cells (h : Hdr) : List Int := [h.c0, h.c1, h.c2, h.c3, h.c4, h.c5, h.c6, h.c7, h.c8, h.c9]
def Hdr.good (h : Hdr) : Prop := ∀ c ∈ h.cells, 0 ≤ c ∧ c < 4294967296
def hbytes (h : Hdr) (i : Nat) : List Int := (h.cells.take i).flatMap cellB
theorem hbytes_length (h : Hdr) (i : Nat) (hi : i ≤ 10) : (hbytes h i).length = 4 * i := by
  unfold hbytes
  rw [List.length_flatMap]
  have : (h.cells.take i).map (fun a => (cellB a).length) = List.replicate i 4 := by
    rw [show (fun a => (cellB a).length) = (fun _ => 4) from rfl, List.map_const', List.length_take]
    have : h.cells.length = 10 := rfl
    rw [this, Nat.min_eq_left hi]
  rw [this]
  have sr : ∀ n : Nat, (List.replicate n 4).sum = 4 * n := by
    intro n
    induction n with
    | zero => rfl
    | succ n ih => rw [List.replicate_succ, List.sum_cons, ih]; omega
  exact sr i
theorem hbytes_next (h : Hdr) (i : Nat) (hi : i < 10) : hbytes h (i + 1) = hbytes h i ++ cellB (h.cells.getD i 0) := by
  have hl : i < h.cells.length := hi
  unfold hbytes
  rw [List.take_succ_eq_append_getElem hl, List.flatMap_append, List.getD_eq_getElem?_getD, List.getElem?_eq_getElem hl]
  simp
theorem hbytes_split (h : Hdr) (i : Nat) (hi : i < 10) (z : List Int) : ∃ q, hbytes h 10 ++ z = hbytes h i ++ cellB (h.cells.getD i 0) ++ q := by
  refine ⟨(h.cells.drop (i + 1)).flatMap cellB ++ z, ?_⟩
  rw [← hbytes_next h i hi]
  unfold hbytes
  have e : h.cells.take 10 = h.cells := by rfl
  rw [e, ← List.append_assoc, ← List.flatMap_append, List.take_append_drop]
theorem hdr_at (h : Hdr) (hg : h.good) (z : List Int) (i : Nat) (hi : i < 10) : cellAt (hbytes h 10 ++ z) (4 * (i : Int)) = h.cells.getD i 0 := by
  obtain ⟨q, hq⟩ := hbytes_split h i hi z
  have hl : i < h.cells.length := hi
  have hm : h.cells.getD i 0 ∈ h.cells := by rw [List.getD_eq_getElem?_getD, List.getElem?_eq_getElem hl]; exact List.getElem_mem hl
  have h1 := cellAt_mid (hbytes h i) q (h.cells.getD i 0) (hg _ hm).1 (hg _ hm).2
  rw [← hq, hbytes_length h i (by omega)] at h1
  unfold cellAt
  rw [show (4 * (i : Int)) = ((4 * i : Nat) : Int) by omega, h1]
  rfl
theorem hdr_of (h : Hdr) (hg : h.good) (z : List Int) : hdrOf (hbytes h 10 ++ z) = h := by
  have e := hdr_at h hg z
  obtain ⟨c0, c1, c2, c3, c4, c5, c6, c7, c8, c9⟩ := h
  unfold hdrOf
  have e0 := e 0 (by decide)
  have e1 := e 1 (by decide)
  have e2 := e 2 (by decide)
  have e3 := e 3 (by decide)
  have e4 := e 4 (by decide)
  have e5 := e 5 (by decide)
  have e6 := e 6 (by decide)
  have e7 := e 7 (by decide)
  have e8 := e 8 (by decide)
  have e9 := e 9 (by decide)
  simp only [Hdr.cells] at e0 e1 e2 e3 e4 e5 e6 e7 e8 e9
  rw [show cellAt _ 0 = _ from e0, show cellAt _ 4 = _ from e1, show cellAt _ 8 = _ from e2, show cellAt _ 12 = _ from e3, show cellAt _ 16 = _ from e4, show cellAt _ 20 = _ from e5, show cellAt _ 24 = _ from e6, show cellAt _ 28 = _ from e7, show cellAt _ 32 = _ from e8, show cellAt _ 36 = _ from e9]
  rfl
end Go.Proofs.Ytkopmkinlanhoaa.PE

set_option linter.unusedVariables false
set_option linter.unusedSimpArgs false
namespace Go.Proofs.Ytkopmkinlanhoaa.PE
open Go.RowKit Go.Proofs.Ytkopmkinlanhoaa.Aid Go.Proofs.YtkopmkinlanhoaaW.PrintWords
def letterB (c : Int) : Bool := (decide (97 ≤ c) && decide (c ≤ 122)) || (decide (65 ≤ c) && decide (c ≤ 90))
def plainB (c : Int) : Bool := letterB c || (decide (48 ≤ c) && decide (c ≤ 57)) || c == 44 || c == 46 || c == 95 || c == 43 || c == 45
def okB (more : ByteArray) (c : Int) : Bool := plainB c || decide (0 ≤ Lib.indexByte more.data.toList c.toNat.toUInt8)
theorem byte_all {p : Int → Prop} (h : ∀ n : Fin 256, p (n.val : Int)) {c : Int} (h0 : 0 ≤ c) (h1 : c ≤ 255) : p c := by
  have := h ⟨c.toNat, by omega⟩
  simp only at this
  rwa [Int.toNat_of_nonneg h0] at this
theorem ok_none {c : Int} (h0 : 0 ≤ c) (h1 : c ≤ 255) : okB ⟨#[]⟩ c = plainB c := byte_all (p := fun c => okB ⟨#[]⟩ c = plainB c) (by decide +kernel) h0 h1
theorem ok_prop {c : Int} (h0 : 0 ≤ c) (h1 : c ≤ 255) : okB ⟨#[63, 35]⟩ c = (plainB c || c == 63 || c == 35) := byte_all (p := fun c => okB ⟨#[63, 35]⟩ c = (plainB c || c == 63 || c == 35)) (by decide +kernel) h0 h1
theorem bytesOf_range (s : ByteArray) : ∀ b ∈ bytesOf s, 0 ≤ b ∧ b ≤ 255 := by
  intro b hb
  simp only [bytesOf, List.mem_map] at hb
  obtain ⟨u, _, rfl⟩ := hb
  have := u.toNat_lt
  omega
theorem bytesOf_at (s : ByteArray) (i : Nat) (h : i < (bytesOf s).length) : bt s (i : Int) = (bytesOf s)[i] := by
  rw [← rd_bytesOf]
  simp [rd, List.getD_eq_getElem?_getD, List.getElem?_eq_getElem h]
theorem bytesOf_upto (s : ByteArray) (k : Nat) : bytesOf (s.extract 0 k) = (bytesOf s).take k := by
  unfold bytesOf
  rw [Lib.Pa.extract_upto_list, List.map_take]
theorem bytesOf_from (s : ByteArray) (k : Nat) : bytesOf (s.extract k s.size) = (bytesOf s).drop k := by
  unfold bytesOf
  rw [Lib.Pa.extract_from, ← List.map_drop]
def allB (more : ByteArray) (l : List Int) : Bool := l.all (okB more) && (decide (1 ≤ l.length) && decide (l.length ≤ 31))
def idx (c : Int) : List Int → Int
  | [] => -1
  | a :: l => if a = c then 0 else if idx c l = -1 then -1 else idx c l + 1
theorem idx_lib (c : UInt8) : ∀ l : List UInt8, Lib.indexByte l c = idx (c.toNat : Int) (l.map fun b => (b.toNat : Int))
  | [] => rfl
  | a :: l => by
    have ih := idx_lib c l
    simp only [Lib.indexByte, idx, List.map_cons, ih]
    by_cases h : a = c
    · simp [h]
    · have h2 : ¬ ((a.toNat : Int) = (c.toNat : Int)) := by
        intro e
        exact h (UInt8.toNat_inj.mp (by omega))
      simp [h, h2]
theorem idx_range (c : Int) : ∀ l : List Int, idx c l = -1 ∨ (0 ≤ idx c l ∧ idx c l < l.length)
  | [] => .inl rfl
  | a :: l => by
    have ih := idx_range c l
    simp only [idx, List.length_cons]
    by_cases h : a = c
    · rw [if_pos h]; right; omega
    · rw [if_neg h]
      by_cases h1 : idx c l = -1
      · rw [if_pos h1]; left; rfl
      · rw [if_neg h1]; right; omega
theorem idx_split (c : Int) : ∀ (l : List Int) (j : Nat), idx c l = (j : Int) → l = l.take j ++ c :: l.drop (j + 1)
  | [], j, h => by simp [idx] at h
  | a :: l, j, h => by
    simp only [idx] at h
    by_cases h0 : a = c
    · rw [if_pos h0] at h
      have : j = 0 := by omega
      subst this; subst h0; simp
    · rw [if_neg h0] at h
      by_cases h1 : idx c l = -1
      · rw [if_pos h1] at h; omega
      · rw [if_neg h1] at h
        obtain ⟨j, rfl⟩ : ∃ m, j = m + 1 := ⟨j - 1, by have := idx_range c l; omega⟩
        have := idx_split c l j (by omega)
        simp only [List.take_succ_cons, List.drop_succ_cons, List.cons_append]
        rw [← this]
def cutB (s : ByteArray) : ByteArray × ByteArray × Bool := if idx 64 (bytesOf s) = -1 then (s, ⟨#[]⟩, false) else (s.extract 0 (idx 64 (bytesOf s)).toNat, s.extract ((idx 64 (bytesOf s)).toNat + 1) s.size, true)
end Go.Proofs.Ytkopmkinlanhoaa.PE

set_option linter.unusedVariables false
set_option linter.unusedSimpArgs false
namespace Go.Proofs.Ytkopmkinlanhoaa.PE
open Go.RowKit Go.Proofs.Ytkopmkinlanhoaa.Aid Go.Proofs.YtkopmkinlanhoaaW.PrintWords
theorem stands_f {c : Int} (h0 : 0 ≤ c) (h1 : c ≤ 255) : arboretref01_stands.f c = some (plainB c) := byte_all (p := fun c => arboretref01_stands.f c = some (plainB c)) (by decide +kernel) h0 h1
theorem refcut_ev (s : ByteArray) (hs : s.size ≤ 140737488351232) : Ev (fun k => arboretref01_Cut.f k s) (idx 64 (bytesOf s)) := by
  have hn : (bytesOf s).length = s.size := bytesOf_length s
  have main := loop (bytesOf s) (fun l => if idx 64 l = -1 then -1 else idx 64 l + ((s.size : Int) - l.length)) (fun k i => arboretref01_Cut.l0 k s (s.size : Int) i) ?_ ?_ 0 (Nat.zero_le _)
  · have e : (if idx 64 ((bytesOf s).drop 0) = -1 then -1 else idx 64 ((bytesOf s).drop 0) + ((s.size : Int) - ((bytesOf s).drop 0).length)) = idx 64 (bytesOf s) := by
      rw [List.drop_zero, hn]
      split <;> omega
    rw [← e]
    exact main
  · rw [hn]
    refine Ev.succ ⟨0, fun k _ => ?_⟩
    simp only [arboretref01_Cut.l0]
    rw [if_neg (by omega)]
    rfl
  · intro i h ih
    refine Ev.succ ?_
    have hw : wrap64 ((i : Int) + 1) = ((i + 1 : Nat) : Int) := by rw [w64 (by omega) (by omega)]; omega
    simp only [arboretref01_Cut.l0, bytesOf_at s i h, hw]
    refine Ev.pos (by omega) (Ev.pos (Int.natCast_nonneg i) (Ev.pos (by omega) ?_))
    have hl : ((bytesOf s).drop (i + 1)).length = s.size - (i + 1) := by rw [List.length_drop, hn]
    simp only [idx, List.length_cons, hl]
    simp only [hl] at ih
    by_cases hc : (bytesOf s)[i] = 64
    · rw [if_pos hc, if_neg (by omega)]
      refine Ev.pos hc (Ev.fix ?_)
      congr 1
      omega
    · rw [if_neg hc]
      refine Ev.neg hc ?_
      by_cases h1 : idx 64 ((bytesOf s).drop (i + 1)) = -1
      · rw [if_pos h1] at ih
        rw [if_pos h1, if_pos rfl]
        exact ih
      · rw [if_neg h1] at ih
        have hr := idx_range 64 ((bytesOf s).drop (i + 1))
        rw [if_neg h1, if_neg (by omega)]
        have e : idx 64 ((bytesOf s).drop (i + 1)) + ((s.size : Int) - ((s.size - (i + 1) : Nat) : Int)) = idx 64 ((bytesOf s).drop (i + 1)) + 1 + ((s.size : Int) - ((s.size - (i + 1) + 1 : Nat) : Int)) := by omega
        rw [← e]
        exact ih
end Go.Proofs.Ytkopmkinlanhoaa.PE

set_option linter.unusedVariables false
set_option linter.unusedSimpArgs false
namespace Go.Proofs.Ytkopmkinlanhoaa.PE
open Go.RowKit Go.Proofs.Ytkopmkinlanhoaa.Aid Go.Proofs.YtkopmkinlanhoaaW.PrintWords
def firstB (c : Int) : Bool := letterB c || c == 95
def unitB (l : List Int) : Bool := l.all plainB && (decide (1 ≤ l.length) && decide (l.length ≤ 31))
def baseB (l : List Int) : Bool := unitB l && firstB (l.getD 0 0)
def nodeB (s : ByteArray) : Bool := baseB (bytesOf (cutB s).1) && (!(cutB s).2.2 || unitB (bytesOf (cutB s).2.1))
def allBut (n : Nat) (at_ : Int) : List Int → Bool
  | [] => true
  | a :: l => (decide ((n : Int) - (l.length + 1 : Nat) = at_) || plainB a) && allBut n at_ l
theorem allBut_behind (n : Nat) (at_ : Int) : ∀ l : List Int, at_ < (n : Int) - l.length → allBut n at_ l = l.all plainB
  | [], _ => rfl
  | a :: l, h => by
    rw [List.length_cons] at h
    have ih := allBut_behind n at_ l (by omega)
    simp only [allBut, List.all_cons, ih]
    rw [decide_eq_false (by omega), Bool.false_or]
theorem allBut_at (n : Nat) (at_ : Int) (c : Int) (r : List Int) : ∀ l : List Int, (n : Int) = at_ + 1 + r.length → allBut n at_ (l ++ c :: r) = (l.all plainB && r.all plainB) := by
  intro l h
  induction l with
  | nil =>
    simp only [List.nil_append, allBut, List.all_nil, Bool.true_and]
    rw [decide_eq_true (by omega), Bool.true_or, Bool.true_and, allBut_behind n at_ r (by omega)]
  | cons a l ih =>
    simp only [List.cons_append, allBut, List.all_cons, ih, Bool.and_assoc]
    rw [decide_eq_false (by simp only [List.length_append, List.length_cons]; omega), Bool.false_or]
def endB (l : List Int) : Bool := decide (1 ≤ l.length) && decide (l.length ≤ 31) && firstB (l.getD 0 0)
theorem refnode_loop (s b : ByteArray) (at_ : Int) (hs : s.size ≤ 140737488351232) :
    Ev (fun k => arboretref01_Node.j0 k s at_ b) (allBut s.size at_ (bytesOf s) && endB (bytesOf b)) := by
  have hn : (bytesOf s).length = s.size := bytesOf_length s
  refine Ev.succ ?_
  simp only [arboretref01_Node.j0]
  have main := loop (bytesOf s) (fun l => allBut s.size at_ l && endB (bytesOf b)) (fun k i => arboretref01_Node.l0 k s at_ b (s.size : Int) i) ?_ ?_ 0 (Nat.zero_le _)
  · exact main
  · rw [hn]
    refine Ev.succ ?_
    simp only [arboretref01_Node.l0, allBut, Bool.true_and]
    refine Ev.neg (by omega) ⟨0, fun k _ => ?_⟩
    have hl : (bytesOf b).length = b.size := bytesOf_length _
    unfold endB
    rw [hl]
    by_cases h1 : (b.size : Int) ≥ 1
    · rw [if_pos h1, decide_eq_true (by omega : 1 ≤ b.size)]
      by_cases h2 : (b.size : Int) ≤ 31
      · have hp : 0 < (bytesOf b).length := by omega
        have e0 : bt b 0 = (bytesOf b).getD 0 0 := by
          rw [getD_at hp]
          exact bytesOf_at b 0 hp
        rw [if_pos h2, if_pos (by omega), decide_eq_true (by omega : b.size ≤ 31), e0]
        obtain ⟨b0, b1⟩ := bytesOf_range b _ (List.getElem_mem hp)
        rw [← getD_at (d := 0) hp] at b0 b1
        generalize (bytesOf b).getD 0 0 = c at b0 b1
        revert c
        intro c b0 b1
        exact byte_all (p := fun c => (if c = 95 then some true else if c ≥ 97 then if c ≤ 122 then some true else if c ≥ 65 then some (decide (c ≤ 90)) else some false else if c ≥ 65 then some (decide (c ≤ 90)) else some false) = some (true && true && firstB c)) (by decide +kernel) b0 b1
      · rw [if_neg h2, decide_eq_false (by omega : ¬ b.size ≤ 31)]
        rfl
    · rw [if_neg h1, decide_eq_false (by omega : ¬ 1 ≤ b.size)]
      rfl
  · intro i h ih
    have hw : wrap64 ((i : Int) + 1) = ((i + 1 : Nat) : Int) := by rw [w64 (by omega) (by omega)]; omega
    have hl : ((bytesOf s).drop (i + 1)).length = s.size - (i + 1) := by rw [List.length_drop, hn]
    refine Ev.succ ?_
    simp only [arboretref01_Node.l0, allBut, hl, hw]
    refine Ev.pos (by omega) ?_
    by_cases ha : (i : Int) = at_
    · rw [decide_eq_true (by omega), Bool.true_or, Bool.true_and]
      exact Ev.pos ha ih
    · rw [decide_eq_false (by omega), Bool.false_or]
      obtain ⟨b0, b1⟩ := bytesOf_range s _ (List.getElem_mem h)
      simp only [bytesOf_at s i h, stands_f b0 b1, Option.bind_some]
      refine Ev.neg ha (Ev.pos (Int.natCast_nonneg i) (Ev.pos (by omega) ?_))
      cases plainB (bytesOf s)[i] with
      | true => exact Ev.pos rfl (by rw [Bool.true_and]; exact ih)
      | false => exact Ev.neg (by decide) (Ev.some _)
theorem refnode_ev (s : ByteArray) (hs : s.size ≤ 140737488351232) : Ev (fun k => arboretref01_Node.f k s) (nodeB s) := by
  have hn : (bytesOf s).length = s.size := bytesOf_length s
  have hr := idx_range 64 (bytesOf s)
  unfold arboretref01_Node.f
  refine Ev.then (refcut_ev s hs) ?_
  by_cases h : idx 64 (bytesOf s) = -1
  · have e : nodeB s = (allBut s.size (-1) (bytesOf s) && endB (bytesOf s)) := by
      unfold nodeB baseB cutB unitB endB
      rw [if_pos h, allBut_behind _ _ _ (by omega)]
      simp only [Bool.not_false, Bool.true_or, Bool.and_true, Bool.and_assoc]
    rw [e, h]
    exact Ev.neg (by decide) (refnode_loop s s (-1) hs)
  · obtain ⟨j, hj⟩ : ∃ j : Nat, idx 64 (bytesOf s) = (j : Int) := ⟨(idx 64 (bytesOf s)).toNat, by omega⟩
    have hsp := idx_split 64 (bytesOf s) j hj
    have e1 : bytesOf (cutB s).1 = (bytesOf s).take j := by
      unfold cutB
      rw [if_neg h, hj, Int.toNat_natCast]
      exact bytesOf_upto s j
    have e2 : bytesOf (cutB s).2.1 = (bytesOf s).drop (j + 1) := by
      unfold cutB
      rw [if_neg h, hj, Int.toNat_natCast]
      exact bytesOf_from s (j + 1)
    have e3 : (cutB s).2.2 = true := by
      unfold cutB
      rw [if_neg h]
    have hdl : ((bytesOf s).drop (j + 1)).length = s.size - (j + 1) := by rw [List.length_drop, hn]
    have eall : allBut s.size (j : Int) (bytesOf s) = (((bytesOf s).take j).all plainB && ((bytesOf s).drop (j + 1)).all plainB) := by
      have := allBut_at s.size (j : Int) 64 ((bytesOf s).drop (j + 1)) ((bytesOf s).take j) (by rw [hdl]; omega)
      rw [← hsp] at this
      exact this
    have e : nodeB s = (decide (1 ≤ s.size - (j + 1)) && decide (s.size - (j + 1) ≤ 31) && (allBut s.size (j : Int) (bytesOf s) && endB (bytesOf (s.extract 0 j)))) := by
      rw [eall, bytesOf_upto]
      unfold nodeB baseB unitB endB
      rw [e1, e2, e3, hdl]
      simp only [Bool.not_true, Bool.false_or]
      generalize (List.all (List.take j (bytesOf s)) plainB) = a
      generalize (List.all (List.drop (j + 1) (bytesOf s)) plainB) = b
      generalize decide (1 ≤ s.size - (j + 1)) = c
      generalize decide (s.size - (j + 1) ≤ 31) = d
      generalize decide (1 ≤ (List.take j (bytesOf s)).length) = e
      generalize decide ((List.take j (bytesOf s)).length ≤ 31) = f
      generalize firstB ((List.take j (bytesOf s)).getD 0 0) = g
      cases a <;> cases b <;> cases c <;> cases d <;> cases e <;> cases f <;> cases g <;> rfl
    have hw : wrap64 (wrap64 ((s.size : Int) - (j : Int)) - 1) = ((s.size - (j + 1) : Nat) : Int) := by
      rw [w64 (x := (s.size : Int) - (j : Int)) (by omega) (by omega), w64 (by omega) (by omega)]
      omega
    rw [hj, e, hw, Int.toNat_natCast]
    refine Ev.pos (Int.natCast_nonneg j) (Ev.pos (Int.natCast_nonneg j) (Ev.pos (by omega) ?_))
    by_cases h1 : ((s.size - (j + 1) : Nat) : Int) < 1
    · rw [decide_eq_false (by omega : ¬ 1 ≤ s.size - (j + 1))]
      exact Ev.pos h1 (Ev.some _)
    · rw [decide_eq_true (by omega : 1 ≤ s.size - (j + 1))]
      refine Ev.neg h1 ?_
      by_cases h2 : ((s.size - (j + 1) : Nat) : Int) > 31
      · rw [decide_eq_false (by omega : ¬ s.size - (j + 1) ≤ 31)]
        exact Ev.pos h2 (Ev.some _)
      · rw [decide_eq_true (by omega : s.size - (j + 1) ≤ 31)]
        exact Ev.neg h2 (refnode_loop s (s.extract 0 j) (j : Int) hs)
def propB (l : List Int) : Bool := l.all (fun c => plainB c || c == 63 || c == 35) && (decide (1 ≤ l.length) && decide (l.length ≤ 31))
theorem refprop_ev (s : ByteArray) (hs : s.size ≤ 140737488351232) : Ev (fun k => arboretref01_Prop.f k s) (propB (bytesOf s)) := by
  have hn : (bytesOf s).length = s.size := bytesOf_length s
  have main := loop (bytesOf s) (fun l => l.all (fun c => plainB c || c == 63 || c == 35) && (decide (1 ≤ s.size) && decide (s.size ≤ 31))) (fun k i => arboretref01_Prop.l0 k s (s.size : Int) i) ?_ ?_ 0 (Nat.zero_le _)
  · unfold propB
    rw [hn]
    exact main
  · rw [hn]
    refine Ev.succ ?_
    simp only [arboretref01_Prop.l0]
    refine Ev.neg (by omega) (Ev.fix ?_)
    by_cases h : (s.size : Int) ≥ 1
    · rw [if_pos h, decide_eq_true (by omega : 1 ≤ s.size)]
      have : decide ((s.size : Int) ≤ 31) = decide (s.size ≤ 31) := decide_eq_decide.mpr (by omega)
      rw [this]
      rfl
    · rw [if_neg h, decide_eq_false (by omega : ¬ 1 ≤ s.size)]
      rfl
  · intro i h ih
    have hw : wrap64 ((i : Int) + 1) = ((i + 1 : Nat) : Int) := by rw [w64 (by omega) (by omega)]; omega
    obtain ⟨b0, b1⟩ := bytesOf_range s _ (List.getElem_mem h)
    refine Ev.succ ?_
    simp only [arboretref01_Prop.l0, bytesOf_at s i h, stands_f b0 b1, hw, Option.bind_some, List.all_cons]
    refine Ev.pos (by omega) (Ev.pos (Int.natCast_nonneg i) (Ev.pos (by omega) ?_))
    cases plainB (bytesOf s)[i] with
    | true =>
      simp only [Bool.true_or, Bool.true_and, if_true]
      exact ih
    | false =>
      refine Ev.neg (by decide) ?_
      by_cases h63 : (bytesOf s)[i] = 63
      · rw [h63]
        exact Ev.pos rfl ih
      · by_cases h35 : (bytesOf s)[i] = 35
        · rw [h35]
          exact Ev.neg (by decide) (Ev.pos rfl ih)
        · have e1 : ((bytesOf s)[i] == 63) = false := by simpa using h63
          have e2 : ((bytesOf s)[i] == 35) = false := by simpa using h35
          rw [e1, e2]
          exact Ev.neg h63 (Ev.neg h35 (Ev.some _))
end Go.Proofs.Ytkopmkinlanhoaa.PE

set_option linter.unusedVariables false
set_option linter.unusedSimpArgs false
namespace Go.Proofs.Ytkopmkinlanhoaa.PE
open Go.RowKit Go.Proofs.Ytkopmkinlanhoaa.Aid Go.Proofs.YtkopmkinlanhoaaW.PrintWords
theorem plain_f {c : Int} (h0 : 0 ≤ c) (h1 : c ≤ 255) : name_plain.f c = some (plainB c) := byte_all (p := fun c => name_plain.f c = some (plainB c)) (by decide +kernel) h0 h1
theorem letter_f {c : Int} (h0 : 0 ≤ c) (h1 : c ≤ 255) : name_letter.f c = some (letterB c) := byte_all (p := fun c => name_letter.f c = some (letterB c)) (by decide +kernel) h0 h1
theorem all_ev (s more : ByteArray) (hs : s.size ≤ 140737488351232) : Ev (fun k => name_all.f k s more) (allB more (bytesOf s)) := by
  have hn : (bytesOf s).length = s.size := bytesOf_length s
  have main := loop (bytesOf s) (fun l => l.all (okB more) && (decide (1 ≤ s.size) && decide (s.size ≤ 31))) (fun k i => name_all.l0 k s more (s.size : Int) i) ?_ ?_ 0 (Nat.zero_le _)
  · have e : allB more (bytesOf s) = (((bytesOf s).drop 0).all (okB more) && (decide (1 ≤ s.size) && decide (s.size ≤ 31))) := by
      unfold allB
      rw [List.drop_zero, hn]
    rw [e]
    exact main
  · rw [hn]
    refine Ev.succ ⟨0, fun k _ => ?_⟩
    simp only [name_all.l0]
    rw [if_neg (by omega)]
    by_cases h : (s.size : Int) ≥ 1
    · rw [if_pos h]
      have h1 : 1 ≤ s.size := by omega
      simp [h1, Int.ofNat_le]
      omega
    · rw [if_neg h]
      have h1 : ¬ 1 ≤ s.size := by omega
      simp [h1]
  · intro i h ih
    obtain ⟨b0, b1⟩ := bytesOf_range s _ (List.getElem_mem h)
    refine Ev.succ ?_
    have hw : wrap64 ((i : Int) + 1) = ((i + 1 : Nat) : Int) := by rw [w64 (by omega) (by omega)]; omega
    simp only [name_all.l0, bytesOf_at s i h, plain_f b0 b1, hw, Option.bind_some, List.all_cons]
    refine Ev.pos (by omega) (Ev.pos (Int.natCast_nonneg i) (Ev.pos (by omega) ?_))
    cases hp : plainB (bytesOf s)[i] with
    | true =>
      have ho : okB more (bytesOf s)[i] = true := by unfold okB; rw [hp]; rfl
      rw [ho, Bool.true_and]
      exact Ev.pos rfl ih
    | false =>
      refine Ev.neg (by decide) ?_
      simp only [strings_IndexByte.f, Option.bind_some]
      by_cases hx : Lib.indexByte more.data.toList (bytesOf s)[i].toNat.toUInt8 < 0
      · have ho : okB more (bytesOf s)[i] = false := by unfold okB; rw [hp, decide_eq_false (by omega)]; rfl
        rw [ho]
        exact Ev.pos hx (Ev.some _)
      · have ho : okB more (bytesOf s)[i] = true := by unfold okB; rw [hp, decide_eq_true (by omega)]; rfl
        rw [ho, Bool.true_and]
        exact Ev.neg hx ih
theorem index_f (s : ByteArray) (u : UInt8) : stringslite_Index.f s ⟨#[u]⟩ = some (idx (u.toNat : Int) (bytesOf s)) := by
  unfold stringslite_Index.f
  simp only
  rw [idx_lib]
  rfl
theorem cut_f (s : ByteArray) (hs : s.size ≤ 140737488351232) : strings_Cut.f s ⟨#[64]⟩ = some (cutB s) := by
  have hr := idx_range 64 (bytesOf s)
  rw [bytesOf_length] at hr
  have e : stringslite_Cut.f s ⟨#[64]⟩ = some (cutB s) := by
    unfold stringslite_Cut.f cutB
    rw [index_f]
    have e64 : ((64 : UInt8).toNat : Int) = 64 := rfl
    rw [e64]
    simp only [Option.bind_some]
    obtain ⟨j, hj⟩ : ∃ j, j = idx 64 (bytesOf s) := ⟨_, rfl⟩
    rw [← hj] at hr ⊢
    have h1 : (((⟨#[64]⟩ : ByteArray).size : Nat) : Int) = 1 := rfl
    rw [h1]
    by_cases h : j = -1
    · rw [if_pos h, if_neg (by omega)]
    · have hw : wrap64 (j + 1) = j + 1 := w64 (by omega) (by omega)
      rw [if_neg h, hw, if_pos (by omega), if_pos (by omega), if_pos (by omega), if_pos (by omega), if_pos (by omega)]
      have e1 : (j + 1).toNat = j.toNat + 1 := by omega
      rw [e1]
  unfold strings_Cut.f
  rw [e]
  rfl
end Go.Proofs.Ytkopmkinlanhoaa.PE

set_option linter.unusedVariables false
set_option linter.unusedSimpArgs false
namespace Go.Proofs.Ytkopmkinlanhoaa.PE
open Go.RowKit Go.Proofs.Ytkopmkinlanhoaa.Aid Go.Proofs.YtkopmkinlanhoaaW.PrintWords
theorem all_none (s : ByteArray) : allB ⟨#[]⟩ (bytesOf s) = unitB (bytesOf s) := by
  unfold allB unitB
  congr 1
  rw [Bool.eq_iff_iff, List.all_eq_true, List.all_eq_true]
  constructor
  · intro h x hx
    obtain ⟨h0, h1⟩ := bytesOf_range s x hx
    rw [← ok_none h0 h1]
    exact h x hx
  · intro h x hx
    obtain ⟨h0, h1⟩ := bytesOf_range s x hx
    rw [ok_none h0 h1]
    exact h x hx
theorem cutB_size (s : ByteArray) : (cutB s).1.size ≤ s.size ∧ (cutB s).2.1.size ≤ s.size := by
  unfold cutB
  split
  · exact ⟨Nat.le_refl _, Nat.zero_le _⟩
  · simp only [ByteArray.size_extract]
    omega
theorem node_ev (s : ByteArray) (hs : s.size ≤ 140737488351232) : Ev (fun k => name_Node.f k s) (nodeB s) := by
  have hz := cutB_size s
  unfold name_Node.f
  refine Ev.then (Ev.fix (cut_f s hs)) ?_
  have h1 := all_ev (cutB s).1 ⟨#[]⟩ (by omega)
  have h2 := all_ev (cutB s).2.1 ⟨#[]⟩ (by omega)
  rw [all_none] at h1 h2
  refine Ev.then h1 ?_
  have hl : (bytesOf (cutB s).1).length = (cutB s).1.size := bytesOf_length _
  unfold nodeB baseB
  cases hb : unitB (bytesOf (cutB s).1) with
  | false => exact Ev.neg (by decide) (Ev.some _)
  | true =>
    have hp : 0 < (bytesOf (cutB s).1).length := by
      unfold unitB at hb
      simp only [Bool.and_eq_true, decide_eq_true_eq] at hb
      omega
    refine Ev.pos rfl (Ev.pos (by omega) ?_)
    have e0 : bt (cutB s).1 0 = (bytesOf (cutB s).1).getD 0 0 := by
      rw [getD_at hp]
      exact bytesOf_at (cutB s).1 0 hp
    obtain ⟨b0, b1⟩ := bytesOf_range (cutB s).1 _ (List.getElem_mem hp)
    rw [← getD_at (d := 0) hp] at b0 b1
    rw [e0]
    refine Ev.then (Ev.fix (letter_f b0 b1)) ?_
    unfold firstB
    have tail : Ev (fun k => if (cutB s).2.2 = true then ((name_all.f k (cutB s).2.1 (⟨#[]⟩ : ByteArray)).bind fun t214 => (some t214)) else (some true)) (!(cutB s).2.2 || unitB (bytesOf (cutB s).2.1)) := by
      cases (cutB s).2.2 with
      | false => exact Ev.neg (by decide) (Ev.some _)
      | true => exact Ev.pos rfl (Ev.then h2 (Ev.some _))
    cases hc : letterB ((bytesOf (cutB s).1).getD 0 0) with
    | true =>
      simp only [Bool.true_or, Bool.and_true, Bool.true_and, if_true]
      exact tail
    | false =>
      refine Ev.neg (by decide) ?_
      by_cases h95 : (bytesOf (cutB s).1).getD 0 0 = 95
      · rw [h95]
        exact Ev.pos rfl tail
      · have : ((bytesOf (cutB s).1).getD 0 0 == 95) = false := by simpa using h95
        rw [this]
        exact Ev.neg h95 (Ev.some _)
theorem prop_ev (s : ByteArray) (hs : s.size ≤ 140737488351232) : Ev (fun k => name_Prop.f k s) (propB (bytesOf s)) := by
  have e : allB ⟨#[63, 35]⟩ (bytesOf s) = propB (bytesOf s) := by
    unfold allB propB
    congr 1
    rw [Bool.eq_iff_iff, List.all_eq_true, List.all_eq_true]
    constructor
    · intro h x hx
      obtain ⟨h0, h1⟩ := bytesOf_range s x hx
      rw [← ok_prop h0 h1]
      exact h x hx
    · intro h x hx
      obtain ⟨h0, h1⟩ := bytesOf_range s x hx
      rw [ok_prop h0 h1]
      exact h x hx
  unfold name_Prop.f
  refine Ev.then (all_ev s ⟨#[63, 35]⟩ hs) ?_
  rw [e]
  exact Ev.some _
end Go.Proofs.Ytkopmkinlanhoaa.PE

set_option linter.unusedVariables false
set_option linter.unusedSimpArgs false
namespace Go.Proofs.Ytkopmkinlanhoaa.PE
open Go.RowKit Go.Proofs.Ytkopmkinlanhoaa.Rdr Go.Proofs.Ytkopmkinlanhoaa.Aid Go.Proofs.YtkopmkinlanhoaaW.PrintWords
def TwiceFrom {α : Type} (l : List α) (i : Nat) : Prop := ∃ j, ∃ h : j < l.length, i ≤ j ∧ ∃ q, ∃ h' : q < j, l[q] = l[j]
theorem twice_nodup {α : Type} (l : List α) : TwiceFrom l 0 ↔ ¬ l.Nodup := by
  constructor
  · rintro ⟨j, h, _, q, h', e⟩ hn
    exact List.pairwise_iff_getElem.mp hn q j (by omega) h h' e
  · intro hn
    refine Classical.byContradiction fun ht => hn ?_
    refine List.pairwise_iff_getElem.mpr fun q j hq hj hqj e => ht ⟨j, hj, Nat.zero_le _, q, hqj, e⟩
theorem dupB_iff (xs : List ByteArray) : dupB xs = true ↔ ¬ (txts xs).Nodup := by
  obtain ⟨ss, hss⟩ : ∃ ss, ss = (txts xs).mergeSort fun x y => decide (x ≤ y) := ⟨_, rfl⟩
  have hp : ss.Perm (txts xs) := by rw [hss]; exact List.mergeSort_perm _ _
  have hl : ss.length = xs.length := by rw [hp.length_eq, txts_len]
  have hs : ss.Pairwise (fun x y => x ≤ y) := by
    have := List.pairwise_mergeSort (le := fun x y : List UInt8 => decide (x ≤ y)) (fun a b c h1 h2 => by
      simp only [decide_eq_true_eq] at h1 h2 ⊢
      exact List.le_trans h1 h2) (fun a b => by
      simp only [Bool.or_eq_true, decide_eq_true_eq]
      exact List.le_total a b) (txts xs)
    rw [← hss] at this
    exact this.imp (fun h => by simpa using h)
  have hd : dupB xs = decide ((Lib.compact ss).length < xs.length) := by rw [hss]; rfl
  rw [hd, decide_eq_true_eq, ← hl, ← hp.nodup_iff]
  constructor
  · intro h hn
    have : Lib.compact ss = ss := Lib.compact_all ss (fun j hj => by
      rcases Nat.eq_zero_or_pos j with rfl | h0
      · exact Lib.keeps_lt_one _ 0 (by omega)
      · refine Lib.keeps_pos ?_
        rw [List.getElem!_toArray, List.getElem!_toArray, getElem!_pos ss j hj, getElem!_pos ss (j - 1) (by omega)]
        exact fun e => List.pairwise_iff_getElem.mp hn (j - 1) j (by omega) hj (by omega) e.symm)
    rw [this] at h
    omega
  · intro hn
    refine Classical.byContradiction fun hlen => hn ?_
    have hle := Lib.compact_length_le ss
    have heq : (Lib.compact ss).length = ss.length := by omega
    have hk : ∀ j, j < ss.length → Lib.keeps ss.toArray j = true := by
      unfold Lib.compact Lib.compactUpTo at heq
      rw [List.length_map] at heq
      have h2 : ((List.range ss.length).filter (Lib.keeps ss.toArray)).length = (List.range ss.length).length := by rw [heq, List.length_range]
      have h3 := List.length_filter_eq_length_iff.mp h2
      exact fun j hj => h3 j (List.mem_range.mpr hj)
    refine List.pairwise_iff_getElem.mpr fun q j hq hj hqj e => ?_
    have h1 := hk (q + 1) (by omega)
    have h2 : ss[q + 1]'(by omega) ≠ ss[q] := by
      unfold Lib.keeps at h1
      simp only [decide_eq_true_eq] at h1
      rcases h1 with h1 | h1
      · omega
      · rw [List.getElem!_toArray, List.getElem!_toArray, getElem!_pos ss (q + 1) (by omega), getElem!_pos ss (q + 1 - 1) (by omega)] at h1
        exact h1
    have h3 := List.pairwise_iff_getElem.mp hs q (q + 1) hq (by omega) (by omega)
    rcases Nat.lt_or_ge (q + 1) j with h4 | h4
    · have h5 := List.pairwise_iff_getElem.mp hs (q + 1) j (by omega) hj h4
      rw [← e] at h5
      exact h2 (List.le_antisymm h5 h3)
    · have : q + 1 = j := by omega
      subst this
      exact h2 e.symm
theorem dup_twice {α : Type} (l : List α) (f : α → ByteArray) : dupB (l.map f) = true ↔ TwiceFrom (l.map fun x => (f x).toList) 0 := by
  rw [dupB_iff, twice_nodup]
  have : txts (l.map f) = l.map fun x => (f x).toList := by
    unfold txts
    rw [List.map_map]
    apply List.map_congr_left
    intro x _
    show (f x).data.toList = (f x).toList
    exact (ByteArray.toList_eq (f x)).symm
  rw [this]
theorem names_ev (nm : ByteArray) (ps : List S63) (ks : List S27) (hp : ps.length ≤ 1048576) (hk : ks.length ≤ 1048576) : Ev (fun k => tree_names.f k nm ps ks) (ps.map (·.f0), ks.map (·.f0)) := by
  have l1 : ∀ (j i : Nat) (acc : List ByteArray), i + j = ks.length → acc.length ≤ i → Ev (fun k => tree_names.l1 k (ps.map (·.f0)) acc ks (ks.length : Int) (i : Int)) (ps.map (·.f0), acc ++ (ks.drop i).map (·.f0)) := by
    intro j
    induction j with
    | zero =>
      intro i acc hi ha
      rw [List.drop_of_length_le (by omega)]
      refine Ev.succ ?_
      simp only [tree_names.l1, List.map_nil, List.append_nil]
      exact Ev.neg (by omega) (Ev.some _)
    | succ j ih =>
      intro i acc hi ha
      have hw := step64 (i := i) (n := ks.length) (by omega) hk
      have := ih (i + 1) (acc ++ [(ks.getD i z27).f0]) (by omega) (by simp; omega)
      rw [drop_at (l := ks) (d := z27) (i := i) (by omega), List.map_cons]
      rw [List.append_assoc] at this
      refine Ev.succ ?_
      simp only [tree_names.l1, rdN, hw]
      exact Ev.pos (by omega) (Ev.pos (Int.natCast_nonneg i) (Ev.pos (by omega) (Ev.pos (by omega) this)))
  have l0 : ∀ (j i : Nat) (acc : List ByteArray), i + j = ps.length → acc.length ≤ i → acc ++ (ps.drop i).map (·.f0) = ps.map (·.f0) → Ev (fun k => tree_names.l0 k acc ps (ps.length : Int) (i : Int) nm ps ks) (ps.map (·.f0), ks.map (·.f0)) := by
    intro j
    induction j with
    | zero =>
      intro i acc hi ha he
      rw [List.drop_of_length_le (by omega), List.map_nil, List.append_nil] at he
      refine Ev.succ ?_
      simp only [tree_names.l0]
      rw [he]
      have := l1 ks.length 0 [] (by omega) (by simp)
      exact Ev.neg (by omega) (by simpa using this)
    | succ j ih =>
      intro i acc hi ha he
      have hw := step64 (i := i) (n := ps.length) (by omega) hp
      rw [drop_at (l := ps) (d := z63) (i := i) (by omega), List.map_cons] at he
      have := ih (i + 1) (acc ++ [(ps.getD i z63).f0]) (by omega) (by simp; omega) (by rw [List.append_assoc]; exact he)
      refine Ev.succ ?_
      simp only [tree_names.l0, rdP, hw]
      exact Ev.pos (by omega) (Ev.pos (Int.natCast_nonneg i) (Ev.pos (by omega) (Ev.pos (by omega) this)))
  have := l0 ps.length 0 [] (by omega) (by simp) (by simp)
  unfold tree_names.f
  exact this
theorem bad_ev (xs : List ByteArray) (hs : ∀ s ∈ xs, s.size ≤ 1048576) : ∀ i : Nat, ∃ v : Int, Ev (fun k => badIx k xs i) v ∧ (0 ≤ v ↔ ¬ ∀ s ∈ xs, propB (bytesOf s) = true) := by
  induction xs with
  | nil => exact fun i => ⟨-1, Ev.some _, by simp⟩
  | cons s r ih =>
    intro i
    have hp := prop_ev s (by have := hs s (by simp); omega)
    obtain ⟨v, hv, hi⟩ := ih (fun s h => hs s (by simp [h])) (i + 1)
    cases hb : propB (bytesOf s) with
    | true =>
      rw [hb] at hp
      refine ⟨v, ?_, by rw [hi]; simp [hb]⟩
      simp only [badIx]
      exact Ev.then hp (Ev.pos rfl hv)
    | false =>
      rw [hb] at hp
      refine ⟨(i : Int), ?_, by simp [hb]⟩
      simp only [badIx]
      exact Ev.then hp (Ev.neg (by decide) (Ev.some _))
theorem ref_kids_twice (x : S27) (d : Int) (v5 : Int) (hk : x.f2.length ≤ 1048576) (e5 : Ev (fun k => arboretref01_wrong.l5 k d (x.f2.length : Int) 0 x.f0 x.f1 x.f2) v5) :
    ∃ v, Ev (fun k => arboretref01_wrong.l3 k d (x.f2.length : Int) 0 x.f0 x.f1 x.f2) v ∧ (TwiceFrom (x.f2.map fun y => y.f0.toList) 0 → v = 9) ∧ (¬ TwiceFrom (x.f2.map fun y => y.f0.toList) 0 → v = v5) := by
  have l34 : ∀ (j i : Nat), i + j = x.f2.length → ∃ v : Int, Ev (fun k => arboretref01_wrong.l3 k d (x.f2.length : Int) (i : Int) x.f0 x.f1 x.f2) v ∧ ((∃ a, a < x.f2.length ∧ i ≤ a ∧ ∃ q, q < a ∧ (x.f2.getD q z27).f0.toList = (x.f2.getD a z27).f0.toList) → v = 9) ∧ ((¬ ∃ a, a < x.f2.length ∧ i ≤ a ∧ ∃ q, q < a ∧ (x.f2.getD q z27).f0.toList = (x.f2.getD a z27).f0.toList) → v = v5) := by
    intro j
    induction j with
    | zero =>
      intro i hi
      refine ⟨v5, Ev.succ ?_, fun ⟨a, h1, h2, _⟩ => by omega, fun _ => rfl⟩
      simp only [arboretref01_wrong.l3]
      exact Ev.neg (by omega) e5
    | succ j ihj =>
      intro i hi
      obtain ⟨r, hr, hr9, hr5⟩ := ihj (i + 1) (by omega)
      have hw := step64 (i := i) (n := x.f2.length) (by omega) (by omega)
      have inner : ∀ (p q : Nat), q + p = i → ∃ v : Int, Ev (fun k => arboretref01_wrong.l4 k d (i : Int) (x.f2.length : Int) (i : Int) (i : Int) (q : Int) x.f0 x.f1 x.f2) v ∧ ((∃ a, a < i ∧ q ≤ a ∧ (x.f2.getD a z27).f0.toList = (x.f2.getD i z27).f0.toList) → v = 9) ∧ ((¬ ∃ a, a < i ∧ q ≤ a ∧ (x.f2.getD a z27).f0.toList = (x.f2.getD i z27).f0.toList) → v = r) := by
        intro p
        induction p with
        | zero =>
          intro q hq0
          refine ⟨r, Ev.succ ?_, fun ⟨a, h1, h2, _⟩ => by omega, fun _ => rfl⟩
          simp only [arboretref01_wrong.l4, hw]
          exact Ev.neg (by omega) hr
        | succ p ihp =>
          intro q hq0
          have hw2 := step64 (i := q) (n := x.f2.length) (by omega) (by omega)
          obtain ⟨u, hu, hu9, hur⟩ := ihp (q + 1) (by omega)
          by_cases c : (x.f2.getD q z27).f0.toList = (x.f2.getD i z27).f0.toList
          · refine ⟨9, Ev.succ ?_, fun _ => rfl, fun h => absurd ⟨q, by omega, Nat.le_refl _, c⟩ h⟩
            simp only [arboretref01_wrong.l4, rdN]
            exact Ev.pos (by omega) (Ev.pos (Int.natCast_nonneg q) (Ev.pos (by omega) (Ev.pos (Int.natCast_nonneg i) (Ev.pos (by omega) (Ev.pos c (Ev.some _))))))
          · refine ⟨u, Ev.succ ?_, fun ⟨a, h1, h2, h3⟩ => hu9 ⟨a, h1, ?_, h3⟩, fun h => hur fun ⟨a, h1, h2, h3⟩ => h ⟨a, h1, by omega, h3⟩⟩
            · simp only [arboretref01_wrong.l4, rdN, hw2]
              exact Ev.pos (by omega) (Ev.pos (Int.natCast_nonneg q) (Ev.pos (by omega) (Ev.pos (Int.natCast_nonneg i) (Ev.pos (by omega) (Ev.neg c hu)))))
            · rcases Nat.lt_or_ge q a with h4 | h4
              · exact h4
              · obtain rfl : a = q := by omega
                exact absurd h3 c
      obtain ⟨u, hu, hu9, hur⟩ := inner i 0 (by omega)
      refine ⟨u, Ev.succ ?_, ?_, ?_⟩
      · simp only [arboretref01_wrong.l3]
        exact Ev.pos (by omega) hu
      · rintro ⟨a, h1, h2, q, h3, h4⟩
        rcases Nat.lt_or_ge i a with h5 | h5
        · have hr' := hr9 ⟨a, h1, h5, q, h3, h4⟩
          by_cases hh : ∃ a, a < i ∧ 0 ≤ a ∧ (x.f2.getD a z27).f0.toList = (x.f2.getD i z27).f0.toList
          · exact hu9 hh
          · rw [hur hh, hr']
        · obtain rfl : a = i := by omega
          exact hu9 ⟨q, h3, Nat.zero_le _, h4⟩
      · intro h
        rw [hur (fun ⟨a, h1, _, h3⟩ => h ⟨i, by omega, Nat.le_refl _, a, h1, h3⟩)]
        exact hr5 (fun ⟨a, h1, h2, h3⟩ => h ⟨a, h1, by omega, h3⟩)
  obtain ⟨v, hv, h9, h5⟩ := l34 x.f2.length 0 (by omega)
  refine ⟨v, hv, ?_, ?_⟩
  · rintro ⟨a, ha, _, q, hq, e⟩
    have ha' : a < x.f2.length := by simpa using ha
    refine h9 ⟨a, ha', Nat.zero_le _, q, hq, ?_⟩
    rw [List.getElem_map, List.getElem_map] at e
    rw [getD_at (by omega), getD_at ha']
    exact e
  · intro h
    refine h5 ?_
    rintro ⟨a, ha, _, q, hq, e⟩
    rw [getD_at (by omega), getD_at ha] at e
    exact h ⟨a, by simpa using ha, Nat.zero_le _, q, hq, by rw [List.getElem_map, List.getElem_map]; exact e⟩
theorem ref_props_twice (x : S27) (d : Int) (v3 : Int) (hk : x.f1.length ≤ 1048576) (e3 : Ev (fun k => arboretref01_wrong.l3 k d (x.f2.length : Int) 0 x.f0 x.f1 x.f2) v3) :
    ∃ v, Ev (fun k => arboretref01_wrong.l1 k d (x.f1.length : Int) 0 x.f0 x.f1 x.f2) v ∧ (TwiceFrom (x.f1.map fun y => y.f0.toList) 0 → v = 9) ∧ (¬ TwiceFrom (x.f1.map fun y => y.f0.toList) 0 → v = v3) := by
  have l34 : ∀ (j i : Nat), i + j = x.f1.length → ∃ v : Int, Ev (fun k => arboretref01_wrong.l1 k d (x.f1.length : Int) (i : Int) x.f0 x.f1 x.f2) v ∧ ((∃ a, a < x.f1.length ∧ i ≤ a ∧ ∃ q, q < a ∧ (x.f1.getD q z63).f0.toList = (x.f1.getD a z63).f0.toList) → v = 9) ∧ ((¬ ∃ a, a < x.f1.length ∧ i ≤ a ∧ ∃ q, q < a ∧ (x.f1.getD q z63).f0.toList = (x.f1.getD a z63).f0.toList) → v = v3) := by
    intro j
    induction j with
    | zero =>
      intro i hi
      refine ⟨v3, Ev.succ ?_, fun ⟨a, h1, h2, _⟩ => by omega, fun _ => rfl⟩
      simp only [arboretref01_wrong.l1]
      exact Ev.neg (by omega) e3
    | succ j ihj =>
      intro i hi
      obtain ⟨r, hr, hr9, hr5⟩ := ihj (i + 1) (by omega)
      have hw := step64 (i := i) (n := x.f1.length) (by omega) (by omega)
      have inner : ∀ (p q : Nat), q + p = i → ∃ v : Int, Ev (fun k => arboretref01_wrong.l2 k d (i : Int) (x.f1.length : Int) (i : Int) (i : Int) (q : Int) x.f0 x.f1 x.f2) v ∧ ((∃ a, a < i ∧ q ≤ a ∧ (x.f1.getD a z63).f0.toList = (x.f1.getD i z63).f0.toList) → v = 9) ∧ ((¬ ∃ a, a < i ∧ q ≤ a ∧ (x.f1.getD a z63).f0.toList = (x.f1.getD i z63).f0.toList) → v = r) := by
        intro p
        induction p with
        | zero =>
          intro q hq0
          refine ⟨r, Ev.succ ?_, fun ⟨a, h1, h2, _⟩ => by omega, fun _ => rfl⟩
          simp only [arboretref01_wrong.l2, hw]
          exact Ev.neg (by omega) hr
        | succ p ihp =>
          intro q hq0
          have hw2 := step64 (i := q) (n := x.f1.length) (by omega) (by omega)
          obtain ⟨u, hu, hu9, hur⟩ := ihp (q + 1) (by omega)
          by_cases c : (x.f1.getD q z63).f0.toList = (x.f1.getD i z63).f0.toList
          · refine ⟨9, Ev.succ ?_, fun _ => rfl, fun h => absurd ⟨q, by omega, Nat.le_refl _, c⟩ h⟩
            simp only [arboretref01_wrong.l2, rdP]
            exact Ev.pos (by omega) (Ev.pos (Int.natCast_nonneg q) (Ev.pos (by omega) (Ev.pos (Int.natCast_nonneg i) (Ev.pos (by omega) (Ev.pos c (Ev.some _))))))
          · refine ⟨u, Ev.succ ?_, fun ⟨a, h1, h2, h3⟩ => hu9 ⟨a, h1, ?_, h3⟩, fun h => hur fun ⟨a, h1, h2, h3⟩ => h ⟨a, h1, by omega, h3⟩⟩
            · simp only [arboretref01_wrong.l2, rdP, hw2]
              exact Ev.pos (by omega) (Ev.pos (Int.natCast_nonneg q) (Ev.pos (by omega) (Ev.pos (Int.natCast_nonneg i) (Ev.pos (by omega) (Ev.neg c hu)))))
            · rcases Nat.lt_or_ge q a with h4 | h4
              · exact h4
              · obtain rfl : a = q := by omega
                exact absurd h3 c
      obtain ⟨u, hu, hu9, hur⟩ := inner i 0 (by omega)
      refine ⟨u, Ev.succ ?_, ?_, ?_⟩
      · simp only [arboretref01_wrong.l1]
        exact Ev.pos (by omega) hu
      · rintro ⟨a, h1, h2, q, h3, h4⟩
        rcases Nat.lt_or_ge i a with h5 | h5
        · have hr' := hr9 ⟨a, h1, h5, q, h3, h4⟩
          by_cases hh : ∃ a, a < i ∧ 0 ≤ a ∧ (x.f1.getD a z63).f0.toList = (x.f1.getD i z63).f0.toList
          · exact hu9 hh
          · rw [hur hh, hr']
        · obtain rfl : a = i := by omega
          exact hu9 ⟨q, h3, Nat.zero_le _, h4⟩
      · intro h
        rw [hur (fun ⟨a, h1, _, h3⟩ => h ⟨i, by omega, Nat.le_refl _, a, h1, h3⟩)]
        exact hr5 (fun ⟨a, h1, h2, h3⟩ => h ⟨a, h1, by omega, h3⟩)
  obtain ⟨v, hv, h9, h5⟩ := l34 x.f1.length 0 (by omega)
  refine ⟨v, hv, ?_, ?_⟩
  · rintro ⟨a, ha, _, q, hq, e⟩
    have ha' : a < x.f1.length := by simpa using ha
    refine h9 ⟨a, ha', Nat.zero_le _, q, hq, ?_⟩
    rw [List.getElem_map, List.getElem_map] at e
    rw [getD_at (by omega), getD_at ha']
    exact e
  · intro h
    refine h5 ?_
    rintro ⟨a, ha, _, q, hq, e⟩
    rw [getD_at (by omega), getD_at ha] at e
    exact h ⟨a, by simpa using ha, Nat.zero_le _, q, hq, by rw [List.getElem_map, List.getElem_map]; exact e⟩
theorem both_wrong (m : Nat) (hm : m ≤ 1048576) : ∀ (x : S27) (d : Nat), bulk27 x ≤ m → 1 ≤ d → ∃ v : Int, Ev (fun k => tree_check.f k x.f0 x.f1 x.f2 (d : Int)) v ∧ Ev (fun k => arboretref01_wrong.f k x.f0 x.f1 x.f2 (d : Int)) v := by
  induction m with
  | zero => intro x d hx; have := bulk_pos x; omega
  | succ m ih =>
    intro x d hx hd1
    have hk := bulk_kids x
    have hp := bulk_props x
    have hnm := bulk_name x
    have en := names_ev x.f0 x.f1 x.f2 (by omega) (by omega)
    by_cases hd : (d : Int) > 16
    · refine ⟨6, Ev.succ ?_, Ev.succ ?_⟩
      · simp only [tree_check.f, tree_check.node]
        exact Ev.then (a := 6) (Ev.then en (Ev.pos hd (Ev.some _))) (Ev.neg (by decide) (Ev.some _))
      · simp only [arboretref01_wrong.f]
        exact Ev.pos hd (Ev.some _)
    have hdd : wrap64 ((d : Int) + 1) = ((d + 1 : Nat) : Int) := by rw [w64 (by omega) (by omega)]; omega
    have l5 : ∀ (j i : Nat), i + j = x.f2.length → ∃ v : Int, Ev (fun k => tree_check.kids (fun a b c => tree_check.f k a b c (wrap64 ((d : Int) + 1))) (x.f2.drop i)) v ∧ Ev (fun k => arboretref01_wrong.l5 k (d : Int) (x.f2.length : Int) (i : Int) x.f0 x.f1 x.f2) v := by
      intro j
      induction j with
      | zero =>
        intro i hi
        rw [List.drop_of_length_le (by omega)]
        refine ⟨0, Ev.some _, Ev.succ ?_⟩
        simp only [arboretref01_wrong.l5]
        exact Ev.neg (by omega) (Ev.some _)
      | succ j ihj =>
        intro i hi
        have hw := step64 (i := i) (n := x.f2.length) (by omega) (by omega)
        have hmem := getN (xs := x.f2) (i := i) (by omega)
        obtain ⟨v, hv, hv2⟩ := ih (by omega) (x.f2.getD i z27) (d + 1) (by have := bulk_kid hmem; omega) (by omega)
        obtain ⟨r, hr, hr2⟩ := ihj (i + 1) (by omega)
        rw [drop_at (l := x.f2) (d := z27) (i := i) (by omega)]
        rw [← hdd] at hv hv2
        by_cases h0 : v = 0
        · refine ⟨r, ?_, Ev.succ ?_⟩
          · simp only [tree_check.kids]
            exact Ev.then hv (Ev.pos h0 hr)
          · simp only [arboretref01_wrong.l5, rdN, hw]
            exact Ev.pos (by omega) (Ev.pos (Int.natCast_nonneg i) (Ev.pos (by omega) (Ev.then hv2 (Ev.pos h0 hr2))))
        · refine ⟨v, ?_, Ev.succ ?_⟩
          · simp only [tree_check.kids]
            exact Ev.then hv (Ev.neg h0 (Ev.some _))
          · simp only [arboretref01_wrong.l5, rdN, hw]
            exact Ev.pos (by omega) (Ev.pos (Int.natCast_nonneg i) (Ev.pos (by omega) (Ev.then hv2 (Ev.neg h0 (Ev.some _)))))
    obtain ⟨v5, c5, e5⟩ := l5 x.f2.length 0 (by omega)
    rw [List.drop_zero] at c5
    obtain ⟨v3, e3, h39, h35⟩ := ref_kids_twice x (d : Int) v5 (by omega) e5
    obtain ⟨v1, e1, h19, h13⟩ := ref_props_twice x (d : Int) v3 (by omega) e3
    have dk := dup_twice x.f2 (·.f0)
    have dp := dup_twice x.f1 (·.f0)
    -- the reference's first loop, and its head
    have l0 : ∀ (j i : Nat), i + j = x.f1.length → ∃ v : Int, Ev (fun k => arboretref01_wrong.l0 k (d : Int) (x.f1.length : Int) (i : Int) x.f0 x.f1 x.f2) v ∧ ((∀ s ∈ (x.f1.drop i).map (·.f0), propB (bytesOf s) = true) → v = v1) ∧ ((¬ ∀ s ∈ (x.f1.drop i).map (·.f0), propB (bytesOf s) = true) → v = 5) := by
      intro j
      induction j with
      | zero =>
        intro i hi
        rw [List.drop_of_length_le (by omega)]
        refine ⟨v1, Ev.succ ?_, fun _ => rfl, fun h => absurd (by simp) h⟩
        simp only [arboretref01_wrong.l0]
        exact Ev.neg (by omega) e1
      | succ j ihj =>
        intro i hi
        obtain ⟨r, hr, hr1, hr5⟩ := ihj (i + 1) (by omega)
        have hw := step64 (i := i) (n := x.f1.length) (by omega) (by omega)
        have hmem := getP (xs := x.f1) (i := i) (by omega)
        have hb := bulk_prop hmem
        have hv := bulk_value (x.f1.getD i z63)
        have hn := refprop_ev (x.f1.getD i z63).f0 (by omega)
        rw [drop_at (l := x.f1) (d := z63) (i := i) (by omega)]
        simp only [List.map_cons, List.mem_cons, forall_eq_or_imp]
        cases hc : propB (bytesOf (x.f1.getD i z63).f0) with
        | true =>
          rw [hc] at hn
          refine ⟨r, Ev.succ ?_, fun h => hr1 h.2, fun h => hr5 (fun h2 => h ⟨rfl, h2⟩)⟩
          simp only [arboretref01_wrong.l0, rdP, hw]
          exact Ev.pos (by omega) (Ev.pos (Int.natCast_nonneg i) (Ev.pos (by omega) (Ev.then hn (Ev.pos rfl hr))))
        | false =>
          rw [hc] at hn
          refine ⟨5, Ev.succ ?_, fun h => Bool.noConfusion h.1, fun _ => rfl⟩
          simp only [arboretref01_wrong.l0, rdP, hw]
          exact Ev.pos (by omega) (Ev.pos (Int.natCast_nonneg i) (Ev.pos (by omega) (Ev.then hn (Ev.neg (by decide) (Ev.some _)))))
    obtain ⟨v0, e0, h01, h05⟩ := l0 x.f1.length 0 (by omega)
    rw [List.drop_zero] at h01 h05
    obtain ⟨b0, eb, hb⟩ := bad_ev (x.f1.map (·.f0)) (fun s hs => by
      obtain ⟨p, hp1, rfl⟩ := List.mem_map.mp hs
      have h1 := bulk_prop hp1
      have h2 := bulk_value p
      omega) 0
    have tail : ∃ w : Int, Ev (fun k => (badIx k (x.f1.map (·.f0)) 0).bind fun i => if 0 ≤ i then some 5 else if (x.f1.map (·.f0)).length < 4611686018427387904 ∧ (x.f2.map (·.f0)).length < 4611686018427387904 then (if dupB (x.f1.map (·.f0)) = true then some 9 else if dupB (x.f2.map (·.f0)) = true then some 9 else some 0) else none) w ∧ ((w = 0 ∧ v0 = v5) ∨ (w = v0 ∧ v0 ≠ 0)) := by
      by_cases hb0 : 0 ≤ b0
      · have hv0 : v0 = 5 := h05 (hb.mp hb0)
        exact ⟨5, Ev.then eb (Ev.pos hb0 (Ev.some _)), .inr ⟨hv0.symm, by omega⟩⟩
      · have hv0 : v0 = v1 := h01 (Classical.byContradiction fun h => hb0 (hb.mpr h))
        have hlen : (x.f1.map (·.f0)).length < 4611686018427387904 ∧ (x.f2.map (·.f0)).length < 4611686018427387904 := by simp only [List.length_map]; omega
        cases h1 : dupB (x.f1.map (·.f0)) with
        | true =>
          have hv9 : v0 = 9 := by rw [hv0]; exact h19 (dp.mp h1)
          exact ⟨9, Ev.then eb (Ev.neg hb0 (Ev.pos hlen (Ev.pos rfl (Ev.some _)))), .inr ⟨hv9.symm, by omega⟩⟩
        | false =>
          have hv3 : v0 = v3 := by rw [hv0]; exact h13 (fun h => by rw [dp.mpr h] at h1; cases h1)
          cases h2 : dupB (x.f2.map (·.f0)) with
          | true =>
            have hv9 : v0 = 9 := by rw [hv3]; exact h39 (dk.mp h2)
            exact ⟨9, Ev.then eb (Ev.neg hb0 (Ev.pos hlen (Ev.neg (by decide) (Ev.pos rfl (Ev.some _))))), .inr ⟨hv9.symm, by omega⟩⟩
          | false =>
            have hv5 : v0 = v5 := by rw [hv3]; exact h35 (fun h => by rw [dk.mpr h] at h2; cases h2)
            exact ⟨0, Ev.then eb (Ev.neg hb0 (Ev.pos hlen (Ev.neg (by decide) (Ev.neg (by decide) (Ev.some _))))), .inl ⟨rfl, hv5⟩⟩
    obtain ⟨wt, tail, htail⟩ := tail
    have nn := node_ev x.f0 (by omega)
    have rn := refnode_ev x.f0 (by omega)
    -- whatever a node's own answer, the whole one
    have whole : ∀ w : Int, w ≠ 0 → Ev (fun k => tree_check.node k x.f0 x.f1 x.f2 (d : Int)) w → Ev (fun k => tree_check.f k x.f0 x.f1 x.f2 (d : Int)) w := fun w h0 hw => by
      refine Ev.succ ?_
      simp only [tree_check.f]
      exact Ev.then hw (Ev.neg h0 (Ev.some _))
    have whole0 : Ev (fun k => tree_check.node k x.f0 x.f1 x.f2 (d : Int)) 0 → Ev (fun k => tree_check.f k x.f0 x.f1 x.f2 (d : Int)) v5 := fun hw => by
      refine Ev.succ ?_
      simp only [tree_check.f]
      exact Ev.then hw (Ev.pos rfl c5)
    have good : Ev (fun k => tree_check.node k x.f0 x.f1 x.f2 (d : Int)) wt → Ev (fun k => tree_check.f k x.f0 x.f1 x.f2 (d : Int)) v0 := by
      intro hh
      rcases htail with ⟨h1, h2⟩ | ⟨h1, h2⟩
      · rw [h1] at hh
        rw [h2]
        exact whole0 hh
      · rw [h1] at hh
        exact whole v0 h2 hh
    have j0 : Ev (fun k => arboretref01_wrong.j0 k (d : Int) false x.f0 x.f1 x.f2) v0 := by
      refine Ev.succ ?_
      simp only [arboretref01_wrong.j0]
      exact Ev.neg (fun h => Bool.noConfusion h) e0
    have j5 : Ev (fun k => arboretref01_wrong.j0 k (d : Int) true x.f0 x.f1 x.f2) 5 := by
      refine Ev.succ ?_
      simp only [arboretref01_wrong.j0]
      exact Ev.pos trivial (Ev.some _)
    by_cases h1 : (d : Int) = 1
    · by_cases hz : x.f0.toList = ([] : List UInt8)
      · refine ⟨v0, good ?_, Ev.succ ?_⟩
        · unfold tree_check.node
          exact Ev.then en (Ev.neg hd (Ev.neg (by omega) (Ev.then nn (Ev.neg (fun h => h.2 hz) (Ev.neg (by omega) tail)))))
        · simp only [arboretref01_wrong.f]
          exact Ev.neg hd (Ev.pos h1 (Ev.pos hz (Ev.neg (by omega) j0)))
      · refine ⟨5, whole 5 (by decide) ?_, Ev.succ ?_⟩
        · unfold tree_check.node
          exact Ev.then en (Ev.neg hd (Ev.neg (by omega) (Ev.then nn (Ev.pos ⟨h1, hz⟩ (Ev.some _)))))
        · simp only [arboretref01_wrong.f]
          exact Ev.neg hd (Ev.pos h1 (Ev.neg hz j5))
    · cases hb1 : nodeB x.f0 with
      | true =>
        rw [hb1] at nn rn
        refine ⟨v0, good ?_, Ev.succ ?_⟩
        · unfold tree_check.node
          exact Ev.then en (Ev.neg hd (Ev.neg (by omega) (Ev.then nn (Ev.neg (fun h => h1 h.1) (Ev.neg (fun h => Bool.noConfusion h.2) tail)))))
        · simp only [arboretref01_wrong.f]
          exact Ev.neg hd (Ev.neg h1 (Ev.pos (by omega) (Ev.then rn j0)))
      | false =>
        rw [hb1] at nn rn
        refine ⟨5, whole 5 (by decide) ?_, Ev.succ ?_⟩
        · unfold tree_check.node
          exact Ev.then en (Ev.neg hd (Ev.neg (by omega) (Ev.then nn (Ev.neg (fun h => h1 h.1) (Ev.pos ⟨by omega, rfl⟩ (Ev.some _))))))
        · simp only [arboretref01_wrong.f]
          exact Ev.neg hd (Ev.neg h1 (Ev.pos (by omega) (Ev.then rn j5)))
theorem count_both (m : Nat) (hm : m ≤ 1048576) : ∀ x : S27, bulk27 x ≤ m → ∃ v : Int × Int, Ev (fun k => tree_Count.f k x.f0 x.f1 x.f2) v ∧ Ev (fun k => arboretref01_Count.f k x.f0 x.f1 x.f2) v := by
  induction m with
  | zero => intro x hx; have := bulk_pos x; omega
  | succ m ih =>
    intro x hx
    have hk := bulk_kids x
    have kids : ∀ (j i : Nat) (a b : Int), i + j = x.f2.length → ∃ v : Int × Int, Ev (fun k => tree_Count.l0 k a b x.f2 (x.f2.length : Int) (i : Int)) v ∧ Ev (fun k => arboretref01_Count.l0 k a b (x.f2.length : Int) (i : Int) x.f0 x.f1 x.f2) v := by
      intro j
      induction j with
      | zero =>
        intro i a b hi
        refine ⟨(a, b), Ev.succ ?_, Ev.succ ?_⟩
        · simp only [tree_Count.l0]
          exact Ev.neg (by omega) (Ev.some _)
        · simp only [arboretref01_Count.l0]
          exact Ev.neg (by omega) (Ev.some _)
      | succ j ihj =>
        intro i a b hi
        have hw := step64 (i := i) (n := x.f2.length) (by omega) (by omega)
        have hmem := getN (xs := x.f2) (i := i) (by omega)
        obtain ⟨v, hv, hv2⟩ := ih (by omega) (x.f2.getD i z27) (by have := bulk_kid hmem; omega)
        obtain ⟨r, hr, hr2⟩ := ihj (i + 1) (wrap64 (a + v.1)) (wrap64 (b + v.2)) (by omega)
        refine ⟨r, Ev.succ ?_, Ev.succ ?_⟩
        · simp only [tree_Count.l0, rdN, hw]
          exact Ev.pos (by omega) (Ev.pos (Int.natCast_nonneg i) (Ev.pos (by omega) (Ev.then hv hr)))
        · simp only [arboretref01_Count.l0, rdN, hw]
          exact Ev.pos (by omega) (Ev.pos (Int.natCast_nonneg i) (Ev.pos (by omega) (Ev.then hv2 hr2)))
    obtain ⟨v, hv, hv2⟩ := kids x.f2.length 0 1 (x.f1.length : Int) (by omega)
    refine ⟨v, Ev.succ ?_, Ev.succ ?_⟩
    · simp only [tree_Count.f]
      exact hv
    · simp only [arboretref01_Count.f]
      exact hv2
theorem both_check (b : Int) (res : List S82) (x : S27) (hx : bulk27 x ≤ 1048576) (hr : res.length ≤ 1048576) :
    ∃ v : Int, Ev (fun k => tree_Check.f k b res x.f0 x.f1 x.f2) v ∧ Ev (fun k => arboretref01_Check.f k b res x.f0 x.f1 x.f2) v := by
  obtain ⟨v, hv, hv2⟩ := both_wrong 1048576 (by omega) x 1 hx (by omega)
  obtain ⟨c, hc, hc2⟩ := count_both 1048576 (by omega) x hx
  have l0 : ∀ (j i : Nat), i + j = res.length → ∃ v : Int, Ev (fun k => api_Reserve_91.l0 k res (res.length : Int) (i : Int) 0 0) v ∧ Ev (fun k => arboretref01_Check.l0 k (res.length : Int) (i : Int) b res x.f0 x.f1 x.f2) (if v ≥ 0 then 7 else 0) := by
    intro j
    induction j with
    | zero =>
      intro i hi
      refine ⟨-1, Ev.succ ?_, Ev.succ ?_⟩
      · simp only [api_Reserve_91.l0]
        exact Ev.neg (by omega) (Ev.some _)
      · simp only [arboretref01_Check.l0]
        exact Ev.neg (by omega) (Ev.some _)
    | succ j ihj =>
      intro i hi
      have hw := step64 (i := i) (n := res.length) (by omega) hr
      obtain ⟨r, hq, hq2⟩ := ihj (i + 1) (by omega)
      by_cases h0 : (rd_T82 res (i : Int)).f0 = 0
      · by_cases h1 : (rd_T82 res (i : Int)).f1 = 0
        · refine ⟨(i : Int), Ev.succ ?_, Ev.succ ?_⟩
          · simp only [api_Reserve_91.l0, hw]
            exact Ev.pos (by omega) (Ev.pos (Int.natCast_nonneg i) (Ev.pos (by omega) (Ev.pos (by rw [h0, h1]; rfl) (Ev.some _))))
          · simp only [arboretref01_Check.l0, hw]
            rw [if_pos (Int.natCast_nonneg i)]
            exact Ev.pos (by omega) (Ev.pos (Int.natCast_nonneg i) (Ev.pos (by omega) (Ev.pos h0 (Ev.pos h1 (Ev.some _)))))
        · refine ⟨r, Ev.succ ?_, Ev.succ ?_⟩
          · simp only [api_Reserve_91.l0, hw]
            exact Ev.pos (by omega) (Ev.pos (Int.natCast_nonneg i) (Ev.pos (by omega) (Ev.neg (by simp only [Bool.and_eq_true, beq_iff_eq]; exact fun h => h1 h.2.symm) hq)))
          · simp only [arboretref01_Check.l0, hw]
            exact Ev.pos (by omega) (Ev.pos (Int.natCast_nonneg i) (Ev.pos (by omega) (Ev.pos h0 (Ev.neg h1 hq2))))
      · refine ⟨r, Ev.succ ?_, Ev.succ ?_⟩
        · simp only [api_Reserve_91.l0, hw]
          exact Ev.pos (by omega) (Ev.pos (Int.natCast_nonneg i) (Ev.pos (by omega) (Ev.neg (by simp only [Bool.and_eq_true, beq_iff_eq]; exact fun h => h0 h.1.symm) hq)))
        · simp only [arboretref01_Check.l0, hw]
          exact Ev.pos (by omega) (Ev.pos (Int.natCast_nonneg i) (Ev.pos (by omega) (Ev.neg h0 hq2)))
  obtain ⟨w, hw, hw2⟩ := l0 res.length 0 (by omega)
  have j7 : Ev (fun k => arboretref01_Check.j0 k true b res x.f0 x.f1 x.f2) 7 := by
    refine Ev.succ ?_
    simp only [arboretref01_Check.j0]
    exact Ev.pos trivial (Ev.some _)
  by_cases h0 : v = 0
  · by_cases h1 : c.1 > 4096
    · refine ⟨7, ?_, ?_⟩
      · unfold tree_Check.f
        exact Ev.then hv (Ev.pos h0 (Ev.then hc (Ev.pos h1 (Ev.some _))))
      · unfold arboretref01_Check.f
        exact Ev.then hv2 (Ev.pos h0 (Ev.then hc2 (Ev.pos h1 j7)))
    by_cases h2 : c.2 > 8192
    · refine ⟨7, ?_, ?_⟩
      · unfold tree_Check.f
        exact Ev.then hv (Ev.pos h0 (Ev.then hc (Ev.neg h1 (Ev.pos h2 (Ev.some _)))))
      · unfold arboretref01_Check.f
        exact Ev.then hv2 (Ev.pos h0 (Ev.then hc2 (Ev.neg h1 (Ev.pos h2 j7))))
    by_cases h3 : (res.length : Int) > 64
    · refine ⟨7, ?_, ?_⟩
      · unfold tree_Check.f
        exact Ev.then hv (Ev.pos h0 (Ev.then hc (Ev.neg h1 (Ev.neg h2 (Ev.pos h3 (Ev.some _))))))
      · unfold arboretref01_Check.f
        rw [show decide ((res.length : Int) > 64) = true from decide_eq_true h3]
        exact Ev.then hv2 (Ev.pos h0 (Ev.then hc2 (Ev.neg h1 (Ev.neg h2 j7))))
    · refine ⟨if w ≥ 0 then 7 else 0, ?_, ?_⟩
      · unfold tree_Check.f
        refine Ev.then hv (Ev.pos h0 (Ev.then hc (Ev.neg h1 (Ev.neg h2 (Ev.neg h3 ?_)))))
        refine Ev.then (a := decide (w ≥ 0)) ?_ ?_
        · unfold api_Reserve_73.f api_Reserve_91.f
          exact Ev.then hw (Ev.some _)
        · by_cases h4 : w ≥ 0
          · rw [if_pos h4]
            exact Ev.pos (decide_eq_true h4) (Ev.some _)
          · rw [if_neg h4]
            exact Ev.neg (by simpa using h4) (Ev.some _)
      · unfold arboretref01_Check.f
        rw [show decide ((res.length : Int) > 64) = false from decide_eq_false h3]
        refine Ev.then hv2 (Ev.pos h0 (Ev.then hc2 (Ev.neg h1 (Ev.neg h2 (Ev.succ ?_)))))
        simp only [arboretref01_Check.j0]
        exact Ev.neg (fun h => Bool.noConfusion h) hw2
  · refine ⟨v, ?_, ?_⟩
    · unfold tree_Check.f
      exact Ev.then hv (Ev.neg h0 (Ev.some _))
    · unfold arboretref01_Check.f
      exact Ev.then hv2 (Ev.neg h0 (Ev.some _))
end Go.Proofs.Ytkopmkinlanhoaa.PE

namespace Go.Proofs.Ytkopmkinlanhoaa.PE
end Go.Proofs.Ytkopmkinlanhoaa.PE

namespace Go.Proofs.Ytkopmkinlanhoaa.PE
open Go.RowKit Go.Proofs.YtkopmkinlanhoaaW.PrintWords Go.Proofs.YtkopmkinlanhoaaW.PrintLast Go.Proofs.YtkopmkinlanhoaaW.PrintMore
attribute [local go_sem] max2_int min2_int max_two min_two max_three min_three max_four min_four
set_option linter.unusedVariables false
set_option linter.unusedSimpArgs false
open Go.Proofs.Ytkopmkinlanhoaa.Aid Go.Proofs.Ytkopmkinlanhoaa.Rdr
theorem padW_le (l : List Int) : (padW l).length ≤ 3 := by
  have := padW_length l
  omega
end Go.Proofs.Ytkopmkinlanhoaa.PE

namespace Go.Proofs.Ytkopmkinlanhoaa.PE
open Go.RowKit Go.Proofs.YtkopmkinlanhoaaW.PrintWords Go.Proofs.YtkopmkinlanhoaaW.PrintLast Go.Proofs.YtkopmkinlanhoaaW.PrintMore
attribute [local go_sem] max2_int min2_int max_two min_two max_three min_three max_four min_four
set_option linter.unusedVariables false
set_option linter.unusedSimpArgs false
open Go.Proofs.Ytkopmkinlanhoaa.Aid Go.Proofs.Ytkopmkinlanhoaa.Rdr
def resOk (r : S82) : Prop := 0 ≤ r.f0 ∧ r.f0 < 18446744073709551616 ∧ 0 ≤ r.f1 ∧ r.f1 < 18446744073709551616
end Go.Proofs.Ytkopmkinlanhoaa.PE

namespace Go.Proofs.Ytkopmkinlanhoaa.PE
end Go.Proofs.Ytkopmkinlanhoaa.PE

namespace Go.Proofs.Ytkopmkinlanhoaa.PE
end Go.Proofs.Ytkopmkinlanhoaa.PE

namespace Go.Proofs.Ytkopmkinlanhoaa.PE
end Go.Proofs.Ytkopmkinlanhoaa.PE

namespace Go.Proofs.Ytkopmkinlanhoaa.PE
end Go.Proofs.Ytkopmkinlanhoaa.PE

namespace Go.Proofs.Ytkopmkinlanhoaa.PE
end Go.Proofs.Ytkopmkinlanhoaa.PE

namespace Go.Proofs.Ytkopmkinlanhoaa.PE
open Go.RowKit Go.Proofs.YtkopmkinlanhoaaW.PrintWords Go.Proofs.YtkopmkinlanhoaaW.PrintLast Go.Proofs.YtkopmkinlanhoaaW.PrintMore
attribute [local go_sem] max2_int min2_int max_two min_two max_three min_three max_four min_four
set_option linter.unusedVariables false
set_option linter.unusedSimpArgs false
open Go.Proofs.Ytkopmkinlanhoaa.Aid Go.Proofs.Ytkopmkinlanhoaa.Rdr
structure TreeC (W : World) (t : S29) (A1 : Option Addr) (c1 : Nat) (A3 : Option Addr) (c3 : Nat) (A4 : Option Addr) (c4 : Nat) : Prop where
  r1 : Kd.C k82 W A1 t.f1.length t.f1
  l1 : t.f1.length ≤ c1
  r3 : Kd.C k63 W A3 t.f2.f1.length t.f2.f1
  l3 : t.f2.f1.length ≤ c3
  r4 : Kd.C k27 W A4 t.f2.f2.length t.f2.f2
  l4 : t.f2.f2.length ≤ c4
theorem TreeC.below {W W' : World} {t : S29} {A1 A3 A4 : Option Addr} {c1 c3 c4 : Nat} (h : TreeC W t A1 c1 A3 c3 A4 c4) (hb : Below W.heap.size W W') : TreeC W' t A1 c1 A3 c3 A4 c4 := ⟨Kd.C_below h.r1 hb, h.l1, Kd.C_below h.r3 hb, h.l3, Kd.C_below h.r4 hb, h.l4⟩
abbrev treeV (t : S29) (A1 : Option Addr) (c1 : Nat) (A3 : Option Addr) (c3 : Nat) (A4 : Option Addr) (c4 : Nat) : Value := .agg #[.int .u32 t.f0, .slice A1 t.f1.length c1, .string t.f2.f0, .slice A3 t.f2.f1.length c3, .slice A4 t.f2.f2.length c4]
end Go.Proofs.Ytkopmkinlanhoaa.PE

namespace Go.Proofs.Ytkopmkinlanhoaa.PE
open Go.RowKit Go.Proofs.YtkopmkinlanhoaaW.PrintWords Go.Proofs.YtkopmkinlanhoaaW.PrintLast Go.Proofs.YtkopmkinlanhoaaW.PrintMore
attribute [local go_sem] max2_int min2_int max_two min_two max_three min_three max_four min_four
set_option linter.unusedVariables false
set_option linter.unusedSimpArgs false
open Go.Proofs.Ytkopmkinlanhoaa.Aid Go.Proofs.Ytkopmkinlanhoaa.Rdr
theorem bytes_eight (v : Int) (h0 : 0 ≤ v) (h1 : v < 18446744073709551616) : arboretref01_Bytes.f 9 v 8 = some (cell8 v) := by
  have d : ∀ x : Int, 0 ≤ x → x < 18446744073709551616 → IntKind.u64.wrap (x.tdiv 256) = x / 256 := fun x h h' => by
    rw [Int.tdiv_eq_ediv_of_nonneg h, u64_small (by omega) (by omega)]
  have m : ∀ x : Int, 0 ≤ x → x.tmod 256 % 256 = x % 256 := fun x h => by
    rw [Int.tmod_eq_emod_of_nonneg h]; omega
  have w7 : wrap64 (8 - 1) = 7 := by unfold wrap64; omega
  have w6 : wrap64 (7 - 1) = 6 := by unfold wrap64; omega
  have w5 : wrap64 (6 - 1) = 5 := by unfold wrap64; omega
  have w4 : wrap64 (5 - 1) = 4 := by unfold wrap64; omega
  have w3 : wrap64 (4 - 1) = 3 := by unfold wrap64; omega
  have w2 : wrap64 (3 - 1) = 2 := by unfold wrap64; omega
  have w1 : wrap64 (2 - 1) = 1 := by unfold wrap64; omega
  have w0 : wrap64 (1 - 1) = 0 := by unfold wrap64; omega
  have wm : wrap64 (0 - 1) = -1 := by unfold wrap64; omega
  obtain ⟨v1, e1⟩ : ∃ v1, v1 = v / 256 := ⟨_, rfl⟩
  obtain ⟨v2, e2⟩ : ∃ v2, v2 = v1 / 256 := ⟨_, rfl⟩
  obtain ⟨v3, e3⟩ : ∃ v3, v3 = v2 / 256 := ⟨_, rfl⟩
  obtain ⟨v4, e4⟩ : ∃ v4, v4 = v3 / 256 := ⟨_, rfl⟩
  obtain ⟨v5, e5⟩ : ∃ v5, v5 = v4 / 256 := ⟨_, rfl⟩
  obtain ⟨v6, e6⟩ : ∃ v6, v6 = v5 / 256 := ⟨_, rfl⟩
  obtain ⟨v7, e7⟩ : ∃ v7, v7 = v6 / 256 := ⟨_, rfl⟩
  have f : cell8 v = [v7 % 256, v6 % 256, v5 % 256, v4 % 256, v3 % 256, v2 % 256, v1 % 256, v % 256] := by
    show [v / 4294967296 / 16777216 % 256, v / 4294967296 / 65536 % 256, v / 4294967296 / 256 % 256, v / 4294967296 % 256, v / 16777216 % 256, v / 65536 % 256, v / 256 % 256, v % 256] = _
    have g1 : v / 65536 = v2 := by omega
    have g2 : v / 16777216 = v3 := by omega
    have g3 : v / 4294967296 = v4 := by omega
    rw [g3]
    have g4 : v4 / 65536 = v6 := by omega
    have g5 : v4 / 16777216 = v7 := by omega
    rw [g1, g2, g4, g5, ← e5, ← e1]
  unfold arboretref01_Bytes.f
  rw [if_pos (by decide), if_pos (by decide), w7]
  have l8 : (List.replicate (8 : Int).toNat (0 : Int)) = [0, 0, 0, 0, 0, 0, 0, 0] := rfl
  rw [l8]
  simp only [arboretref01_Bytes.l0]
  rw [if_pos (by decide), if_pos (by decide), if_pos (by decide), w6, d v h0 h1, m v h0, ← e1]
  rw [if_pos (by decide), if_pos (by decide), if_pos (by simp), w5, d _ (by omega) (by omega), m _ (by omega), ← e2]
  rw [if_pos (by decide), if_pos (by decide), if_pos (by simp), w4, d _ (by omega) (by omega), m _ (by omega), ← e3]
  rw [if_pos (by decide), if_pos (by decide), if_pos (by simp), w3, d _ (by omega) (by omega), m _ (by omega), ← e4]
  rw [if_pos (by decide), if_pos (by decide), if_pos (by simp), w2, d _ (by omega) (by omega), m _ (by omega), ← e5]
  rw [if_pos (by decide), if_pos (by decide), if_pos (by simp), w1, d _ (by omega) (by omega), m _ (by omega), ← e6]
  rw [if_pos (by decide), if_pos (by decide), if_pos (by simp), w0, d _ (by omega) (by omega), m _ (by omega), ← e7]
  rw [if_pos (by decide), if_pos (by decide), if_pos (by simp), wm, m _ (by omega)]
  rw [if_neg (by decide), f]
  rfl
theorem resB_app (a b : List S82) : resB (a ++ b) = resB a ++ resB b := by unfold resB; rw [List.map_append, List.flatten_append]
def txB (l : List ByteArray) : List Int := l.foldl (fun o x => o ++ (bytesOf x ++ [0])) []
theorem txB_from : ∀ (l : List ByteArray) (o : List Int), (l.foldl (fun o x => o ++ (bytesOf x ++ [0])) o).length = o.length + sizes l
  | [], o => by simp [sizes]
  | x :: r, o => by
    rw [List.foldl_cons, txB_from r]
    simp only [List.length_append, bytesOf_length, List.length_cons, List.length_nil, sizes]
    omega
theorem txB_len (l : List ByteArray) : (txB l).length = sizes l := by
  unfold txB
  rw [txB_from]
  simp
theorem sizes_take : ∀ (l : List ByteArray) (i : Nat), sizes (l.take i) ≤ sizes l
  | [], i => by simp [sizes]
  | x :: r, 0 => by simp [sizes]
  | x :: r, i + 1 => by
    have := sizes_take r i
    simp only [List.take_succ_cons, sizes]
    omega
def hdB (vs : List Int) : List Int := vs.foldl (fun o v => o ++ cellB v) []
theorem hdB_from : ∀ (vs : List Int) (o : List Int), (vs.foldl (fun o v => o ++ cellB v) o).length = o.length + 4 * vs.length
  | [], o => by simp
  | v :: r, o => by
    rw [List.foldl_cons, hdB_from r]
    simp only [List.length_append, cellB_length, List.length_cons]
    omega
def hdV (boot : Int) (r s x : Nat) : List Int := [3490578157, ((40 + r + s + x : Nat) : Int), ((40 + r : Nat) : Int), ((40 + r + s : Nat) : Int), 40, 17, 16, boot, (x : Int), (s : Int)]
def blobB (t : S29) : List Int :=
  hdB (hdV t.f0 ((resB t.f1).length + 16) ((ndB (txN t.f2 []) t.f2).length + 4) (txB (txN t.f2 [])).length) ++ (resB t.f1 ++ List.replicate 16 0) ++ (ndB (txN t.f2 []) t.f2 ++ [0, 0, 0, 9]) ++ txB (txN t.f2 [])
theorem hd_sums (r s x : Nat) (h1 : r ≤ 20000000) (h2 : s ≤ 1073741828) (h3 : x ≤ 1073741824) : wrap64 (40 + (r : Int)) = ((40 + r : Nat) : Int) ∧ wrap64 ((40 + r : Nat) : Int) = ((40 + r : Nat) : Int) ∧ wrap64 (((40 + r : Nat) : Int) + (s : Int)) = ((40 + r + s : Nat) : Int) ∧ wrap64 ((40 + r + s : Nat) : Int) = ((40 + r + s : Nat) : Int) ∧ wrap64 (((40 + r + s : Nat) : Int) + (x : Int)) = ((40 + r + s + x : Nat) : Int) := by
  refine ⟨?_, ?_, ?_, ?_, ?_⟩ <;> (rw [w64 (by omega) (by omega)]; try omega)
theorem hd_range (boot : Int) (r s x : Nat) (h0 : 0 ≤ boot ∧ boot < 4294967296) (h1 : r ≤ 20000000) (h2 : s ≤ 1073741828) (h3 : x ≤ 1073741824) : ∀ v ∈ hdV boot r s x, 0 ≤ v ∧ v < 4294967296 := by
  intro v hv
  simp only [hdV, List.mem_cons, List.not_mem_nil, or_false] at hv
  rcases hv with rfl | rfl | rfl | rfl | rfl | rfl | rfl | rfl | rfl | rfl <;> first | exact h0 | omega
theorem next_ix (i n : Nat) (h : i < n) (hn : n ≤ 1073741824) : wrap64 ((i : Int) + 1) = ((i + 1 : Nat) : Int) := by rw [w64 (by omega) (by omega)]; omega
theorem len_small (r s x : Nat) (h1 : r ≤ 20000000) (h2 : s ≤ 1073741828) (h3 : x ≤ 1073741824) : (0 + r + s + x + 100) * 1 ≤ 140737488355328 := by omega
theorem getD_mem (l : List Int) (i : Nat) (h : i < l.length) : l.getD i 0 ∈ l := by
  rw [List.getD_eq_getElem?_getD, List.getElem?_eq_getElem h]
  exact List.getElem_mem h
theorem i64_cell {w : World} {A : Option Addr} {xs : List Int} (h : Kd.C (Kd.int .i64) w A xs.length xs) (i : Nat) (hi : i < xs.length) : ∃ ad, A = some ad ∧ w.cell? (ad.add i) = some (.int .i64 (xs.getD i 0)) := by
  have hR : ReadsInt w .i64 A xs.length xs := Kd.reads_of_C (enc := Value.int .i64) (d := (0 : Int)) (h1 := fun _ => rfl) h
  obtain ⟨ad, e, hc⟩ := hR.2.2 (by omega)
  exact ⟨ad, e, hc i hi⟩
end Go.Proofs.Ytkopmkinlanhoaa.PE

namespace Go.Proofs.Ytkopmkinlanhoaa.PE
open Go.RowKit Go.Proofs.YtkopmkinlanhoaaW.PrintWords Go.Proofs.YtkopmkinlanhoaaW.PrintLast Go.Proofs.YtkopmkinlanhoaaW.PrintMore
attribute [local go_sem] max2_int min2_int max_two min_two max_three min_three max_four min_four
set_option linter.unusedVariables false
set_option linter.unusedSimpArgs false
open Go.Proofs.Ytkopmkinlanhoaa.Aid Go.Proofs.Ytkopmkinlanhoaa.Rdr
attribute [local irreducible] Go.Calls in
set_option maxRecDepth 100000 in
set_option maxHeartbeats 8000000 in
theorem blob.calls (t : S29) (A1 : Option Addr) (c1 : Nat) (A3 : Option Addr) (c3 : Nat) (A4 : Option Addr) (c4 : Nat) (W : World) (hT : TreeC W t A1 c1 A3 c3 A4 c4) (ha : 0 ≤ t.f0 ∧ t.f0 < 4294967296) (hres : ∀ r ∈ t.f1, resOk r) (hx : bulk27 t.f2 ≤ 1048576) (hl : t.f1.length ≤ 1048576)
    (hsz : sizes (txN t.f2 []) ≤ 1073741824) (hnb : (ndB (txN t.f2 []) t.f2).length ≤ 1073741824) :
    Calls Try.prog 21 #[treeV t A1 c1 A3 c3 A4 c4, .int .i64 0, .int .i64 0] W fun e w' => ∃ v', e = .returned v' ∧ Kd.R (Kd.int .u8) 5 w' W.heap.size (fun _ => True) v' (blobB t) ∧ Below W.heap.size W w' := by
  have hu29 := Try.underlying29
  have hu27 := Try.underlying27
  have HT0 := Aside0.mk hT
  have hb0 : Below W.heap.size W (W.alloc (.cells #[.int .u32 t.f0, .slice A1 t.f1.length c1, .string t.f2.f0, .slice A3 t.f2.f1.length c3, .slice A4 t.f2.f2.length c4] 29)) := below_alloc (Below.refl _ _) _
  have BX : Aside0 ((W.alloc (.cells #[.int .u32 t.f0, .slice A1 t.f1.length c1, .string t.f2.f0, .slice A3 t.f2.f1.length c3, .slice A4 t.f2.f2.length c4] 29)).heap[W.heap.size]? = some (Obj.cells #[.int .u32 t.f0, .slice A1 t.f1.length c1, .string t.f2.f0, .slice A3 t.f2.f1.length c3, .slice A4 t.f2.f2.length c4] 29 (0, 0))) := ⟨blk_new _ _⟩
  have hll : (txN t.f2 []).length ≤ 1099511627776 := by have := sizes_len (txN t.f2 []); omega
  have HQT := Aside0.mk (texts.calls W 1048576 (by omega) t.f2 A3 c3 A4 c4 [] (.slice none 0 0) _ hx hT.r3 hT.r4 hb0 (Kd.R_nil _ _ _ _ _) hll)
  obtain ⟨fin, hfin⟩ : ∃ fin, fin = blobB t := ⟨_, rfl⟩
  rw [← hfin]
  unfold blobB at hfin
  obtain ⟨l, hlt⟩ : ∃ l, l = txN t.f2 [] := ⟨_, rfl⟩
  rw [← hlt] at hfin hsz hnb hll
  have HLT := Aside0.mk hlt
  obtain ⟨nb, hnbe⟩ : ∃ nb, nb = ndB l t.f2 := ⟨_, rfl⟩
  rw [← hnbe] at hfin hnb
  have HQN := Aside0.mk (fun (A : Option Addr) (c : Nat) (w : World) (hb : Below W.heap.size W w) (hC : Kd.C Kd.string w A l.length l) (hc : l.length ≤ c) => ndB.calls 1048576 (by omega) t.f2 A3 c3 A4 c4 l A c w hx (Kd.C_below hT.r3 hb) (Kd.C_below hT.r4 hb) hC hc hsz (by rw [← hnbe]; omega))
  rw [← hnbe] at HQN
  obtain ⟨sb, hsb⟩ : ∃ sb, sb = nb ++ [0, 0, 0, 9] := ⟨_, rfl⟩
  have hsbl : sb.length = nb.length + 4 := by rw [hsb, List.length_append]; rfl
  rw [← hsb, ← hsbl] at hfin
  have HSB := Aside0.mk hsb
  obtain ⟨rb, hrb⟩ : ∃ rb, rb = resB t.f1 ++ List.replicate 16 0 := ⟨_, rfl⟩
  have hrbl : rb.length = (resB t.f1).length + 16 := by rw [hrb, List.length_append, List.length_replicate]
  rw [← hrb, ← hrbl] at hfin
  have HRB := Aside0.mk hrb
  have HRL : Aside0 (rb.length ≤ 20000000 ∧ sb.length ≤ 1073741828) := ⟨by rw [hrbl, hsbl, resB_length]; omega⟩
  have HLR : Aside0 (((resB t.f1).length + (16 : Int).toNat) * 1 ≤ 140737488355328) := ⟨by rw [resB_length]; have : (16 : Int).toNat = 16 := rfl; omega⟩
  obtain ⟨xb, hxb⟩ : ∃ xb, xb = txB l := ⟨_, rfl⟩
  rw [← hxb] at hfin
  have HXB0 := Aside0.mk hxb
  have hxl : xb.length ≤ 1073741824 := by rw [hxb, txB_len]; exact hsz
  have HLE0 := Aside0.mk (len_small rb.length sb.length xb.length HRL.out.1 HRL.out.2 hxl)
  have eb := w64 (x := t.f0) (Int.le_trans (by decide) ha.1) (Int.le_trans (Int.le_of_lt ha.2) (by decide))
  have HEB := Aside0.mk eb
  clear eb
  obtain ⟨e1, f1, e2, f2, e3⟩ := hd_sums rb.length sb.length xb.length HRL.out.1 HRL.out.2 hxl
  have HPR0 := hd_range t.f0 rb.length sb.length xb.length ha HRL.out.1 HRL.out.2 hxl
  have hhv : hdV t.f0 rb.length sb.length xb.length = [3490578157, ((40 + rb.length + sb.length + xb.length : Nat) : Int), ((40 + rb.length : Nat) : Int), ((40 + rb.length + sb.length : Nat) : Int), 40, 17, 16, t.f0, (xb.length : Int), (sb.length : Int)] := rfl
  rw [hhv] at hfin HPR0
  clear hhv
  obtain ⟨p1, hp1⟩ : ∃ p1 : Int, p1 = ((40 + rb.length : Nat) : Int) := ⟨_, rfl⟩
  obtain ⟨p2, hp2⟩ : ∃ p2 : Int, p2 = ((40 + rb.length + sb.length : Nat) : Int) := ⟨_, rfl⟩
  obtain ⟨p3, hp3⟩ : ∃ p3 : Int, p3 = ((40 + rb.length + sb.length + xb.length : Nat) : Int) := ⟨_, rfl⟩
  rw [← hp1, ← hp2, ← hp3] at hfin HPR0
  rw [← hp1] at e1 f1 e2
  rw [← hp2] at e2 f2 e3
  rw [← hp3] at e3
  have HE1 := Aside0.mk e1
  have HF1 := Aside0.mk f1
  have HE2 := Aside0.mk e2
  have HF2 := Aside0.mk f2
  have HE3 := Aside0.mk e3
  have e0 : Go.RowKit.wrap64 40 = 40 := w64 (by decide) (by decide)
  have HE0 := Aside0.mk e0
  have HPR := Aside0.mk HPR0
  clear HPR0 hp1 hp2 hp3 e0 e1 e2 e3 f1 f2 hxb hxl
  have HFIN := Aside0.mk hfin
  have HSZ := Aside0.mk hsz
  have HRES := Aside0.mk hres
  have HA := Aside0.mk ha
  have HX := Aside0.mk hx
  have HLL := Aside0.mk hl
  have HNB := Aside0.mk hnb
  have HLA : Aside0 ((nb.length + 4) * 1 ≤ 140737488355328) := ⟨by omega⟩
  clear hT hb0 hres hx hl hsz hnb hfin hlt hnbe ha hll hsb hsbl hrb hrbl
  go_enter Try.func21, Try.ntmps21
  go_wp2_with (first | (go_at_call 39; refine HQT.out.mono ?_; rintro e w22 ⟨v22, rfl, hs⟩; obtain ⟨Al, cl, rfl, hcl, hCl⟩ := Kd.R_reads hs.row; rw [← HLT.out] at hcl hCl ⊢; have HB22 := Aside0.mk hs.bel; have BX22 := Aside0.mk (hs.box BX.out (by simp [Value.ownBlock])); have HL22 := Aside0.mk (And.intro hCl hcl); have z0 := (blk_cell BX22.out 0).trans rfl; have z1 := (blk_cell BX22.out 1).trans rfl; have z2 := (blk_cell BX22.out 2).trans rfl; have z3 := (blk_cell BX22.out 3).trans rfl; have z4 := (blk_cell BX22.out 4).trans rfl; clear hs hcl hCl) | (go_at_call 40; refine (HQN.out Al cl w22 HB22.out HL22.out.1 HL22.out.2).mono ?_; rintro e w27 ⟨v27, rfl, hr, hb⟩; have HR27 := Aside0.mk hr; have HB27 := Aside0.mk hb; have BX27 := Aside0.mk (blk_below BX22.out hb); have HL27 := Aside0.mk (And.intro (Kd.C_below HL22.out.1 hb) HL22.out.2); have HW27 := Aside0.mk (below_step HB22.out hb); clear hr hb))
  go_loopg [8, 29] 1 (fun kq v8 v29 w' => v8 = v27 ∧ v29 = .int .i64 0 ∧ w' = w27)
  case atStart => exact ⟨rfl, rfl, rfl⟩
  case round =>
    obtain ⟨rfl, rfl, rfl⟩ := hrel
    go_wp2_with (first | ((with_reducible refine gate_builtin (b := .append) (xs := #[.tmp 35, .tmp 36]) rfl ?_); at_builtin; refine Kd.R_append_rows (Kd.int .u8) (w0 := w22) w22.heap.size rfl (.tmp 35) (.tmp 36) 45 5 (.int .u8 0) 1 rfl Try.underlying45 info5 rfl (by decide) (by omega) _ nb [0, 0, 0, 9] _ _ _ (fun _ => True) (fun _ => False) rfl rfl ?aO ?aR (fun _ _ h => h) (fun _ h => h.elim) (fun _ _ => trivial) ?aB ?aS ?aL ?_; (case aO => exact (Kd.R_alloc HR27.out _)); (case aR => exact (lit_C wr [0, 0, 0, 9] (by decide))); (case aB => exact (below_alloc HB27.out _)); (case aS => exact ((below_alloc HB27.out _)).size); (case aL => exact HLA.out); intro v37 w37 ho ho2 hg hat; rw [← HSB.out] at ho; have BX37 := Aside0.mk (blk_below BX22.out ho2); have HT37 := Aside0.mk (below_step HB22.out ho2); obtain ⟨As, cs, rfl, hcs, hCs⟩ := Kd.R_reads ho; have HS37 := Aside0.mk (And.intro hCs hcs); have HL37 := Aside0.mk (Kd.C_below HL22.out.1 ho2); have q1 := (blk_cell BX37.out 1).trans rfl; clear ho ho2 hg hat hcs hCs))
    go_loopg [9, 41] (t.f1.length + 1) (fun kq v9 v41 w' => ∃ (i : Nat), v41 = .int .i64 (i : Int) ∧ Aside0 (i + kq = t.f1.length + 1) ∧ Aside0 (Kd.R (Kd.int .u8) 5 w' w37.heap.size (fun _ => True) v9 (resB (t.f1.take i))) ∧ Aside0 (Below w37.heap.size w37 w'))
    case atStart => exact ⟨0, rfl, ⟨by omega⟩, ⟨by rw [List.take_zero]; exact Kd.R_nil _ _ _ _ _⟩, ⟨Below.refl _ _⟩⟩
    case round =>
      clear q1
      obtain ⟨i, rfl, HI, HRr, HBr⟩ := hrel
      have BXr := Aside0.mk (blk_below BX37.out HBr.out)
      have HTr := Aside0.mk (below_step HT37.out HBr.out)
      have q1 := (blk_cell BXr.out 1).trans rfl
      by_cases ci : (i : Int) < (t.f1.length : Int)
      · have cib : decide ((i : Int) < (t.f1.length : Int)) = true := decide_eq_true ci
        have cil : i < t.f1.length := by omega
        cases gk with
        | zero => have := HI.out; omega
        | succ k1 =>
          obtain ⟨ad, e405, hx0, hx1⟩ := at_T82 HT0.out.r1 (i : Int) (Int.natCast_nonneg i) ci
          cases e405
          have hrd : rd_T82 t.f1 (i : Int) = t.f1.getD i z82 := by simp [rd_T82]
          rw [hrd] at hx0 hx1
          rw [Int.toNat_natCast] at hx0 hx1
          have hnx : resB (t.f1.take (i + 1)) = resB (t.f1.take i) ++ cell8 (t.f1.getD i z82).f0 ++ cell8 (t.f1.getD i z82).f1 := by
            rw [take_next t.f1 z82 i cil, resB_app, List.append_assoc]
            rfl
          have hok : resOk (t.f1.getD i z82) := HRES.out _ (by rw [getD_at cil]; exact List.getElem_mem cil)
          generalize t.f1.getD i z82 = x at hx0 hx1 hnx hok
          have hol : (resB (t.f1.take i)).length ≤ 16 * 1048576 := by
            rw [resB_length, List.length_take]
            have := HLL.out
            omega
          generalize resB (t.f1.take i) = o at HRr hnx hol
          obtain ⟨y0, hy0⟩ : ∃ y0, y0 = cell8 x.f0 := ⟨_, rfl⟩
          obtain ⟨y1, hy1⟩ : ∃ y1, y1 = cell8 x.f1 := ⟨_, rfl⟩
          have HY0 := Aside0.mk (bytes_eight x.f0 hok.1 hok.2.1)
          have HY1 := Aside0.mk (bytes_eight x.f1 hok.2.2.1 hok.2.2.2)
          have hl0 : y0.length = 8 := by rw [hy0]; rfl
          have hl1 : y1.length = 8 := by rw [hy1]; rfl
          rw [← hy0] at HY0 hnx
          rw [← hy1] at HY1 hnx
          have HL1 : Aside0 ((o.length + y0.length) * 1 ≤ 140737488355328) := ⟨by omega⟩
          have HL2 : Aside0 (((o ++ y0).length + y1.length) * 1 ≤ 140737488355328) := ⟨by rw [List.length_append]; omega⟩
          have HX0 := Aside0.mk hx0
          have HX1 := Aside0.mk hx1
          have HNX := Aside0.mk hnx
          have hw2 : Go.RowKit.wrap64 ((i : Int) + 1) = ((i + 1 : Nat) : Int) := next_ix i _ cil (Nat.le_trans HLL.out (by decide))
          clear hx0 hx1 hnx hok hol hy0 hy1 hl0 hl1
          go_wp2
          refine start_ (n := 18) (S := fun w' => w'.cell? ⟨W.heap.size, 1, none⟩ = some (.slice (some ad) t.f1.length c1) ∧ w'.cell? (ad.add (i * 2)) = some (.int .u64 x.f0) ∧ w'.cell? ⟨(ad.add (i * 2)).block, (ad.add (i * 2)).off + 1, none⟩ = some (.int .u64 x.f1)) (ds := []) #[false, false, false, false, false, false, false, false, false, false, false, false, false, false, false, false, false, false] (by kernel_rfl) rfl rfl ⟨((blk_cell BXr.out 1).trans rfl), ((HTr.out.cell (World.block_lt_of_cell? W _ HX0.out)).trans HX0.out), ((HTr.out.cell (World.block_lt_of_cell? W _ HX1.out)).trans HX1.out)⟩ (fun hHeld => ?_)
          refine pure_ (i := 0) (N := some 44) (v := ?_) (a' := ?_) #[true, false, false, false, false, false, false, false, false, false, false, false, false, false, false, false, false, false] rfl rfl (by kernel_rfl) (fun _ _ _ h => h) (Or.inl ⟨by rfl, ?_⟩) ?_ ?_
          rotate_left
          · intro w'
            go_simp
            with_reducible rfl
          rotate_left
          · simp only [Act.put, List.setIfInBounds_toArray, List.set_cons_zero, List.set_cons_succ, i64_w, i32_w]
            rfl
          refine pure_ (i := 1) (N := some 45) (v := ?_) (a' := ?_) #[true, true, false, false, false, false, false, false, false, false, false, false, false, false, false, false, false, false] rfl rfl (by kernel_rfl) (fun _ _ _ h => h) (Or.inl ⟨by rfl, ?_⟩) ?_ ?_
          rotate_left
          · intro w'
            go_simp
            with_reducible rfl
          rotate_left
          · simp only [Act.put, List.setIfInBounds_toArray, List.set_cons_zero, List.set_cons_succ, i64_w, i32_w]
            rfl
          refine pure_ (i := 3) (N := some 47) (v := ?_) (a' := ?_) #[true, true, false, true, false, false, false, false, false, false, false, false, false, false, false, false, false, false] rfl rfl (by kernel_rfl) (fun _ _ _ h => h) (Or.inl ⟨by rfl, ?_⟩) ?_ ?_
          rotate_left
          · intro w'
            go_simp
            with_reducible rfl
          rotate_left
          · simp only [Act.put, List.setIfInBounds_toArray, List.set_cons_zero, List.set_cons_succ, i64_w, i32_w]
            rfl
          refine pure_ (i := 9) (N := some 53) (v := ?_) (a' := ?_) #[true, true, false, true, false, false, false, false, false, true, false, false, false, false, false, false, false, false] rfl rfl (by kernel_rfl) (fun _ _ _ h => h) (Or.inl ⟨by rfl, ?_⟩) ?_ ?_
          rotate_left
          · intro w'
            go_simp
            with_reducible rfl
          rotate_left
          · simp only [Act.put, List.setIfInBounds_toArray, List.set_cons_zero, List.set_cons_succ, i64_w, i32_w]
            rfl
          refine pure_ (i := 11) (N := some 55) (v := ?_) (a' := ?_) #[true, true, false, true, false, false, false, false, false, true, false, true, false, false, false, false, false, false] rfl rfl (by kernel_rfl) (fun _ _ _ h => h) (Or.inl ⟨by rfl, ?_⟩) ?_ ?_
          rotate_left
          · intro w'
            go_simp
            with_reducible rfl
          rotate_left
          · simp only [Act.put, List.setIfInBounds_toArray, List.set_cons_zero, List.set_cons_succ, i64_w, i32_w]
            rfl
          refine take_ (i := 2) (N := some 46) (v := ?_) (a' := ?_) #[true, true, true, true, false, false, false, false, false, true, false, true, false, false, false, false, false, false] rfl rfl (by kernel_rfl) (fun _ _ _ h => h) (Or.inl ⟨by rfl, ?_⟩) hHeld ?_ ?_
          rotate_left
          · rintro w' ⟨s0, s1, s2⟩
            go_simp
            with_reducible rfl
          rotate_left
          · simp only [Act.put, List.setIfInBounds_toArray, List.set_cons_zero, List.set_cons_succ, i64_w, i32_w]
            rfl
          refine pure_ (i := 4) (N := some 48) (v := ?_) (a' := ?_) #[true, true, true, true, true, false, false, false, false, true, false, true, false, false, false, false, false, false] rfl rfl (by kernel_rfl) (fun _ _ _ h => h) (Or.inl ⟨by rfl, ?_⟩) ?_ ?_
          rotate_left
          · intro w'
            go_simp
            with_reducible rfl
          rotate_left
          · simp only [Act.put, List.setIfInBounds_toArray, List.set_cons_zero, List.set_cons_succ, i64_w, i32_w]
            rfl
          refine pure_ (i := 5) (N := some 49) (v := ?_) (a' := ?_) #[true, true, true, true, true, true, false, false, false, true, false, true, false, false, false, false, false, false] rfl rfl (by kernel_rfl) (fun _ _ _ h => h) (Or.inl ⟨by rfl, ?_⟩) ?_ ?_
          rotate_left
          · intro w'
            go_simp
            with_reducible rfl
          rotate_left
          · simp only [Act.put, List.setIfInBounds_toArray, List.set_cons_zero, List.set_cons_succ, i64_w, i32_w]
            rfl
          refine take_ (i := 6) (N := some 50) (v := ?_) (a' := ?_) #[true, true, true, true, true, true, true, false, false, true, false, true, false, false, false, false, false, false] rfl rfl (by kernel_rfl) (fun _ _ _ h => h) (Or.inl ⟨by rfl, ?_⟩) hHeld ?_ ?_
          rotate_left
          · rintro w' ⟨s0, s1, s2⟩
            go_simp
            with_reducible rfl
          rotate_left
          · simp only [Act.put, List.setIfInBounds_toArray, List.set_cons_zero, List.set_cons_succ, i64_w, i32_w]
            rfl
          refine take_ (i := 10) (N := some 54) (v := ?_) (a' := ?_) #[true, true, true, true, true, true, true, false, false, true, true, true, false, false, false, false, false, false] rfl rfl (by kernel_rfl) (fun _ _ _ h => h) (Or.inl ⟨by rfl, ?_⟩) hHeld ?_ ?_
          rotate_left
          · rintro w' ⟨s0, s1, s2⟩
            go_simp
            with_reducible rfl
          rotate_left
          · simp only [Act.put, List.setIfInBounds_toArray, List.set_cons_zero, List.set_cons_succ, i64_w, i32_w]
            rfl
          refine pure_ (i := 12) (N := some 56) (v := ?_) (a' := ?_) #[true, true, true, true, true, true, true, false, false, true, true, true, true, false, false, false, false, false] rfl rfl (by kernel_rfl) (fun _ _ _ h => h) (Or.inl ⟨by rfl, ?_⟩) ?_ ?_
          rotate_left
          · intro w'
            go_simp
            with_reducible rfl
          rotate_left
          · simp only [Act.put, List.setIfInBounds_toArray, List.set_cons_zero, List.set_cons_succ, i64_w, i32_w]
            rfl
          refine pure_ (i := 13) (N := some 57) (v := ?_) (a' := ?_) #[true, true, true, true, true, true, true, false, false, true, true, true, true, true, false, false, false, false] rfl rfl (by kernel_rfl) (fun _ _ _ h => h) (Or.inl ⟨by rfl, ?_⟩) ?_ ?_
          rotate_left
          · intro w'
            go_simp
            with_reducible rfl
          rotate_left
          · simp only [Act.put, List.setIfInBounds_toArray, List.set_cons_zero, List.set_cons_succ, i64_w, i32_w]
            rfl
          refine take_ (i := 14) (N := some 58) (v := ?_) (a' := ?_) #[true, true, true, true, true, true, true, false, false, true, true, true, true, true, true, false, false, false] rfl rfl (by kernel_rfl) (fun _ _ _ h => h) (Or.inl ⟨by rfl, ?_⟩) hHeld ?_ ?_
          rotate_left
          · rintro w' ⟨s0, s1, s2⟩
            go_simp
            with_reducible rfl
          rotate_left
          · simp only [Act.put, List.setIfInBounds_toArray, List.set_cons_zero, List.set_cons_succ, i64_w, i32_w]
            rfl
          refine one_ (i := 7) (N := some 51) #[true, true, true, true, true, true, true, true, false, true, true, true, true, true, true, false, false, false] rfl rfl (by kernel_rfl) (by decide) (fun K hK => ?_)
          refine goes_ Try.func16 (by kernel_rfl) rfl #[.int .u64 x.f0, .int .i64 8] (by rfl) rfl rfl (by simp only [List.map_toArray, List.map_cons, List.map_nil]; rfl) ?_
          refine (arboretref01_Bytes.calls 9 _ _ _ _ HY0.out).mono ?_
          rintro e w51 ⟨v51, rfl, hr, hb0⟩
          have hb := below_step (below_drew1 (Below.refl wr.heap.size wr)) hb0
          have BX51 := Aside0.mk (blk_below BXr.out hb)
          have HT51 := Aside0.mk (below_step HTr.out hb)
          have HB51 := Aside0.mk (below_step HBr.out hb)
          have HR51 := Aside0.mk (Kd.R_below HRr.out hb)
          obtain ⟨A51, c51, rfl, hc51, hC51⟩ := Kd.R_reads hr
          have HC51 := Aside0.mk hC51
          clear hr hb hb0 hC51 hc51
          refine ⟨_, rfl, ?_⟩
          refine hK.out _ _ ⟨((blk_cell BX51.out 1).trans rfl), ((HT51.out.cell (World.block_lt_of_cell? W _ HX0.out)).trans HX0.out), ((HT51.out.cell (World.block_lt_of_cell? W _ HX1.out)).trans HX1.out)⟩ (fun hHeld => ?_)
          clear hK K
          refine norm_ (a' := ?_) ?_ ?_
          rotate_left
          · show Act.put _ (some 51) _ = _
            simp only [Act.put, List.setIfInBounds_toArray, List.set_cons_zero, List.set_cons_succ, i64_w, i32_w]
            rfl
          refine one_ (i := 8) (N := some 52) #[true, true, true, true, true, true, true, true, true, true, true, true, true, true, true, false, false, false] rfl rfl (by kernel_rfl) (by decide) (fun K hK => ?_)
          refine Kd.R_append_rows_step (Kd.int .u8) (w0 := w37) w37.heap.size (by rfl) (.tmp 44) (.tmp 51) 45 5 (.int .u8 0) 1 rfl Try.underlying45 info5 rfl (by decide) (by omega) _ o y0 _ _ _ (fun _ => True) (fun _ => False) rfl rfl HR51.out HC51.out (fun _ _ h => h) (fun _ h => h.elim) (fun _ _ => trivial) HB51.out (HB51.out).size HL1.out ?_
          intro v52 w52 ho ho2 hg hat
          have BX52 := Aside0.mk (blk_below BX37.out ho2)
          have HT52 := Aside0.mk (below_step HT37.out ho2)
          have HB52 := Aside0.mk ho2
          have HR52 := Aside0.mk ho
          clear ho ho2 hg hat
          refine hK.out _ _ ⟨((blk_cell BX52.out 1).trans rfl), ((HT52.out.cell (World.block_lt_of_cell? W _ HX0.out)).trans HX0.out), ((HT52.out.cell (World.block_lt_of_cell? W _ HX1.out)).trans HX1.out)⟩ (fun hHeld => ?_)
          clear hK K
          refine norm_ (a' := ?_) ?_ ?_
          rotate_left
          · show Act.put _ (some 52) _ = _
            simp only [Act.put, List.setIfInBounds_toArray, List.set_cons_zero, List.set_cons_succ, i64_w, i32_w]
            rfl
          refine one_ (i := 15) (N := some 59) #[true, true, true, true, true, true, true, true, true, true, true, true, true, true, true, true, false, false] rfl rfl (by kernel_rfl) (by decide) (fun K hK => ?_)
          refine goes_ Try.func16 (by kernel_rfl) rfl #[.int .u64 x.f1, .int .i64 8] (by rfl) rfl rfl (by simp only [List.map_toArray, List.map_cons, List.map_nil]; rfl) ?_
          refine (arboretref01_Bytes.calls 9 _ _ _ w52 HY1.out).mono ?_
          rintro e w59 ⟨v59, rfl, hr, hb⟩
          have BX59 := Aside0.mk (blk_below BX52.out hb)
          have HT59 := Aside0.mk (below_step HT52.out hb)
          have HB59 := Aside0.mk (below_step HB52.out hb)
          have HR59 := Aside0.mk (Kd.R_below HR52.out hb)
          obtain ⟨A59, c59, rfl, hc59, hC59⟩ := Kd.R_reads hr
          have HC59 := Aside0.mk hC59
          clear hr hb hC59 hc59
          refine ⟨_, rfl, ?_⟩
          refine hK.out _ _ ⟨((blk_cell BX59.out 1).trans rfl), ((HT59.out.cell (World.block_lt_of_cell? W _ HX0.out)).trans HX0.out), ((HT59.out.cell (World.block_lt_of_cell? W _ HX1.out)).trans HX1.out)⟩ (fun hHeld => ?_)
          clear hK K
          refine norm_ (a' := ?_) ?_ ?_
          rotate_left
          · show Act.put _ (some 59) _ = _
            simp only [Act.put, List.setIfInBounds_toArray, List.set_cons_zero, List.set_cons_succ, i64_w, i32_w]
            rfl
          refine one_ (i := 16) (N := some 60) #[true, true, true, true, true, true, true, true, true, true, true, true, true, true, true, true, true, false] rfl rfl (by kernel_rfl) (by decide) (fun K hK => ?_)
          refine Kd.R_append_rows_step (Kd.int .u8) (w0 := w37) w37.heap.size (by rfl) (.tmp 52) (.tmp 59) 45 5 (.int .u8 0) 1 rfl Try.underlying45 info5 rfl (by decide) (by omega) _ (o ++ y0) y1 _ _ _ (fun _ => True) (fun _ => False) rfl rfl HR59.out HC59.out (fun _ _ h => h) (fun _ h => h.elim) (fun _ _ => trivial) HB59.out (HB59.out).size HL2.out ?_
          intro v60 w60 ho ho2 hg hat
          have BX60 := Aside0.mk (blk_below BX37.out ho2)
          have HT60 := Aside0.mk (below_step HT37.out ho2)
          have HB60 := Aside0.mk ho2
          have HR60 := Aside0.mk ho
          clear ho ho2 hg hat
          refine hK.out _ _ ⟨((blk_cell BX60.out 1).trans rfl), ((HT60.out.cell (World.block_lt_of_cell? W _ HX0.out)).trans HX0.out), ((HT60.out.cell (World.block_lt_of_cell? W _ HX1.out)).trans HX1.out)⟩ (fun hHeld => ?_)
          clear hK K
          refine norm_ (a' := ?_) ?_ ?_
          rotate_left
          · show Act.put _ (some 60) _ = _
            simp only [Act.put, List.setIfInBounds_toArray, List.set_cons_zero, List.set_cons_succ, i64_w, i32_w]
            rfl
          refine pure_ (i := 17) (N := some 9) (v := ?_) (a' := ?_) #[true, true, true, true, true, true, true, true, true, true, true, true, true, true, true, true, true, true] rfl rfl (by kernel_rfl) (fun _ _ _ h => h) (Or.inl ⟨by rfl, ?_⟩) ?_ ?_
          rotate_left
          · intro w'
            go_simp
            with_reducible rfl
          rotate_left
          · simp only [Act.put, List.setIfInBounds_toArray, List.set_cons_zero, List.set_cons_succ, i64_w, i32_w]
            rfl
          refine done_ (by kernel_rfl) ?_
          go_wp2
          go_roundg k1
          case measure => exact Nat.lt_succ_self _
          case rel => exact ⟨i + 1, congrArg (Value.int .i64) hw2, ⟨step_ix HI.out⟩, ⟨by rw [HNX.out]; exact HR60.out⟩, HB60⟩
      · have cib : decide ((i : Int) < (t.f1.length : Int)) = false := decide_eq_false ci
        have ht : t.f1.take i = t.f1 := List.take_of_length_le (by omega)
        rw [ht] at HRr
        clear ht
        go_wp2_with (first | ((with_reducible refine gate_builtin (b := .append) (xs := #[.tmp 62, Operand.const (.int .i64 16)]) rfl ?_); at_builtin; refine Kd.R_append_zeros (Kd.int .u8) (w0 := w37) w37.heap.size rfl (.tmp 62) (Operand.const (.int .i64 16)) 45 3 5 (.int .u8 0) 1 rfl Try.underlying45 Try.underlying3 info5 rfl (by decide) (by omega) _ (resB t.f1) 0 16 (fun _ => True) rfl rfl rfl (fun _ _ => trivial) ?aO (by decide) ?aB ?aS ?aL ?_; (case aO => exact HRr.out); (case aB => exact HBr.out); (case aS => exact HBr.out.size); (case aL => exact HLR.out); intro v63 w63 ho ho2 hg hat; rw [show List.replicate (16 : Int).toNat (0 : Int) = List.replicate 16 0 from rfl, ← HRB.out] at ho; have BX63 := Aside0.mk (blk_below BX37.out ho2); have HT63 := Aside0.mk (below_step HT37.out ho2); obtain ⟨Ar, cr, rfl, hcr, hCr⟩ := Kd.R_reads ho; have HR63 := Aside0.mk (And.intro hCr hcr); have HS63 := Aside0.mk (And.intro (Kd.C_below HS37.out.1 ho2) HS37.out.2); have HL63 := Aside0.mk (Kd.C_below HL37.out ho2); clear ho ho2 hg hat hcr hCr))
        go_loopg [10, 66] (l.length + 1) (fun kq v10 v66 w' => ∃ (i : Nat), v66 = .int .i64 (i : Int) ∧ Aside0 (i + kq = l.length + 1) ∧ Aside0 (Kd.R (Kd.int .u8) 5 w' w63.heap.size (fun _ => True) v10 ((l.take i).foldl (fun o x => o ++ (bytesOf x ++ [0])) [])) ∧ Aside0 (Below w63.heap.size w63 w'))
        case atStart => exact ⟨0, rfl, ⟨by omega⟩, ⟨by rw [List.take_zero]; exact Kd.R_nil _ _ _ _ _⟩, ⟨Below.refl _ _⟩⟩
        case round =>
          clear HRr HBr BXr HTr q1 cib ci
          obtain ⟨i, rfl, HI, HRx, HBx⟩ := hrel
          by_cases ci : (i : Int) < (l.length : Int)
          · have cib : decide ((i : Int) < (l.length : Int)) = true := decide_eq_true ci
            have cil : i < l.length := by omega
            cases gk with
            | zero => have := HI.out; omega
            | succ k1 =>
              obtain ⟨ad2, e2, hy0⟩ := str_cell (Kd.C_below HL63.out HBx.out) i cil
              subst e2
              have hnx := foldl_next (fun (o : List Int) (x : ByteArray) => o ++ (bytesOf x ++ [0])) [] l ⟨#[]⟩ i cil
              have hlen := txB_from (l.take (i + 1)) []
              have hst := sizes_take l (i + 1)
              have hsz := HSZ.out
              rw [hnx] at hlen
              generalize l.getD i ⟨#[]⟩ = y at hy0 hnx hlen
              generalize (l.take i).foldl (fun o x => o ++ (bytesOf x ++ [0])) [] = o at HRx hnx hlen
              simp only [List.length_append, bytesOf_length, List.length_cons, List.length_nil] at hlen
              have HL1 : Aside0 (o.length + y.size ≤ 140737488355328) := ⟨by omega⟩
              have HL2 : Aside0 (((o ++ bytesOf y).length + 1) * 1 ≤ 140737488355328) := ⟨by rw [List.length_append, bytesOf_length]; omega⟩
              have HNX := Aside0.mk hnx
              have hw2 : Go.RowKit.wrap64 ((i : Int) + 1) = ((i + 1 : Nat) : Int) := next_ix i _ cil (Nat.le_trans (sizes_len l) HSZ.out)
              clear hnx hlen hst hsz
              go_wp2_with (first | ((with_reducible refine gate_builtin (b := .append) (xs := #[.tmp 69, .tmp 73]) rfl ?_); at_builtin; refine R_append_str (w0 := w63) w63.heap.size rfl (.tmp 69) (.tmp 73) 45 9 5 rfl Try.underlying45 Try.underlying9 info5 _ o y (fun _ => True) rfl rfl (fun _ _ => trivial) HRx.out HBx.out HBx.out.size HL1.out ?_; intro v74 w74 ho ho2 hg hat; obtain ⟨oy, hoy⟩ : ∃ oy, oy = o ++ bytesOf y := ⟨_, rfl⟩; rw [← hoy] at ho; have HOY := Aside0.mk hoy; have HL3 : Aside0 ((oy.length + 1) * 1 ≤ 140737488355328) := ⟨by rw [hoy]; exact HL2.out⟩; have HR74 := Aside0.mk ho; have HB74 := Aside0.mk ho2; clear ho ho2 hg hat hoy) | ((with_reducible refine gate_builtin (b := .append) (xs := #[.tmp 74, .tmp 75]) rfl ?_); at_builtin; refine Kd.R_append_rows (Kd.int .u8) (w0 := w63) w63.heap.size rfl (.tmp 74) (.tmp 75) 45 5 (.int .u8 0) 1 rfl Try.underlying45 info5 rfl (by decide) (by omega) _ oy [0] _ _ _ (fun _ => True) (fun _ => False) rfl rfl ?aO ?aR (fun _ _ h => h) (fun _ h => h.elim) (fun _ _ => trivial) ?aB ?aS ?aL ?_; (case aO => exact (Kd.R_alloc HR74.out _)); (case aR => exact (lit_C w74 [0] (by decide))); (case aB => exact (below_alloc HB74.out _)); (case aS => exact ((below_alloc HB74.out _)).size); (case aL => exact HL3.out); intro v76 w76 ho ho2 hg hat; have HR76 := Aside0.mk ho; have HB76 := Aside0.mk ho2; clear ho ho2 hg hat))
              go_roundg k1
              case measure => exact Nat.lt_succ_self _
              case rel => exact ⟨i + 1, congrArg (Value.int .i64) hw2, ⟨step_ix HI.out⟩, ⟨by rw [HNX.out, ← List.append_assoc, ← HOY.out]; exact HR76.out⟩, HB76⟩
          · have cib : decide ((i : Int) < (l.length : Int)) = false := decide_eq_false ci
            have ht : l.take i = l := List.take_of_length_le (by omega)
            rw [ht] at HRx
            have HRX : Aside0 (Kd.R (Kd.int .u8) 5 wr w63.heap.size (fun _ => True) u10 xb) := ⟨by rw [HXB0.out]; exact HRx.out⟩
            obtain ⟨Ax, cx, rfl, hcx, hCx⟩ := Kd.R_reads HRX.out
            have HXB := Aside0.mk (And.intro hCx hcx)
            have HR64 := Aside0.mk (And.intro (Kd.C_below HR63.out.1 HBx.out) HR63.out.2)
            have HS64 := Aside0.mk (And.intro (Kd.C_below HS63.out.1 HBx.out) HS63.out.2)
            have BX64 := Aside0.mk (blk_below BX63.out HBx.out)
            have HT64 := Aside0.mk (below_step HT63.out HBx.out)
            have e0 := HE0.out
            have e1 := HE1.out
            have f1 := HF1.out
            have e2 := HE2.out
            have f2 := HF2.out
            have e3 := HE3.out
            have eb := HEB.out
            clear ht hCx hcx
            go_wp2_with (first | ((with_reducible refine gate_dst (N := 79) rfl ?_); refine Kd.R_make (Kd.int .u8) _ 5 rfl (N := 79) rfl 45 _ _ rfl 0 rfl rfl Try.underlying45 (.int .u8 0) 1 info5 rfl (by decide) (by decide) 0 (ok := fun _ => True) (okp := fun _ => True) rfl (fun _ hk => hk) trivial (Int.le_refl 0) (by decide) (Below.refl _ _) (Nat.le_refl _) ?_; intro v79 w79 ho hb hg hnew; rw [show List.replicate (0 : Int).toNat (0 : Int) = [] from rfl] at ho; obtain ⟨Ae, ce, rfl, hce, hCe⟩ := Kd.R_reads ho; have HE79 := Aside0.mk hCe; have HXB79 := Aside0.mk (Kd.C_below HXB.out.1 hb); have HR79 := Aside0.mk (Kd.C_below HR64.out.1 hb); have HS79 := Aside0.mk (Kd.C_below HS64.out.1 hb); have HT79 := Aside0.mk (below_step HT64.out hb); have q0 := (blk_cell (blk_below BX64.out hb) 0).trans rfl; clear ho hb hg hnew hce hCe))
            obtain ⟨w108, hw108⟩ : ∃ w108, w108 = w79.alloc (.cells #[.int .i64 3490578157, .int .i64 p3, .int .i64 p1, .int .i64 p2, .int .i64 40, .int .i64 17, .int .i64 16, .int .i64 t.f0, .int .i64 xb.length, .int .i64 sb.length] 3) := ⟨_, rfl⟩
            have hbl := blk_new w79 (.cells #[.int .i64 3490578157, .int .i64 p3, .int .i64 p1, .int .i64 p2, .int .i64 40, .int .i64 17, .int .i64 16, .int .i64 t.f0, .int .i64 xb.length, .int .i64 sb.length] 3 (0, 0))
            have hba := below_alloc (Below.refl w79.heap.size w79) (.cells #[.int .i64 3490578157, .int .i64 p3, .int .i64 p1, .int .i64 p2, .int .i64 40, .int .i64 17, .int .i64 16, .int .i64 t.f0, .int .i64 xb.length, .int .i64 sb.length] 3)
            rw [← hw108] at hbl hba ⊢
            obtain ⟨hv, hhv⟩ : ∃ hv : List Int, hv = [3490578157, p3, p1, p2, 40, 17, 16, t.f0, (xb.length : Int), (sb.length : Int)] := ⟨_, rfl⟩
            have HBL := Aside0.mk (ints_C w108 w79.heap.size 3 hv (by rw [hhv]; exact hbl) (by rw [hhv]; exact Nat.le_of_ble_eq_true rfl))
            have HVL : Aside0 (hv.length = 10) := ⟨by rw [hhv]; rfl⟩
            have HPV := HPR
            rw [← hhv] at HPV HFIN
            have HE8 := Aside0.mk (Kd.C_below HE79.out hba)
            have HX8 := Aside0.mk (Kd.C_below HXB79.out hba)
            have HR8 := Aside0.mk (Kd.C_below HR79.out hba)
            have HS8 := Aside0.mk (Kd.C_below HS79.out hba)
            have HT8 := Aside0.mk (below_step HT79.out hba)
            clear hw108 hbl hba hhv e0 e1 f1 e2 f2 e3 eb q0
            go_loopg [17, 110] 11 (fun kq v17 v110 w' => ∃ (i : Nat), v110 = .int .i64 (i : Int) ∧ Aside0 (i + kq = 11) ∧ Aside0 (Kd.R (Kd.int .u8) 5 w' w108.heap.size (fun _ => True) v17 ((hv.take i).foldl (fun o v => o ++ cellB v) [])) ∧ Aside0 (Below w108.heap.size w108 w'))
            case atStart => exact ⟨0, rfl, ⟨rfl⟩, ⟨by rw [List.take_zero]; exact Kd.R_nil _ _ _ _ _⟩, ⟨Below.refl _ _⟩⟩
            case round =>
              clear HRx HBx HRX ci cib
              obtain ⟨i, rfl, HI, HRo, HBo⟩ := hrel
              by_cases ci : (i : Int) < 10
              · have cib : decide ((i : Int) < 10) = true := decide_eq_true ci
                have cil : i < hv.length := by rw [HVL.out]; omega
                cases gk with
                | zero => have := HI.out; omega
                | succ k1 =>
                  obtain ⟨ad3, e3, hi0⟩ := i64_cell (Kd.C_below HBL.out HBo.out) i cil
                  obtain rfl := Option.some.inj e3
                  rw [add_plain] at hi0
                  have hnx := foldl_next (fun (o : List Int) (v : Int) => o ++ cellB v) [] hv 0 i cil
                  have hlen := hdB_from (hv.take (i + 1)) []
                  have hpr := HPV.out _ (getD_mem hv i cil)
                  rw [hnx] at hlen
                  generalize hv.getD i 0 = y at hi0 hnx hlen hpr
                  generalize (hv.take i).foldl (fun o v => o ++ cellB v) [] = o at HRo hnx hlen
                  have HL1 : Aside0 ((o.length + (cellB y).length) * 1 ≤ 140737488355328) := ⟨by
                    rw [List.length_append, List.length_take] at hlen
                    have := HVL.out
                    simp only [List.length_nil] at hlen
                    omega⟩
                  obtain ⟨kc, hc1⟩ := (cell_ev y hpr.1 hpr.2).rounds
                  have HC1 := Aside0.mk hc1
                  have HNX := Aside0.mk hnx
                  have hw2 := next_ix i _ cil (by rw [HVL.out]; decide)
                  clear hnx hlen hpr hc1
                  go_wp2_with (first | (go_at_call 41; refine (arboretref04_cell.calls kc y _ wr HC1.out).mono ?_; rintro e w116 ⟨v116, rfl, hr, hb⟩; have HB116 := Aside0.mk (below_step HBo.out hb); have HR116 := Aside0.mk (Kd.R_below HRo.out hb); obtain ⟨A116, c116, rfl, hc116, hC116⟩ := Kd.R_reads hr; have HC116 := Aside0.mk hC116; clear hr hb hC116 hc116) | ((with_reducible refine gate_builtin (b := .append) (xs := #[.tmp 114, .tmp 116]) rfl ?_); at_builtin; refine Kd.R_append_rows (Kd.int .u8) (w0 := w108) w108.heap.size rfl (.tmp 114) (.tmp 116) 45 5 (.int .u8 0) 1 rfl Try.underlying45 info5 rfl (by decide) (by omega) _ o (cellB y) _ _ _ (fun _ => True) (fun _ => False) rfl rfl ?aO ?aR (fun _ _ h => h) (fun _ h => h.elim) (fun _ _ => trivial) ?aB ?aS ?aL ?_; (case aO => exact HR116.out); (case aR => exact HC116.out); (case aB => exact HB116.out); (case aS => exact (HB116.out).size); (case aL => exact HL1.out); intro v117 w117 ho ho2 hg hat; have HR117 := Aside0.mk ho; have HB117 := Aside0.mk ho2; clear ho ho2 hg hat))
                  go_roundg k1
                  case measure => exact Nat.lt_succ_self _
                  case rel => exact ⟨i + 1, rfl, ⟨step_ix HI.out⟩, ⟨by rw [HNX.out]; exact HR117.out⟩, HB117⟩
              · have cib : decide ((i : Int) < 10) = false := decide_eq_false ci
                have ht : hv.take i = hv := List.take_of_length_le (by rw [HVL.out]; omega)
                rw [ht] at HRo
                obtain ⟨hb_, hhb⟩ : ∃ hb_, hb_ = hdB hv := ⟨_, rfl⟩
                have HH : Aside0 (hb_ = hdB hv) := ⟨hhb⟩
                have HR0 : Aside0 (Kd.R (Kd.int .u8) 5 wr w108.heap.size (fun _ => True) u17 hb_) := ⟨by rw [hhb]; exact HRo.out⟩
                have HHL : hb_.length = 40 := by rw [hhb]; unfold hdB; rw [hdB_from, HVL.out]; rfl
                have hq := HLE0.out
                obtain ⟨o1, ho1⟩ : ∃ o1, o1 = hb_ ++ rb := ⟨_, rfl⟩
                obtain ⟨o2, ho2⟩ : ∃ o2, o2 = o1 ++ sb := ⟨_, rfl⟩
                have HO1 := Aside0.mk ho1
                have HO2 := Aside0.mk ho2
                have l1 : o1.length = 40 + rb.length := by rw [ho1, List.length_append, HHL]
                have l2 : o2.length = 40 + rb.length + sb.length := by rw [ho2, List.length_append, l1]
                have HLa : Aside0 ((hb_.length + 0) * 1 ≤ 140737488355328) := ⟨by omega⟩
                have HLb : Aside0 ((hb_.length + rb.length) * 1 ≤ 140737488355328) := ⟨by omega⟩
                have HLc : Aside0 ((o1.length + 0) * 1 ≤ 140737488355328) := ⟨by omega⟩
                have HLd : Aside0 ((o1.length + sb.length) * 1 ≤ 140737488355328) := ⟨by omega⟩
                have HLe : Aside0 ((o2.length + 0) * 1 ≤ 140737488355328) := ⟨by omega⟩
                have HLf : Aside0 ((o2.length + xb.length) * 1 ≤ 140737488355328) := ⟨by omega⟩
                clear ht hq l1 l2 ho1 ho2 HHL hhb
                go_wp2_with (first | ((with_reducible refine gate_builtin (b := .append) (xs := #[.tmp 119, .tmp 120]) rfl ?_); at_builtin; refine Kd.R_append_rows (Kd.int .u8) (w0 := w108) w108.heap.size rfl (.tmp 119) (.tmp 120) 45 5 (.int .u8 0) 1 rfl Try.underlying45 info5 rfl (by decide) (by omega) _ hb_ [] _ _ _ (fun _ => True) (fun _ => False) rfl rfl ?aO ?aR (fun _ _ h => h) (fun _ h => h.elim) (fun _ _ => trivial) ?aB ?aS ?aL ?_; (case aO => exact HR0.out); (case aR => exact (Kd.C_below HE8.out HBo.out)); (case aB => exact HBo.out); (case aS => exact (HBo.out).size); (case aL => exact HLa.out); intro va wa ho ho2 hg hat; rw [List.append_nil] at ho; have HRa := Aside0.mk ho; have HBa := Aside0.mk ho2; clear ho ho2 hg hat) | ((with_reducible refine gate_builtin (b := .append) (xs := #[.tmp 121, .tmp 122]) rfl ?_); at_builtin; refine Kd.R_append_rows (Kd.int .u8) (w0 := w108) w108.heap.size rfl (.tmp 121) (.tmp 122) 45 5 (.int .u8 0) 1 rfl Try.underlying45 info5 rfl (by decide) (by omega) _ hb_ rb _ _ _ (fun _ => True) (fun _ => False) rfl rfl ?aO ?aR (fun _ _ h => h) (fun _ h => h.elim) (fun _ _ => trivial) ?aB ?aS ?aL ?_; (case aO => exact HRa.out); (case aR => exact (Kd.C_below HR8.out HBa.out)); (case aB => exact HBa.out); (case aS => exact (HBa.out).size); (case aL => exact HLb.out); intro vb wb ho ho2 hg hat; rw [← HO1.out] at ho; have HRb := Aside0.mk ho; have HBb := Aside0.mk ho2; clear ho ho2 hg hat) | ((with_reducible refine gate_builtin (b := .append) (xs := #[.tmp 123, .tmp 124]) rfl ?_); at_builtin; refine Kd.R_append_rows (Kd.int .u8) (w0 := w108) w108.heap.size rfl (.tmp 123) (.tmp 124) 45 5 (.int .u8 0) 1 rfl Try.underlying45 info5 rfl (by decide) (by omega) _ o1 [] _ _ _ (fun _ => True) (fun _ => False) rfl rfl ?aO ?aR (fun _ _ h => h) (fun _ h => h.elim) (fun _ _ => trivial) ?aB ?aS ?aL ?_; (case aO => exact HRb.out); (case aR => exact (Kd.C_below HE8.out HBb.out)); (case aB => exact HBb.out); (case aS => exact (HBb.out).size); (case aL => exact HLc.out); intro vc wc ho ho2 hg hat; rw [List.append_nil] at ho; have HRc := Aside0.mk ho; have HBc := Aside0.mk ho2; clear ho ho2 hg hat) | ((with_reducible refine gate_builtin (b := .append) (xs := #[.tmp 125, .tmp 126]) rfl ?_); at_builtin; refine Kd.R_append_rows (Kd.int .u8) (w0 := w108) w108.heap.size rfl (.tmp 125) (.tmp 126) 45 5 (.int .u8 0) 1 rfl Try.underlying45 info5 rfl (by decide) (by omega) _ o1 sb _ _ _ (fun _ => True) (fun _ => False) rfl rfl ?aO ?aR (fun _ _ h => h) (fun _ h => h.elim) (fun _ _ => trivial) ?aB ?aS ?aL ?_; (case aO => exact HRc.out); (case aR => exact (Kd.C_below HS8.out HBc.out)); (case aB => exact HBc.out); (case aS => exact (HBc.out).size); (case aL => exact HLd.out); intro vd wd ho ho2 hg hat; rw [← HO2.out] at ho; have HRd := Aside0.mk ho; have HBd := Aside0.mk ho2; clear ho ho2 hg hat) | ((with_reducible refine gate_builtin (b := .append) (xs := #[.tmp 128, .tmp 129]) rfl ?_); at_builtin; refine Kd.R_append_rows (Kd.int .u8) (w0 := w108) w108.heap.size rfl (.tmp 128) (.tmp 129) 45 5 (.int .u8 0) 1 rfl Try.underlying45 info5 rfl (by decide) (by omega) _ o2 [] _ _ _ (fun _ => True) (fun _ => False) rfl rfl ?aO ?aR (fun _ _ h => h) (fun _ h => h.elim) (fun _ _ => trivial) ?aB ?aS ?aL ?_; (case aO => exact HRd.out); (case aR => exact (Kd.C_below HE8.out HBd.out)); (case aB => exact HBd.out); (case aS => exact (HBd.out).size); (case aL => exact HLe.out); intro ve we ho ho2 hg hat; rw [List.append_nil] at ho; have HRe := Aside0.mk ho; have HBe := Aside0.mk ho2; clear ho ho2 hg hat) | ((with_reducible refine gate_builtin (b := .append) (xs := #[.tmp 130, .tmp 131]) rfl ?_); at_builtin; refine Kd.R_append_rows (Kd.int .u8) (w0 := w108) w108.heap.size rfl (.tmp 130) (.tmp 131) 45 5 (.int .u8 0) 1 rfl Try.underlying45 info5 rfl (by decide) (by omega) _ o2 xb _ _ _ (fun _ => True) (fun _ => False) rfl rfl ?aO ?aR (fun _ _ h => h) (fun _ h => h.elim) (fun _ _ => trivial) ?aB ?aS ?aL ?_; (case aO => exact HRe.out); (case aR => exact (Kd.C_below HX8.out HBe.out)); (case aB => exact HBe.out); (case aS => exact (HBe.out).size); (case aL => exact HLf.out); intro vf wf ho ho2 hg hat; have HRf := Aside0.mk ho; have HBf := Aside0.mk ho2; clear ho ho2 hg hat))
                refine bodyPost_ret (results_tmp rfl _ _ _) rfl ?_
                exact ⟨_, rfl, Kd.R_lower (base' := W.heap.size) (by rw [HFIN.out, ← HH.out, ← HO1.out, ← HO2.out]; exact HRf.out) HT8.out.size, below_step HT8.out HBf.out⟩
end Go.Proofs.Ytkopmkinlanhoaa.PE

namespace Go.Proofs.Ytkopmkinlanhoaa.PE
open Go.RowKit Go.Proofs.YtkopmkinlanhoaaW.PrintWords Go.Proofs.YtkopmkinlanhoaaW.PrintLast Go.Proofs.YtkopmkinlanhoaaW.PrintMore
attribute [local go_sem] max2_int min2_int max_two min_two max_three min_three max_four min_four
set_option linter.unusedVariables false
set_option linter.unusedSimpArgs false
open Go.Proofs.Ytkopmkinlanhoaa.Aid Go.Proofs.Ytkopmkinlanhoaa.Rdr
theorem sizes_add (l : List ByteArray) (x : ByteArray) : sizes (l ++ [x]) = sizes l + x.size + 1 := by
  induction l with
  | nil => simp [sizes]
  | cons y r ih =>
    rw [List.cons_append, sizes, sizes, ih]
    omega
theorem sizes_addT (l : List ByteArray) (x : ByteArray) : sizes (addT l x) ≤ sizes l + x.size + 1 := by
  unfold addT
  split
  · omega
  · rw [sizes_add]
    exact Nat.le_refl _
theorem sizes_props : ∀ (ps : List S63) (l : List ByteArray), sizes (ps.foldl (fun l p => addT l p.f0) l) ≤ sizes l + sumB bulk63 ps
  | [], l => by simp [sumB]
  | p :: r, l => by
    have h1 := sizes_addT l p.f0
    have h2 := sizes_props r (addT l p.f0)
    have h3 := bulk_value p
    rw [List.foldl_cons]
    simp only [sumB]
    omega
mutual
theorem sizes_txN : ∀ (x : S27) (l : List ByteArray), sizes (txN x l) ≤ sizes l + bulk27 x
  | ⟨a, ps, ks⟩, l => by
    have h2 := sizes_props ps l
    have h3 := sizes_txK ks (ps.foldl (fun l p => addT l p.f0) l)
    have h4 := bulk_eq ⟨a, ps, ks⟩
    simp only at h4
    rw [txN]
    omega
theorem sizes_txK : ∀ (ks : List S27) (l : List ByteArray), sizes (txK ks l) ≤ sizes l + sumB bulk27 ks
  | [], l => by rw [txK]; omega
  | x :: r, l => by
    have h1 := sizes_txN x l
    have h2 := sizes_txK r (txN x l)
    rw [txK]
    simp only [sumB]
    omega
end
theorem prB_len_le (l : List ByteArray) (p : S63) : (prB l p).length ≤ p.f1.length + 15 := by
  have h := padW_le p.f1
  unfold prB
  simp only [List.length_append, cellB_length, List.length_cons, List.length_nil]
  omega
theorem prs_len_le (l : List ByteArray) : ∀ (ps : List S63) (o : List Int), (ps.foldl (fun o p => o ++ prB l p) o).length ≤ o.length + 8 * sumB bulk63 ps
  | [], o => by simp [sumB]
  | p :: r, o => by
    have h1 := prB_len_le l p
    have h2 := prs_len_le l r (o ++ prB l p)
    have h3 := bulk_value p
    rw [List.length_append] at h2
    rw [List.foldl_cons]
    simp only [sumB]
    omega
mutual
theorem ndB_len_le (l : List ByteArray) : ∀ x : S27, (ndB l x).length ≤ 8 * bulk27 x
  | ⟨a, ps, ks⟩ => by
    have h1 := prs_len_le l ps ([0, 0, 0, 1] ++ ((bytesOf a ++ [0]) ++ padW (bytesOf a ++ [0])))
    have h2 := kdA_len_le l ks (ps.foldl (fun o p => o ++ prB l p) ([0, 0, 0, 1] ++ ((bytesOf a ++ [0]) ++ padW (bytesOf a ++ [0]))))
    have h4 := bulk_eq ⟨a, ps, ks⟩
    have h7 := padW_le (bytesOf a ++ [0])
    simp only at h4
    rw [ndB, List.length_append]
    simp only [List.length_append, bytesOf_length, List.length_cons, List.length_nil] at h1 ⊢
    omega
theorem kdA_len_le (l : List ByteArray) : ∀ (ks : List S27) (o : List Int), (kdA l ks o).length ≤ o.length + 8 * sumB bulk27 ks
  | [], o => by rw [kdA]; omega
  | x :: r, o => by
    have h1 := ndB_len_le l x
    have h2 := kdA_len_le l r (o ++ ndB l x)
    rw [List.length_append] at h2
    rw [kdA]
    simp only [sumB]
    omega
end
theorem hdB_flat : ∀ (vs : List Int) (o : List Int), vs.foldl (fun o v => o ++ cellB v) o = o ++ vs.flatMap cellB
  | [], o => by simp
  | v :: r, o => by rw [List.foldl_cons, hdB_flat r, List.flatMap_cons, List.append_assoc]
def blobH (boot : Int) (r s x : Nat) : Hdr := ⟨3490578157, ((40 + r + s + x : Nat) : Int), ((40 + r : Nat) : Int), ((40 + r + s : Nat) : Int), 40, 17, 16, boot, (x : Int), (s : Int)⟩
theorem hdB_hbytes (boot : Int) (r s x : Nat) : hdB (hdV boot r s x) = hbytes (blobH boot r s x) 10 := by
  unfold hdB
  rw [hdB_flat, List.nil_append]
  rfl
theorem hdr_no (h : Hdr) (hg : h.good) (z : List Int) (h0 : h.c0 = 3490578157) (h5 : h.c5 = 17) (h6 : h.c6 = 16) (h1 : h.c1 ≠ ((40 + z.length : Nat) : Int)) : decode_Header.f (hbytes h 10 ++ z) = some (.zero, 4) := by
  have hl : (hbytes h 10 ++ z).length = 40 + z.length := by rw [List.length_append, hbytes_length h 10 (by decide)]
  have he : hdrErr h ((40 + z.length : Nat) : Int) = 4 := by
    unfold hdrErr
    rw [if_pos h0, if_pos h5, if_pos h6, if_neg h1]
  unfold decode_Header.f
  rw [hdr_of h hg, hl, he]
  split
  · rfl
  · split <;> rfl
structure BlobOk (t : S29) : Prop where
  boot : 0 ≤ t.f0 ∧ t.f0 < 4294967296
  res : ∀ r ∈ t.f1, resOk r
  bulk : bulk27 t.f2 ≤ 1048576
  len : t.f1.length ≤ 1048576
theorem BlobOk.szs {t : S29} (h : BlobOk t) : sizes (txN t.f2 []) ≤ 1048576 := by
  have h1 := sizes_txN t.f2 []
  have h2 := h.bulk
  have h3 : sizes [] = 0 := rfl
  omega
theorem BlobOk.toks {t : S29} (h : BlobOk t) : (ndB (txN t.f2 []) t.f2).length ≤ 8388608 := by
  have := ndB_len_le (txN t.f2 []) t.f2
  have := h.bulk
  omega
theorem blob_split (t : S29) (h : BlobOk t) : ∃ (H : Hdr) (z : List Int), H.good ∧ H.c0 = 3490578157 ∧ H.c5 = 17 ∧ H.c6 = 16 ∧ H.c1 = ((40 + z.length : Nat) : Int) ∧ blobB t = hbytes H 10 ++ z ∧ z.length ≤ 1073741824 := by
  have h1 := h.szs
  have h2 := h.toks
  have h3 : (resB t.f1).length = 16 * t.f1.length := resB_length t.f1
  have h4 := txB_len (txN t.f2 [])
  have h5 := h.len
  refine ⟨blobH t.f0 ((resB t.f1).length + 16) ((ndB (txN t.f2 []) t.f2).length + 4) (txB (txN t.f2 [])).length, (resB t.f1 ++ List.replicate 16 0) ++ (ndB (txN t.f2 []) t.f2 ++ [0, 0, 0, 9]) ++ txB (txN t.f2 []), ?_, rfl, rfl, rfl, ?_, ?_, ?_⟩
  · exact hd_range t.f0 _ _ _ h.boot (by omega) (by omega) (by omega)
  · show ((_ : Nat) : Int) = _
    congr 1
    simp only [List.length_append, List.length_replicate, List.length_cons, List.length_nil]
    omega
  · unfold blobB
    rw [hdB_hbytes]
    simp only [List.append_assoc]
  · simp only [List.length_append, List.length_replicate, List.length_cons, List.length_nil]
    omega
theorem blob_len (t : S29) (h : BlobOk t) : 40 ≤ (blobB t).length ∧ (blobB t).length ≤ 1073741864 := by
  obtain ⟨H, z, _, _, _, _, _, e, hz⟩ := blob_split t h
  rw [e, List.length_append, hbytes_length H 10 (by decide)]
  omega
theorem blob_cut (t : S29) (h : BlobOk t) (n : Nat) (hn : n < (blobB t).length) : decode_Header.f ((blobB t).take n) = some (.zero, 4) := by
  obtain ⟨H, z, hg, h0, h5, h6, h1, e, hz⟩ := blob_split t h
  have hl := hbytes_length H 10 (by decide)
  rw [e] at hn ⊢
  rw [List.length_append, hl] at hn
  by_cases c : n < 40
  · unfold decode_Header.f
    rw [if_pos (by rw [List.length_take]; omega)]
  · have : (hbytes H 10 ++ z).take n = hbytes H 10 ++ z.take (n - 40) := by
      rw [List.take_append, List.take_of_length_le (by omega), hl]
    rw [this]
    refine hdr_no H hg _ h0 h5 h6 ?_
    rw [h1, List.length_take]
    omega
theorem blob_more (t : S29) (h : BlobOk t) (b : Int) : decode_Header.f (blobB t ++ [b]) = some (.zero, 4) := by
  obtain ⟨H, z, hg, h0, h5, h6, h1, e, hz⟩ := blob_split t h
  rw [e, List.append_assoc]
  refine hdr_no H hg _ h0 h5 h6 ?_
  rw [h1, List.length_append]
  simp only [List.length_cons, List.length_nil]
  omega
end Go.Proofs.Ytkopmkinlanhoaa.PE

namespace Go.Proofs.Ytkopmkinlanhoaa.PE
open Go.RowKit Go.Proofs.YtkopmkinlanhoaaW.PrintWords Go.Proofs.YtkopmkinlanhoaaW.PrintLast Go.Proofs.YtkopmkinlanhoaaW.PrintMore
attribute [local go_sem] max2_int min2_int max_two min_two max_three min_three max_four min_four
set_option linter.unusedVariables false
set_option linter.unusedSimpArgs false
open Go.Proofs.Ytkopmkinlanhoaa.Aid Go.Proofs.Ytkopmkinlanhoaa.Rdr
set_option maxRecDepth 100000 in
set_option maxHeartbeats 4000000 in
theorem cuts.calls (t : S29) (A1 : Option Addr) (c1 : Nat) (A3 : Option Addr) (c3 : Nat) (A4 : Option Addr) (c4 : Nat) (w : World) (hT : TreeC w t A1 c1 A3 c3 A4 c4) (hok : BlobOk t) (cut : Int) (hcut : 0 ≤ cut ∧ cut < 65536) (be : Int) (k : Nat) (few : Bool) (hfew : arboretlaw03_Few.f k t.f0 t.f1 t.f2.f0 t.f2.f1 t.f2.f2 = some few)
    (chk : Int) (hchk : arboretref01_Check.f k t.f0 t.f1 t.f2.f0 t.f2.f1 t.f2.f2 = some chk) :
    Calls Try.prog 5 #[treeV t A1 c1 A3 c3 A4 c4, .int .u16 cut, .int .u8 be] w fun e w' => e = .returned (.bool true) ∧ Below w.heap.size w w' := by
  have hu29 := Try.underlying29
  have hu27 := Try.underlying27
  have hb0 : Below w.heap.size w (w.alloc (.cells #[.int .u32 t.f0, .slice A1 t.f1.length c1, .string t.f2.f0, .slice A3 t.f2.f1.length c3, .slice A4 t.f2.f2.length c4] 29)) := below_alloc (Below.refl w.heap.size w) _
  have HB0 := Aside0.mk hb0
  have HK := Aside0.mk (blk_new w (.cells #[.int .u32 t.f0, .slice A1 t.f1.length c1, .string t.f2.f0, .slice A3 t.f2.f1.length c3, .slice A4 t.f2.f2.length c4] 29 (0, 0)))
  have HF := Aside0.mk (fun (W : World) (hb : Below w.heap.size w W) => arboretlaw03_Few.calls k t.f0 A1 c1 t.f1 t.f2.f0 A3 c3 t.f2.f1 A4 c4 t.f2.f2 few W (hT.below hb).r1 hT.l1 (hT.below hb).r3 hT.l3 (hT.below hb).r4 hT.l4 hfew)
  have HC := Aside0.mk (fun (W : World) (hb : Below w.heap.size w W) => arboretref01_Check.calls k t.f0 A1 c1 t.f1 t.f2.f0 A3 c3 t.f2.f1 A4 c4 t.f2.f2 chk W (hT.below hb).r1 hT.l1 (hT.below hb).r3 hT.l3 (hT.below hb).r4 hT.l4 hchk)
  have hszs := hok.szs
  have htoks := hok.toks
  have hlen := blob_len t hok
  have hdc := blob_cut t hok
  have hdm := blob_more t hok be
  obtain ⟨xb, hxb⟩ : ∃ xb, xb = blobB t := ⟨_, rfl⟩
  have HX := Aside0.mk (fun (W : World) (hb : Below w.heap.size w W) => blob.calls t A1 c1 A3 c3 A4 c4 W (hT.below hb) hok.boot hok.res hok.bulk hok.len (by omega) (by omega))
  rw [← hxb] at HX hlen hdc hdm
  cases few with
  | false =>
    clear hT hok hfew hchk hszs htoks hlen hdc hdm hxb HX HC
    go_enter Try.func5, Try.ntmps5
    go_wp2_with (first | (go_at_call 15; refine (awake04 w2).mono ?_; rintro e w3 ⟨rfl, hb⟩; have HB3 := Aside0.mk (below_step HB2.out hb); clear hb) | (go_at_call 19; refine (HF.out _ HB1.out).mono ?_; rintro e w2 ⟨rfl, hb⟩; have HB2 := Aside0.mk (below_step HB1.out hb); have HK := Aside0.mk (blk_below HK.out hb); have z0 : w2.cell? ⟨w.heap.size, 0, none⟩ = some (.int .u32 t.f0) := (blk_cell HK.out 0).trans rfl; have z1 : w2.cell? ⟨w.heap.size, 1, none⟩ = some (.slice A1 t.f1.length c1) := (blk_cell HK.out 1).trans rfl; have z2 : w2.cell? ⟨w.heap.size, 2, none⟩ = some (.string t.f2.f0) := (blk_cell HK.out 2).trans rfl; have z3 : w2.cell? ⟨w.heap.size, 3, none⟩ = some (.slice A3 t.f2.f1.length c3) := (blk_cell HK.out 3).trans rfl; have z4 : w2.cell? ⟨w.heap.size, 4, none⟩ = some (.slice A4 t.f2.f2.length c4) := (blk_cell HK.out 4).trans rfl; clear hb) | (go_at_call 15; refine (awake04 (w.alloc (.cells #[.int .u32 t.f0, .slice A1 t.f1.length c1, .string t.f2.f0, .slice A3 t.f2.f1.length c3, .slice A4 t.f2.f2.length c4] 29))).mono ?_; rintro e w1 ⟨rfl, hb⟩; have HB1 := Aside0.mk (below_step HB0.out hb); have HK := Aside0.mk (blk_below HK.out hb); have z0 : w1.cell? ⟨w.heap.size, 0, none⟩ = some (.int .u32 t.f0) := (blk_cell HK.out 0).trans rfl; have z1 : w1.cell? ⟨w.heap.size, 1, none⟩ = some (.slice A1 t.f1.length c1) := (blk_cell HK.out 1).trans rfl; have z2 : w1.cell? ⟨w.heap.size, 2, none⟩ = some (.string t.f2.f0) := (blk_cell HK.out 2).trans rfl; have z3 : w1.cell? ⟨w.heap.size, 3, none⟩ = some (.slice A3 t.f2.f1.length c3) := (blk_cell HK.out 3).trans rfl; have z4 : w1.cell? ⟨w.heap.size, 4, none⟩ = some (.slice A4 t.f2.f2.length c4) := (blk_cell HK.out 4).trans rfl; clear hb))
    refine bodyPost_ret (results_tmp rfl _ _ _) rfl ?_
    exact ⟨rfl, HB3.out⟩
  | true =>
    by_cases hc : chk = 0
    · subst hc
      obtain ⟨n, hn⟩ : ∃ n : Nat, n = (cut.tmod xb.length).toNat := ⟨_, rfl⟩
      have hn2 : cut.tmod (xb.length : Int) = (n : Int) := by
        have := Int.tmod_nonneg (xb.length : Int) hcut.1
        omega
      have hn3 : n < xb.length := by
        have := Int.tmod_lt_of_pos cut (b := (xb.length : Int)) (by omega)
        omega
      have hwc : Go.RowKit.wrap64 cut = cut := w64 (by omega) (by omega)
      have hwn : Go.RowKit.wrap64 (n : Int) = (n : Int) := w64 (by omega) (by omega)
      have hnz : ((xb.length : Int) == 0) = false := beq_eq_false_iff_ne.mpr (by omega)
      obtain ⟨yb, hyb⟩ : ∃ yb, yb = xb.take n := ⟨_, rfl⟩
      have hyl : n = yb.length := by rw [hyb, List.length_take]; omega
      have HD1 : Aside0 (decode_Header.f yb = some (.zero, 4)) := ⟨by rw [hyb]; exact hdc n hn3⟩
      obtain ⟨zb, hzb_⟩ : ∃ zb, zb = xb ++ [be] := ⟨_, rfl⟩
      have HZB := Aside0.mk hzb_
      rw [← hzb_] at hdm
      have HD2 := Aside0.mk hdm
      have HLA : Aside0 ((([] : List Int).length + xb.length) * 1 ≤ 140737488355328) := ⟨by rw [List.length_nil]; omega⟩
      have HLB : Aside0 ((xb.length + 1) * 1 ≤ 140737488355328) := ⟨by omega⟩
      clear hzb_
      have HYX : Aside0 (yb.length ≤ xb.length) := ⟨by omega⟩
      have HYL := Aside0.mk hyl
      have HNI : Aside0 ((n : Int) ≤ (xb.length : Int)) := ⟨by omega⟩
      obtain ⟨i0, hi0, hza, hsz, hzb⟩ := info_parts info5
      have HI := Aside0.mk hi0
      have HNX : Aside0 (n ≤ xb.length) := ⟨by omega⟩
      clear hi0 hza hsz hzb
      have HYB := Aside0.mk hyb
      clear hT hok hfew hchk hszs htoks hdc hdm hxb hcut hn hn3 hyb hyl
      go_enter Try.func5, Try.ntmps5
      go_wp2_with (first | (go_at_call 22; refine (decode_Decode.err A7 c7 zb 4 w44 HE44.out HL44.out HD2.out (by decide)).mono ?_; rintro e w45 ⟨rfl, hb⟩; have HB45 := Aside0.mk (below_step HB44.out hb); clear hb) | ((with_reducible refine gate_builtin (b := .append) (xs := #[.tmp 41, .tmp 43]) rfl ?_); at_builtin; refine Kd.R_append (Kd.int .u8) (w0 := w) w.heap.size rfl (.tmp 41) (.tmp 43) 45 5 (.int .u8 0) 1 rfl Try.underlying45 info5 rfl (by decide) (by decide) _ xb be [.int .u8 be] (fun _ => True) (fun _ => False) rfl (by first | (go_simp; done) | (go_simp; rfl)) ?aP (fun _ hk => hk.elim) ?aF ?aO ?aB ?aS ?aL ?_; (case aP => exact rfl); (case aB => exact HB41.out); (case aF => exact (fun _ _ => trivial)); (case aO => exact HR41.out); (case aS => exact HB41.out.size); (case aL => exact HLB.out); intro v44 w44 ho hb hg hat; rw [← HZB.out] at ho; obtain ⟨A7, c7, rfl, hc7, hC7⟩ := Kd.R_reads ho; have HE44 := Aside0.mk hC7; have HL44 := Aside0.mk hc7; have HB44 := Aside0.mk hb; clear ho hb hg hat hc7 hC7) | ((with_reducible refine gate_builtin (b := .append) (xs := #[.tmp 39, .tmp 40]) rfl ?_); at_builtin; refine Kd.R_append_rows (Kd.int .u8) (w0 := w) w.heap.size rfl (.tmp 39) (.tmp 40) 45 5 (.int .u8 0) 1 rfl Try.underlying45 info5 rfl (by decide) (by decide) _ [] xb _ _ _ (fun _ => True) (fun _ => False) rfl rfl ?aO ?aR (fun _ _ h => h) (fun _ h => h.elim) (fun _ _ => trivial) ?aB ?aS ?aL ?_; (case aO => exact HR39.out); (case aR => exact HE39.out); (case aB => exact HB39.out); (case aS => exact HB39.out.size); (case aL => exact HLA.out); intro v41 w41 ho hb hg hat; rw [List.nil_append] at ho; have HR41 := Aside0.mk ho; have HB41 := Aside0.mk hb; clear ho hb hg hat) | ((with_reducible refine gate_dst (N := 39) rfl ?_); refine Kd.R_lit (Kd.int .u8) _ 5 ?hg (N := 39) ?hd (xs := ([] : List Int)) (inner := []) (ok := fun _ => True) (okp := fun _ => True) ?hr ?hp (fun _ hk => hk) trivial (Below.refl _ _) (Nat.le_refl _) (by simp) ?_; (case hd => rfl); (case hg => rfl); (case hr => first | (go_simp; done) | (go_simp; rfl)); (case hp => exact (Reps.none _ _)); intro v39 w39 ho hb hg_ hnew_; clear hg_ hnew_; have HR39 := Aside0.mk (Kd.R_lower (base' := w.heap.size) ho HB5.out.size); have HB39 := Aside0.mk (below_step HB5.out hb); have HE39 := Aside0.mk (Kd.C_below HE5.out hb); clear ho hb) | (go_at_call 22; refine (decode_Decode.err A6 c6 yb 4 w4 HY4.out (Nat.le_trans HYX.out HL4.out) HD1.out (by decide)).mono ?_; rintro e w5 ⟨rfl, hb⟩; have hbx := below_step hb (below_alloc (Below.refl w5.heap.size w5) (.cells #[.int .u32 0, .slice none 0 0, .string ⟨#[]⟩, .slice none 0 0, .slice none 0 0] 29)); have HB5 := Aside0.mk (below_step HB4.out hbx); have HE5 := Aside0.mk (Kd.C_below HE4.out hbx); clear hb hbx) | (go_at_call 21; refine (HX.out _ HB3.out).mono ?_; rintro e w4 ⟨v4, rfl, hr, hb⟩; obtain ⟨A6, c6, rfl, hc6, hC6⟩ := Kd.R_reads hr; have HB4 := Aside0.mk (below_step HB3.out hb); have HE4 := Aside0.mk hC6; have HL4 := Aside0.mk hc6; have hct : ∀ W : World, (Instr.slice 45 (.slice A6 xb.length c6) none (some (.int .i64 (n : Int))) none).run Try.prog W = .ok (.slice A6 yb.length c6) W := fun W => (cut_to 45 5 .i64 Try.underlying45 HI.out A6 xb.length c6 (n : Int) (Int.natCast_nonneg n) HNI.out hc6 W).trans (by rw [show ((n : Int)).toNat = yb.length from HYL.out]); have HY4 : Aside0 (Kd.C (Kd.int .u8) w4 A6 yb.length yb) := ⟨by rw [HYB.out]; exact Kd.C_take hC6 HNX.out⟩; clear hr hb hC6 hc6) | (go_at_call 20; refine (HC.out _ HB2.out).mono ?_; rintro e w3 ⟨rfl, hb⟩; have HB3 := Aside0.mk (below_step HB2.out hb); have HK := Aside0.mk (blk_below HK.out hb); have z0 : w3.cell? ⟨w.heap.size, 0, none⟩ = some (.int .u32 t.f0) := (blk_cell HK.out 0).trans rfl; have z1 : w3.cell? ⟨w.heap.size, 1, none⟩ = some (.slice A1 t.f1.length c1) := (blk_cell HK.out 1).trans rfl; have z2 : w3.cell? ⟨w.heap.size, 2, none⟩ = some (.string t.f2.f0) := (blk_cell HK.out 2).trans rfl; have z3 : w3.cell? ⟨w.heap.size, 3, none⟩ = some (.slice A3 t.f2.f1.length c3) := (blk_cell HK.out 3).trans rfl; have z4 : w3.cell? ⟨w.heap.size, 4, none⟩ = some (.slice A4 t.f2.f2.length c4) := (blk_cell HK.out 4).trans rfl; clear hb) | (go_at_call 19; refine (HF.out _ HB1.out).mono ?_; rintro e w2 ⟨rfl, hb⟩; have HB2 := Aside0.mk (below_step HB1.out hb); have HK := Aside0.mk (blk_below HK.out hb); have z0 : w2.cell? ⟨w.heap.size, 0, none⟩ = some (.int .u32 t.f0) := (blk_cell HK.out 0).trans rfl; have z1 : w2.cell? ⟨w.heap.size, 1, none⟩ = some (.slice A1 t.f1.length c1) := (blk_cell HK.out 1).trans rfl; have z2 : w2.cell? ⟨w.heap.size, 2, none⟩ = some (.string t.f2.f0) := (blk_cell HK.out 2).trans rfl; have z3 : w2.cell? ⟨w.heap.size, 3, none⟩ = some (.slice A3 t.f2.f1.length c3) := (blk_cell HK.out 3).trans rfl; have z4 : w2.cell? ⟨w.heap.size, 4, none⟩ = some (.slice A4 t.f2.f2.length c4) := (blk_cell HK.out 4).trans rfl; clear hb) | (go_at_call 15; refine (awake04 (w.alloc (.cells #[.int .u32 t.f0, .slice A1 t.f1.length c1, .string t.f2.f0, .slice A3 t.f2.f1.length c3, .slice A4 t.f2.f2.length c4] 29))).mono ?_; rintro e w1 ⟨rfl, hb⟩; have HB1 := Aside0.mk (below_step HB0.out hb); have HK := Aside0.mk (blk_below HK.out hb); have z0 : w1.cell? ⟨w.heap.size, 0, none⟩ = some (.int .u32 t.f0) := (blk_cell HK.out 0).trans rfl; have z1 : w1.cell? ⟨w.heap.size, 1, none⟩ = some (.slice A1 t.f1.length c1) := (blk_cell HK.out 1).trans rfl; have z2 : w1.cell? ⟨w.heap.size, 2, none⟩ = some (.string t.f2.f0) := (blk_cell HK.out 2).trans rfl; have z3 : w1.cell? ⟨w.heap.size, 3, none⟩ = some (.slice A3 t.f2.f1.length c3) := (blk_cell HK.out 3).trans rfl; have z4 : w1.cell? ⟨w.heap.size, 4, none⟩ = some (.slice A4 t.f2.f2.length c4) := (blk_cell HK.out 4).trans rfl; clear hb))
      refine bodyPost_ret (results_tmp rfl _ _ _) rfl ?_
      exact ⟨rfl, below_alloc HB45.out _⟩
    · have b1 : (chk != 0) = true := bne_iff_ne.mpr hc
      clear hT hok hfew hchk hszs htoks hlen hdc hdm hxb HX hc
      go_enter Try.func5, Try.ntmps5
      go_wp2_with (first | (go_at_call 15; refine (awake04 w3).mono ?_; rintro e w4 ⟨rfl, hb⟩; have HB4 := Aside0.mk (below_step HB3.out hb); clear hb) | (go_at_call 20; refine (HC.out _ HB2.out).mono ?_; rintro e w3 ⟨rfl, hb⟩; have HB3 := Aside0.mk (below_step HB2.out hb); have HK := Aside0.mk (blk_below HK.out hb); have z0 : w3.cell? ⟨w.heap.size, 0, none⟩ = some (.int .u32 t.f0) := (blk_cell HK.out 0).trans rfl; have z1 : w3.cell? ⟨w.heap.size, 1, none⟩ = some (.slice A1 t.f1.length c1) := (blk_cell HK.out 1).trans rfl; have z2 : w3.cell? ⟨w.heap.size, 2, none⟩ = some (.string t.f2.f0) := (blk_cell HK.out 2).trans rfl; have z3 : w3.cell? ⟨w.heap.size, 3, none⟩ = some (.slice A3 t.f2.f1.length c3) := (blk_cell HK.out 3).trans rfl; have z4 : w3.cell? ⟨w.heap.size, 4, none⟩ = some (.slice A4 t.f2.f2.length c4) := (blk_cell HK.out 4).trans rfl; clear hb) | (go_at_call 19; refine (HF.out _ HB1.out).mono ?_; rintro e w2 ⟨rfl, hb⟩; have HB2 := Aside0.mk (below_step HB1.out hb); have HK := Aside0.mk (blk_below HK.out hb); have z0 : w2.cell? ⟨w.heap.size, 0, none⟩ = some (.int .u32 t.f0) := (blk_cell HK.out 0).trans rfl; have z1 : w2.cell? ⟨w.heap.size, 1, none⟩ = some (.slice A1 t.f1.length c1) := (blk_cell HK.out 1).trans rfl; have z2 : w2.cell? ⟨w.heap.size, 2, none⟩ = some (.string t.f2.f0) := (blk_cell HK.out 2).trans rfl; have z3 : w2.cell? ⟨w.heap.size, 3, none⟩ = some (.slice A3 t.f2.f1.length c3) := (blk_cell HK.out 3).trans rfl; have z4 : w2.cell? ⟨w.heap.size, 4, none⟩ = some (.slice A4 t.f2.f2.length c4) := (blk_cell HK.out 4).trans rfl; clear hb) | (go_at_call 15; refine (awake04 (w.alloc (.cells #[.int .u32 t.f0, .slice A1 t.f1.length c1, .string t.f2.f0, .slice A3 t.f2.f1.length c3, .slice A4 t.f2.f2.length c4] 29))).mono ?_; rintro e w1 ⟨rfl, hb⟩; have HB1 := Aside0.mk (below_step HB0.out hb); have HK := Aside0.mk (blk_below HK.out hb); have z0 : w1.cell? ⟨w.heap.size, 0, none⟩ = some (.int .u32 t.f0) := (blk_cell HK.out 0).trans rfl; have z1 : w1.cell? ⟨w.heap.size, 1, none⟩ = some (.slice A1 t.f1.length c1) := (blk_cell HK.out 1).trans rfl; have z2 : w1.cell? ⟨w.heap.size, 2, none⟩ = some (.string t.f2.f0) := (blk_cell HK.out 2).trans rfl; have z3 : w1.cell? ⟨w.heap.size, 3, none⟩ = some (.slice A3 t.f2.f1.length c3) := (blk_cell HK.out 3).trans rfl; have z4 : w1.cell? ⟨w.heap.size, 4, none⟩ = some (.slice A4 t.f2.f2.length c4) := (blk_cell HK.out 4).trans rfl; clear hb))
      refine bodyPost_ret (results_tmp rfl _ _ _) rfl ?_
      exact ⟨rfl, HB4.out⟩
end Go.Proofs.Ytkopmkinlanhoaa.PE

namespace Go.Proofs.Ytkopmkinlanhoaa.PE
open Go.RowKit Go.Proofs.YtkopmkinlanhoaaW.PrintWords Go.Proofs.YtkopmkinlanhoaaW.PrintLast Go.Proofs.YtkopmkinlanhoaaW.PrintMore
attribute [local go_sem] max2_int min2_int max_two min_two max_three min_three max_four min_four
set_option linter.unusedVariables false
set_option linter.unusedSimpArgs false
def CutsFact (k : Nat) (t : S29) (cut : Int) : Prop := BlobOk t ∧ (0 ≤ cut ∧ cut < 65536) ∧ (∃ few, arboretlaw03_Few.f k t.f0 t.f1 t.f2.f0 t.f2.f1 t.f2.f2 = some few) ∧ ∃ chk, arboretref01_Check.f k t.f0 t.f1 t.f2.f0 t.f2.f1 t.f2.f2 = some chk
noncomputable def arboretlaw04_DecodeCuts.f (k : Nat) (a0 : Int) (l1 : List S82) (a2 : ByteArray) (l3 : List S63) (l4 : List S27) (a5 : Int) (a6 : Int) : Option Bool := @ite _ (CutsFact k ⟨a0, l1, ⟨a2, l3, l4⟩⟩ a5) (Classical.propDecidable _) (some true) none
theorem arboretlaw04_DecodeCuts.calls (k : Nat) (a0 : Int) (A1 : Option Addr) (c1 : Nat) (l1 : List S82) (a2 : ByteArray) (A3 : Option Addr) (c3 : Nat) (l3 : List S63) (A4 : Option Addr) (c4 : Nat) (l4 : List S27) (a5 : Int) (a6 : Int) (r : Bool) (w : World)
    (hr1 : Kd.C k82 w A1 l1.length l1) (hc1 : l1.length ≤ c1) (hr3 : Kd.C k63 w A3 l3.length l3) (hc3 : l3.length ≤ c3) (hr4 : Kd.C k27 w A4 l4.length l4) (hc4 : l4.length ≤ c4) (h : arboretlaw04_DecodeCuts.f k a0 l1 a2 l3 l4 a5 a6 = some r) :
    Calls Try.prog 5 #[.agg #[.int .u32 a0, .slice A1 l1.length c1, .string a2, .slice A3 l3.length c3, .slice A4 l4.length c4], .int .u16 a5, .int .u8 a6] w fun e w' => e = .returned (.bool r) ∧ Below w.heap.size w w' := by
  unfold arboretlaw04_DecodeCuts.f at h
  by_cases hf : CutsFact k ⟨a0, l1, ⟨a2, l3, l4⟩⟩ a5
  · rw [if_pos hf] at h
    obtain rfl := Option.some.inj h
    obtain ⟨hok, hc, ⟨few, h1⟩, chk, h2⟩ := hf
    exact cuts.calls ⟨a0, l1, ⟨a2, l3, l4⟩⟩ A1 c1 A3 c3 A4 c4 w ⟨hr1, hc1, hr3, hc3, hr4, hc4⟩ hok a5 hc a6 k few h1 chk h2
  · rw [if_neg hf] at h
    cases h
end Go.Proofs.Ytkopmkinlanhoaa.PE

namespace Go.Proofs.Ytkopmkinlanhoaa.PE
open Go.RowKit Go.Proofs.Ytkopmkinlanhoaa.Rdr Go.Proofs.YtkopmkinlanhoaaW.PrintWords Go.Proofs.YtkopmkinlanhoaaW.PrintLast Go.Proofs.YtkopmkinlanhoaaW.PrintMore
def arboretlaw04_DecodeCuts.Pure : Prop := ∀ (x0 : S29) (x1 : Int) (x2 : Int), bulk29 x0 + (fun _ => 1) x1 + (fun _ => 1) x2 ≤ 1048576 → good29 x0 → (wfI .u16) x1 → (wfI .u8) x2 → ∃ k, arboretlaw04_DecodeCuts.f k x0.f0 x0.f1 x0.f2.f0 x0.f2.f1 x0.f2.f2 x1 x2 = some true
end Go.Proofs.Ytkopmkinlanhoaa.PE

set_option linter.unusedVariables false
set_option linter.unusedSimpArgs false
namespace Go.Proofs.Ytkopmkinlanhoaa.Pure
open Go.RowKit Go.Proofs.Ytkopmkinlanhoaa.PE Go.Proofs.Ytkopmkinlanhoaa.Rdr Go.Proofs.Ytkopmkinlanhoaa.Aid Go.Proofs.YtkopmkinlanhoaaW.PrintWords
theorem DecodeCuts : arboretlaw04_DecodeCuts.Pure := by
  intro t a5 a6 hb gt g5 g6
  have hb2 : 1 + (sumB bulk82 t.f1 + 1) + bulk27 t.f2 + 1 + 1 + 1 ≤ 1048576 := hb
  have hx : bulk27 t.f2 ≤ 1048576 := by omega
  have hr : t.f1.length ≤ 1048576 := by
    have := sumB_len (B := bulk82) (fun r => by unfold bulk82; omega) t.f1
    omega
  obtain ⟨g0, g1, _⟩ := gt
  have ha := wf_u32.mp g0
  have hc := wf_u16.mp g5
  have hres : ∀ r ∈ t.f1, resOk r := fun r hr => by
    obtain ⟨q0, q1⟩ := g1 r hr
    have a := wf_u64.mp q0
    have b := wf_u64.mp q1
    exact ⟨a.1, by omega, b.1, by omega⟩
  obtain ⟨v, k1, hv⟩ := few_ends t.f0 t.f1 t.f2 hx
  obtain ⟨c, _, k2, hcc⟩ := both_check t.f0 t.f1 t.f2 hx hr
  refine ⟨k1 + k2, ?_⟩
  have hfact : CutsFact (k1 + k2) t a5 := ⟨⟨⟨ha.1, by omega⟩, hres, hx, hr⟩, ⟨hc.1, by omega⟩, ⟨v, hv _ (by omega)⟩, c, hcc _ (by omega)⟩
  obtain ⟨a0, l1, ⟨a2, l3, l4⟩⟩ := t
  unfold arboretlaw04_DecodeCuts.f
  exact if_pos hfact
end Go.Proofs.Ytkopmkinlanhoaa.Pure

namespace Go.Proofs.Ytkopmkinlanhoaa.decodeCuts
open Go.ChangeShapes Go.WideShapes Go.ChangeAt Go.RowKit Go.Proofs.Ytkopmkinlanhoaa.Rdr Go.Proofs.Ytkopmkinlanhoaa.PE
open Go.ChangeMaps (open_string shut_string)
set_option linter.unusedVariables false
set_option linter.unusedSimpArgs false
theorem own : ownKnob Try.prog.godebug = none := by kernel_rfl
theorem laidOut : laidOutB Try.prog = true := by kernel_rfl
set_option maxRecDepth 100000 in
theorem contract (H : Type) (enc : TypeId × Value → H) (W : World) (base : Nat) (args : Array Value) (ds gs : List (DataW H)) (before : List MemPlace)
    (hval0 : ∀ (j : Nat) t v, Try.f5.params[j]? = some t → args[j]? = some v → Value.okWide Try.prog W .any base t v)
    (hW : DataW.Whole enc Try.prog Try.f5.params.toList Rows.decodeCutsSpec.vars false W args.toList ds gs before) (hk : Rows.uptoSmall H (ds ++ gs) = true) :
    Calls Try.prog 5 args W fun e W' => ∃ v, e = .returned v ∧ Rows.decodeCutsSpec.post enc Try.prog Try.f5 false true false false W args v W' := by
  have hval : ∀ (j : Nat) t v, Try.f5.params[j]? = some t → args[j]? = some v → Value.okWide Try.prog W .any base t v := hval0
  have hW' := hW
  obtain ⟨p, q, hA0, hV, rfl, hfz, hnd⟩ := hW
  have hA : DataW.TrodAll enc Try.prog W 0 (fun _ => true) true Try.f5.params.toList args.toList ds p := hA0
  rw [Try.params5] at hA hval
  obtain ⟨v0, vs0, d0, ds0, p0, q0, hargs, rfl, rfl, h0, tr0⟩ := trodAll_cons hA
  obtain ⟨v1, vs1, d1, ds1, p1, q1, rfl, rfl, rfl, h1, tr1⟩ := trodAll_cons tr0
  obtain ⟨v2, vs2, d2, ds2, p2, q2, rfl, rfl, rfl, h2, tr2⟩ := trodAll_cons tr1
  obtain ⟨rfl, rfl, rfl⟩ := trodAll_nil tr2
  obtain rfl : args = #[v0, v1, v2] := by cases args; simp_all
  obtain ⟨rfl, rfl⟩ := trodVars_none hV
  have hb := bound hk
  simp only [List.append_nil, Rows.uptoBulkAll, List.nil_append] at hb
  have k0 := h0
  have lt0 : ∀ x ∈ p0, x.block < W.heap.size := by obtain ⟨m, hm⟩ := k0; exact DataW.trod_lt m _ _ _ hm
  have k1 := h1
  have lt1 : ∀ x ∈ p1, x.block < W.heap.size := by obtain ⟨m, hm⟩ := k1; exact DataW.trod_lt m _ _ _ hm
  have k2 := h2
  have lt2 : ∀ x ∈ p2, x.block < W.heap.size := by obtain ⟨m, hm⟩ := k2; exact DataW.trod_lt m _ _ _ hm
  obtain ⟨cs0, rfl, hcs0⟩ : ∃ cs, v0 = .agg cs ∧ True := by
    have z := (hval 0 29 v0 rfl rfl)
    simp only [Value.okWide, Try.underlying29] at z
    obtain ⟨cs, hc, _⟩ := z
    exact ⟨cs, hc, trivial⟩
  obtain ⟨f0, hf0⟩ := h0
  obtain ⟨x0, K0, b0, g0⟩ := rd29 W f0 H enc f0 (Nat.le_refl _) _ _ hf0
  obtain ⟨A0_1, c0_1, A0_3, c0_3, A0_4, c0_4, e0, l0_1, r0_1, l0_3, r0_3, l0_4, r0_4⟩ := k29_open K0
  obtain ⟨cl0⟩ := cs0
  have e0' : cl0 = _ := e0
  subst e0'
  obtain ⟨x1, rfl, rfl, rfl, g1⟩ := open_int Try.underlying44 (hval 1 44 v1 rfl rfl) h1
  obtain ⟨x2, rfl, rfl, rfl, g2⟩ := open_int Try.underlying5 (hval 2 5 v2 rfl rfl) h2
  obtain ⟨k, hk_⟩ := Pure.DecodeCuts x0 x1 x2 (by (try simp only [Rows.uptoBulk, Array.length_toList] at hb); first | omega | (simp only [ByteArray.size] at *; omega)) g0 g1 g2
  refine (arboretlaw04_DecodeCuts.calls k x0.f0 A0_1 c0_1 x0.f1 x0.f2.f0 A0_3 c0_3 x0.f2.f1 A0_4 c0_4 x0.f2.f2 x1 x2 true W r0_1 l0_1 r0_3 l0_3 r0_4 l0_4 hk_).mono fun e W' ⟨he, bel0⟩ => ?_
  have bel : Below W.heap.size W W' := bel0
  subst he
  exact ⟨_, rfl, _, _, _, [], _, [], hW', trodAll_mk1 (shut_bool Try.underlying4 _), (trodAll_cons_mk (Below.trod laidOut (by kernel_rfl) (of_decide_eq_true (by kernel_rfl)) k0 bel lt0) (trodAll_cons_mk (Below.trod laidOut (by kernel_rfl) (of_decide_eq_true (by kernel_rfl)) k1 bel lt1) (trodAll_cons_mk (Below.trod laidOut (by kernel_rfl) (of_decide_eq_true (by kernel_rfl)) k2 bel lt2) trodAll_mk0))), rfl, bel.frame _, fun h => by cases h⟩
set_option maxRecDepth 100000 in
theorem lifted (os : Os) (started : os.Started) (H : Type) (enc : TypeId × Value → H) (F : Stop.Interp) :
    ReturnsInHanded {} Try.checked os 5 .any ((Rows.OpenSpec.upto Rows.decodeCutsSpec).pre6 enc Try.prog Try.f5 Rows.decodeCutsUptoRow.domain false) (((Rows.OpenSpec.upto Rows.decodeCutsSpec).at F).post enc Try.prog Try.f5 false true false false) := by
  refine returnsInHanded_of_cond (C := Try.checked) (s := Rows.OpenSpec.upto Rows.decodeCutsSpec) (k := Rows.uptoSmall) rfl own started (by kernel_rfl) Try.func5
    (OpenSpec.witness (enc := enc) (C := Try.checked) (s := Rows.OpenSpec.upto Rows.decodeCutsSpec) (k := Rows.uptoSmall) rfl false ⟨#[], #[.agg #[.int .u32 0, .slice none 0 0, .string ByteArray.empty, .slice none 0 0, .slice none 0 0], .int .u16 0, .int .u8 0], []⟩ 16 (by kernel_rfl) (by kernel_rfl) (by kernel_rfl)
      (x := ([.agg [.lit (.int .u32 0), .nil, .agg [.lit (.string []), .nil, .nil]], .lit (.int .u16 0), .lit (.int .u8 0)], [], [])) (by kernel_rfl) rfl (by kernel_rfl)) ?_
  intro W base args ds gs before hval hW _ hk _
  exact contract H enc W base args ds gs before hval hW hk
theorem over : Rows.decodeCutsUptoRow.holds Try.pinned (Rows.OpenSpec.upto Rows.decodeCutsSpec) :=
  OpenClaim.holds_of_cond 5 Try.f5 rfl rfl rfl rfl rfl rfl rfl ⟨rfl, rfl, rfl, rfl, rfl⟩ rfl rfl rfl rfl rfl (by kernel_rfl) Try.func5 (by kernel_rfl)
    (of_decide_eq_true (by kernel_rfl)) (by unfold Func.isWrapper; first | (rw [if_pos (by decide +kernel)]; kernel_rfl) | (rw [if_neg (by decide +kernel)]; exact ⟨rfl, rfl⟩))
    (fun os started H enc _ F => lifted os started H enc F)
theorem proved : Rows.DecodeCutsUptoSaid := over
end Go.Proofs.Ytkopmkinlanhoaa.decodeCuts
namespace Go.Proofs.Ytkopmkinlanhoaa
theorem decodeCuts_holds : Rows.DecodeCutsUptoSaid := decodeCuts.proved
end Go.Proofs.Ytkopmkinlanhoaa
