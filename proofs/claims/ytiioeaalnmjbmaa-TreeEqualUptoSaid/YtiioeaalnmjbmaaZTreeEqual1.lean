/- TreeEqual: texts of this session's, and what the kit's print laid for this seat, as far as the law's row uses them (Shelf, PEx0, PEx_api_Reserve_13, PEx_bytes_Clone, PEx_tree_CloneNode, PEx_tree_Clone, PEx_bytes_Equal, PEx_tree_SameNode, PEx_eq45, PEx_api_Reserve_15, PEx_tree_Equal, PEx_arboretref01_Same). -/
import Derived.Shelf.Small.Strs
import Derived.Shelf.Strings.Search1
import Derived.Shelf.Strings.Search2
import Derived.Shelf.Strings.Cut
import Derived.Shelf.LaysM
import Derived.Shelf.Strings.Shaped
import Derived.Shelf.Sort.Plain
import Derived.Shelf.Slices.CompactS
import Derived.Shelf.Slices.In.SortNone
import Derived.Shelf.Bytes.SlEqualAll
import Derived.Shelf.Bytes.Small
import Derived.Test.YtiioeaalnmjbmaaProg
import Derived.WalkSpells
import Derived.Sort.OwnSorted
import Derived.Test.YtiioeaalnmjbmaaZTreeEqual0
set_option linter.unusedVariables false
set_option linter.unusedSimpArgs false
namespace Go.Proofs
end Go.Proofs

namespace Go.Proofs.Ytiioeaalnmjbmaa.PE
open Go.RowKit Go.Proofs.YtiioeaalnmjbmaaW.PrintWords Go.Proofs.YtiioeaalnmjbmaaW.PrintLast Go.Proofs.YtiioeaalnmjbmaaW.PrintMore
attribute [local go_sem] max2_int min2_int max_two min_two max_three min_three max_four min_four   -- for this text's walks alone
set_option linter.unusedVariables false
set_option linter.unusedSimpArgs false
def errW : Option Int → Value
  | none => .nilIface
  | some c => .iface 0 (.int .i64 c)
theorem errW_none : errW none = .nilIface := rfl
theorem errW_some (c : Int) : errW (some c) = .iface 0 (.int .i64 c) := rfl
theorem info5 : (Try.prog.info? 5).map (fun i => (i.zero, i.size, i.bytes)) = some (some (.int .u8 0), 1, 1) := by kernel_rfl
theorem info9 : (Try.prog.info? 9).map (fun i => (i.zero, i.size, i.bytes)) = some (some (.string ⟨#[]⟩), 1, 16) := by kernel_rfl
theorem info27 : (Try.prog.info? 27).map (fun i => (i.zero, i.size, i.bytes)) = some (some (.agg #[(.string ⟨#[]⟩), (.slice none 0 0), (.slice none 0 0)]), 3, 64) := by kernel_rfl
theorem info35 : (Try.prog.info? 35).map (fun i => (i.zero, i.size, i.bytes)) = some (some (.agg #[(.string ⟨#[]⟩), (.slice none 0 0)]), 2, 40) := by kernel_rfl
theorem info45 : (Try.prog.info? 45).map (fun i => (i.zero, i.size, i.bytes)) = some (some (.agg #[(.int .u64 0), (.int .u64 0)]), 2, 16) := by kernel_rfl
structure S45 where
  f0 : Int
  f1 : Int
def z45 : S45 := ⟨(0 : Int), (0 : Int)⟩
def k45 : Kd S45 := Kd.iso (Kd.pair (Kd.int .u64) (Kd.int .u64)) (fun x : S45 => (x.f0, x.f1))
theorem k45_open {w : World} {x : S45} {cs : List Value} (h : k45.K w x cs) : cs = [.int .u64 x.f0, .int .u64 x.f1] := by
  obtain ⟨_, _, rfl, rfl, rfl⟩ := h
  exact rfl
def rd_T45 (xs : List S45) (i : Int) : S45 := xs.getD i.toNat z45
theorem at_T45 {w : World} {A : Option Addr} {n : Nat} {xs : List S45} (h : Kd.C k45 w A n xs) (i : Int) (h0 : 0 ≤ i) (h1 : i < n) : ∃ ad , A = some ad ∧ w.cell? (ad.add (i.toNat * 2)) = some (.int .u64 (rd_T45 xs i).f0) ∧ w.cell? ⟨(ad.add (i.toNat * 2)).block, (ad.add (i.toNat * 2)).off + 1, none⟩ = some (.int .u64 (rd_T45 xs i).f1) := by
  obtain ⟨ad, c, e, _, hK, hc0⟩ := Kd.C_get h z45 i h0 h1
  have hc : ∀ j u, c[j]? = some u → w.cell? (ad.add (i.toNat * 2 + j)) = some u := hc0
  obtain rfl := k45_open hK
  exact ⟨ad, e, hc 0 _ rfl, by rw [← add_field _ _ 1 (by omega)]; exact hc 1 _ rfl⟩
structure S35 where
  f0 : ByteArray
  f1 : (List Int)
def z35 : S35 := ⟨(⟨#[]⟩ : ByteArray), ([] : List Int)⟩
def k35 : Kd S35 := Kd.iso (Kd.pair Kd.string (Kd.slice 5 (Kd.int .u8))) (fun x : S35 => (x.f0, x.f1))
theorem k35_open {w : World} {x : S35} {cs : List Value} (h : k35.K w x cs) : ∃ A1 c1, cs = [.string x.f0, .slice A1 x.f1.length c1] ∧ x.f1.length ≤ c1 ∧ (Kd.int .u8).C w A1 x.f1.length x.f1 := by
  obtain ⟨_, _, rfl, rfl, ⟨A1, c1, rfl, l1, g1⟩⟩ := h
  exact ⟨A1, c1, rfl, l1, g1⟩
theorem k35_openM {w : World} {base : Nat} {ok : Nat → Prop} {x : S35} {cs : List Value} (h : k35.M w base ok x cs) : ∃ v1, cs = [.string x.f0, v1] ∧ (Kd.int .u8).R 5 w base ok v1 x.f1 := by
  obtain ⟨_, _, rfl, rfl, ⟨v1, rfl, g1⟩⟩ := h
  exact ⟨v1, rfl, g1⟩
theorem k35_mkM (w : World) (base : Nat) (ok : Nat → Prop) (x : S35) {v1 : Value} (g1 : (Kd.int .u8).R 5 w base ok v1 x.f1) : k35.M w base ok x [.string x.f0, v1] := ⟨[.string x.f0], [v1], rfl, rfl, ⟨v1, rfl, g1⟩⟩
def rd_T35 (xs : List S35) (i : Int) : S35 := xs.getD i.toNat z35
theorem at_T35 {w : World} {A : Option Addr} {n : Nat} {xs : List S35} (h : Kd.C k35 w A n xs) (i : Int) (h0 : 0 ≤ i) (h1 : i < n) : ∃ ad A1 c1, A = some ad ∧ w.cell? (ad.add (i.toNat * 2)) = some (.string (rd_T35 xs i).f0) ∧ w.cell? ⟨(ad.add (i.toNat * 2)).block, (ad.add (i.toNat * 2)).off + 1, none⟩ = some (.slice A1 (rd_T35 xs i).f1.length c1) ∧ (rd_T35 xs i).f1.length ≤ c1 ∧ (Kd.int .u8).C w A1 (rd_T35 xs i).f1.length (rd_T35 xs i).f1 := by
  obtain ⟨ad, c, e, _, hK, hc0⟩ := Kd.C_get h z35 i h0 h1
  have hc : ∀ j u, c[j]? = some u → w.cell? (ad.add (i.toNat * 2 + j)) = some u := hc0
  obtain ⟨A1, c1, rfl, l1, g1⟩ := k35_open hK
  exact ⟨ad, A1, c1, e, hc 0 _ rfl, by rw [← add_field _ _ 1 (by omega)]; exact hc 1 _ rfl, l1, g1⟩
structure S27 where
  f0 : ByteArray
  f1 : (List S35)
  f2 : (List S27)
def z27 : S27 := ⟨(⟨#[]⟩ : ByteArray), ([] : List S35), ([] : List S27)⟩
def F27 (d : Kd S27) : Kd S27 := Kd.iso (Kd.pair Kd.string (Kd.pair (Kd.slice 35 k35) (Kd.slice 27 d))) (fun x : S27 => (x.f0, x.f1, x.f2))
theorem mono27 : Kd.Mono F27 := Kd.mono_iso _ (Kd.mono_pair (Kd.mono_const _) (Kd.mono_pair (Kd.mono_const _) (Kd.mono_slice 27 Kd.mono_id)))
theorem sub27 : Kd.Sub F27 [5, 27, 35] := Kd.sub_iso _ (Kd.sub_pair (Kd.sub_const _ (by decide)) (Kd.sub_pair (Kd.sub_const _ (by decide)) (Kd.sub_slice 27 (by decide) Kd.sub_id)))
theorem sz27 : ∀ n, (Kd.upto F27 3 [5, 27, 35] n).sz = 3 := Kd.upto_sz (fun _ => rfl)
def k27 : Kd S27 := Kd.fix F27 3 [5, 27, 35] sz27 (Kd.upto_E sub27)
theorem k27_open {w : World} {x : S27} {cs : List Value} (h : k27.K w x cs) : ∃ A1 c1 A2 c2, cs = [.string x.f0, .slice A1 x.f1.length c1, .slice A2 x.f2.length c2] ∧ x.f1.length ≤ c1 ∧ k35.C w A1 x.f1.length x.f1 ∧ x.f2.length ≤ c2 ∧ k27.C w A2 x.f2.length x.f2 := by
  obtain ⟨n, h⟩ := h
  cases n with
  | zero => exact h.elim
  | succ n =>
    obtain ⟨_, _, rfl, rfl, ⟨_, _, rfl, ⟨A1, c1, rfl, l1, g1⟩, ⟨A2, c2, rfl, l2, g2⟩⟩⟩ := h
    exact ⟨A1, c1, A2, c2, rfl, l1, g1, l2, Kd.fix_C g2⟩
theorem k27_openM {w : World} {base : Nat} {ok : Nat → Prop} {x : S27} {cs : List Value} (h : k27.M w base ok x cs) : ∃ v1 v2, cs = [.string x.f0, v1, v2] ∧ k35.R 35 w base ok v1 x.f1 ∧ k27.R 27 w base ok v2 x.f2 := by
  obtain ⟨n, h⟩ := h
  cases n with
  | zero => exact h.elim
  | succ n =>
    obtain ⟨_, _, rfl, rfl, ⟨_, _, rfl, ⟨v1, rfl, g1⟩, ⟨v2, rfl, g2⟩⟩⟩ := h
    exact ⟨v1, v2, rfl, g1, Kd.fix_R g2⟩
theorem k27_mk (w : World) (x : S27) {A1 : Option Addr} {c1 : Nat} (l1 : x.f1.length ≤ c1) (g1 : k35.C w A1 x.f1.length x.f1) {A2 : Option Addr} {c2 : Nat} (l2 : x.f2.length ≤ c2) (g2 : k27.C w A2 x.f2.length x.f2) : k27.K w x [.string x.f0, .slice A1 x.f1.length c1, .slice A2 x.f2.length c2] := by
  obtain ⟨n2, q2⟩ := Kd.fix_C_back mono27 g2
  have r2 := Kd.upto_C_le mono27 sz27 (show n2 ≤ n2 by omega) q2
  exact ⟨n2 + 1, ⟨[.string x.f0], [.slice A1 x.f1.length c1, .slice A2 x.f2.length c2], rfl, rfl, ⟨[.slice A1 x.f1.length c1], [.slice A2 x.f2.length c2], rfl, ⟨A1, c1, rfl, l1, g1⟩, ⟨A2, c2, rfl, l2, r2⟩⟩⟩⟩
theorem k27_mkM (w : World) (base : Nat) (ok : Nat → Prop) (x : S27) {v1 : Value} (g1 : k35.R 35 w base ok v1 x.f1) {v2 : Value} (g2 : k27.R 27 w base ok v2 x.f2) : k27.M w base ok x [.string x.f0, v1, v2] := by
  obtain ⟨n2, q2⟩ := Kd.fix_R_back mono27 g2
  have r2 := Kd.upto_R_le mono27 sz27 (show n2 ≤ n2 by omega) q2
  exact ⟨n2 + 1, ⟨[.string x.f0], [v1, v2], rfl, rfl, ⟨[v1], [v2], rfl, ⟨v1, rfl, g1⟩, ⟨v2, rfl, r2⟩⟩⟩⟩
def rd_T27 (xs : List S27) (i : Int) : S27 := xs.getD i.toNat z27
theorem at_T27 {w : World} {A : Option Addr} {n : Nat} {xs : List S27} (h : Kd.C k27 w A n xs) (i : Int) (h0 : 0 ≤ i) (h1 : i < n) : ∃ ad A1 c1 A2 c2, A = some ad ∧ w.cell? (ad.add (i.toNat * 3)) = some (.string (rd_T27 xs i).f0) ∧ w.cell? ⟨(ad.add (i.toNat * 3)).block, (ad.add (i.toNat * 3)).off + 1, none⟩ = some (.slice A1 (rd_T27 xs i).f1.length c1) ∧ w.cell? ⟨(ad.add (i.toNat * 3)).block, (ad.add (i.toNat * 3)).off + 2, none⟩ = some (.slice A2 (rd_T27 xs i).f2.length c2) ∧ (rd_T27 xs i).f1.length ≤ c1 ∧ k35.C w A1 (rd_T27 xs i).f1.length (rd_T27 xs i).f1 ∧ (rd_T27 xs i).f2.length ≤ c2 ∧ k27.C w A2 (rd_T27 xs i).f2.length (rd_T27 xs i).f2 := by
  obtain ⟨ad, c, e, _, hK, hc0⟩ := Kd.C_get h z27 i h0 h1
  have hc : ∀ j u, c[j]? = some u → w.cell? (ad.add (i.toNat * 3 + j)) = some u := hc0
  obtain ⟨A1, c1, A2, c2, rfl, l1, g1, l2, g2⟩ := k27_open hK
  exact ⟨ad, A1, c1, A2, c2, e, hc 0 _ rfl, by rw [← add_field _ _ 1 (by omega)]; exact hc 1 _ rfl, by rw [← add_field _ _ 2 (by omega)]; exact hc 2 _ rfl, l1, g1, l2, g2⟩
structure S29 where
  f0 : Int
  f1 : (List S45)
  f2 : S27
def k29 : Kd S29 := Kd.iso (Kd.pair (Kd.int .u32) (Kd.pair (Kd.slice 45 k45) k27)) (fun x : S29 => (x.f0, x.f1, x.f2))
theorem k29_open {w : World} {x : S29} {cs : List Value} (h : k29.K w x cs) : ∃ A1 c1 A3 c3 A4 c4, cs = [.int .u32 x.f0, .slice A1 x.f1.length c1, .string x.f2.f0, .slice A3 x.f2.f1.length c3, .slice A4 x.f2.f2.length c4] ∧ x.f1.length ≤ c1 ∧ k45.C w A1 x.f1.length x.f1 ∧ x.f2.f1.length ≤ c3 ∧ k35.C w A3 x.f2.f1.length x.f2.f1 ∧ x.f2.f2.length ≤ c4 ∧ k27.C w A4 x.f2.f2.length x.f2.f2 := by
  obtain ⟨_, _, rfl, rfl, ⟨_, _, rfl, ⟨A1, c1, rfl, l1, g1⟩, s2⟩⟩ := h
  obtain ⟨A3, c3, A4, c4, rfl, l3, g3, l4, g4⟩ := k27_open s2
  exact ⟨A1, c1, A3, c3, A4, c4, rfl, l1, g1, l3, g3, l4, g4⟩
end Go.Proofs.Ytiioeaalnmjbmaa.PE

namespace Go.Proofs.Ytiioeaalnmjbmaa.PE
open Go.RowKit Go.Proofs.YtiioeaalnmjbmaaW.PrintWords Go.Proofs.YtiioeaalnmjbmaaW.PrintLast Go.Proofs.YtiioeaalnmjbmaaW.PrintMore
attribute [local go_sem] max2_int min2_int max_two min_two max_three min_three max_four min_four   -- for this text's walks alone
set_option linter.unusedVariables false
set_option linter.unusedSimpArgs false
def api_Reserve_13.f (l0 : List (S45)) : Option (List (S45)) := if l0.length < 8796093022208 then (some l0) else (none)
set_option maxRecDepth 100000 in
theorem api_Reserve_13.calls (A0 : Option Addr) (c0 : Nat) (l0 : List (S45)) (r : List (S45)) (w : World) (hr0 : Kd.C k45 w A0 l0.length l0) (hc0 : l0.length ≤ c0) (h : api_Reserve_13.f l0 = some r) :
    Calls Try.prog 13 #[.slice A0 l0.length c0] w fun e w' => ∃ v0_ : Value, e = .returned (v0_) ∧ Kd.R k45 45 w' w.heap.size (fun _ => True) v0_ r ∧ Below w.heap.size w w' := by
  unfold api_Reserve_13.f at h
  by_cases c3 : l0.length < 8796093022208
  · rw [if_pos c3] at h
    injection h with h
    subst h
    have HR0 := Aside0.mk hr0
    have HC0 := Aside0.mk hc0
    clear hr0 hc0
    have HB := Aside0.mk (Below.refl w.heap.size w)
    have LMc3 := Aside0.mk c3
    clear c3
    cases A0 with
    | none =>
      have hn : l0 = [] := by
        cases l0 with
        | nil => rfl
        | cons x r =>
          obtain ⟨ad, he, _⟩ := HR0.out.2.2 (by simp)
          cases he
      subst hn
      have q := fun w' : World => Lib.run_eql_slice_nil (P := Try.prog) w' 23 45 none ([] : List (S45)).length c0 0 0 Try.underlying23
      simp only [Option.isNone_none, List.length_nil] at q
      go_enter Try.func13, Try.ntmps13
      go_wp2
      go_ret
      exact ⟨_, rfl, Kd.R_nil _ _ _ _ _, Below.refl _ _⟩
    | some x0 =>
      have q := fun w' : World => Lib.run_eql_slice_nil (P := Try.prog) w' 23 45 (some x0) l0.length c0 0 0 Try.underlying23
      simp only [Option.isNone_some] at q
      obtain ⟨y5, hy5⟩ : ∃ y_ : List (S45), y_ = [] := ⟨_, rfl⟩
      have Ny5 := Aside0.mk hy5
      clear hy5
      obtain ⟨y7, hy7⟩ : ∃ y_ : List (S45), y_ = y5 ++ l0 := ⟨_, rfl⟩
      have Ny7 := Aside0.mk hy7
      clear hy7
      go_enter Try.func13, Try.ntmps13
      go_wp2_with (first | ((with_reducible refine gate_dst (N := 5) rfl ?_); refine Kd.R_lit k45 _ 45 ?hg (N := 5) ?hd (xs := ([] : List (S45))) (inner := []) (ok := fun _ => True) (okp := fun _ => True) ?hr ?hp (fun _ hk => hk) trivial (Below.refl _ _) (Nat.le_refl _) (by simp) ?_; (case hd => rfl); (case hg => rfl); (case hr => first | (go_simp; done) | (go_simp; rfl)); (case hp => exact (Reps.none _ _)); intro v5 w5 ho6 hb hg_ hnew_; clear hg_ hnew_; rw [← Ny5.out] at ho6; have n0_ := Aside0.mk (Kd.R_lower (base' := w.heap.size) ho6 (below_size (by repeat (first | (with_reducible first | exact HB.out | apply below_alloc | apply pw_below_drewN | apply below_drew1) | exact HB.out)))); have n2_ := Aside0.mk (below_step (by repeat (first | (with_reducible first | exact HB.out | apply below_alloc | apply pw_below_drewN | apply below_drew1) | exact HB.out)) hb); clear HB; have HO5 := n0_; have HB := n2_; clear n0_ n2_; clear hb ho6) | ((with_reducible refine gate_builtin (b := .append) (xs := #[.tmp 5, .tmp 6]) rfl ?_); at_builtin; refine Kd.R_append_rows k45 (w0 := w) w.heap.size rfl (.tmp 5) (.tmp 6) 23 45 (.agg #[(.int .u64 0), (.int .u64 0)]) 16 rfl Try.underlying23 info45 rfl (by decide) (by omega) v5 y5 l0 _ _ _ (fun _ => True) (fun _ => False) rfl rfl ?aO ?aR (fun _ _ h => h) (fun _ h => h.elim) (fun _ _ => trivial) ?aB ?aS ?aL ?_; (case aR => repeat (first | exact (Kd.C_below HR0.out HB.out) | (with_reducible refine Kd.C_alloc ?_ _) | (with_reducible refine Kd.C_drewN ?_ _) | (with_reducible refine Kd.C_drew ?_))); (case aB => exact (by repeat (first | (with_reducible first | exact HB.out | apply below_alloc | apply pw_below_drewN | apply below_drew1) | exact HB.out))); (case aO => exact (by (with_reducible repeat (first | apply Kd.R_alloc | apply Kd.R_drewN | apply Kd.R_drew)); exact HO5.out)); (case aS => exact (below_size (by repeat (first | (with_reducible first | exact HB.out | apply below_alloc | apply pw_below_drewN | apply below_drew1) | exact HB.out)))); (case aL => have := LMc3.out; rw [Ny5.out]; simp; omega); intro v7 w7 ho hb hg hat; rw [← Ny7.out] at ho; have n1_ := Aside0.mk (hb); have n2_ := Aside0.mk (ho); clear HB; clear HO5; have HB := n1_; have HO7 := n2_; clear n1_ n2_; clear ho hb hg hat))
      go_ret
      exact ⟨_, rfl, by have e7 : y7 = l0 := (by rw [Ny7.out, Ny5.out]; rfl); rw [← e7]; (with_reducible repeat (first | apply Kd.R_alloc | apply Kd.R_drewN | apply Kd.R_drew)); exact HO7.out, by repeat (first | (with_reducible first | exact HB.out | apply below_alloc | apply pw_below_drewN | apply below_drew1) | exact HB.out)⟩
  · rw [if_neg c3] at h
    cases h
end Go.Proofs.Ytiioeaalnmjbmaa.PE

namespace Go.Proofs.Ytiioeaalnmjbmaa.PE
open Go.RowKit Go.Proofs.YtiioeaalnmjbmaaW.PrintWords Go.Proofs.YtiioeaalnmjbmaaW.PrintLast Go.Proofs.YtiioeaalnmjbmaaW.PrintMore
attribute [local go_sem] max2_int min2_int max_two min_two max_three min_three max_four min_four   -- for this text's walks alone
set_option linter.unusedVariables false
set_option linter.unusedSimpArgs false
def bytes_Clone.f (l0 : List Int) : Option (List Int) := if l0.length < 140737488355328 then (some l0) else (none)
set_option maxRecDepth 100000 in
theorem bytes_Clone.calls (A0 : Option Addr) (c0 : Nat) (l0 : List Int) (r : List Int) (w : World) (hr0 : Kd.C (Kd.int .u8) w A0 l0.length l0) (hc0 : l0.length ≤ c0) (h : bytes_Clone.f l0 = some r) :
    Calls Try.prog 23 #[.slice A0 l0.length c0] w fun e w' => ∃ v0_ : Value, e = .returned (v0_) ∧ Kd.R (Kd.int .u8) 5 w' w.heap.size (fun _ => True) v0_ r ∧ Below w.heap.size w w' := by
  unfold bytes_Clone.f at h
  by_cases c3 : l0.length < 140737488355328
  · rw [if_pos c3] at h
    injection h with h
    subst h
    have HR0 := Aside0.mk hr0
    have HC0 := Aside0.mk hc0
    clear hr0 hc0
    have HB := Aside0.mk (Below.refl w.heap.size w)
    have LMc3 := Aside0.mk c3
    clear c3
    cases A0 with
    | none =>
      have hn : l0 = [] := by
        cases l0 with
        | nil => rfl
        | cons x r =>
          obtain ⟨ad, he, _⟩ := HR0.out.2.2 (by simp)
          cases he
      subst hn
      have q := fun w' : World => Lib.run_eql_slice_nil (P := Try.prog) w' 33 5 none ([] : List Int).length c0 0 0 Try.underlying33
      simp only [Option.isNone_none, List.length_nil] at q
      go_enter Try.func23, Try.ntmps23
      go_wp2
      go_ret
      exact ⟨_, rfl, Kd.R_nil _ _ _ _ _, Below.refl _ _⟩
    | some x0 =>
      have q := fun w' : World => Lib.run_eql_slice_nil (P := Try.prog) w' 33 5 (some x0) l0.length c0 0 0 Try.underlying33
      simp only [Option.isNone_some] at q
      obtain ⟨y5, hy5⟩ : ∃ y_ : List Int, y_ = [] := ⟨_, rfl⟩
      have Ny5 := Aside0.mk hy5
      clear hy5
      obtain ⟨y7, hy7⟩ : ∃ y_ : List Int, y_ = y5 ++ l0 := ⟨_, rfl⟩
      have Ny7 := Aside0.mk hy7
      clear hy7
      go_enter Try.func23, Try.ntmps23
      go_wp2_with (first | ((with_reducible refine gate_dst (N := 5) rfl ?_); refine Kd.R_lit (Kd.int .u8) _ 5 ?hg (N := 5) ?hd (xs := ([] : List Int)) (inner := []) (ok := fun _ => True) (okp := fun _ => True) ?hr ?hp (fun _ hk => hk) trivial (Below.refl _ _) (Nat.le_refl _) (by simp) ?_; (case hd => rfl); (case hg => rfl); (case hr => first | (go_simp; done) | (go_simp; rfl)); (case hp => exact (Reps.none _ _)); intro v5 w5 ho6 hb hg_ hnew_; clear hg_ hnew_; rw [← Ny5.out] at ho6; have n0_ := Aside0.mk (Kd.R_lower (base' := w.heap.size) ho6 (below_size (by repeat (first | (with_reducible first | exact HB.out | apply below_alloc | apply pw_below_drewN | apply below_drew1) | exact HB.out)))); have n2_ := Aside0.mk (below_step (by repeat (first | (with_reducible first | exact HB.out | apply below_alloc | apply pw_below_drewN | apply below_drew1) | exact HB.out)) hb); clear HB; have HO5 := n0_; have HB := n2_; clear n0_ n2_; clear hb ho6) | ((with_reducible refine gate_builtin (b := .append) (xs := #[.tmp 5, .tmp 6]) rfl ?_); at_builtin; refine Kd.R_append_rows (Kd.int .u8) (w0 := w) w.heap.size rfl (.tmp 5) (.tmp 6) 33 5 (.int .u8 0) 1 rfl Try.underlying33 info5 rfl (by decide) (by omega) v5 y5 l0 _ _ _ (fun _ => True) (fun _ => False) rfl rfl ?aO ?aR (fun _ _ h => h) (fun _ h => h.elim) (fun _ _ => trivial) ?aB ?aS ?aL ?_; (case aR => repeat (first | exact (Kd.C_below HR0.out HB.out) | (with_reducible refine Kd.C_alloc ?_ _) | (with_reducible refine Kd.C_drewN ?_ _) | (with_reducible refine Kd.C_drew ?_))); (case aB => exact (by repeat (first | (with_reducible first | exact HB.out | apply below_alloc | apply pw_below_drewN | apply below_drew1) | exact HB.out))); (case aO => exact (by (with_reducible repeat (first | apply Kd.R_alloc | apply Kd.R_drewN | apply Kd.R_drew)); exact HO5.out)); (case aS => exact (below_size (by repeat (first | (with_reducible first | exact HB.out | apply below_alloc | apply pw_below_drewN | apply below_drew1) | exact HB.out)))); (case aL => have := LMc3.out; rw [Ny5.out]; simp; omega); intro v7 w7 ho hb hg hat; rw [← Ny7.out] at ho; have n1_ := Aside0.mk (hb); have n2_ := Aside0.mk (ho); clear HB; clear HO5; have HB := n1_; have HO7 := n2_; clear n1_ n2_; clear ho hb hg hat))
      go_ret
      exact ⟨_, rfl, by have e7 : y7 = l0 := (by rw [Ny7.out, Ny5.out]; rfl); rw [← e7]; (with_reducible repeat (first | apply Kd.R_alloc | apply Kd.R_drewN | apply Kd.R_drew)); exact HO7.out, by repeat (first | (with_reducible first | exact HB.out | apply below_alloc | apply pw_below_drewN | apply below_drew1) | exact HB.out)⟩
  · rw [if_neg c3] at h
    cases h
end Go.Proofs.Ytiioeaalnmjbmaa.PE

namespace Go.Proofs.Ytiioeaalnmjbmaa.PE
open Go.RowKit Go.Proofs.YtiioeaalnmjbmaaW.PrintWords Go.Proofs.YtiioeaalnmjbmaaW.PrintLast Go.Proofs.YtiioeaalnmjbmaaW.PrintMore
attribute [local go_sem] max2_int min2_int max_two min_two max_three min_three max_four min_four   -- for this text's walks alone
set_option linter.unusedVariables false
set_option linter.unusedSimpArgs false
mutual
def tree_CloneNode.l0 : Nat → List (S35) → Int → Int → ByteArray → List (S35) → List (S27) → ByteArray → List (S35) → Option (ByteArray × (List (S35)) × (List (S27)))
  | 0, _, _, _, _, _, _, _, _ => none
  | k + 1, x12, x13, x14, x287000, x287001, x287002, x289000, x289001 => if x14 < x13 then (if 0 ≤ x14 then (if x14 < (x12.length : Int) then ((bytes_Clone.f ((rd_T35 x12 x14).f1)).bind fun t291 => (if x289001.length < 3518437208883 then (tree_CloneNode.l0 k x12 x13 (wrap64 (x14 + 1)) x287000 x287001 x287002 x289000 (x289001 ++ [(⟨(rd_T35 x12 x14).f0, t291⟩ : S35)])) else (none))) else (none)) else (none)) else (tree_CloneNode.l1 k x287002 (x287002.length : Int) 0 x289000 x289001 ([] : List (S27)))
def tree_CloneNode.l1 : Nat → List (S27) → Int → Int → ByteArray → List (S35) → List (S27) → Option (ByteArray × (List (S35)) × (List (S27)))
  | 0, _, _, _, _, _, _ => none
  | k + 1, x31, x32, x33, x289000, x289001, x289002 => if x33 < x32 then (if 0 ≤ x33 then (if x33 < (x31.length : Int) then ((tree_CloneNode.f k ((rd_T27 x31 x33).f0) ((rd_T27 x31 x33).f1) ((rd_T27 x31 x33).f2)).bind fun bt299 => (if x289002.length < 2199023255552 then (tree_CloneNode.l1 k x31 x32 (wrap64 (x33 + 1)) x289000 x289001 (x289002 ++ [(⟨bt299.1, bt299.2.1, bt299.2.2⟩ : S27)])) else (none))) else (none)) else (none)) else (some (x289000, x289001, x289002))
def tree_CloneNode.f : Nat → ByteArray → List (S35) → List (S27) → Option (ByteArray × (List (S35)) × (List (S27)))
  | 0, _, _, _ => none
  | k + 1, a0_0, l0_1, l0_2 => tree_CloneNode.l0 k l0_1 (l0_1.length : Int) 0 a0_0 l0_1 l0_2 a0_0 ([] : List (S35))
end
def tree_CloneNode.T5 : Bool × List (List Nat × List Nat) := (true, [([], []), ([0], [0]), ([], []), ([2], [2]), ([], []), ([4], [4]), ([5], [5]), ([3, 6], [3, 6]), ([7], [7]), ([1, 8, 6], [1, 8]), ([0, 1, 2, 3, 4, 5, 6, 7, 8, 9], []), ([10, 9, 9, 0, 1, 2, 3, 4, 5, 6, 7, 8, 9], [9, 10])])
def tree_CloneNode.B5 : List Nat := [0, 1, 0, 4, 0, 16, 48, 124, 252, 511, 1023, 2047]
theorem tree_CloneNode.tab5 : rtab .any (opsOf Try.f14 5) = tree_CloneNode.T5 := by kernel_rfl
theorem tree_CloneNode.bits5 : waitsOk tree_CloneNode.T5.2 tree_CloneNode.B5 = true := by kernel_rfl
def tree_CloneNode.T10 : Bool × List (List Nat × List Nat) := (true, [([], []), ([0], [0]), ([], []), ([2], [2]), ([3], [3]), ([1, 4, 3], [1, 4]), ([0, 1, 2, 3, 4, 5], []), ([6, 5, 5, 0, 1, 2, 3, 4, 5], [5, 6])])
def tree_CloneNode.B10 : List Nat := [0, 1, 0, 4, 12, 31, 63, 127]
theorem tree_CloneNode.tab10 : rtab .any (opsOf Try.f14 10) = tree_CloneNode.T10 := by kernel_rfl
theorem tree_CloneNode.bits10 : waitsOk tree_CloneNode.T10.2 tree_CloneNode.B10 = true := by kernel_rfl
set_option maxHeartbeats 8000000 in
set_option maxRecDepth 100000 in
theorem tree_CloneNode.calls (k : Nat) : ∀ (a0_0 : ByteArray) (A0_1 : Option Addr) (c0_1 : Nat) (l0_1 : List (S35)) (A0_2 : Option Addr) (c0_2 : Nat) (l0_2 : List (S27)) (r1 : ByteArray) (r2 : List (S35)) (r3 : List (S27)) (w : World) (hr0_1 : Kd.C k35 w A0_1 l0_1.length l0_1) (hc0_1 : l0_1.length ≤ c0_1) (hr0_2 : Kd.C k27 w A0_2 l0_2.length l0_2) (hc0_2 : l0_2.length ≤ c0_2) (h : tree_CloneNode.f k a0_0 l0_1 l0_2 = some (r1, r2, r3)),
    Calls Try.prog 14 #[.agg #[.string a0_0, .slice A0_1 l0_1.length c0_1, .slice A0_2 l0_2.length c0_2]] w fun e w' => ∃ v1_ v2_ : Value, e = .returned (.agg #[.string r1, v1_, v2_]) ∧ Kd.S k35 35 w' w.heap.size (fun _ => True) v1_ r2 ∧ Kd.R k27 27 w' w.heap.size (fun k_ => some k_ ≠ (v1_ : Value).ownBlock) v2_ r3 ∧ Below w.heap.size w w' := by
  induction k using Nat.strongRecOn with
  | _ k ih =>
  intro a0_0 A0_1 c0_1 l0_1 A0_2 c0_2 l0_2 r1 r2 r3 w hr0_1 hc0_1 hr0_2 hc0_2 h
  cases k with
  | zero => exact absurd h (by simp [tree_CloneNode.f])
  | succ k =>
  simp only [tree_CloneNode.f] at h
  have hu27 := Try.underlying27
  have hu35 := Try.underlying35
  have HR0_1 := Aside0.mk hr0_1
  have HC0_1 := Aside0.mk hc0_1
  clear hr0_1 hc0_1
  have HR0_2 := Aside0.mk hr0_2
  have HC0_2 := Aside0.mk hc0_2
  clear hr0_2 hc0_2
  have HB := Aside0.mk (Below.refl w.heap.size w)
  have H : (tree_CloneNode.l0 k l0_1 (l0_1.length : Int) 0 a0_0 l0_1 l0_2 a0_0 ([] : List (S35))) = some (r1, r2, r3) := h
  clear h
  have H' := Aside0.mk H
  clear H
  go_enter Try.func14, Try.ntmps14
  go_wp2_with (first | ((with_reducible refine gate_dst (N := 1) rfl ?_); refine box_event ?hg (N := 1) ?hd (cs := #[.string a0_0, .slice A0_1 l0_1.length c0_1, .slice A0_2 l0_2.length c0_2]) (t := 27) ?hr ?_; (case hd => rfl); (case hg => rfl); (case hr => first | (go_simp; done) | (go_simp; rfl)); intro gb286 hg w2 hbox hb; have n0_ := Aside0.mk (below_step (by repeat (first | (with_reducible first | exact HB.out | apply below_alloc | apply pw_below_drewN | apply below_drew1) | exact HB.out)) hb); have n1_ := Aside0.mk (hbox); have n2_ := Aside0.mk ((by rw [hg]; exact (below_size (by repeat (first | (with_reducible first | exact HB.out | apply below_alloc | apply pw_below_drewN | apply below_drew1) | exact HB.out))) : w.heap.size ≤ gb286)); have n3_ := Aside0.mk ((by rw [hg]; exact (below_size (by repeat (first | (with_reducible first | exact HB.out | apply below_alloc | apply pw_below_drewN | apply below_drew1) | exact HB.out))) : w.heap.size ≤ gb286)); clear HB; have HB := n0_; have BK286 := n1_; have GW286 := n2_; have GE286 := n3_; clear n0_ n1_ n2_ n3_; clear hb hbox hg) | ((with_reducible refine gate_dst (N := 2) rfl ?_); refine box_event ?hg (N := 2) ?hd (cs := #[.string (⟨#[]⟩ : ByteArray), .slice none 0 0, .slice none 0 0]) (t := 27) ?hr ?_; (case hd => rfl); (case hg => rfl); (case hr => first | (go_simp; done) | (go_simp; rfl)); intro gb287 hg w3 hbox hb; have n0_ := Aside0.mk (blk_below (g := gb286) (o := .cells #[.string a0_0, .slice A0_1 l0_1.length c0_1, .slice A0_2 l0_2.length c0_2] 27 (0, 0)) (by (with_reducible repeat (first | refine blk_drewN ?_ _ | refine blk_drew ?_ | refine blk_alloc ?_ _)); exact BK286.out) hb); have n1_ := Aside0.mk (below_step (by repeat (first | (with_reducible first | exact HB.out | apply below_alloc | apply pw_below_drewN | apply below_drew1 | refine below_set ?_ GE286.out) | exact HB.out)) hb); have n2_ := Aside0.mk (hbox); have n3_ := Aside0.mk ((by rw [hg]; exact (below_size (by repeat (first | (with_reducible first | exact HB.out | apply below_alloc | apply pw_below_drewN | apply below_drew1 | refine below_set ?_ GE286.out) | exact HB.out))) : w.heap.size ≤ gb287)); have n4_ := Aside0.mk ((by rw [hg]; exact (below_size (by repeat (first | (with_reducible first | exact HB.out | apply below_alloc | apply pw_below_drewN | apply below_drew1 | refine below_set ?_ GE286.out) | exact HB.out))) : w.heap.size ≤ gb287)); have n5_ := Aside0.mk ((by rw [hg]; exact Nat.ne_of_lt (blk_lt (g := gb286) (o := .cells #[.string a0_0, .slice A0_1 l0_1.length c0_1, .slice A0_2 l0_2.length c0_2] 27 (0, 0)) (by (with_reducible repeat (first | refine blk_drewN ?_ _ | refine blk_drew ?_ | refine blk_alloc ?_ _)); exact BK286.out)) : gb286 ≠ gb287)); have n6_ := Aside0.mk ((by rw [hg]; exact Nat.ne_of_gt (blk_lt (g := gb286) (o := .cells #[.string a0_0, .slice A0_1 l0_1.length c0_1, .slice A0_2 l0_2.length c0_2] 27 (0, 0)) (by (with_reducible repeat (first | refine blk_drewN ?_ _ | refine blk_drew ?_ | refine blk_alloc ?_ _)); exact BK286.out)) : gb287 ≠ gb286)); clear BK286; clear HB; have BK286 := n0_; have HB := n1_; have BK287 := n2_; have GW287 := n3_; have GE287 := n4_; have NB286_287 := n5_; have NB287_286 := n6_; clear n0_ n1_ n2_ n3_ n4_ n5_ n6_; clear hb hbox hg; have hnb4 := NB286_287.out; have hnc4 := NB287_286.out; have hcz5_0 : w3.cell? ⟨gb286, 0, none⟩ = some (.string a0_0) := (blk_cell BK286.out 0).trans rfl; have hcz5_1 : w3.cell? ⟨gb286, 1, none⟩ = some (.slice A0_1 l0_1.length c0_1) := (blk_cell BK286.out 1).trans rfl; have hcz5_2 : w3.cell? ⟨gb286, 2, none⟩ = some (.slice A0_2 l0_2.length c0_2) := (blk_cell BK286.out 2).trans rfl; have hfz5_0 := blk_frozen BK286.out 0; have hfz5_1 := blk_frozen BK286.out 1; have hfz5_2 := blk_frozen BK286.out 2) | ((with_reducible refine gate_dst (N := 3) rfl ?_); refine box_event ?hg (N := 3) ?hd (cs := #[.string (⟨#[]⟩ : ByteArray), .slice none 0 0, .slice none 0 0]) (t := 27) ?hr ?_; (case hd => rfl); (case hg => rfl); (case hr => first | (go_simp; done) | (go_simp; rfl)); intro gb288 hg w6 hbox hb; have n0_ := Aside0.mk (blk_below (g := gb286) (o := .cells #[.string a0_0, .slice A0_1 l0_1.length c0_1, .slice A0_2 l0_2.length c0_2] 27 (0, 0)) (by (with_reducible repeat (first | refine blk_drewN ?_ _ | refine blk_drew ?_ | refine blk_alloc ?_ _)); exact BK286.out) hb); have n1_ := Aside0.mk (blk_below (g := gb287) (o := .cells #[.string (⟨#[]⟩ : ByteArray), .slice none 0 0, .slice none 0 0] 27 (0, 0)) (by (with_reducible repeat (first | refine blk_drewN ?_ _ | refine blk_drew ?_ | refine blk_alloc ?_ _)); exact BK287.out) hb); have n2_ := Aside0.mk (below_step (by repeat (first | (with_reducible first | exact HB.out | apply below_alloc | apply pw_below_drewN | apply below_drew1 | refine below_set ?_ GE286.out | refine below_set ?_ GE287.out) | exact HB.out)) hb); have n3_ := Aside0.mk (hbox); have n4_ := Aside0.mk ((by rw [hg]; exact (below_size (by repeat (first | (with_reducible first | exact HB.out | apply below_alloc | apply pw_below_drewN | apply below_drew1 | refine below_set ?_ GE286.out | refine below_set ?_ GE287.out) | exact HB.out))) : w.heap.size ≤ gb288)); have n5_ := Aside0.mk ((by rw [hg]; exact (below_size (by repeat (first | (with_reducible first | exact HB.out | apply below_alloc | apply pw_below_drewN | apply below_drew1 | refine below_set ?_ GE286.out | refine below_set ?_ GE287.out) | exact HB.out))) : w.heap.size ≤ gb288)); have n6_ := Aside0.mk ((by rw [hg]; exact Nat.ne_of_lt (blk_lt (g := gb286) (o := .cells #[.string a0_0, .slice A0_1 l0_1.length c0_1, .slice A0_2 l0_2.length c0_2] 27 (0, 0)) (by (with_reducible repeat (first | refine blk_drewN ?_ _ | refine blk_drew ?_ | refine blk_alloc ?_ _)); exact BK286.out)) : gb286 ≠ gb288)); have n7_ := Aside0.mk ((by rw [hg]; exact Nat.ne_of_gt (blk_lt (g := gb286) (o := .cells #[.string a0_0, .slice A0_1 l0_1.length c0_1, .slice A0_2 l0_2.length c0_2] 27 (0, 0)) (by (with_reducible repeat (first | refine blk_drewN ?_ _ | refine blk_drew ?_ | refine blk_alloc ?_ _)); exact BK286.out)) : gb288 ≠ gb286)); have n8_ := Aside0.mk ((by rw [hg]; exact Nat.ne_of_lt (blk_lt (g := gb287) (o := .cells #[.string (⟨#[]⟩ : ByteArray), .slice none 0 0, .slice none 0 0] 27 (0, 0)) (by (with_reducible repeat (first | refine blk_drewN ?_ _ | refine blk_drew ?_ | refine blk_alloc ?_ _)); exact BK287.out)) : gb287 ≠ gb288)); have n9_ := Aside0.mk ((by rw [hg]; exact Nat.ne_of_gt (blk_lt (g := gb287) (o := .cells #[.string (⟨#[]⟩ : ByteArray), .slice none 0 0, .slice none 0 0] 27 (0, 0)) (by (with_reducible repeat (first | refine blk_drewN ?_ _ | refine blk_drew ?_ | refine blk_alloc ?_ _)); exact BK287.out)) : gb288 ≠ gb287)); clear BK286; clear BK287; clear HB; have BK286 := n0_; have BK287 := n1_; have HB := n2_; have BK288 := n3_; have GW288 := n4_; have GE288 := n5_; have NB286_288 := n6_; have NB288_286 := n7_; have NB287_288 := n8_; have NB288_287 := n9_; clear n0_ n1_ n2_ n3_ n4_ n5_ n6_ n7_ n8_ n9_; clear hb hbox hg; have hnb7 := NB288_286.out; have hnc7 := NB286_288.out; have hnb8 := NB288_287.out; have hnc8 := NB287_288.out; have hcz9_0 : w6.cell? ⟨gb288, 0, none⟩ = some (.string (⟨#[]⟩ : ByteArray)) := (blk_cell BK288.out 0).trans rfl; have hcz9_1 : w6.cell? ⟨gb288, 1, none⟩ = some (.slice none 0 0) := (blk_cell BK288.out 1).trans rfl; have hcz9_2 : w6.cell? ⟨gb288, 2, none⟩ = some (.slice none 0 0) := (blk_cell BK288.out 2).trans rfl; have hfz9_0 := blk_frozen BK288.out 0; have hfz9_1 := blk_frozen BK288.out 1; have hfz9_2 := blk_frozen BK288.out 2; have hcz10_0 : w6.cell? ⟨gb286, 0, none⟩ = some (.string a0_0) := (blk_cell BK286.out 0).trans rfl; have hcz10_1 : w6.cell? ⟨gb286, 1, none⟩ = some (.slice A0_1 l0_1.length c0_1) := (blk_cell BK286.out 1).trans rfl; have hcz10_2 : w6.cell? ⟨gb286, 2, none⟩ = some (.slice A0_2 l0_2.length c0_2) := (blk_cell BK286.out 2).trans rfl; have hfz10_0 := blk_frozen BK286.out 0; have hfz10_1 := blk_frozen BK286.out 1; have hfz10_2 := blk_frozen BK286.out 2))
  go_loopg [14] k (fun kq v14 w' => ∃ (x14_1 : Int) (x289001_1 : List (S35)) (u289001 : Value), v14 = .int .i64 x14_1 ∧ Aside0 (tree_CloneNode.l0 kq l0_1 (l0_1.length : Int) x14_1 a0_0 l0_1 l0_2 a0_0 x289001_1 = some (r1, r2, r3)) ∧ Aside0 (kq ≤ k) ∧ Aside0 (Kd.S k35 35 w' w.heap.size (fun _ => True) u289001 x289001_1) ∧ Aside0 (w'.heap[gb286]? = some (.cells #[.string a0_0, (.slice A0_1 l0_1.length c0_1), (.slice A0_2 l0_2.length c0_2)] 27 (0, 0))) ∧ Aside0 (w'.heap[gb287]? = some (.cells #[.string (⟨#[]⟩ : ByteArray), (.slice none 0 0), (.slice none 0 0)] 27 (0, 0))) ∧ Aside0 (w'.heap[gb288]? = some (.cells #[.string a0_0, u289001, (.slice none 0 0)] 27 (0, 0))) ∧ Aside0 (Below w.heap.size w w'))
  case atStart => exact ⟨(0), (([] : List (S35))), (.slice none 0 0), (by first | rfl | (simp; done) | (simp [*]; done)), H', ⟨Nat.le_refl _⟩, ⟨by first | exact Kd.S_nil _ _ _ _ _ | exact Kd.N_nil _ _ _ _ _ | exact Kd.V_nil _ _ _ _ _ | exact Kd.Q_nil _ _ _ _ _ | exact Kd.R_nil _ _ _ _ _⟩, ⟨by (with_reducible repeat (first | refine blk_drewN ?_ _ | refine blk_drew ?_ | refine blk_alloc ?_ _)); refine blk_far ?_ NB286_288.out _; (with_reducible repeat (first | refine blk_drewN ?_ _ | refine blk_drew ?_ | refine blk_alloc ?_ _)); refine blk_far ?_ NB286_288.out _; (with_reducible repeat (first | refine blk_drewN ?_ _ | refine blk_drew ?_ | refine blk_alloc ?_ _)); refine blk_far ?_ NB286_288.out _; (with_reducible repeat (first | refine blk_drewN ?_ _ | refine blk_drew ?_ | refine blk_alloc ?_ _)); exact BK286.out⟩, ⟨by (with_reducible repeat (first | refine blk_drewN ?_ _ | refine blk_drew ?_ | refine blk_alloc ?_ _)); refine blk_far ?_ NB287_288.out _; (with_reducible repeat (first | refine blk_drewN ?_ _ | refine blk_drew ?_ | refine blk_alloc ?_ _)); refine blk_far ?_ NB287_288.out _; (with_reducible repeat (first | refine blk_drewN ?_ _ | refine blk_drew ?_ | refine blk_alloc ?_ _)); refine blk_far ?_ NB287_288.out _; (with_reducible repeat (first | refine blk_drewN ?_ _ | refine blk_drew ?_ | refine blk_alloc ?_ _)); exact BK287.out⟩, ⟨by (with_reducible repeat (first | refine blk_drewN ?_ _ | refine blk_drew ?_ | refine blk_alloc ?_ _)); refine blk_put (cs := #[.string a0_0, .slice none 0 0, .slice none 0 0]) ?_ 2 _ rfl; (with_reducible repeat (first | refine blk_drewN ?_ _ | refine blk_drew ?_ | refine blk_alloc ?_ _)); refine blk_put (cs := #[.string a0_0, .slice none 0 0, .slice none 0 0]) ?_ 1 _ rfl; (with_reducible repeat (first | refine blk_drewN ?_ _ | refine blk_drew ?_ | refine blk_alloc ?_ _)); refine blk_put (cs := #[.string (⟨#[]⟩ : ByteArray), .slice none 0 0, .slice none 0 0]) ?_ 0 _ rfl; (with_reducible repeat (first | refine blk_drewN ?_ _ | refine blk_drew ?_ | refine blk_alloc ?_ _)); exact BK288.out⟩, ⟨by repeat (first | (with_reducible first | exact HB.out | apply below_alloc | apply pw_below_drewN | apply below_drew1 | refine below_set ?_ GE286.out | refine below_set ?_ GE287.out | refine below_set ?_ GE288.out) | exact HB.out)⟩⟩
  case round =>
    clear H'
    try clear c1
    try clear p2
    try clear c4
    try clear c7
    try clear c8
    try clear hcz10_0
    try clear hcz10_1
    try clear hcz10_2
    try clear hcz5_0
    try clear hcz5_1
    try clear hcz5_2
    try clear hcz9_0
    try clear hcz9_1
    try clear hcz9_2
    try clear hfz10_0
    try clear hfz10_1
    try clear hfz10_2
    try clear hfz5_0
    try clear hfz5_1
    try clear hfz5_2
    try clear hfz9_0
    try clear hfz9_1
    try clear hfz9_2
    obtain ⟨x14_1, x289001_1, u289001, rfl, HA, HK1, HO_289001, BK286, BK287, BK288, HB⟩ := hrel
    cases gk with
    | zero => exact absurd HA.out (by simp [tree_CloneNode.l0])
    | succ k1 =>
      have H := HA.out
      clear HA
      simp only [tree_CloneNode.l0] at H
      by_cases c11 : x14_1 < (l0_1.length : Int)
      · rw [if_pos c11] at H
        have c11b0 : decide (x14_1 < (l0_1.length : Int)) = true := decide_eq_true c11
        clear c11
        by_cases c12 : 0 ≤ x14_1
        · rw [if_pos c12] at H
          have c12b0 : decide (0 ≤ x14_1) = true := decide_eq_true c12
          clear c12
          by_cases c13 : x14_1 < (l0_1.length : Int)
          · rw [if_pos c13] at H
            have c13b0 : decide (x14_1 < (l0_1.length : Int)) = true := decide_eq_true c13
            clear c13
            replace H := Option.bind_eq_some_iff.mp H
            obtain ⟨t291, A140, H⟩ := H
            replace H : (if x289001_1.length < 3518437208883 then (tree_CloneNode.l0 k1 l0_1 (l0_1.length : Int) (wrap64 (x14_1 + 1)) a0_0 l0_1 l0_2 a0_0 (x289001_1 ++ [(⟨(rd_T35 l0_1 x14_1).f0, t291⟩ : S35)])) else (none)) = some (r1, r2, r3) := H
            have A14 := Aside0.mk A140
            clear A140
            by_cases c15 : x289001_1.length < 3518437208883
            · rw [if_pos c15] at H
              have LMc15 := Aside0.mk c15
              clear c15
              obtain ⟨y294, hy294⟩ : ∃ y_ : List (S35), y_ = (x289001_1 ++ [(⟨(rd_T35 l0_1 x14_1).f0, t291⟩ : S35)]) := ⟨_, rfl⟩
              replace H : (tree_CloneNode.l0 k1 l0_1 (l0_1.length : Int) (wrap64 (x14_1 + 1)) a0_0 l0_1 l0_2 a0_0 y294) = some (r1, r2, r3) := by first | (rw [hy294]; with_reducible exact H) | (have H2_ := (Option.bind_some _ _).symm.trans H; rw [hy294]; with_reducible exact H2_) | (have H2_ := (Option.bind_some _ _).symm.trans H; with_reducible exact H2_) | with_reducible exact H | (rw [hy294]; exact H) | exact H
              have Ny294 := Aside0.mk hy294
              clear hy294
              have H' := Aside0.mk H
              clear H
              have p289 : 0 ≤ (x14_1 : Int) := of_decide_eq_true (by first | (with_reducible assumption) | assumption)
              have q289 : x14_1 < (l0_1.length : Int) := of_decide_eq_true (by first | (with_reducible assumption) | assumption)
              obtain ⟨ad289, A289_1, c289_1, e289, hx289_0, hx289_1, hl289_1, hi289_1⟩ := at_T35 HR0_1.out x14_1 p289 q289
              cases e289
              replace hx289_0 := (HB.out.cell (World.block_lt_of_cell? w _ hx289_0)).trans hx289_0
              replace hx289_1 := (HB.out.cell (World.block_lt_of_cell? w _ hx289_1)).trans hx289_1
              have HR289_1 := Aside0.mk hi289_1
              have HC289_1 := Aside0.mk hl289_1
              clear hi289_1 hl289_1
              replace p289 := eq_true p289
              replace q289 := eq_true q289
              try go_wp2_with (first | ((with_reducible refine gate_dst (N := 5) rfl ?_); refine box_event ?hg (N := 5) ?hd (cs := #[.string (⟨#[]⟩ : ByteArray), .slice none 0 0]) (t := 35) ?hr ?_; (case hd => rfl); (case hg => rfl); (case hr => first | (go_simp; done) | (go_simp; rfl)); intro gb290 hg w16 hbox hb; have n0_ := Aside0.mk (Kd.S_below (Kd.S_elderB (by (with_reducible repeat (first | apply Kd.S_alloc | apply Kd.S_drewN | apply Kd.S_drew)); exact HO_289001.out) gb290 (Nat.le_of_eq hg.symm)) hb); have n1_ := Aside0.mk (blk_below (g := gb286) (o := .cells #[.string a0_0, .slice (some ad289) l0_1.length c0_1, .slice A0_2 l0_2.length c0_2] 27 (0, 0)) (by (with_reducible repeat (first | refine blk_drewN ?_ _ | refine blk_drew ?_ | refine blk_alloc ?_ _)); exact BK286.out) hb); have n2_ := Aside0.mk (blk_below (g := gb287) (o := .cells #[.string (⟨#[]⟩ : ByteArray), .slice none 0 0, .slice none 0 0] 27 (0, 0)) (by (with_reducible repeat (first | refine blk_drewN ?_ _ | refine blk_drew ?_ | refine blk_alloc ?_ _)); exact BK287.out) hb); have n3_ := Aside0.mk (blk_below (g := gb288) (o := .cells #[.string a0_0, u289001, .slice none 0 0] 27 (0, 0)) (by (with_reducible repeat (first | refine blk_drewN ?_ _ | refine blk_drew ?_ | refine blk_alloc ?_ _)); exact BK288.out) hb); have n4_ := Aside0.mk (below_step (by repeat (first | (with_reducible first | exact HB.out | apply below_alloc | apply pw_below_drewN | apply below_drew1 | refine below_set ?_ GE286.out | refine below_set ?_ GE287.out | refine below_set ?_ GE288.out) | exact HB.out)) hb); have n5_ := Aside0.mk (hbox); have n6_ := Aside0.mk ((by rw [hg]; exact (below_size (by repeat (first | (with_reducible first | exact HB.out | apply below_alloc | apply pw_below_drewN | apply below_drew1 | refine below_set ?_ GE286.out | refine below_set ?_ GE287.out | refine below_set ?_ GE288.out) | exact HB.out))) : w.heap.size ≤ gb290)); have n7_ := Aside0.mk ((by rw [hg]; exact (below_size (by repeat (first | (with_reducible first | exact HB.out | apply below_alloc | apply pw_below_drewN | apply below_drew1 | refine below_set ?_ GE286.out | refine below_set ?_ GE287.out | refine below_set ?_ GE288.out) | exact HB.out))) : w.heap.size ≤ gb290)); have n8_ := Aside0.mk ((by rw [hg]; exact Nat.ne_of_lt (blk_lt (g := gb286) (o := .cells #[.string a0_0, .slice (some ad289) l0_1.length c0_1, .slice A0_2 l0_2.length c0_2] 27 (0, 0)) (by (with_reducible repeat (first | refine blk_drewN ?_ _ | refine blk_drew ?_ | refine blk_alloc ?_ _)); exact BK286.out)) : gb286 ≠ gb290)); have n9_ := Aside0.mk ((by rw [hg]; exact Nat.ne_of_gt (blk_lt (g := gb286) (o := .cells #[.string a0_0, .slice (some ad289) l0_1.length c0_1, .slice A0_2 l0_2.length c0_2] 27 (0, 0)) (by (with_reducible repeat (first | refine blk_drewN ?_ _ | refine blk_drew ?_ | refine blk_alloc ?_ _)); exact BK286.out)) : gb290 ≠ gb286)); have n10_ := Aside0.mk ((by rw [hg]; exact Nat.ne_of_lt (blk_lt (g := gb287) (o := .cells #[.string (⟨#[]⟩ : ByteArray), .slice none 0 0, .slice none 0 0] 27 (0, 0)) (by (with_reducible repeat (first | refine blk_drewN ?_ _ | refine blk_drew ?_ | refine blk_alloc ?_ _)); exact BK287.out)) : gb287 ≠ gb290)); have n11_ := Aside0.mk ((by rw [hg]; exact Nat.ne_of_gt (blk_lt (g := gb287) (o := .cells #[.string (⟨#[]⟩ : ByteArray), .slice none 0 0, .slice none 0 0] 27 (0, 0)) (by (with_reducible repeat (first | refine blk_drewN ?_ _ | refine blk_drew ?_ | refine blk_alloc ?_ _)); exact BK287.out)) : gb290 ≠ gb287)); have n12_ := Aside0.mk ((by rw [hg]; exact Nat.ne_of_lt (blk_lt (g := gb288) (o := .cells #[.string a0_0, u289001, .slice none 0 0] 27 (0, 0)) (by (with_reducible repeat (first | refine blk_drewN ?_ _ | refine blk_drew ?_ | refine blk_alloc ?_ _)); exact BK288.out)) : gb288 ≠ gb290)); have n13_ := Aside0.mk ((by rw [hg]; exact Nat.ne_of_gt (blk_lt (g := gb288) (o := .cells #[.string a0_0, u289001, .slice none 0 0] 27 (0, 0)) (by (with_reducible repeat (first | refine blk_drewN ?_ _ | refine blk_drew ?_ | refine blk_alloc ?_ _)); exact BK288.out)) : gb290 ≠ gb288)); clear HO_289001; clear BK286; clear BK287; clear BK288; clear HB; have HO_289001 := n0_; have BK286 := n1_; have BK287 := n2_; have BK288 := n3_; have HB := n4_; have BK290 := n5_; have GW290 := n6_; have GE290 := n7_; have NB286_290 := n8_; have NB290_286 := n9_; have NB287_290 := n10_; have NB290_287 := n11_; have NB288_290 := n12_; have NB290_288 := n13_; clear n0_ n1_ n2_ n3_ n4_ n5_ n6_ n7_ n8_ n9_ n10_ n11_ n12_ n13_; clear hb hbox hg; have hnb17 := NB290_286.out; have hnc17 := NB286_290.out; have hnb18 := NB290_287.out; have hnc18 := NB287_290.out; have hnb19 := NB290_288.out; have hnc19 := NB288_290.out; have hcz20_0 : w16.cell? ⟨gb290, 0, none⟩ = some (.string (⟨#[]⟩ : ByteArray)) := (blk_cell BK290.out 0).trans rfl; have hcz20_1 : w16.cell? ⟨gb290, 1, none⟩ = some (.slice none 0 0) := (blk_cell BK290.out 1).trans rfl; have hfz20_0 := blk_frozen BK290.out 0; have hfz20_1 := blk_frozen BK290.out 1))
              have n0_ : Aside0 (Kd.S k35 35 ((w16.setCell ⟨gb290, 0, none⟩ (.string ((rd_T35 l0_1 x14_1).f0))).setCell ⟨gb290, 1, none⟩ (.slice A289_1 ((rd_T35 l0_1 x14_1).f1).length c289_1)) w.heap.size (fun k_ => k_ ≠ gb290) u289001 x289001_1) := ⟨by (with_reducible repeat (first | apply Kd.S_alloc | apply Kd.S_drewN | apply Kd.S_drew)); exact Kd.S_mono (Kd.S_far (p := ⟨gb290, 1, none⟩) (Kd.S_far (p := ⟨gb290, 0, none⟩) (Kd.S_mono HO_289001.out (fun k_ hk => (⟨hk, hk.2⟩ : _ ∧ k_ ≠ gb290))) (fun _ hk => hk.2) (.string ((rd_T35 l0_1 x14_1).f0))) (fun _ hk => hk.2) (.slice A289_1 ((rd_T35 l0_1 x14_1).f1).length c289_1)) (fun _ hk => hk.1.2)⟩
              have n1_ : Aside0 (((w16.setCell ⟨gb290, 0, none⟩ (.string ((rd_T35 l0_1 x14_1).f0))).setCell ⟨gb290, 1, none⟩ (.slice A289_1 ((rd_T35 l0_1 x14_1).f1).length c289_1)).heap[gb286]? = some (.cells #[.string a0_0, .slice (some ad289) l0_1.length c0_1, .slice A0_2 l0_2.length c0_2] 27 (0, 0))) := ⟨by (with_reducible repeat (first | refine blk_drewN ?_ _ | refine blk_drew ?_ | refine blk_alloc ?_ _)); refine blk_far ?_ NB286_290.out _; (with_reducible repeat (first | refine blk_drewN ?_ _ | refine blk_drew ?_ | refine blk_alloc ?_ _)); refine blk_far ?_ NB286_290.out _; (with_reducible repeat (first | refine blk_drewN ?_ _ | refine blk_drew ?_ | refine blk_alloc ?_ _)); exact BK286.out⟩
              have n2_ : Aside0 (((w16.setCell ⟨gb290, 0, none⟩ (.string ((rd_T35 l0_1 x14_1).f0))).setCell ⟨gb290, 1, none⟩ (.slice A289_1 ((rd_T35 l0_1 x14_1).f1).length c289_1)).heap[gb287]? = some (.cells #[.string (⟨#[]⟩ : ByteArray), .slice none 0 0, .slice none 0 0] 27 (0, 0))) := ⟨by (with_reducible repeat (first | refine blk_drewN ?_ _ | refine blk_drew ?_ | refine blk_alloc ?_ _)); refine blk_far ?_ NB287_290.out _; (with_reducible repeat (first | refine blk_drewN ?_ _ | refine blk_drew ?_ | refine blk_alloc ?_ _)); refine blk_far ?_ NB287_290.out _; (with_reducible repeat (first | refine blk_drewN ?_ _ | refine blk_drew ?_ | refine blk_alloc ?_ _)); exact BK287.out⟩
              have n3_ : Aside0 (((w16.setCell ⟨gb290, 0, none⟩ (.string ((rd_T35 l0_1 x14_1).f0))).setCell ⟨gb290, 1, none⟩ (.slice A289_1 ((rd_T35 l0_1 x14_1).f1).length c289_1)).heap[gb288]? = some (.cells #[.string a0_0, u289001, .slice none 0 0] 27 (0, 0))) := ⟨by (with_reducible repeat (first | refine blk_drewN ?_ _ | refine blk_drew ?_ | refine blk_alloc ?_ _)); refine blk_far ?_ NB288_290.out _; (with_reducible repeat (first | refine blk_drewN ?_ _ | refine blk_drew ?_ | refine blk_alloc ?_ _)); refine blk_far ?_ NB288_290.out _; (with_reducible repeat (first | refine blk_drewN ?_ _ | refine blk_drew ?_ | refine blk_alloc ?_ _)); exact BK288.out⟩
              have n4_ : Aside0 (((w16.setCell ⟨gb290, 0, none⟩ (.string ((rd_T35 l0_1 x14_1).f0))).setCell ⟨gb290, 1, none⟩ (.slice A289_1 ((rd_T35 l0_1 x14_1).f1).length c289_1)).heap[gb290]? = some (.cells #[.string ((rd_T35 l0_1 x14_1).f0), .slice A289_1 ((rd_T35 l0_1 x14_1).f1).length c289_1] 35 (0, 0))) := ⟨by (with_reducible repeat (first | refine blk_drewN ?_ _ | refine blk_drew ?_ | refine blk_alloc ?_ _)); refine blk_put (cs := #[.string ((rd_T35 l0_1 x14_1).f0), .slice none 0 0]) ?_ 1 _ rfl; (with_reducible repeat (first | refine blk_drewN ?_ _ | refine blk_drew ?_ | refine blk_alloc ?_ _)); refine blk_put (cs := #[.string (⟨#[]⟩ : ByteArray), .slice none 0 0]) ?_ 0 _ rfl; (with_reducible repeat (first | refine blk_drewN ?_ _ | refine blk_drew ?_ | refine blk_alloc ?_ _)); exact BK290.out⟩
              have n5_ : Aside0 (Below w.heap.size w ((w16.setCell ⟨gb290, 0, none⟩ (.string ((rd_T35 l0_1 x14_1).f0))).setCell ⟨gb290, 1, none⟩ (.slice A289_1 ((rd_T35 l0_1 x14_1).f1).length c289_1))) := ⟨by repeat (first | (with_reducible first | exact HB.out | apply below_alloc | apply pw_below_drewN | apply below_drew1 | refine below_set ?_ GE286.out | refine below_set ?_ GE287.out | refine below_set ?_ GE288.out | refine below_set ?_ GE290.out) | exact HB.out)⟩
              (try clear HO_289001)
              (try clear BK286)
              (try clear BK287)
              (try clear BK288)
              (try clear BK290)
              (try clear HB)
              generalize ((w16.setCell ⟨gb290, 0, none⟩ (.string ((rd_T35 l0_1 x14_1).f0))).setCell ⟨gb290, 1, none⟩ (.slice A289_1 ((rd_T35 l0_1 x14_1).f1).length c289_1)) = w21 at n0_ n1_ n2_ n3_ n4_ n5_ ⊢
              have HO_289001 := n0_
              have BK286 := n1_
              have BK287 := n2_
              have BK288 := n3_
              have BK290 := n4_
              have HB := n5_
              clear n0_ n1_ n2_ n3_ n4_ n5_
              have n0_ := Aside0.mk (Kd.S_drew HO_289001.out)
              have n1_ := Aside0.mk (blk_drew BK286.out)
              have n2_ := Aside0.mk (blk_drew BK287.out)
              have n3_ := Aside0.mk (blk_drew BK288.out)
              have n4_ := Aside0.mk (blk_drew BK290.out)
              have n5_ := Aside0.mk (below_drew1 HB.out)
              clear HO_289001
              clear BK286
              clear BK287
              clear BK288
              clear BK290
              clear HB
              have HO_289001 := n0_
              have BK286 := n1_
              have BK287 := n2_
              have BK288 := n3_
              have BK290 := n4_
              have HB := n5_
              clear n0_ n1_ n2_ n3_ n4_ n5_
              refine start_ (n := 12) (S := fun w' => w'.cell? ⟨gb288, 0, none⟩ = some (.string a0_0) ∧ w'.cell? ⟨gb288, 1, none⟩ = some (u289001) ∧ w'.cell? ⟨gb288, 2, none⟩ = some (.slice none 0 0) ∧ w'.cell? ⟨gb290, 0, none⟩ = some (.string ((rd_T35 l0_1 x14_1).f0)) ∧ w'.cell? ⟨gb290, 1, none⟩ = some (.slice A289_1 ((rd_T35 l0_1 x14_1).f1).length c289_1)) (ds := [11]) #[false, false, false, false, false, false, false, false, false, false, false, false] (by kernel_rfl) rfl rfl ⟨(blk_cell BK288.out 0).trans rfl, (blk_cell BK288.out 1).trans rfl, (blk_cell BK288.out 2).trans rfl, (blk_cell BK290.out 0).trans rfl, (blk_cell BK290.out 1).trans rfl⟩ (fun hHeld => ?_); refine with_tabW tree_CloneNode.tab5 tree_CloneNode.bits5 (fun HT_ HW_ => ?_)
              generalize w21.drew = w22 at HO_289001 BK286 BK287 BK288 BK290 HB hHeld ⊢
              refine pure_ (i := 0) (N := some 18) (v := ?_) (a' := ?_) #[true, false, false, false, false, false, false, false, false, false, false, false] rfl rfl (any_of HT_.out (by kernel_rfl)) (fun _ _ _ h => h) (Or.inl ⟨by rfl, ?_⟩) ?_ ?_
              rotate_left
              · intro w'
                go_simp
                with_reducible rfl
              rotate_left
              · simp only [Act.put, List.setIfInBounds_toArray, List.set_cons_zero, List.set_cons_succ, i64_w, i32_w]
                rfl
              refine pure_ (i := 2) (N := some 20) (v := ?_) (a' := ?_) #[true, false, true, false, false, false, false, false, false, false, false, false] rfl rfl (any_of HT_.out (by kernel_rfl)) (fun _ _ _ h => h) (Or.inl ⟨by rfl, ?_⟩) ?_ ?_
              rotate_left
              · intro w'
                go_simp
                with_reducible rfl
              rotate_left
              · simp only [Act.put, List.setIfInBounds_toArray, List.set_cons_zero, List.set_cons_succ, i64_w, i32_w]
                rfl
              refine pure_ (i := 4) (N := some 22) (v := ?_) (a' := ?_) #[true, false, true, false, true, false, false, false, false, false, false, false] rfl rfl (any_of HT_.out (by kernel_rfl)) (fun _ _ _ h => h) (Or.inl ⟨by rfl, ?_⟩) ?_ ?_
              rotate_left
              · intro w'
                go_simp
                with_reducible rfl
              rotate_left
              · simp only [Act.put, List.setIfInBounds_toArray, List.set_cons_zero, List.set_cons_succ, i64_w, i32_w]
                rfl
              refine take_ (i := 1) (N := some 19) (v := ?_) (a' := ?_) #[true, true, true, false, true, false, false, false, false, false, false, false] rfl rfl (take_ofW HT_.out HW_.out (by kernel_rfl)) (fun _ _ _ h => h) (Or.inl ⟨by rfl, ?_⟩) hHeld ?_ ?_
              rotate_left
              · rintro w' ⟨s0, s1, s2, s3, s4⟩
                go_simp
                with_reducible rfl
              rotate_left
              · simp only [Act.put, List.setIfInBounds_toArray, List.set_cons_zero, List.set_cons_succ, i64_w, i32_w]
                rfl
              refine take_ (i := 3) (N := some 21) (v := ?_) (a' := ?_) #[true, true, true, true, true, false, false, false, false, false, false, false] rfl rfl (take_ofW HT_.out HW_.out (by kernel_rfl)) (fun _ _ _ h => h) (Or.inl ⟨by rfl, ?_⟩) hHeld ?_ ?_
              rotate_left
              · rintro w' ⟨s0, s1, s2, s3, s4⟩
                go_simp
                with_reducible rfl
              rotate_left
              · simp only [Act.put, List.setIfInBounds_toArray, List.set_cons_zero, List.set_cons_succ, i64_w, i32_w]
                rfl
              refine take_ (i := 5) (N := some 23) (v := ?_) (a' := ?_) #[true, true, true, true, true, true, false, false, false, false, false, false] rfl rfl (take_ofW HT_.out HW_.out (by kernel_rfl)) (fun _ _ _ h => h) (Or.inl ⟨by rfl, ?_⟩) hHeld ?_ ?_
              rotate_left
              · rintro w' ⟨s0, s1, s2, s3, s4⟩
                go_simp
                with_reducible rfl
              rotate_left
              · simp only [Act.put, List.setIfInBounds_toArray, List.set_cons_zero, List.set_cons_succ, i64_w, i32_w]
                rfl
              refine one_ (i := 6) (N := some 24) #[true, true, true, true, true, true, true, false, false, false, false, false] rfl rfl (one_of HT_.out (by kernel_rfl)) (by decide) (fun K hK => ?_)
              refine goes_ Try.func23 (by kernel_rfl) rfl #[.slice A289_1 ((rd_T35 l0_1 x14_1).f1).length c289_1] (by rfl) rfl rfl (by (try simp only [List.map_toArray, List.map_cons, List.map_nil]); first | done | rfl | (simp only [List.length_drop, List.length_take]; rfl)) ?_
              with_reducible refine (bytes_Clone.calls _ _ ((rd_T35 l0_1 x14_1).f1) t291 _ ?side1 ?side2 A14.out).mono ?_
              (case side1 => repeat (first | exact (Kd.C_below HR289_1.out HB.out) | (with_reducible refine Kd.C_alloc ?_ _) | (with_reducible refine Kd.C_drewN ?_ _) | (with_reducible refine Kd.C_drew ?_)))
              (case side2 => exact HC289_1.out)
              rintro e w23 ⟨v292, rfl, ho0, hb⟩
              refine ⟨_, rfl, ?_⟩
              have n0_ := Aside0.mk (Kd.S_elder' (by (with_reducible repeat (first | apply Kd.S_alloc | apply Kd.S_drewN | apply Kd.S_drew)); exact HO_289001.out) (Kd.R_base ho0) hb)
              have n1_ := Aside0.mk (Kd.R_lower ho0 (below_size (by repeat (first | (with_reducible first | exact HB.out | apply below_alloc | apply pw_below_drewN | apply below_drew1 | refine below_set ?_ GE286.out | refine below_set ?_ GE287.out | refine below_set ?_ GE288.out | refine below_set ?_ GE290.out) | exact HB.out))))
              have n2_ := Aside0.mk (blk_below (g := gb286) (o := .cells #[.string a0_0, .slice (some ad289) l0_1.length c0_1, .slice A0_2 l0_2.length c0_2] 27 (0, 0)) (by (with_reducible repeat (first | refine blk_drewN ?_ _ | refine blk_drew ?_ | refine blk_alloc ?_ _)); exact BK286.out) hb)
              have n3_ := Aside0.mk (blk_below (g := gb287) (o := .cells #[.string (⟨#[]⟩ : ByteArray), .slice none 0 0, .slice none 0 0] 27 (0, 0)) (by (with_reducible repeat (first | refine blk_drewN ?_ _ | refine blk_drew ?_ | refine blk_alloc ?_ _)); exact BK287.out) hb)
              have n4_ := Aside0.mk (blk_below (g := gb288) (o := .cells #[.string a0_0, u289001, .slice none 0 0] 27 (0, 0)) (by (with_reducible repeat (first | refine blk_drewN ?_ _ | refine blk_drew ?_ | refine blk_alloc ?_ _)); exact BK288.out) hb)
              have n5_ := Aside0.mk (blk_below (g := gb290) (o := .cells #[.string ((rd_T35 l0_1 x14_1).f0), .slice A289_1 ((rd_T35 l0_1 x14_1).f1).length c289_1] 35 (0, 0)) (by (with_reducible repeat (first | refine blk_drewN ?_ _ | refine blk_drew ?_ | refine blk_alloc ?_ _)); exact BK290.out) hb)
              have n6_ := Aside0.mk (below_step (by repeat (first | (with_reducible first | exact HB.out | apply below_alloc | apply pw_below_drewN | apply below_drew1 | refine below_set ?_ GE286.out | refine below_set ?_ GE287.out | refine below_set ?_ GE288.out | refine below_set ?_ GE290.out) | exact HB.out)) hb)
              clear HO_289001
              clear BK286
              clear BK287
              clear BK288
              clear BK290
              clear HB
              have HO_289001 := n0_
              have HO293 := n1_
              have BK286 := n2_
              have BK287 := n3_
              have BK288 := n4_
              have BK290 := n5_
              have HB := n6_
              clear n0_ n1_ n2_ n3_ n4_ n5_ n6_
              (try clear hb)
              (try clear hb2)
              (try clear hk)
              (try clear hi)
              (try clear ho0)
              obtain ⟨Ao24, co24, eo24⟩ := Kd.R_slice HO293.out
              (first | subst eo24 | (injection eo24 with f1_ f2_ f3_; have f4_ := f1_.symm; have f5_ := f3_.symm; clear f1_ f2_ f3_; subst f4_; subst f5_))
              refine hK.out _ _ ⟨(blk_cell BK288.out 0).trans rfl, (blk_cell BK288.out 1).trans rfl, (blk_cell BK288.out 2).trans rfl, (blk_cell BK290.out 0).trans rfl, (blk_cell BK290.out 1).trans rfl⟩ (fun hHeld => ?_)
              clear hK K
              refine norm_ (a' := ?_) ?_ ?_
              rotate_left
              · show Act.put _ (some 24) _ = _
                simp only [Act.put, List.setIfInBounds_toArray, List.set_cons_zero, List.set_cons_succ, i64_w, i32_w]
                rfl
              refine pure_ (i := 7) (N := some 25) (v := ?_) (a' := ?_) #[true, true, true, true, true, true, true, true, false, false, false, false] rfl rfl (any_of HT_.out (by kernel_rfl)) (fun _ _ _ h => h) (Or.inl ⟨by rfl, ?_⟩) ?_ ?_
              rotate_left
              · intro w'
                go_simp
                with_reducible rfl
              rotate_left
              · simp only [Act.put, List.setIfInBounds_toArray, List.set_cons_zero, List.set_cons_succ, i64_w, i32_w]
                rfl
              refine one_ (i := 8) (N := some 26) #[true, true, true, true, true, true, true, true, true, false, false, false] rfl rfl (one_of HT_.out (by kernel_rfl)) (by decide) (fun K hK => ?_)
              refine value_ (w1 := ?_) (v := ?_) (by rfl) rfl ?_ ?_
              rotate_left 2
              · go_simp
                constructor
                · rfl
                · rfl
              refine hK.out _ _ ⟨(blk_cell (blk_alloc BK288.out _) 0).trans rfl, (blk_cell (blk_alloc BK288.out _) 1).trans rfl, (blk_cell (blk_alloc BK288.out _) 2).trans rfl, (blk_cell (blk_alloc BK290.out _) 0).trans rfl, (blk_cell (blk_alloc BK290.out _) 1).trans rfl⟩ (fun hHeld => ?_)
              clear hK K
              refine norm_ (a' := ?_) ?_ ?_
              rotate_left
              · show Act.put _ (some 26) _ = _
                simp only [Act.put, List.setIfInBounds_toArray, List.set_cons_zero, List.set_cons_succ, i64_w, i32_w]
                rfl
              refine one_ (i := 9) (N := some 27) #[true, true, true, true, true, true, true, true, true, true, false, false] rfl rfl (one_of HT_.out (by kernel_rfl)) (by decide) (fun K hK => ?_)
              refine Kd.S_append_step k35 (w0 := w) w.heap.size (by rfl) (.tmp 19) (.tmp 26) 24 35 (.agg #[(.string ⟨#[]⟩), (.slice none 0 0)]) 40 rfl Try.underlying24 info35 rfl (by decide) (by omega) u289001 x289001_1 (⟨(rd_T35 l0_1 x14_1).f0, t291⟩ : S35) [.string ((rd_T35 l0_1 x14_1).f0), .slice Ao24 t291.length co24] (fun k_ => k_ ≠ gb290) (fun k_ => some k_ = (.slice Ao24 t291.length co24 : Value).ownBlock) rfl rfl ?aP (fun k_ hk_ => ((Kd.R_mono (ok' := fun k_ => ((fun k_ => k_ ≠ gb290)) k_ ∧ some k_ ≠ (u289001 : Value).ownBlock) (Kd.R_types (Kd.R_apart' (HO293.out) (Kd.S_typed HO_289001.out) (by decide)) BK290.out (by decide)) (fun k_ hk => ⟨hk.2, hk.1.2⟩))).1 k_ hk_.symm) ?aF ?aO ?aB ?aS ?aL ?_
              (case aP => exact k35_mkM _ _ _ (⟨(rd_T35 l0_1 x14_1).f0, t291⟩ : S35) (Kd.R_mono (Kd.R_tight rfl (Kd.R_mono (ok' := fun k_ => ((fun k_ => k_ ≠ gb290)) k_ ∧ some k_ ≠ (u289001 : Value).ownBlock) (Kd.R_types (Kd.R_apart' (HO293.out) (Kd.S_typed HO_289001.out) (by decide)) BK290.out (by decide)) (fun k_ hk => ⟨hk.2, hk.1.2⟩))) (fun _ h_ => h_)))
              (case aB => exact (by repeat (first | (with_reducible first | exact HB.out | apply below_alloc | apply pw_below_drewN | apply below_drew1 | refine below_set ?_ GE286.out | refine below_set ?_ GE287.out | refine below_set ?_ GE288.out | refine below_set ?_ GE290.out) | exact HB.out)))
              (case aF => exact (fun k_ hk => Kd.freshB (g := gb290) (o := .cells #[.string ((rd_T35 l0_1 x14_1).f0), .slice A289_1 ((rd_T35 l0_1 x14_1).f1).length c289_1] 35 (0, 0)) (by (with_reducible repeat (first | refine blk_drewN ?_ _ | refine blk_drew ?_ | refine blk_alloc ?_ _)); exact BK290.out) k_ hk))
              (case aO => exact (by (with_reducible repeat (first | apply Kd.S_alloc | apply Kd.S_drewN | apply Kd.S_drew)); exact Kd.S_mono HO_289001.out (fun k_ hk => ⟨hk.1, fun e_ => hk.2 e_⟩)))
              (case aS => exact (below_size (by repeat (first | (with_reducible first | exact HB.out | apply below_alloc | apply pw_below_drewN | apply below_drew1 | refine below_set ?_ GE286.out | refine below_set ?_ GE287.out | refine below_set ?_ GE288.out | refine below_set ?_ GE290.out) | exact HB.out))))
              (case aL => have := LMc15.out; omega)
              intro v295 w25 ho hb hg hat
              rw [← Ny294.out] at ho
              have n0_ := Aside0.mk (blk_grown (g := gb286) (o := .cells #[.string a0_0, .slice (some ad289) l0_1.length c0_1, .slice A0_2 l0_2.length c0_2] 27 (0, 0)) (by (with_reducible repeat (first | refine blk_drewN ?_ _ | refine blk_drew ?_ | refine blk_alloc ?_ _)); exact BK286.out) hg (Kd.S_ne HO_289001.out BK286.out (by decide)))
              have n1_ := Aside0.mk (blk_grown (g := gb287) (o := .cells #[.string (⟨#[]⟩ : ByteArray), .slice none 0 0, .slice none 0 0] 27 (0, 0)) (by (with_reducible repeat (first | refine blk_drewN ?_ _ | refine blk_drew ?_ | refine blk_alloc ?_ _)); exact BK287.out) hg (Kd.S_ne HO_289001.out BK287.out (by decide)))
              have n2_ := Aside0.mk (blk_grown (g := gb288) (o := .cells #[.string a0_0, u289001, .slice none 0 0] 27 (0, 0)) (by (with_reducible repeat (first | refine blk_drewN ?_ _ | refine blk_drew ?_ | refine blk_alloc ?_ _)); exact BK288.out) hg (Kd.S_ne HO_289001.out BK288.out (by decide)))
              have n3_ := Aside0.mk (blk_grown (g := gb290) (o := .cells #[.string ((rd_T35 l0_1 x14_1).f0), .slice A289_1 ((rd_T35 l0_1 x14_1).f1).length c289_1] 35 (0, 0)) (by (with_reducible repeat (first | refine blk_drewN ?_ _ | refine blk_drew ?_ | refine blk_alloc ?_ _)); exact BK290.out) hg (Kd.S_away HO_289001.out (fun _ hk => hk.1)))
              have n4_ := Aside0.mk (hb)
              have n5_ := Aside0.mk (ho)
              clear BK286
              clear BK287
              clear BK288
              clear BK290
              clear HB
              clear HO_289001
              clear HO293
              have BK286 := n0_
              have BK287 := n1_
              have BK288 := n2_
              have BK290 := n3_
              have HB := n4_
              have HO296 := n5_
              clear n0_ n1_ n2_ n3_ n4_ n5_
              clear ho hb hg hat
              obtain ⟨Ao26, co26, eo26⟩ := Kd.S_slice HO296.out
              (first | subst eo26 | (injection eo26 with f1_ f2_ f3_; have f4_ := f1_.symm; have f5_ := f3_.symm; clear f1_ f2_ f3_; subst f4_; subst f5_))
              refine hK.out _ _ ⟨(blk_cell BK288.out 0).trans rfl, (blk_cell BK288.out 1).trans rfl, (blk_cell BK288.out 2).trans rfl, (blk_cell BK290.out 0).trans rfl, (blk_cell BK290.out 1).trans rfl⟩ (fun hHeld => ?_)
              clear hK K
              refine norm_ (a' := ?_) ?_ ?_
              rotate_left
              · show Act.put _ (some 27) _ = _
                simp only [Act.put, List.setIfInBounds_toArray, List.set_cons_zero, List.set_cons_succ, i64_w, i32_w]
                rfl
              refine pure_ (i := 10) (N := some 28) (v := ?_) (a' := ?_) #[true, true, true, true, true, true, true, true, true, true, true, false] rfl rfl (any_of HT_.out (by kernel_rfl)) (fun _ _ _ h => h) (Or.inl ⟨by rfl, ?_⟩) ?_ ?_
              rotate_left
              · intro w'
                go_simp
                with_reducible rfl
              rotate_left
              · simp only [Act.put, List.setIfInBounds_toArray, List.set_cons_zero, List.set_cons_succ, i64_w, i32_w]
                rfl
              refine last_ (i := 11) (N := none) #[true, true, true, true, true, true, true, true, true, true, true, true] rfl rfl (one_of HT_.out (by kernel_rfl)) (by decide) (fun K hK => ?_)
              have hs27 : w25.cell? ⟨gb288, 1, none⟩ = some (u289001) := (blk_cell BK288.out 1).trans rfl
              have hfs27 := blk_frozen BK288.out 1
              have hns27_0 := NB286_288.out
              have hns27_1 := NB287_288.out
              have hns27_3 := NB290_288.out
              have hms27_0 := NB288_286.out
              have hms27_1 := NB288_287.out
              have hms27_3 := NB288_290.out
              refine skip_ (w1 := ?_) (by rfl) rfl ?_ ?_
              rotate_left
              · go_simp
                rfl
              refine hK.out _ _ ?_
              clear hK K
              refine done_ (done_of HT_.out (by kernel_rfl)) ?_
              try go_wp2
              go_roundg k1
              case measure => have := HK1.out; omega
              case rel => exact ⟨(wrap64 (x14_1 + 1)), (y294), (.slice Ao26 y294.length co26), (by first | rfl | (simp; done) | (simp [*]; done)), H', ⟨by have := HK1.out; omega⟩, ⟨by (with_reducible repeat (first | apply Kd.S_alloc | apply Kd.S_drewN | apply Kd.S_drew)); exact Kd.S_mono (Kd.S_far (p := ⟨gb288, 1, none⟩) (Kd.S_types HO296.out BK288.out (by decide)) (fun _ hk => hk.2) (.slice Ao26 y294.length co26)) (fun _ hk => trivial)⟩, ⟨by (with_reducible repeat (first | refine blk_drewN ?_ _ | refine blk_drew ?_ | refine blk_alloc ?_ _)); refine blk_far ?_ NB286_288.out _; (with_reducible repeat (first | refine blk_drewN ?_ _ | refine blk_drew ?_ | refine blk_alloc ?_ _)); exact BK286.out⟩, ⟨by (with_reducible repeat (first | refine blk_drewN ?_ _ | refine blk_drew ?_ | refine blk_alloc ?_ _)); refine blk_far ?_ NB287_288.out _; (with_reducible repeat (first | refine blk_drewN ?_ _ | refine blk_drew ?_ | refine blk_alloc ?_ _)); exact BK287.out⟩, ⟨by (with_reducible repeat (first | refine blk_drewN ?_ _ | refine blk_drew ?_ | refine blk_alloc ?_ _)); refine blk_put (cs := #[.string a0_0, u289001, .slice none 0 0]) ?_ 1 _ rfl; (with_reducible repeat (first | refine blk_drewN ?_ _ | refine blk_drew ?_ | refine blk_alloc ?_ _)); exact BK288.out⟩, ⟨by repeat (first | (with_reducible first | exact HB.out | apply below_alloc | apply pw_below_drewN | apply below_drew1 | refine below_set ?_ GE286.out | refine below_set ?_ GE287.out | refine below_set ?_ GE288.out | refine below_set ?_ GE290.out) | exact HB.out)⟩⟩
            · rw [if_neg c15] at H
              exact absurd H (by simp)
          · rw [if_neg c13] at H
            exact absurd H (by simp)
        · rw [if_neg c12] at H
          exact absurd H (by simp)
      · rw [if_neg c11] at H
        have c11b0 : decide (x14_1 < (l0_1.length : Int)) = false := decide_eq_false c11
        clear c11
        have H' := Aside0.mk H
        clear H
        have hnb28 := NB286_287.out
        have hnc28 := NB287_286.out
        have hnb29 := NB286_288.out
        have hnc29 := NB288_286.out
        have hcz30_0 : wr.cell? ⟨gb286, 0, none⟩ = some (.string a0_0) := (blk_cell BK286.out 0).trans rfl
        have hcz30_1 : wr.cell? ⟨gb286, 1, none⟩ = some (.slice A0_1 l0_1.length c0_1) := (blk_cell BK286.out 1).trans rfl
        have hcz30_2 : wr.cell? ⟨gb286, 2, none⟩ = some (.slice A0_2 l0_2.length c0_2) := (blk_cell BK286.out 2).trans rfl
        have hfz30_0 := blk_frozen BK286.out 0
        have hfz30_1 := blk_frozen BK286.out 1
        have hfz30_2 := blk_frozen BK286.out 2
        go_wp2
        go_loopg [33] k1 (fun kq v33 w' => ∃ (x33_2 : Int) (x289002_2 : List (S27)) (u289002 : Value), v33 = .int .i64 x33_2 ∧ Aside0 (tree_CloneNode.l1 kq l0_2 (l0_2.length : Int) x33_2 a0_0 x289001_1 x289002_2 = some (r1, r2, r3)) ∧ Aside0 (kq ≤ k1) ∧ Aside0 (Kd.S k35 35 w' w.heap.size (fun _ => True) u289001 x289001_1) ∧ Aside0 (Kd.R k27 27 w' w.heap.size (fun k_ => some k_ ≠ (u289001 : Value).ownBlock ∧ k_ ≠ gb286 ∧ k_ ≠ gb287 ∧ k_ ≠ gb288) u289002 x289002_2) ∧ Aside0 (w'.heap[gb286]? = some (.cells #[.string a0_0, (.slice A0_1 l0_1.length c0_1), (.slice A0_2 l0_2.length c0_2)] 27 (0, 0))) ∧ Aside0 (w'.heap[gb287]? = some (.cells #[.string (⟨#[]⟩ : ByteArray), (.slice none 0 0), (.slice none 0 0)] 27 (0, 0))) ∧ Aside0 (w'.heap[gb288]? = some (.cells #[.string a0_0, u289001, u289002] 27 (0, 0))) ∧ Aside0 (Below w.heap.size w w'))
        case atStart => exact ⟨(0), (([] : List (S27))), (.slice none 0 0), (by first | rfl | (simp; done) | (simp [*]; done)), H', ⟨Nat.le_refl _⟩, ⟨by (with_reducible repeat (first | apply Kd.S_alloc | apply Kd.S_drewN | apply Kd.S_drew)); exact HO_289001.out⟩, ⟨by first | exact Kd.R_nil _ _ _ _ _ | exact Kd.N_nil _ _ _ _ _ | exact Kd.V_nil _ _ _ _ _ | exact Kd.Q_nil _ _ _ _ _ | exact Kd.S_nil _ _ _ _ _⟩, ⟨by (with_reducible repeat (first | refine blk_drewN ?_ _ | refine blk_drew ?_ | refine blk_alloc ?_ _)); exact BK286.out⟩, ⟨by (with_reducible repeat (first | refine blk_drewN ?_ _ | refine blk_drew ?_ | refine blk_alloc ?_ _)); exact BK287.out⟩, ⟨by (with_reducible repeat (first | refine blk_drewN ?_ _ | refine blk_drew ?_ | refine blk_alloc ?_ _)); exact BK288.out⟩, ⟨by repeat (first | (with_reducible first | exact HB.out | apply below_alloc | apply pw_below_drewN | apply below_drew1 | refine below_set ?_ GE286.out | refine below_set ?_ GE287.out | refine below_set ?_ GE288.out) | exact HB.out)⟩⟩
        case round =>
          clear H'
          try clear c1
          try clear c2
          try clear p2
          try clear q2
          try clear hx2
          try clear c4
          try clear p6
          try clear c7
          try clear c8
          try clear c11
          try clear c11b0
          try clear c12
          try clear c12b0
          try clear c13
          try clear c13b0
          try clear c14
          try clear c15
          try clear c17
          try clear c18
          try clear c19
          try clear c23
          try clear c28
          try clear p28
          try clear q28
          try clear hx28
          try clear c29
          try clear hcz10_0
          try clear hcz10_1
          try clear hcz10_2
          try clear hcz20_0
          try clear hcz20_1
          try clear hcz30_0
          try clear hcz30_1
          try clear hcz30_2
          try clear hcz5_0
          try clear hcz5_1
          try clear hcz5_2
          try clear hcz9_0
          try clear hcz9_1
          try clear hcz9_2
          try clear hfz10_0
          try clear hfz10_1
          try clear hfz10_2
          try clear hfz20_0
          try clear hfz20_1
          try clear hfz30_0
          try clear hfz30_1
          try clear hfz30_2
          try clear hfz5_0
          try clear hfz5_1
          try clear hfz5_2
          try clear hfz9_0
          try clear hfz9_1
          try clear hfz9_2
          try clear hx289_0
          try clear hx289_1
          try clear p2
          try clear p289
          try clear q289
          obtain ⟨x33_2, x289002_2, u289002, rfl, HA, HK2, HO_289001, HO_289002, BK286, BK287, BK288, HB⟩ := hrel
          cases gk with
          | zero => exact absurd HA.out (by simp [tree_CloneNode.l1])
          | succ k2 =>
            have H := HA.out
            clear HA
            simp only [tree_CloneNode.l1] at H
            by_cases c31 : x33_2 < (l0_2.length : Int)
            · rw [if_pos c31] at H
              have c31b0 : decide (x33_2 < (l0_2.length : Int)) = true := decide_eq_true c31
              clear c31
              by_cases c32 : 0 ≤ x33_2
              · rw [if_pos c32] at H
                have c32b0 : decide (0 ≤ x33_2) = true := decide_eq_true c32
                clear c32
                by_cases c33 : x33_2 < (l0_2.length : Int)
                · rw [if_pos c33] at H
                  have c33b0 : decide (x33_2 < (l0_2.length : Int)) = true := decide_eq_true c33
                  clear c33
                  replace H := Option.bind_eq_some_iff.mp H
                  obtain ⟨⟨t299, t300, t303⟩, A340, H⟩ := H
                  replace H : (if x289002_2.length < 2199023255552 then (tree_CloneNode.l1 k2 l0_2 (l0_2.length : Int) (wrap64 (x33_2 + 1)) a0_0 x289001_1 (x289002_2 ++ [(⟨t299, t300, t303⟩ : S27)])) else (none)) = some (r1, r2, r3) := H
                  have A34 := Aside0.mk A340
                  clear A340
                  by_cases c35 : x289002_2.length < 2199023255552
                  · rw [if_pos c35] at H
                    have LMc35 := Aside0.mk c35
                    clear c35
                    obtain ⟨y306, hy306⟩ : ∃ y_ : List (S27), y_ = (x289002_2 ++ [(⟨t299, t300, t303⟩ : S27)]) := ⟨_, rfl⟩
                    replace H : (tree_CloneNode.l1 k2 l0_2 (l0_2.length : Int) (wrap64 (x33_2 + 1)) a0_0 x289001_1 y306) = some (r1, r2, r3) := by first | (rw [hy306]; with_reducible exact H) | (have H2_ := (Option.bind_some _ _).symm.trans H; rw [hy306]; with_reducible exact H2_) | (have H2_ := (Option.bind_some _ _).symm.trans H; with_reducible exact H2_) | with_reducible exact H | (rw [hy306]; exact H) | exact H
                    have Ny306 := Aside0.mk hy306
                    clear hy306
                    have H' := Aside0.mk H
                    clear H
                    have p297 : 0 ≤ (x33_2 : Int) := of_decide_eq_true (by first | (with_reducible assumption) | assumption)
                    have q297 : x33_2 < (l0_2.length : Int) := of_decide_eq_true (by first | (with_reducible assumption) | assumption)
                    obtain ⟨ad297, A297_1, c297_1, A297_2, c297_2, e297, hx297_0, hx297_1, hx297_2, hl297_1, hi297_1, hl297_2, hi297_2⟩ := at_T27 HR0_2.out x33_2 p297 q297
                    cases e297
                    replace hx297_0 := (HB.out.cell (World.block_lt_of_cell? w _ hx297_0)).trans hx297_0
                    replace hx297_1 := (HB.out.cell (World.block_lt_of_cell? w _ hx297_1)).trans hx297_1
                    replace hx297_2 := (HB.out.cell (World.block_lt_of_cell? w _ hx297_2)).trans hx297_2
                    have HR297_1 := Aside0.mk hi297_1
                    have HC297_1 := Aside0.mk hl297_1
                    clear hi297_1 hl297_1
                    have HR297_2 := Aside0.mk hi297_2
                    have HC297_2 := Aside0.mk hl297_2
                    clear hi297_2 hl297_2
                    replace p297 := eq_true p297
                    replace q297 := eq_true q297
                    try go_wp2_with (first | ((with_reducible refine gate_dst (N := 7) rfl ?_); refine box_event ?hg (N := 7) ?hd (cs := #[.string (⟨#[]⟩ : ByteArray), .slice none 0 0, .slice none 0 0]) (t := 27) ?hr ?_; (case hd => rfl); (case hg => rfl); (case hr => first | (go_simp; done) | (go_simp; rfl)); intro gb298 hg w36 hbox hb; have n0_ := Aside0.mk (Kd.S_below (by (with_reducible repeat (first | apply Kd.S_alloc | apply Kd.S_drewN | apply Kd.S_drew)); exact HO_289001.out) hb); have n1_ := Aside0.mk (Kd.R_below (Kd.R_elderB (by (with_reducible repeat (first | apply Kd.R_alloc | apply Kd.R_drewN | apply Kd.R_drew)); exact HO_289002.out) gb298 (Nat.le_of_eq hg.symm)) hb); have n2_ := Aside0.mk (blk_below (g := gb286) (o := .cells #[.string a0_0, .slice A0_1 l0_1.length c0_1, .slice (some ad297) l0_2.length c0_2] 27 (0, 0)) (by (with_reducible repeat (first | refine blk_drewN ?_ _ | refine blk_drew ?_ | refine blk_alloc ?_ _)); exact BK286.out) hb); have n3_ := Aside0.mk (blk_below (g := gb287) (o := .cells #[.string (⟨#[]⟩ : ByteArray), .slice none 0 0, .slice none 0 0] 27 (0, 0)) (by (with_reducible repeat (first | refine blk_drewN ?_ _ | refine blk_drew ?_ | refine blk_alloc ?_ _)); exact BK287.out) hb); have n4_ := Aside0.mk (blk_below (g := gb288) (o := .cells #[.string a0_0, u289001, u289002] 27 (0, 0)) (by (with_reducible repeat (first | refine blk_drewN ?_ _ | refine blk_drew ?_ | refine blk_alloc ?_ _)); exact BK288.out) hb); have n5_ := Aside0.mk (below_step (by repeat (first | (with_reducible first | exact HB.out | apply below_alloc | apply pw_below_drewN | apply below_drew1 | refine below_set ?_ GE286.out | refine below_set ?_ GE287.out | refine below_set ?_ GE288.out) | exact HB.out)) hb); have n6_ := Aside0.mk (hbox); have n7_ := Aside0.mk ((by rw [hg]; exact (below_size (by repeat (first | (with_reducible first | exact HB.out | apply below_alloc | apply pw_below_drewN | apply below_drew1 | refine below_set ?_ GE286.out | refine below_set ?_ GE287.out | refine below_set ?_ GE288.out) | exact HB.out))) : w.heap.size ≤ gb298)); have n8_ := Aside0.mk ((by rw [hg]; exact (below_size (by repeat (first | (with_reducible first | exact HB.out | apply below_alloc | apply pw_below_drewN | apply below_drew1 | refine below_set ?_ GE286.out | refine below_set ?_ GE287.out | refine below_set ?_ GE288.out) | exact HB.out))) : w.heap.size ≤ gb298)); have n9_ := Aside0.mk ((by rw [hg]; exact Nat.ne_of_lt (blk_lt (g := gb286) (o := .cells #[.string a0_0, .slice A0_1 l0_1.length c0_1, .slice (some ad297) l0_2.length c0_2] 27 (0, 0)) (by (with_reducible repeat (first | refine blk_drewN ?_ _ | refine blk_drew ?_ | refine blk_alloc ?_ _)); exact BK286.out)) : gb286 ≠ gb298)); have n10_ := Aside0.mk ((by rw [hg]; exact Nat.ne_of_gt (blk_lt (g := gb286) (o := .cells #[.string a0_0, .slice A0_1 l0_1.length c0_1, .slice (some ad297) l0_2.length c0_2] 27 (0, 0)) (by (with_reducible repeat (first | refine blk_drewN ?_ _ | refine blk_drew ?_ | refine blk_alloc ?_ _)); exact BK286.out)) : gb298 ≠ gb286)); have n11_ := Aside0.mk ((by rw [hg]; exact Nat.ne_of_lt (blk_lt (g := gb287) (o := .cells #[.string (⟨#[]⟩ : ByteArray), .slice none 0 0, .slice none 0 0] 27 (0, 0)) (by (with_reducible repeat (first | refine blk_drewN ?_ _ | refine blk_drew ?_ | refine blk_alloc ?_ _)); exact BK287.out)) : gb287 ≠ gb298)); have n12_ := Aside0.mk ((by rw [hg]; exact Nat.ne_of_gt (blk_lt (g := gb287) (o := .cells #[.string (⟨#[]⟩ : ByteArray), .slice none 0 0, .slice none 0 0] 27 (0, 0)) (by (with_reducible repeat (first | refine blk_drewN ?_ _ | refine blk_drew ?_ | refine blk_alloc ?_ _)); exact BK287.out)) : gb298 ≠ gb287)); have n13_ := Aside0.mk ((by rw [hg]; exact Nat.ne_of_lt (blk_lt (g := gb288) (o := .cells #[.string a0_0, u289001, u289002] 27 (0, 0)) (by (with_reducible repeat (first | refine blk_drewN ?_ _ | refine blk_drew ?_ | refine blk_alloc ?_ _)); exact BK288.out)) : gb288 ≠ gb298)); have n14_ := Aside0.mk ((by rw [hg]; exact Nat.ne_of_gt (blk_lt (g := gb288) (o := .cells #[.string a0_0, u289001, u289002] 27 (0, 0)) (by (with_reducible repeat (first | refine blk_drewN ?_ _ | refine blk_drew ?_ | refine blk_alloc ?_ _)); exact BK288.out)) : gb298 ≠ gb288)); clear HO_289001; clear HO_289002; clear BK286; clear BK287; clear BK288; clear HB; have HO_289001 := n0_; have HO_289002 := n1_; have BK286 := n2_; have BK287 := n3_; have BK288 := n4_; have HB := n5_; have BK298 := n6_; have GW298 := n7_; have GE298 := n8_; have NB286_298 := n9_; have NB298_286 := n10_; have NB287_298 := n11_; have NB298_287 := n12_; have NB288_298 := n13_; have NB298_288 := n14_; clear n0_ n1_ n2_ n3_ n4_ n5_ n6_ n7_ n8_ n9_ n10_ n11_ n12_ n13_ n14_; clear hb hbox hg; have hnb37 := NB298_286.out; have hnc37 := NB286_298.out; have hnb38 := NB298_287.out; have hnc38 := NB287_298.out; have hnb39 := NB298_288.out; have hnc39 := NB288_298.out; have hcz40_0 : w36.cell? ⟨gb298, 0, none⟩ = some (.string (⟨#[]⟩ : ByteArray)) := (blk_cell BK298.out 0).trans rfl; have hcz40_1 : w36.cell? ⟨gb298, 1, none⟩ = some (.slice none 0 0) := (blk_cell BK298.out 1).trans rfl; have hcz40_2 : w36.cell? ⟨gb298, 2, none⟩ = some (.slice none 0 0) := (blk_cell BK298.out 2).trans rfl; have hfz40_0 := blk_frozen BK298.out 0; have hfz40_1 := blk_frozen BK298.out 1; have hfz40_2 := blk_frozen BK298.out 2))
                    have n0_ : Aside0 (Kd.S k35 35 (((w36.setCell ⟨gb298, 0, none⟩ (.string ((rd_T27 l0_2 x33_2).f0))).setCell ⟨gb298, 1, none⟩ (.slice A297_1 ((rd_T27 l0_2 x33_2).f1).length c297_1)).setCell ⟨gb298, 2, none⟩ (.slice A297_2 ((rd_T27 l0_2 x33_2).f2).length c297_2)) w.heap.size (fun _ => True) u289001 x289001_1) := ⟨by (with_reducible repeat (first | apply Kd.S_alloc | apply Kd.S_drewN | apply Kd.S_drew)); exact Kd.S_mono (Kd.S_far (p := ⟨gb298, 2, none⟩) (Kd.S_far (p := ⟨gb298, 1, none⟩) (Kd.S_far (p := ⟨gb298, 0, none⟩) (Kd.S_types HO_289001.out BK298.out (by decide)) (fun _ hk => hk.2) (.string ((rd_T27 l0_2 x33_2).f0))) (fun _ hk => hk.2) (.slice A297_1 ((rd_T27 l0_2 x33_2).f1).length c297_1)) (fun _ hk => hk.2) (.slice A297_2 ((rd_T27 l0_2 x33_2).f2).length c297_2)) (fun _ hk => trivial)⟩
                    have n1_ : Aside0 (Kd.R k27 27 (((w36.setCell ⟨gb298, 0, none⟩ (.string ((rd_T27 l0_2 x33_2).f0))).setCell ⟨gb298, 1, none⟩ (.slice A297_1 ((rd_T27 l0_2 x33_2).f1).length c297_1)).setCell ⟨gb298, 2, none⟩ (.slice A297_2 ((rd_T27 l0_2 x33_2).f2).length c297_2)) w.heap.size (fun k_ => some k_ ≠ (u289001 : Value).ownBlock ∧ k_ ≠ gb286 ∧ k_ ≠ gb287 ∧ k_ ≠ gb288 ∧ k_ ≠ gb298) u289002 x289002_2) := ⟨by (with_reducible repeat (first | apply Kd.R_alloc | apply Kd.R_drewN | apply Kd.R_drew)); exact Kd.R_mono (Kd.R_far (p := ⟨gb298, 2, none⟩) (Kd.R_far (p := ⟨gb298, 1, none⟩) (Kd.R_far (p := ⟨gb298, 0, none⟩) (Kd.R_mono HO_289002.out (fun k_ hk => (⟨hk, hk.2⟩ : _ ∧ k_ ≠ gb298))) (fun _ hk => hk.2) (.string ((rd_T27 l0_2 x33_2).f0))) (fun _ hk => hk.2) (.slice A297_1 ((rd_T27 l0_2 x33_2).f1).length c297_1)) (fun _ hk => hk.2) (.slice A297_2 ((rd_T27 l0_2 x33_2).f2).length c297_2)) (fun _ hk => ⟨hk.1.1.1, ⟨hk.1.1.2.1, ⟨hk.1.1.2.2.1, ⟨hk.1.1.2.2.2, hk.1.2⟩⟩⟩⟩)⟩
                    have n2_ : Aside0 ((((w36.setCell ⟨gb298, 0, none⟩ (.string ((rd_T27 l0_2 x33_2).f0))).setCell ⟨gb298, 1, none⟩ (.slice A297_1 ((rd_T27 l0_2 x33_2).f1).length c297_1)).setCell ⟨gb298, 2, none⟩ (.slice A297_2 ((rd_T27 l0_2 x33_2).f2).length c297_2)).heap[gb286]? = some (.cells #[.string a0_0, .slice A0_1 l0_1.length c0_1, .slice (some ad297) l0_2.length c0_2] 27 (0, 0))) := ⟨by (with_reducible repeat (first | refine blk_drewN ?_ _ | refine blk_drew ?_ | refine blk_alloc ?_ _)); refine blk_far ?_ NB286_298.out _; (with_reducible repeat (first | refine blk_drewN ?_ _ | refine blk_drew ?_ | refine blk_alloc ?_ _)); refine blk_far ?_ NB286_298.out _; (with_reducible repeat (first | refine blk_drewN ?_ _ | refine blk_drew ?_ | refine blk_alloc ?_ _)); refine blk_far ?_ NB286_298.out _; (with_reducible repeat (first | refine blk_drewN ?_ _ | refine blk_drew ?_ | refine blk_alloc ?_ _)); exact BK286.out⟩
                    have n3_ : Aside0 ((((w36.setCell ⟨gb298, 0, none⟩ (.string ((rd_T27 l0_2 x33_2).f0))).setCell ⟨gb298, 1, none⟩ (.slice A297_1 ((rd_T27 l0_2 x33_2).f1).length c297_1)).setCell ⟨gb298, 2, none⟩ (.slice A297_2 ((rd_T27 l0_2 x33_2).f2).length c297_2)).heap[gb287]? = some (.cells #[.string (⟨#[]⟩ : ByteArray), .slice none 0 0, .slice none 0 0] 27 (0, 0))) := ⟨by (with_reducible repeat (first | refine blk_drewN ?_ _ | refine blk_drew ?_ | refine blk_alloc ?_ _)); refine blk_far ?_ NB287_298.out _; (with_reducible repeat (first | refine blk_drewN ?_ _ | refine blk_drew ?_ | refine blk_alloc ?_ _)); refine blk_far ?_ NB287_298.out _; (with_reducible repeat (first | refine blk_drewN ?_ _ | refine blk_drew ?_ | refine blk_alloc ?_ _)); refine blk_far ?_ NB287_298.out _; (with_reducible repeat (first | refine blk_drewN ?_ _ | refine blk_drew ?_ | refine blk_alloc ?_ _)); exact BK287.out⟩
                    have n4_ : Aside0 ((((w36.setCell ⟨gb298, 0, none⟩ (.string ((rd_T27 l0_2 x33_2).f0))).setCell ⟨gb298, 1, none⟩ (.slice A297_1 ((rd_T27 l0_2 x33_2).f1).length c297_1)).setCell ⟨gb298, 2, none⟩ (.slice A297_2 ((rd_T27 l0_2 x33_2).f2).length c297_2)).heap[gb288]? = some (.cells #[.string a0_0, u289001, u289002] 27 (0, 0))) := ⟨by (with_reducible repeat (first | refine blk_drewN ?_ _ | refine blk_drew ?_ | refine blk_alloc ?_ _)); refine blk_far ?_ NB288_298.out _; (with_reducible repeat (first | refine blk_drewN ?_ _ | refine blk_drew ?_ | refine blk_alloc ?_ _)); refine blk_far ?_ NB288_298.out _; (with_reducible repeat (first | refine blk_drewN ?_ _ | refine blk_drew ?_ | refine blk_alloc ?_ _)); refine blk_far ?_ NB288_298.out _; (with_reducible repeat (first | refine blk_drewN ?_ _ | refine blk_drew ?_ | refine blk_alloc ?_ _)); exact BK288.out⟩
                    have n5_ : Aside0 ((((w36.setCell ⟨gb298, 0, none⟩ (.string ((rd_T27 l0_2 x33_2).f0))).setCell ⟨gb298, 1, none⟩ (.slice A297_1 ((rd_T27 l0_2 x33_2).f1).length c297_1)).setCell ⟨gb298, 2, none⟩ (.slice A297_2 ((rd_T27 l0_2 x33_2).f2).length c297_2)).heap[gb298]? = some (.cells #[.string ((rd_T27 l0_2 x33_2).f0), .slice A297_1 ((rd_T27 l0_2 x33_2).f1).length c297_1, .slice A297_2 ((rd_T27 l0_2 x33_2).f2).length c297_2] 27 (0, 0))) := ⟨by (with_reducible repeat (first | refine blk_drewN ?_ _ | refine blk_drew ?_ | refine blk_alloc ?_ _)); refine blk_put (cs := #[.string ((rd_T27 l0_2 x33_2).f0), .slice A297_1 ((rd_T27 l0_2 x33_2).f1).length c297_1, .slice none 0 0]) ?_ 2 _ rfl; (with_reducible repeat (first | refine blk_drewN ?_ _ | refine blk_drew ?_ | refine blk_alloc ?_ _)); refine blk_put (cs := #[.string ((rd_T27 l0_2 x33_2).f0), .slice none 0 0, .slice none 0 0]) ?_ 1 _ rfl; (with_reducible repeat (first | refine blk_drewN ?_ _ | refine blk_drew ?_ | refine blk_alloc ?_ _)); refine blk_put (cs := #[.string (⟨#[]⟩ : ByteArray), .slice none 0 0, .slice none 0 0]) ?_ 0 _ rfl; (with_reducible repeat (first | refine blk_drewN ?_ _ | refine blk_drew ?_ | refine blk_alloc ?_ _)); exact BK298.out⟩
                    have n6_ : Aside0 (Below w.heap.size w (((w36.setCell ⟨gb298, 0, none⟩ (.string ((rd_T27 l0_2 x33_2).f0))).setCell ⟨gb298, 1, none⟩ (.slice A297_1 ((rd_T27 l0_2 x33_2).f1).length c297_1)).setCell ⟨gb298, 2, none⟩ (.slice A297_2 ((rd_T27 l0_2 x33_2).f2).length c297_2))) := ⟨by repeat (first | (with_reducible first | exact HB.out | apply below_alloc | apply pw_below_drewN | apply below_drew1 | refine below_set ?_ GE286.out | refine below_set ?_ GE287.out | refine below_set ?_ GE288.out | refine below_set ?_ GE298.out) | exact HB.out)⟩
                    (try clear HO_289001)
                    (try clear HO_289002)
                    (try clear BK286)
                    (try clear BK287)
                    (try clear BK288)
                    (try clear BK298)
                    (try clear HB)
                    generalize (((w36.setCell ⟨gb298, 0, none⟩ (.string ((rd_T27 l0_2 x33_2).f0))).setCell ⟨gb298, 1, none⟩ (.slice A297_1 ((rd_T27 l0_2 x33_2).f1).length c297_1)).setCell ⟨gb298, 2, none⟩ (.slice A297_2 ((rd_T27 l0_2 x33_2).f2).length c297_2)) = w41 at n0_ n1_ n2_ n3_ n4_ n5_ n6_ ⊢
                    have HO_289001 := n0_
                    have HO_289002 := n1_
                    have BK286 := n2_
                    have BK287 := n3_
                    have BK288 := n4_
                    have BK298 := n5_
                    have HB := n6_
                    clear n0_ n1_ n2_ n3_ n4_ n5_ n6_
                    have n0_ := Aside0.mk (Kd.S_drew HO_289001.out)
                    have n1_ := Aside0.mk (Kd.R_drew HO_289002.out)
                    have n2_ := Aside0.mk (blk_drew BK286.out)
                    have n3_ := Aside0.mk (blk_drew BK287.out)
                    have n4_ := Aside0.mk (blk_drew BK288.out)
                    have n5_ := Aside0.mk (blk_drew BK298.out)
                    have n6_ := Aside0.mk (below_drew1 HB.out)
                    clear HO_289001
                    clear HO_289002
                    clear BK286
                    clear BK287
                    clear BK288
                    clear BK298
                    clear HB
                    have HO_289001 := n0_
                    have HO_289002 := n1_
                    have BK286 := n2_
                    have BK287 := n3_
                    have BK288 := n4_
                    have BK298 := n5_
                    have HB := n6_
                    clear n0_ n1_ n2_ n3_ n4_ n5_ n6_
                    refine start_ (n := 8) (S := fun w' => w'.cell? ⟨gb288, 0, none⟩ = some (.string a0_0) ∧ w'.cell? ⟨gb288, 1, none⟩ = some (u289001) ∧ w'.cell? ⟨gb288, 2, none⟩ = some (u289002) ∧ w'.cell? ⟨gb298, 0, none⟩ = some (.string ((rd_T27 l0_2 x33_2).f0)) ∧ w'.cell? ⟨gb298, 1, none⟩ = some (.slice A297_1 ((rd_T27 l0_2 x33_2).f1).length c297_1) ∧ w'.cell? ⟨gb298, 2, none⟩ = some (.slice A297_2 ((rd_T27 l0_2 x33_2).f2).length c297_2)) (ds := [7]) #[false, false, false, false, false, false, false, false] (by kernel_rfl) rfl rfl ⟨(blk_cell BK288.out 0).trans rfl, (blk_cell BK288.out 1).trans rfl, (blk_cell BK288.out 2).trans rfl, (blk_cell BK298.out 0).trans rfl, (blk_cell BK298.out 1).trans rfl, (blk_cell BK298.out 2).trans rfl⟩ (fun hHeld => ?_); refine with_tabW tree_CloneNode.tab10 tree_CloneNode.bits10 (fun HT_ HW_ => ?_)
                    generalize w41.drew = w42 at HO_289001 HO_289002 BK286 BK287 BK288 BK298 HB hHeld ⊢
                    refine pure_ (i := 0) (N := some 37) (v := ?_) (a' := ?_) #[true, false, false, false, false, false, false, false] rfl rfl (any_of HT_.out (by kernel_rfl)) (fun _ _ _ h => h) (Or.inl ⟨by rfl, ?_⟩) ?_ ?_
                    rotate_left
                    · intro w'
                      go_simp
                      with_reducible rfl
                    rotate_left
                    · simp only [Act.put, List.setIfInBounds_toArray, List.set_cons_zero, List.set_cons_succ, i64_w, i32_w]
                      rfl
                    refine take_ (i := 1) (N := some 38) (v := ?_) (a' := ?_) #[true, true, false, false, false, false, false, false] rfl rfl (take_ofW HT_.out HW_.out (by kernel_rfl)) (fun _ _ _ h => h) (Or.inl ⟨by rfl, ?_⟩) hHeld ?_ ?_
                    rotate_left
                    · rintro w' ⟨s0, s1, s2, s3, s4, s5⟩
                      go_simp
                      with_reducible rfl
                    rotate_left
                    · simp only [Act.put, List.setIfInBounds_toArray, List.set_cons_zero, List.set_cons_succ, i64_w, i32_w]
                      rfl
                    refine take_ (i := 2) (N := some 39) (v := ?_) (a' := ?_) #[true, true, true, false, false, false, false, false] rfl rfl (take_ofW HT_.out HW_.out (by kernel_rfl)) (fun _ _ _ h => h) (Or.inl ⟨by rfl, ?_⟩) hHeld ?_ ?_
                    rotate_left
                    · rintro w' ⟨s0, s1, s2, s3, s4, s5⟩
                      go_simp
                      with_reducible rfl
                    rotate_left
                    · simp only [Act.put, List.setIfInBounds_toArray, List.set_cons_zero, List.set_cons_succ, i64_w, i32_w]
                      rfl
                    refine one_ (i := 3) (N := some 40) #[true, true, true, true, false, false, false, false] rfl rfl (one_of HT_.out (by kernel_rfl)) (by decide) (fun K hK => ?_)
                    refine goes_ Try.func14 (by kernel_rfl) rfl #[.agg #[.string ((rd_T27 l0_2 x33_2).f0), .slice A297_1 ((rd_T27 l0_2 x33_2).f1).length c297_1, .slice A297_2 ((rd_T27 l0_2 x33_2).f2).length c297_2]] (by rfl) rfl rfl (by (try simp only [List.map_toArray, List.map_cons, List.map_nil]); first | done | rfl | (simp only [List.length_drop, List.length_take]; rfl)) ?_
                    with_reducible refine (ih k2 (by have := HK1.out; have := HK2.out; omega) ((rd_T27 l0_2 x33_2).f0) _ _ ((rd_T27 l0_2 x33_2).f1) _ _ ((rd_T27 l0_2 x33_2).f2) t299 t300 t303 _ ?side1 ?side2 ?side3 ?side4 A34.out).mono ?_
                    (case side1 => repeat (first | exact (Kd.C_below HR297_1.out HB.out) | (with_reducible refine Kd.C_alloc ?_ _) | (with_reducible refine Kd.C_drewN ?_ _) | (with_reducible refine Kd.C_drew ?_)))
                    (case side2 => exact HC297_1.out)
                    (case side3 => repeat (first | exact (Kd.C_below HR297_2.out HB.out) | (with_reducible refine Kd.C_alloc ?_ _) | (with_reducible refine Kd.C_drewN ?_ _) | (with_reducible refine Kd.C_drew ?_)))
                    (case side4 => exact HC297_2.out)
                    rintro e w43 ⟨v301, v304, rfl, ho0, ho1, hb⟩
                    refine ⟨_, rfl, ?_⟩
                    have n0_ := Aside0.mk (Kd.S_elder' (by (with_reducible repeat (first | apply Kd.S_alloc | apply Kd.S_drewN | apply Kd.S_drew)); exact HO_289001.out) (Kd.S_base ho0) hb)
                    have n1_ := Aside0.mk (Kd.R_mono (Kd.R_told (Kd.R_told (Kd.R_old (by (with_reducible repeat (first | apply Kd.R_alloc | apply Kd.R_drewN | apply Kd.R_drew)); exact HO_289002.out) hb) (Kd.S_base ho0)) (Kd.R_base ho1)) (fun _ h_ => h_.1))
                    have n2_ := Aside0.mk (Kd.S_lower (Kd.S_new' ho0 (Kd.S_lt (by (with_reducible repeat (first | apply Kd.S_alloc | apply Kd.S_drewN | apply Kd.S_drew)); exact HO_289001.out))) (below_size (by repeat (first | (with_reducible first | exact HB.out | apply below_alloc | apply pw_below_drewN | apply below_drew1 | refine below_set ?_ GE286.out | refine below_set ?_ GE287.out | refine below_set ?_ GE288.out | refine below_set ?_ GE298.out) | exact HB.out))))
                    have n3_ := Aside0.mk (Kd.R_lower (Kd.R_newB (Kd.R_newB (Kd.R_newB (Kd.R_newB (Kd.R_new' (Kd.R_new' ho1 (Kd.S_lt (by (with_reducible repeat (first | apply Kd.S_alloc | apply Kd.S_drewN | apply Kd.S_drew)); exact HO_289001.out))) (Kd.R_lt (by (with_reducible repeat (first | apply Kd.R_alloc | apply Kd.R_drewN | apply Kd.R_drew)); exact HO_289002.out))) (g := gb286) (o := .cells #[.string a0_0, .slice A0_1 l0_1.length c0_1, .slice (some ad297) l0_2.length c0_2] 27 (0, 0)) (by (with_reducible repeat (first | refine blk_drewN ?_ _ | refine blk_drew ?_ | refine blk_alloc ?_ _)); exact BK286.out)) (g := gb287) (o := .cells #[.string (⟨#[]⟩ : ByteArray), .slice none 0 0, .slice none 0 0] 27 (0, 0)) (by (with_reducible repeat (first | refine blk_drewN ?_ _ | refine blk_drew ?_ | refine blk_alloc ?_ _)); exact BK287.out)) (g := gb288) (o := .cells #[.string a0_0, u289001, u289002] 27 (0, 0)) (by (with_reducible repeat (first | refine blk_drewN ?_ _ | refine blk_drew ?_ | refine blk_alloc ?_ _)); exact BK288.out)) (g := gb298) (o := .cells #[.string ((rd_T27 l0_2 x33_2).f0), .slice A297_1 ((rd_T27 l0_2 x33_2).f1).length c297_1, .slice A297_2 ((rd_T27 l0_2 x33_2).f2).length c297_2] 27 (0, 0)) (by (with_reducible repeat (first | refine blk_drewN ?_ _ | refine blk_drew ?_ | refine blk_alloc ?_ _)); exact BK298.out)) (below_size (by repeat (first | (with_reducible first | exact HB.out | apply below_alloc | apply pw_below_drewN | apply below_drew1 | refine below_set ?_ GE286.out | refine below_set ?_ GE287.out | refine below_set ?_ GE288.out | refine below_set ?_ GE298.out) | exact HB.out))))
                    have n4_ := Aside0.mk (blk_below (g := gb286) (o := .cells #[.string a0_0, .slice A0_1 l0_1.length c0_1, .slice (some ad297) l0_2.length c0_2] 27 (0, 0)) (by (with_reducible repeat (first | refine blk_drewN ?_ _ | refine blk_drew ?_ | refine blk_alloc ?_ _)); exact BK286.out) hb)
                    have n5_ := Aside0.mk (blk_below (g := gb287) (o := .cells #[.string (⟨#[]⟩ : ByteArray), .slice none 0 0, .slice none 0 0] 27 (0, 0)) (by (with_reducible repeat (first | refine blk_drewN ?_ _ | refine blk_drew ?_ | refine blk_alloc ?_ _)); exact BK287.out) hb)
                    have n6_ := Aside0.mk (blk_below (g := gb288) (o := .cells #[.string a0_0, u289001, u289002] 27 (0, 0)) (by (with_reducible repeat (first | refine blk_drewN ?_ _ | refine blk_drew ?_ | refine blk_alloc ?_ _)); exact BK288.out) hb)
                    have n7_ := Aside0.mk (blk_below (g := gb298) (o := .cells #[.string ((rd_T27 l0_2 x33_2).f0), .slice A297_1 ((rd_T27 l0_2 x33_2).f1).length c297_1, .slice A297_2 ((rd_T27 l0_2 x33_2).f2).length c297_2] 27 (0, 0)) (by (with_reducible repeat (first | refine blk_drewN ?_ _ | refine blk_drew ?_ | refine blk_alloc ?_ _)); exact BK298.out) hb)
                    have n8_ := Aside0.mk (below_step (by repeat (first | (with_reducible first | exact HB.out | apply below_alloc | apply pw_below_drewN | apply below_drew1 | refine below_set ?_ GE286.out | refine below_set ?_ GE287.out | refine below_set ?_ GE288.out | refine below_set ?_ GE298.out) | exact HB.out)) hb)
                    clear HO_289001
                    clear HO_289002
                    clear BK286
                    clear BK287
                    clear BK288
                    clear BK298
                    clear HB
                    have HO_289001 := n0_
                    have HO_289002 := n1_
                    have HO302 := n2_
                    have HO305 := n3_
                    have BK286 := n4_
                    have BK287 := n5_
                    have BK288 := n6_
                    have BK298 := n7_
                    have HB := n8_
                    clear n0_ n1_ n2_ n3_ n4_ n5_ n6_ n7_ n8_
                    (try clear hb)
                    (try clear hb2)
                    (try clear hk)
                    (try clear hi)
                    (try clear ho0)
                    (try clear ho1)
                    obtain ⟨Ao45, co45, eo45⟩ := Kd.S_slice HO302.out
                    (first | subst eo45 | (injection eo45 with f1_ f2_ f3_; have f4_ := f1_.symm; have f5_ := f3_.symm; clear f1_ f2_ f3_; subst f4_; subst f5_))
                    obtain ⟨Ao46, co46, eo46⟩ := Kd.R_slice HO305.out
                    (first | subst eo46 | (injection eo46 with f1_ f2_ f3_; have f4_ := f1_.symm; have f5_ := f3_.symm; clear f1_ f2_ f3_; subst f4_; subst f5_))
                    refine hK.out _ _ ⟨(blk_cell BK288.out 0).trans rfl, (blk_cell BK288.out 1).trans rfl, (blk_cell BK288.out 2).trans rfl, (blk_cell BK298.out 0).trans rfl, (blk_cell BK298.out 1).trans rfl, (blk_cell BK298.out 2).trans rfl⟩ (fun hHeld => ?_)
                    clear hK K
                    refine norm_ (a' := ?_) ?_ ?_
                    rotate_left
                    · show Act.put _ (some 40) _ = _
                      simp only [Act.put, List.setIfInBounds_toArray, List.set_cons_zero, List.set_cons_succ, i64_w, i32_w]
                      rfl
                    refine one_ (i := 4) (N := some 41) #[true, true, true, true, true, false, false, false] rfl rfl (one_of HT_.out (by kernel_rfl)) (by decide) (fun K hK => ?_)
                    refine value_ (w1 := ?_) (v := ?_) (by rfl) rfl ?_ ?_
                    rotate_left 2
                    · go_simp
                      constructor
                      · rfl
                      · rfl
                    refine hK.out _ _ ⟨(blk_cell (blk_alloc BK288.out _) 0).trans rfl, (blk_cell (blk_alloc BK288.out _) 1).trans rfl, (blk_cell (blk_alloc BK288.out _) 2).trans rfl, (blk_cell (blk_alloc BK298.out _) 0).trans rfl, (blk_cell (blk_alloc BK298.out _) 1).trans rfl, (blk_cell (blk_alloc BK298.out _) 2).trans rfl⟩ (fun hHeld => ?_)
                    clear hK K
                    refine norm_ (a' := ?_) ?_ ?_
                    rotate_left
                    · show Act.put _ (some 41) _ = _
                      simp only [Act.put, List.setIfInBounds_toArray, List.set_cons_zero, List.set_cons_succ, i64_w, i32_w]
                      rfl
                    refine one_ (i := 5) (N := some 42) #[true, true, true, true, true, true, false, false] rfl rfl (one_of HT_.out (by kernel_rfl)) (by decide) (fun K hK => ?_)
                    refine Kd.R_append_step k27 (w0 := w) w.heap.size (by rfl) (.tmp 38) (.tmp 41) 25 27 (.agg #[(.string ⟨#[]⟩), (.slice none 0 0), (.slice none 0 0)]) 64 rfl Try.underlying25 info27 rfl (by decide) (by omega) u289002 x289002_2 (⟨t299, t300, t303⟩ : S27) [.string t299, .slice Ao45 t300.length co45, .slice Ao46 t303.length co46] (fun k_ => some k_ ≠ (u289001 : Value).ownBlock ∧ k_ ≠ gb286 ∧ k_ ≠ gb287 ∧ k_ ≠ gb288 ∧ k_ ≠ gb298) (fun k_ => ((fun k_ => some k_ ≠ (u289001 : Value).ownBlock ∧ k_ ≠ gb286 ∧ k_ ≠ gb287 ∧ k_ ≠ gb288 ∧ k_ ≠ gb298)) k_ ∧ some k_ ≠ (u289002 : Value).ownBlock) rfl rfl ?aP (fun _ hk => hk) ?aF ?aO ?aB ?aS ?aL ?_
                    (case aP => exact k27_mkM _ _ _ (⟨t299, t300, t303⟩ : S27) (Kd.R_mono (Kd.R_types (Kd.R_types (Kd.R_types (Kd.R_types (Kd.R_apart' ((Kd.S_R HO302.out)) (Kd.R_typed HO_289002.out) (by decide)) BK286.out (by decide)) BK287.out (by decide)) BK288.out (by decide)) BK298.out (by decide)) (fun k_ hk => ⟨⟨hk.1.1.1.1.1.2, ⟨hk.1.1.1.2, ⟨hk.1.1.2, ⟨hk.1.2, hk.2⟩⟩⟩⟩, hk.1.1.1.1.2⟩)) (Kd.R_mono (HO305.out) (fun k_ hk => ⟨⟨hk.1.1.1.1.1.2, ⟨hk.1.1.1.2, ⟨hk.1.1.2, ⟨hk.1.2, hk.2⟩⟩⟩⟩, hk.1.1.1.1.2⟩)))
                    (case aB => exact (by repeat (first | (with_reducible first | exact HB.out | apply below_alloc | apply pw_below_drewN | apply below_drew1 | refine below_set ?_ GE286.out | refine below_set ?_ GE287.out | refine below_set ?_ GE288.out | refine below_set ?_ GE298.out) | exact HB.out)))
                    (case aF => exact (fun k_ hk => ⟨Kd.fresh' (Kd.S_lt (by (with_reducible repeat (first | apply Kd.S_alloc | apply Kd.S_drewN | apply Kd.S_drew)); exact HO_289001.out)) k_ hk, Kd.freshB (g := gb286) (o := .cells #[.string a0_0, .slice A0_1 l0_1.length c0_1, .slice (some ad297) l0_2.length c0_2] 27 (0, 0)) (by (with_reducible repeat (first | refine blk_drewN ?_ _ | refine blk_drew ?_ | refine blk_alloc ?_ _)); exact BK286.out) k_ hk, Kd.freshB (g := gb287) (o := .cells #[.string (⟨#[]⟩ : ByteArray), .slice none 0 0, .slice none 0 0] 27 (0, 0)) (by (with_reducible repeat (first | refine blk_drewN ?_ _ | refine blk_drew ?_ | refine blk_alloc ?_ _)); exact BK287.out) k_ hk, Kd.freshB (g := gb288) (o := .cells #[.string a0_0, u289001, u289002] 27 (0, 0)) (by (with_reducible repeat (first | refine blk_drewN ?_ _ | refine blk_drew ?_ | refine blk_alloc ?_ _)); exact BK288.out) k_ hk, Kd.freshB (g := gb298) (o := .cells #[.string ((rd_T27 l0_2 x33_2).f0), .slice A297_1 ((rd_T27 l0_2 x33_2).f1).length c297_1, .slice A297_2 ((rd_T27 l0_2 x33_2).f2).length c297_2] 27 (0, 0)) (by (with_reducible repeat (first | refine blk_drewN ?_ _ | refine blk_drew ?_ | refine blk_alloc ?_ _)); exact BK298.out) k_ hk⟩))
                    (case aO => exact (by (with_reducible repeat (first | apply Kd.R_alloc | apply Kd.R_drewN | apply Kd.R_drew)); exact Kd.R_mono HO_289002.out (fun _ hk => ⟨hk.1.1.1, ⟨hk.1.1.2.1, ⟨hk.1.1.2.2.1, ⟨hk.1.1.2.2.2.1, hk.1.1.2.2.2.2⟩⟩⟩⟩)))
                    (case aS => exact (below_size (by repeat (first | (with_reducible first | exact HB.out | apply below_alloc | apply pw_below_drewN | apply below_drew1 | refine below_set ?_ GE286.out | refine below_set ?_ GE287.out | refine below_set ?_ GE288.out | refine below_set ?_ GE298.out) | exact HB.out))))
                    (case aL => have := LMc35.out; omega)
                    intro v307 w44 ho hb hg hat
                    rw [← Ny306.out] at ho
                    have n0_ := Aside0.mk (Kd.S_over' (by (with_reducible repeat (first | apply Kd.S_alloc | apply Kd.S_drewN | apply Kd.S_drew)); exact HO_289001.out) (Kd.R_typed (by (with_reducible repeat (first | apply Kd.R_alloc | apply Kd.R_drewN | apply Kd.R_drew)); exact HO_289002.out)) (by decide) hg)
                    have n1_ := Aside0.mk (blk_grown (g := gb286) (o := .cells #[.string a0_0, .slice A0_1 l0_1.length c0_1, .slice (some ad297) l0_2.length c0_2] 27 (0, 0)) (by (with_reducible repeat (first | refine blk_drewN ?_ _ | refine blk_drew ?_ | refine blk_alloc ?_ _)); exact BK286.out) hg (Kd.R_away HO_289002.out (fun _ hk => hk.1.1.2.1)))
                    have n2_ := Aside0.mk (blk_grown (g := gb287) (o := .cells #[.string (⟨#[]⟩ : ByteArray), .slice none 0 0, .slice none 0 0] 27 (0, 0)) (by (with_reducible repeat (first | refine blk_drewN ?_ _ | refine blk_drew ?_ | refine blk_alloc ?_ _)); exact BK287.out) hg (Kd.R_away HO_289002.out (fun _ hk => hk.1.1.2.2.1)))
                    have n3_ := Aside0.mk (blk_grown (g := gb288) (o := .cells #[.string a0_0, u289001, u289002] 27 (0, 0)) (by (with_reducible repeat (first | refine blk_drewN ?_ _ | refine blk_drew ?_ | refine blk_alloc ?_ _)); exact BK288.out) hg (Kd.R_away HO_289002.out (fun _ hk => hk.1.1.2.2.2.1)))
                    have n4_ := Aside0.mk (blk_grown (g := gb298) (o := .cells #[.string ((rd_T27 l0_2 x33_2).f0), .slice A297_1 ((rd_T27 l0_2 x33_2).f1).length c297_1, .slice A297_2 ((rd_T27 l0_2 x33_2).f2).length c297_2] 27 (0, 0)) (by (with_reducible repeat (first | refine blk_drewN ?_ _ | refine blk_drew ?_ | refine blk_alloc ?_ _)); exact BK298.out) hg (Kd.R_away HO_289002.out (fun _ hk => hk.1.1.2.2.2.2)))
                    have n5_ := Aside0.mk (hb)
                    have n6_ := Aside0.mk (ho)
                    clear HO_289001
                    clear BK286
                    clear BK287
                    clear BK288
                    clear BK298
                    clear HB
                    clear HO_289002
                    clear HO302
                    clear HO305
                    have HO_289001 := n0_
                    have BK286 := n1_
                    have BK287 := n2_
                    have BK288 := n3_
                    have BK298 := n4_
                    have HB := n5_
                    have HO308 := n6_
                    clear n0_ n1_ n2_ n3_ n4_ n5_ n6_
                    clear ho hb hg hat
                    obtain ⟨Ao47, co47, eo47⟩ := Kd.R_slice HO308.out
                    (first | subst eo47 | (injection eo47 with f1_ f2_ f3_; have f4_ := f1_.symm; have f5_ := f3_.symm; clear f1_ f2_ f3_; subst f4_; subst f5_))
                    refine hK.out _ _ ⟨(blk_cell BK288.out 0).trans rfl, (blk_cell BK288.out 1).trans rfl, (blk_cell BK288.out 2).trans rfl, (blk_cell BK298.out 0).trans rfl, (blk_cell BK298.out 1).trans rfl, (blk_cell BK298.out 2).trans rfl⟩ (fun hHeld => ?_)
                    clear hK K
                    refine norm_ (a' := ?_) ?_ ?_
                    rotate_left
                    · show Act.put _ (some 42) _ = _
                      simp only [Act.put, List.setIfInBounds_toArray, List.set_cons_zero, List.set_cons_succ, i64_w, i32_w]
                      rfl
                    refine pure_ (i := 6) (N := some 43) (v := ?_) (a' := ?_) #[true, true, true, true, true, true, true, false] rfl rfl (any_of HT_.out (by kernel_rfl)) (fun _ _ _ h => h) (Or.inl ⟨by rfl, ?_⟩) ?_ ?_
                    rotate_left
                    · intro w'
                      go_simp
                      with_reducible rfl
                    rotate_left
                    · simp only [Act.put, List.setIfInBounds_toArray, List.set_cons_zero, List.set_cons_succ, i64_w, i32_w]
                      rfl
                    refine last_ (i := 7) (N := none) #[true, true, true, true, true, true, true, true] rfl rfl (one_of HT_.out (by kernel_rfl)) (by decide) (fun K hK => ?_)
                    have hs48 : w44.cell? ⟨gb288, 2, none⟩ = some (u289002) := (blk_cell BK288.out 2).trans rfl
                    have hfs48 := blk_frozen BK288.out 2
                    have hns48_0 := NB286_288.out
                    have hns48_1 := NB287_288.out
                    have hns48_3 := NB298_288.out
                    have hms48_0 := NB288_286.out
                    have hms48_1 := NB288_287.out
                    have hms48_3 := NB288_298.out
                    refine skip_ (w1 := ?_) (by rfl) rfl ?_ ?_
                    rotate_left
                    · go_simp
                      rfl
                    refine hK.out _ _ ?_
                    clear hK K
                    refine done_ (done_of HT_.out (by kernel_rfl)) ?_
                    try go_wp2
                    go_roundg k2
                    case measure => have := HK1.out; have := HK2.out; omega
                    case rel => exact ⟨(wrap64 (x33_2 + 1)), (y306), (.slice Ao47 y306.length co47), (by first | rfl | (simp; done) | (simp [*]; done)), H', ⟨by have := HK1.out; have := HK2.out; omega⟩, ⟨by (with_reducible repeat (first | apply Kd.S_alloc | apply Kd.S_drewN | apply Kd.S_drew)); exact Kd.S_mono (Kd.S_far (p := ⟨gb288, 2, none⟩) (Kd.S_types HO_289001.out BK288.out (by decide)) (fun _ hk => hk.2) (.slice Ao47 y306.length co47)) (fun _ hk => trivial)⟩, ⟨by (with_reducible repeat (first | apply Kd.R_alloc | apply Kd.R_drewN | apply Kd.R_drew)); exact Kd.R_mono (Kd.R_far (p := ⟨gb288, 2, none⟩) (Kd.R_mono HO308.out (fun k_ hk => (⟨hk, hk.2.2.2.1⟩ : _ ∧ k_ ≠ gb288))) (fun _ hk => hk.2) (.slice Ao47 y306.length co47)) (fun _ hk => ⟨hk.1.1, ⟨hk.1.2.1, ⟨hk.1.2.2.1, hk.1.2.2.2.1⟩⟩⟩)⟩, ⟨by (with_reducible repeat (first | refine blk_drewN ?_ _ | refine blk_drew ?_ | refine blk_alloc ?_ _)); refine blk_far ?_ NB286_288.out _; (with_reducible repeat (first | refine blk_drewN ?_ _ | refine blk_drew ?_ | refine blk_alloc ?_ _)); exact BK286.out⟩, ⟨by (with_reducible repeat (first | refine blk_drewN ?_ _ | refine blk_drew ?_ | refine blk_alloc ?_ _)); refine blk_far ?_ NB287_288.out _; (with_reducible repeat (first | refine blk_drewN ?_ _ | refine blk_drew ?_ | refine blk_alloc ?_ _)); exact BK287.out⟩, ⟨by (with_reducible repeat (first | refine blk_drewN ?_ _ | refine blk_drew ?_ | refine blk_alloc ?_ _)); refine blk_put (cs := #[.string a0_0, u289001, u289002]) ?_ 2 _ rfl; (with_reducible repeat (first | refine blk_drewN ?_ _ | refine blk_drew ?_ | refine blk_alloc ?_ _)); exact BK288.out⟩, ⟨by repeat (first | (with_reducible first | exact HB.out | apply below_alloc | apply pw_below_drewN | apply below_drew1 | refine below_set ?_ GE286.out | refine below_set ?_ GE287.out | refine below_set ?_ GE288.out | refine below_set ?_ GE298.out) | exact HB.out)⟩⟩
                  · rw [if_neg c35] at H
                    exact absurd H (by simp)
                · rw [if_neg c33] at H
                  exact absurd H (by simp)
              · rw [if_neg c32] at H
                exact absurd H (by simp)
            · rw [if_neg c31] at H
              have c31b0 : decide (x33_2 < (l0_2.length : Int)) = false := decide_eq_false c31
              clear c31
              simp only [Option.some.injEq, Prod.mk.injEq] at H
              obtain ⟨rfl, rfl, rfl⟩ := H
              have hnb49 := NB288_286.out
              have hnc49 := NB286_288.out
              have hnb50 := NB288_287.out
              have hnc50 := NB287_288.out
              have hcz51_0 : wr.cell? ⟨gb288, 0, none⟩ = some (.string a0_0) := (blk_cell BK288.out 0).trans rfl
              have hcz51_1 : wr.cell? ⟨gb288, 1, none⟩ = some (u289001) := (blk_cell BK288.out 1).trans rfl
              have hcz51_2 : wr.cell? ⟨gb288, 2, none⟩ = some (u289002) := (blk_cell BK288.out 2).trans rfl
              have hfz51_0 := blk_frozen BK288.out 0
              have hfz51_1 := blk_frozen BK288.out 1
              have hfz51_2 := blk_frozen BK288.out 2
              have hnb52 := NB287_286.out
              have hnc52 := NB286_287.out
              have hcz53_0 : wr.cell? ⟨gb287, 0, none⟩ = some (.string (⟨#[]⟩ : ByteArray)) := (blk_cell BK287.out 0).trans rfl
              have hcz53_1 : wr.cell? ⟨gb287, 1, none⟩ = some (.slice none 0 0) := (blk_cell BK287.out 1).trans rfl
              have hcz53_2 : wr.cell? ⟨gb287, 2, none⟩ = some (.slice none 0 0) := (blk_cell BK287.out 2).trans rfl
              have hfz53_0 := blk_frozen BK287.out 0
              have hfz53_1 := blk_frozen BK287.out 1
              have hfz53_2 := blk_frozen BK287.out 2
              obtain ⟨Ao54, co54, eo54⟩ := Kd.S_slice HO_289001.out
              subst eo54
              obtain ⟨Ao55, co55, eo55⟩ := Kd.R_slice HO_289002.out
              subst eo55
              go_wp2
              refine bodyPost_ret (results_cell_row rfl _ _ gb287 27 #[.string a0_0, .slice Ao54 x289001_1.length co54, .slice Ao55 x289002_2.length co55] (0, 0) _ rfl (by (with_reducible repeat (first | refine blk_drewN ?_ _ | refine blk_drew ?_ | refine blk_alloc ?_ _)); refine blk_put (cs := #[.string a0_0, .slice Ao54 x289001_1.length co54, .slice none 0 0]) ?_ 2 _ rfl; (with_reducible repeat (first | refine blk_drewN ?_ _ | refine blk_drew ?_ | refine blk_alloc ?_ _)); refine blk_put (cs := #[.string a0_0, .slice none 0 0, .slice none 0 0]) ?_ 1 _ rfl; (with_reducible repeat (first | refine blk_drewN ?_ _ | refine blk_drew ?_ | refine blk_alloc ?_ _)); refine blk_put (cs := #[.string (⟨#[]⟩ : ByteArray), .slice none 0 0, .slice none 0 0]) ?_ 0 _ rfl; (with_reducible repeat (first | refine blk_drewN ?_ _ | refine blk_drew ?_ | refine blk_alloc ?_ _)); exact BK287.out) Try.underlying27 rfl (by kernel_rfl)) rfl ?_
              exact ⟨_, _, by first | rfl | (simp [errW_none, errW_some] <;> rfl) | (simp [*, errW_none, errW_some] <;> rfl), by (with_reducible repeat (first | apply Kd.S_alloc | apply Kd.S_drewN | apply Kd.S_drew)); exact Kd.S_mono (Kd.S_far (p := ⟨gb287, 2, none⟩) (Kd.S_far (p := ⟨gb287, 1, none⟩) (Kd.S_far (p := ⟨gb287, 0, none⟩) (Kd.S_types HO_289001.out BK287.out (by decide)) (fun _ hk => hk.2) (.string a0_0)) (fun _ hk => hk.2) (.slice Ao54 x289001_1.length co54)) (fun _ hk => hk.2) (.slice Ao55 x289002_2.length co55)) (fun _ hk => trivial), by (with_reducible repeat (first | apply Kd.R_alloc | apply Kd.R_drewN | apply Kd.R_drew)); exact Kd.R_mono (Kd.R_far (p := ⟨gb287, 2, none⟩) (Kd.R_far (p := ⟨gb287, 1, none⟩) (Kd.R_far (p := ⟨gb287, 0, none⟩) (Kd.R_mono HO_289002.out (fun k_ hk => (⟨hk, hk.2.2.1⟩ : _ ∧ k_ ≠ gb287))) (fun _ hk => hk.2) (.string a0_0)) (fun _ hk => hk.2) (.slice Ao54 x289001_1.length co54)) (fun _ hk => hk.2) (.slice Ao55 x289002_2.length co55)) (fun _ hk => hk.1.1), by repeat (first | (with_reducible first | exact HB.out | apply below_alloc | apply pw_below_drewN | apply below_drew1 | refine below_set ?_ GE286.out | refine below_set ?_ GE287.out | refine below_set ?_ GE288.out) | exact HB.out)⟩
end Go.Proofs.Ytiioeaalnmjbmaa.PE

namespace Go.Proofs.Ytiioeaalnmjbmaa.PE
open Go.RowKit Go.Proofs.YtiioeaalnmjbmaaW.PrintWords Go.Proofs.YtiioeaalnmjbmaaW.PrintLast Go.Proofs.YtiioeaalnmjbmaaW.PrintMore
attribute [local go_sem] max2_int min2_int max_two min_two max_three min_three max_four min_four   -- for this text's walks alone
set_option linter.unusedVariables false
set_option linter.unusedSimpArgs false
def tree_Clone.f (k : Nat) (a0_0 : Int) (l0_1 : List (S45)) (a0_2 : ByteArray) (l0_3 : List (S35)) (l0_4 : List (S27)) : Option (Int × (List (S45)) × ByteArray × (List (S35)) × (List (S27))) := (api_Reserve_13.f l0_1).bind fun t311 => ((tree_CloneNode.f k a0_2 l0_3 l0_4).bind fun bt314 => (some (a0_0, t311, bt314.1, bt314.2.1, bt314.2.2)))
def tree_Clone.T1 : Bool × List (List Nat × List Nat) := (true, [([], []), ([0], [0]), ([], []), ([2], [2]), ([3], [3]), ([], []), ([5], [5]), ([6, 4], [6]), ([1, 4, 7], [1, 4, 7]), ([8, 7, 0, 1, 2, 3, 4, 5, 6, 7, 8], [8])])
def tree_Clone.B1 : List Nat := [0, 1, 0, 4, 12, 0, 32, 124, 255, 511]
theorem tree_Clone.tab1 : rtab .any (opsOf Try.f6 1) = tree_Clone.T1 := by kernel_rfl
theorem tree_Clone.bits1 : waitsOk tree_Clone.T1.2 tree_Clone.B1 = true := by kernel_rfl
set_option maxHeartbeats 8000000 in
set_option maxRecDepth 100000 in
theorem tree_Clone.calls (k : Nat) (a0_0 : Int) (A0_1 : Option Addr) (c0_1 : Nat) (l0_1 : List (S45)) (a0_2 : ByteArray) (A0_3 : Option Addr) (c0_3 : Nat) (l0_3 : List (S35)) (A0_4 : Option Addr) (c0_4 : Nat) (l0_4 : List (S27)) (r1 : Int) (r2 : List (S45)) (r3 : ByteArray) (r4 : List (S35)) (r5 : List (S27)) (w : World) (hr0_1 : Kd.C k45 w A0_1 l0_1.length l0_1) (hc0_1 : l0_1.length ≤ c0_1) (hr0_3 : Kd.C k35 w A0_3 l0_3.length l0_3) (hc0_3 : l0_3.length ≤ c0_3) (hr0_4 : Kd.C k27 w A0_4 l0_4.length l0_4) (hc0_4 : l0_4.length ≤ c0_4) (h : tree_Clone.f k a0_0 l0_1 a0_2 l0_3 l0_4 = some (r1, r2, r3, r4, r5)) :
    Calls Try.prog 6 #[.agg #[.int .u32 a0_0, .slice A0_1 l0_1.length c0_1, .string a0_2, .slice A0_3 l0_3.length c0_3, .slice A0_4 l0_4.length c0_4]] w fun e w' => ∃ v1_ v3_ v4_ : Value, e = .returned (.agg #[.int .u32 r1, v1_, .string r3, v3_, v4_]) ∧ Kd.R k45 45 w' w.heap.size (fun _ => True) v1_ r2 ∧ Kd.S k35 35 w' w.heap.size (fun _ => True) v3_ r4 ∧ Kd.R k27 27 w' w.heap.size (fun k_ => some k_ ≠ (v3_ : Value).ownBlock) v4_ r5 ∧ Below w.heap.size w w' := by
  have hu29 := Try.underlying29
  have hu27 := Try.underlying27
  have HR0_1 := Aside0.mk hr0_1
  have HC0_1 := Aside0.mk hc0_1
  clear hr0_1 hc0_1
  have HR0_3 := Aside0.mk hr0_3
  have HC0_3 := Aside0.mk hc0_3
  clear hr0_3 hc0_3
  have HR0_4 := Aside0.mk hr0_4
  have HC0_4 := Aside0.mk hc0_4
  clear hr0_4 hc0_4
  have HB := Aside0.mk (Below.refl w.heap.size w)
  have H : ((api_Reserve_13.f l0_1).bind fun t311 => ((tree_CloneNode.f k a0_2 l0_3 l0_4).bind fun bt314 => (some (a0_0, t311, bt314.1, bt314.2.1, bt314.2.2)))) = some (r1, r2, r3, r4, r5) := h
  clear h
  replace H := Option.bind_eq_some_iff.mp H
  obtain ⟨t311, A20, H⟩ := H
  replace H : ((tree_CloneNode.f k a0_2 l0_3 l0_4).bind fun bt314 => (some (a0_0, t311, bt314.1, bt314.2.1, bt314.2.2))) = some (r1, r2, r3, r4, r5) := H
  have A2 := Aside0.mk A20
  clear A20
  replace H := Option.bind_eq_some_iff.mp H
  obtain ⟨⟨t314, t315, t318⟩, A30, H⟩ := H
  replace H : (some (a0_0, t311, t314, t315, t318)) = some (r1, r2, r3, r4, r5) := H
  have A3 := Aside0.mk A30
  clear A30
  simp only [Option.some.injEq, Prod.mk.injEq] at H
  obtain ⟨rfl, rfl, rfl, rfl, rfl⟩ := H
  go_enter Try.func6, Try.ntmps6
  try go_wp2_with (first | ((with_reducible refine gate_dst (N := 1) rfl ?_); refine box_event ?hg (N := 1) ?hd (cs := #[.int .u32 a0_0, .slice A0_1 l0_1.length c0_1, .string a0_2, .slice A0_3 l0_3.length c0_3, .slice A0_4 l0_4.length c0_4]) (t := 29) ?hr ?_; (case hd => rfl); (case hg => rfl); (case hr => first | (go_simp; done) | (go_simp; rfl)); intro gb309 hg w4 hbox hb; have n0_ := Aside0.mk (below_step (by repeat (first | (with_reducible first | exact HB.out | apply below_alloc | apply pw_below_drewN | apply below_drew1) | exact HB.out)) hb); have n1_ := Aside0.mk (hbox); have n2_ := Aside0.mk ((by rw [hg]; exact (below_size (by repeat (first | (with_reducible first | exact HB.out | apply below_alloc | apply pw_below_drewN | apply below_drew1) | exact HB.out))) : w.heap.size ≤ gb309)); have n3_ := Aside0.mk ((by rw [hg]; exact (below_size (by repeat (first | (with_reducible first | exact HB.out | apply below_alloc | apply pw_below_drewN | apply below_drew1) | exact HB.out))) : w.heap.size ≤ gb309)); clear HB; have HB := n0_; have BK309 := n1_; have GW309 := n2_; have GE309 := n3_; clear n0_ n1_ n2_ n3_; clear hb hbox hg) | ((with_reducible refine gate_dst (N := 2) rfl ?_); refine box_event ?hg (N := 2) ?hd (cs := #[.int .u32 0, .slice none 0 0, .string (⟨#[]⟩ : ByteArray), .slice none 0 0, .slice none 0 0]) (t := 29) ?hr ?_; (case hd => rfl); (case hg => rfl); (case hr => first | (go_simp; done) | (go_simp; rfl)); intro gb310 hg w5 hbox hb; have n0_ := Aside0.mk (blk_below (g := gb309) (o := .cells #[.int .u32 a0_0, .slice A0_1 l0_1.length c0_1, .string a0_2, .slice A0_3 l0_3.length c0_3, .slice A0_4 l0_4.length c0_4] 29 (0, 0)) (by (with_reducible repeat (first | refine blk_drewN ?_ _ | refine blk_drew ?_ | refine blk_alloc ?_ _)); exact BK309.out) hb); have n1_ := Aside0.mk (below_step (by repeat (first | (with_reducible first | exact HB.out | apply below_alloc | apply pw_below_drewN | apply below_drew1 | refine below_set ?_ GE309.out) | exact HB.out)) hb); have n2_ := Aside0.mk (hbox); have n3_ := Aside0.mk ((by rw [hg]; exact (below_size (by repeat (first | (with_reducible first | exact HB.out | apply below_alloc | apply pw_below_drewN | apply below_drew1 | refine below_set ?_ GE309.out) | exact HB.out))) : w.heap.size ≤ gb310)); have n4_ := Aside0.mk ((by rw [hg]; exact (below_size (by repeat (first | (with_reducible first | exact HB.out | apply below_alloc | apply pw_below_drewN | apply below_drew1 | refine below_set ?_ GE309.out) | exact HB.out))) : w.heap.size ≤ gb310)); have n5_ := Aside0.mk ((by rw [hg]; exact Nat.ne_of_lt (blk_lt (g := gb309) (o := .cells #[.int .u32 a0_0, .slice A0_1 l0_1.length c0_1, .string a0_2, .slice A0_3 l0_3.length c0_3, .slice A0_4 l0_4.length c0_4] 29 (0, 0)) (by (with_reducible repeat (first | refine blk_drewN ?_ _ | refine blk_drew ?_ | refine blk_alloc ?_ _)); exact BK309.out)) : gb309 ≠ gb310)); have n6_ := Aside0.mk ((by rw [hg]; exact Nat.ne_of_gt (blk_lt (g := gb309) (o := .cells #[.int .u32 a0_0, .slice A0_1 l0_1.length c0_1, .string a0_2, .slice A0_3 l0_3.length c0_3, .slice A0_4 l0_4.length c0_4] 29 (0, 0)) (by (with_reducible repeat (first | refine blk_drewN ?_ _ | refine blk_drew ?_ | refine blk_alloc ?_ _)); exact BK309.out)) : gb310 ≠ gb309)); clear BK309; clear HB; have BK309 := n0_; have HB := n1_; have BK310 := n2_; have GW310 := n3_; have GE310 := n4_; have NB309_310 := n5_; have NB310_309 := n6_; clear n0_ n1_ n2_ n3_ n4_ n5_ n6_; clear hb hbox hg))
  have n0_ := Aside0.mk (blk_drew BK309.out)
  have n1_ := Aside0.mk (blk_drew BK310.out)
  have n2_ := Aside0.mk (below_drew1 HB.out)
  clear BK309
  clear BK310
  clear HB
  have BK309 := n0_
  have BK310 := n1_
  have HB := n2_
  clear n0_ n1_ n2_
  refine start_ (n := 10) (S := fun w' => w'.cell? ⟨gb309, 0, none⟩ = some (.int .u32 a0_0) ∧ w'.cell? ⟨gb309, 1, none⟩ = some (.slice A0_1 l0_1.length c0_1) ∧ w'.cell? ⟨gb309, 2, none⟩ = some (.string a0_2) ∧ w'.cell? ⟨gb309, 3, none⟩ = some (.slice A0_3 l0_3.length c0_3) ∧ w'.cell? ⟨gb309, 4, none⟩ = some (.slice A0_4 l0_4.length c0_4)) (ds := []) #[false, false, false, false, false, false, false, false, false, false] (by kernel_rfl) rfl rfl ⟨(blk_cell BK309.out 0).trans rfl, (blk_cell BK309.out 1).trans rfl, (blk_cell BK309.out 2).trans rfl, (blk_cell BK309.out 3).trans rfl, (blk_cell BK309.out 4).trans rfl⟩ (fun hHeld => ?_); refine with_tabW tree_Clone.tab1 tree_Clone.bits1 (fun HT_ HW_ => ?_)
  generalize w5.drew = w6 at BK309 BK310 HB hHeld ⊢
  refine pure_ (i := 0) (N := some 3) (v := ?_) (a' := ?_) #[true, false, false, false, false, false, false, false, false, false] rfl rfl (any_of HT_.out (by kernel_rfl)) (fun _ _ _ h => h) (Or.inl ⟨by rfl, ?_⟩) ?_ ?_
  rotate_left
  · intro w'
    go_simp
    with_reducible rfl
  rotate_left
  · simp only [Act.put, List.setIfInBounds_toArray, List.set_cons_zero, List.set_cons_succ, i64_w, i32_w]
    rfl
  refine pure_ (i := 2) (N := some 5) (v := ?_) (a' := ?_) #[true, false, true, false, false, false, false, false, false, false] rfl rfl (any_of HT_.out (by kernel_rfl)) (fun _ _ _ h => h) (Or.inl ⟨by rfl, ?_⟩) ?_ ?_
  rotate_left
  · intro w'
    go_simp
    with_reducible rfl
  rotate_left
  · simp only [Act.put, List.setIfInBounds_toArray, List.set_cons_zero, List.set_cons_succ, i64_w, i32_w]
    rfl
  refine pure_ (i := 5) (N := some 8) (v := ?_) (a' := ?_) #[true, false, true, false, false, true, false, false, false, false] rfl rfl (any_of HT_.out (by kernel_rfl)) (fun _ _ _ h => h) (Or.inl ⟨by rfl, ?_⟩) ?_ ?_
  rotate_left
  · intro w'
    go_simp
    with_reducible rfl
  rotate_left
  · simp only [Act.put, List.setIfInBounds_toArray, List.set_cons_zero, List.set_cons_succ, i64_w, i32_w]
    rfl
  refine take_ (i := 1) (N := some 4) (v := ?_) (a' := ?_) #[true, true, true, false, false, true, false, false, false, false] rfl rfl (take_ofW HT_.out HW_.out (by kernel_rfl)) (fun _ _ _ h => h) (Or.inl ⟨by rfl, ?_⟩) hHeld ?_ ?_
  rotate_left
  · rintro w' ⟨s0, s1, s2, s3, s4⟩
    go_simp
    with_reducible rfl
  rotate_left
  · simp only [Act.put, List.setIfInBounds_toArray, List.set_cons_zero, List.set_cons_succ, i64_w, i32_w]
    rfl
  refine take_ (i := 3) (N := some 6) (v := ?_) (a' := ?_) #[true, true, true, true, false, true, false, false, false, false] rfl rfl (take_ofW HT_.out HW_.out (by kernel_rfl)) (fun _ _ _ h => h) (Or.inl ⟨by rfl, ?_⟩) hHeld ?_ ?_
  rotate_left
  · rintro w' ⟨s0, s1, s2, s3, s4⟩
    go_simp
    with_reducible rfl
  rotate_left
  · simp only [Act.put, List.setIfInBounds_toArray, List.set_cons_zero, List.set_cons_succ, i64_w, i32_w]
    rfl
  refine take_ (i := 6) (N := some 9) (v := ?_) (a' := ?_) #[true, true, true, true, false, true, true, false, false, false] rfl rfl (take_ofW HT_.out HW_.out (by kernel_rfl)) (fun _ _ _ h => h) (Or.inl ⟨by rfl, ?_⟩) hHeld ?_ ?_
  rotate_left
  · rintro w' ⟨s0, s1, s2, s3, s4⟩
    go_simp
    with_reducible rfl
  rotate_left
  · simp only [Act.put, List.setIfInBounds_toArray, List.set_cons_zero, List.set_cons_succ, i64_w, i32_w]
    rfl
  refine one_ (i := 4) (N := some 7) #[true, true, true, true, true, true, true, false, false, false] rfl rfl (one_of HT_.out (by kernel_rfl)) (by decide) (fun K hK => ?_)
  refine goes_ Try.func13 (by kernel_rfl) rfl #[.slice A0_1 l0_1.length c0_1] (by rfl) rfl rfl (by (try simp only [List.map_toArray, List.map_cons, List.map_nil]); first | done | rfl | (simp only [List.length_drop, List.length_take]; rfl)) ?_
  with_reducible refine (api_Reserve_13.calls _ _ l0_1 t311 _ ?side1 ?side2 A2.out).mono ?_
  (case side1 => repeat (first | exact (Kd.C_below HR0_1.out HB.out) | (with_reducible refine Kd.C_alloc ?_ _) | (with_reducible refine Kd.C_drewN ?_ _) | (with_reducible refine Kd.C_drew ?_)))
  (case side2 => exact HC0_1.out)
  rintro e w7 ⟨v312, rfl, ho0, hb⟩
  refine ⟨_, rfl, ?_⟩
  have n0_ := Aside0.mk (Kd.R_lower ho0 (below_size (by repeat (first | (with_reducible first | exact HB.out | apply below_alloc | apply pw_below_drewN | apply below_drew1 | refine below_set ?_ GE309.out | refine below_set ?_ GE310.out) | exact HB.out))))
  have n1_ := Aside0.mk (blk_below (g := gb309) (o := .cells #[.int .u32 a0_0, .slice A0_1 l0_1.length c0_1, .string a0_2, .slice A0_3 l0_3.length c0_3, .slice A0_4 l0_4.length c0_4] 29 (0, 0)) (by (with_reducible repeat (first | refine blk_drewN ?_ _ | refine blk_drew ?_ | refine blk_alloc ?_ _)); exact BK309.out) hb)
  have n2_ := Aside0.mk (blk_below (g := gb310) (o := .cells #[.int .u32 0, .slice none 0 0, .string (⟨#[]⟩ : ByteArray), .slice none 0 0, .slice none 0 0] 29 (0, 0)) (by (with_reducible repeat (first | refine blk_drewN ?_ _ | refine blk_drew ?_ | refine blk_alloc ?_ _)); exact BK310.out) hb)
  have n3_ := Aside0.mk (below_step (by repeat (first | (with_reducible first | exact HB.out | apply below_alloc | apply pw_below_drewN | apply below_drew1 | refine below_set ?_ GE309.out | refine below_set ?_ GE310.out) | exact HB.out)) hb)
  clear BK309
  clear BK310
  clear HB
  have HO313 := n0_
  have BK309 := n1_
  have BK310 := n2_
  have HB := n3_
  clear n0_ n1_ n2_ n3_
  (try clear hb)
  (try clear hb2)
  (try clear hk)
  (try clear hi)
  (try clear ho0)
  refine hK.out _ _ ⟨(blk_cell BK309.out 0).trans rfl, (blk_cell BK309.out 1).trans rfl, (blk_cell BK309.out 2).trans rfl, (blk_cell BK309.out 3).trans rfl, (blk_cell BK309.out 4).trans rfl⟩ (fun hHeld => ?_)
  clear hK K
  refine norm_ (a' := ?_) ?_ ?_
  rotate_left
  · show Act.put _ (some 7) _ = _
    simp only [Act.put, List.setIfInBounds_toArray, List.set_cons_zero, List.set_cons_succ, i64_w, i32_w]
    rfl
  refine one_ (i := 7) (N := some 10) #[true, true, true, true, true, true, true, true, false, false] rfl rfl (one_of HT_.out (by kernel_rfl)) (by decide) (fun K hK => ?_)
  refine goes_ Try.func14 (by kernel_rfl) rfl #[.agg #[.string a0_2, .slice A0_3 l0_3.length c0_3, .slice A0_4 l0_4.length c0_4]] (by rfl) rfl rfl (by (try simp only [List.map_toArray, List.map_cons, List.map_nil]); first | done | rfl | (simp only [List.length_drop, List.length_take]; rfl)) ?_
  with_reducible refine (tree_CloneNode.calls k a0_2 _ _ l0_3 _ _ l0_4 t314 t315 t318 _ ?side1 ?side2 ?side3 ?side4 A3.out).mono ?_
  (case side1 => repeat (first | exact (Kd.C_below HR0_3.out HB.out) | (with_reducible refine Kd.C_alloc ?_ _) | (with_reducible refine Kd.C_drewN ?_ _) | (with_reducible refine Kd.C_drew ?_)))
  (case side2 => exact HC0_3.out)
  (case side3 => repeat (first | exact (Kd.C_below HR0_4.out HB.out) | (with_reducible refine Kd.C_alloc ?_ _) | (with_reducible refine Kd.C_drewN ?_ _) | (with_reducible refine Kd.C_drew ?_)))
  (case side4 => exact HC0_4.out)
  rintro e w8 ⟨v316, v319, rfl, ho0, ho1, hb⟩
  refine ⟨_, rfl, ?_⟩
  have n0_ := Aside0.mk (Kd.R_below (by (with_reducible repeat (first | apply Kd.R_alloc | apply Kd.R_drewN | apply Kd.R_drew)); exact HO313.out) hb)
  have n1_ := Aside0.mk (Kd.S_lower ho0 (below_size (by repeat (first | (with_reducible first | exact HB.out | apply below_alloc | apply pw_below_drewN | apply below_drew1 | refine below_set ?_ GE309.out | refine below_set ?_ GE310.out) | exact HB.out))))
  have n2_ := Aside0.mk (Kd.R_lower ho1 (below_size (by repeat (first | (with_reducible first | exact HB.out | apply below_alloc | apply pw_below_drewN | apply below_drew1 | refine below_set ?_ GE309.out | refine below_set ?_ GE310.out) | exact HB.out))))
  have n3_ := Aside0.mk (blk_below (g := gb309) (o := .cells #[.int .u32 a0_0, .slice A0_1 l0_1.length c0_1, .string a0_2, .slice A0_3 l0_3.length c0_3, .slice A0_4 l0_4.length c0_4] 29 (0, 0)) (by (with_reducible repeat (first | refine blk_drewN ?_ _ | refine blk_drew ?_ | refine blk_alloc ?_ _)); exact BK309.out) hb)
  have n4_ := Aside0.mk (blk_below (g := gb310) (o := .cells #[.int .u32 0, .slice none 0 0, .string (⟨#[]⟩ : ByteArray), .slice none 0 0, .slice none 0 0] 29 (0, 0)) (by (with_reducible repeat (first | refine blk_drewN ?_ _ | refine blk_drew ?_ | refine blk_alloc ?_ _)); exact BK310.out) hb)
  have n5_ := Aside0.mk (below_step (by repeat (first | (with_reducible first | exact HB.out | apply below_alloc | apply pw_below_drewN | apply below_drew1 | refine below_set ?_ GE309.out | refine below_set ?_ GE310.out) | exact HB.out)) hb)
  clear HO313
  clear BK309
  clear BK310
  clear HB
  have HO313 := n0_
  have HO317 := n1_
  have HO320 := n2_
  have BK309 := n3_
  have BK310 := n4_
  have HB := n5_
  clear n0_ n1_ n2_ n3_ n4_ n5_
  (try clear hb)
  (try clear hb2)
  (try clear hk)
  (try clear hi)
  (try clear ho0)
  (try clear ho1)
  obtain ⟨Ao9, co9, eo9⟩ := Kd.R_slice HO320.out
  (first | subst eo9 | (injection eo9 with f1_ f2_ f3_; have f4_ := f1_.symm; have f5_ := f3_.symm; clear f1_ f2_ f3_; subst f4_; subst f5_))
  obtain ⟨Ao10, co10, eo10⟩ := Kd.S_slice HO317.out
  (first | subst eo10 | (injection eo10 with f1_ f2_ f3_; have f4_ := f1_.symm; have f5_ := f3_.symm; clear f1_ f2_ f3_; subst f4_; subst f5_))
  obtain ⟨Ao11, co11, eo11⟩ := Kd.R_slice HO313.out
  (first | subst eo11 | (injection eo11 with f1_ f2_ f3_; have f4_ := f1_.symm; have f5_ := f3_.symm; clear f1_ f2_ f3_; subst f4_; subst f5_))
  refine hK.out _ _ ⟨(blk_cell BK309.out 0).trans rfl, (blk_cell BK309.out 1).trans rfl, (blk_cell BK309.out 2).trans rfl, (blk_cell BK309.out 3).trans rfl, (blk_cell BK309.out 4).trans rfl⟩ (fun hHeld => ?_)
  clear hK K
  refine norm_ (a' := ?_) ?_ ?_
  rotate_left
  · show Act.put _ (some 10) _ = _
    simp only [Act.put, List.setIfInBounds_toArray, List.set_cons_zero, List.set_cons_succ, i64_w, i32_w]
    rfl
  refine pure_ (i := 8) (N := some 11) (v := ?_) (a' := ?_) #[true, true, true, true, true, true, true, true, true, false] rfl rfl (any_of HT_.out (by kernel_rfl)) (fun _ _ _ h => h) (Or.inl ⟨by rfl, ?_⟩) ?_ ?_
  rotate_left
  · intro w'
    go_simp
    with_reducible rfl
  rotate_left
  · simp only [Act.put, List.setIfInBounds_toArray, List.set_cons_zero, List.set_cons_succ, i64_w, i32_w]
    rfl
  refine one_ (i := 9) (N := none) #[true, true, true, true, true, true, true, true, true, true] rfl rfl (one_of HT_.out (by kernel_rfl)) (by decide) (fun K hK => ?_)
  have hs12 : w8.cell? ⟨gb310, 0, none⟩ = some (.int .u32 0) := (blk_cell BK310.out 0).trans rfl
  have hfs12 := blk_frozen BK310.out 0
  have hns12_0 := NB309_310.out
  have hms12_0 := NB310_309.out
  have hs13 : w8.cell? ⟨gb310, 1, none⟩ = some (.slice none 0 0) := (blk_cell BK310.out 1).trans rfl
  have hfs13 := blk_frozen BK310.out 1
  have hns13_0 := NB309_310.out
  have hms13_0 := NB310_309.out
  have hs14 : w8.cell? ⟨gb310, 2, none⟩ = some (.string (⟨#[]⟩ : ByteArray)) := (blk_cell BK310.out 2).trans rfl
  have hfs14 := blk_frozen BK310.out 2
  have hns14_0 := NB309_310.out
  have hms14_0 := NB310_309.out
  have hs15 : w8.cell? ⟨gb310, 3, none⟩ = some (.slice none 0 0) := (blk_cell BK310.out 3).trans rfl
  have hfs15 := blk_frozen BK310.out 3
  have hns15_0 := NB309_310.out
  have hms15_0 := NB310_309.out
  have hs16 : w8.cell? ⟨gb310, 4, none⟩ = some (.slice none 0 0) := (blk_cell BK310.out 4).trans rfl
  have hfs16 := blk_frozen BK310.out 4
  have hns16_0 := NB309_310.out
  have hms16_0 := NB310_309.out
  refine skip_ (w1 := ?_) (by rfl) rfl ?_ ?_
  rotate_left
  · go_simp
    rfl
  refine hK.out _ _ ⟨((cell_far (p := ⟨gb310, _, none⟩) NB309_310.out _).trans (((cell_far (p := ⟨gb310, _, none⟩) NB309_310.out _).trans (((cell_far (p := ⟨gb310, _, none⟩) NB309_310.out _).trans (((cell_far (p := ⟨gb310, _, none⟩) NB309_310.out _).trans (((cell_far (p := ⟨gb310, _, none⟩) NB309_310.out _).trans (hHeld.1)))))))))), ((cell_far (p := ⟨gb310, _, none⟩) NB309_310.out _).trans (((cell_far (p := ⟨gb310, _, none⟩) NB309_310.out _).trans (((cell_far (p := ⟨gb310, _, none⟩) NB309_310.out _).trans (((cell_far (p := ⟨gb310, _, none⟩) NB309_310.out _).trans (((cell_far (p := ⟨gb310, _, none⟩) NB309_310.out _).trans (hHeld.2.1)))))))))), ((cell_far (p := ⟨gb310, _, none⟩) NB309_310.out _).trans (((cell_far (p := ⟨gb310, _, none⟩) NB309_310.out _).trans (((cell_far (p := ⟨gb310, _, none⟩) NB309_310.out _).trans (((cell_far (p := ⟨gb310, _, none⟩) NB309_310.out _).trans (((cell_far (p := ⟨gb310, _, none⟩) NB309_310.out _).trans (hHeld.2.2.1)))))))))), ((cell_far (p := ⟨gb310, _, none⟩) NB309_310.out _).trans (((cell_far (p := ⟨gb310, _, none⟩) NB309_310.out _).trans (((cell_far (p := ⟨gb310, _, none⟩) NB309_310.out _).trans (((cell_far (p := ⟨gb310, _, none⟩) NB309_310.out _).trans (((cell_far (p := ⟨gb310, _, none⟩) NB309_310.out _).trans (hHeld.2.2.2.1)))))))))), ((cell_far (p := ⟨gb310, _, none⟩) NB309_310.out _).trans (((cell_far (p := ⟨gb310, _, none⟩) NB309_310.out _).trans (((cell_far (p := ⟨gb310, _, none⟩) NB309_310.out _).trans (((cell_far (p := ⟨gb310, _, none⟩) NB309_310.out _).trans (((cell_far (p := ⟨gb310, _, none⟩) NB309_310.out _).trans (hHeld.2.2.2.2))))))))))⟩ (fun hHeld => ?_)
  clear hK K
  refine done_ (done_of HT_.out (by kernel_rfl)) ?_
  try go_wp2
  refine bodyPost_ret (results_cell_row rfl _ _ gb310 29 #[.int .u32 a0_0, .slice Ao11 t311.length co11, .string t314, .slice Ao10 t315.length co10, .slice Ao9 t318.length co9] (0, 0) _ rfl (by (with_reducible repeat (first | refine blk_drewN ?_ _ | refine blk_drew ?_ | refine blk_alloc ?_ _)); refine blk_put (cs := #[.int .u32 a0_0, .slice Ao11 t311.length co11, .string t314, .slice Ao10 t315.length co10, .slice none 0 0]) ?_ 4 _ rfl; (with_reducible repeat (first | refine blk_drewN ?_ _ | refine blk_drew ?_ | refine blk_alloc ?_ _)); refine blk_put (cs := #[.int .u32 a0_0, .slice Ao11 t311.length co11, .string t314, .slice none 0 0, .slice none 0 0]) ?_ 3 _ rfl; (with_reducible repeat (first | refine blk_drewN ?_ _ | refine blk_drew ?_ | refine blk_alloc ?_ _)); refine blk_put (cs := #[.int .u32 a0_0, .slice Ao11 t311.length co11, .string (⟨#[]⟩ : ByteArray), .slice none 0 0, .slice none 0 0]) ?_ 2 _ rfl; (with_reducible repeat (first | refine blk_drewN ?_ _ | refine blk_drew ?_ | refine blk_alloc ?_ _)); refine blk_put (cs := #[.int .u32 a0_0, .slice none 0 0, .string (⟨#[]⟩ : ByteArray), .slice none 0 0, .slice none 0 0]) ?_ 1 _ rfl; (with_reducible repeat (first | refine blk_drewN ?_ _ | refine blk_drew ?_ | refine blk_alloc ?_ _)); refine blk_put (cs := #[.int .u32 0, .slice none 0 0, .string (⟨#[]⟩ : ByteArray), .slice none 0 0, .slice none 0 0]) ?_ 0 _ rfl; (with_reducible repeat (first | refine blk_drewN ?_ _ | refine blk_drew ?_ | refine blk_alloc ?_ _)); exact BK310.out) Try.underlying29 rfl (by kernel_rfl)) rfl ?_
  exact ⟨_, _, _, by first | rfl | (simp [errW_none, errW_some] <;> rfl) | (simp [*, errW_none, errW_some] <;> rfl), by (with_reducible repeat (first | apply Kd.R_alloc | apply Kd.R_drewN | apply Kd.R_drew)); exact Kd.R_mono (Kd.R_far (p := ⟨gb310, 4, none⟩) (Kd.R_far (p := ⟨gb310, 3, none⟩) (Kd.R_far (p := ⟨gb310, 2, none⟩) (Kd.R_far (p := ⟨gb310, 1, none⟩) (Kd.R_far (p := ⟨gb310, 0, none⟩) (Kd.R_types HO313.out BK310.out (by decide)) (fun _ hk => hk.2) (.int .u32 a0_0)) (fun _ hk => hk.2) (.slice Ao11 t311.length co11)) (fun _ hk => hk.2) (.string t314)) (fun _ hk => hk.2) (.slice Ao10 t315.length co10)) (fun _ hk => hk.2) (.slice Ao9 t318.length co9)) (fun _ hk => trivial), by (with_reducible repeat (first | apply Kd.S_alloc | apply Kd.S_drewN | apply Kd.S_drew)); exact Kd.S_mono (Kd.S_far (p := ⟨gb310, 4, none⟩) (Kd.S_far (p := ⟨gb310, 3, none⟩) (Kd.S_far (p := ⟨gb310, 2, none⟩) (Kd.S_far (p := ⟨gb310, 1, none⟩) (Kd.S_far (p := ⟨gb310, 0, none⟩) (Kd.S_types HO317.out BK310.out (by decide)) (fun _ hk => hk.2) (.int .u32 a0_0)) (fun _ hk => hk.2) (.slice Ao11 t311.length co11)) (fun _ hk => hk.2) (.string t314)) (fun _ hk => hk.2) (.slice Ao10 t315.length co10)) (fun _ hk => hk.2) (.slice Ao9 t318.length co9)) (fun _ hk => trivial), by (with_reducible repeat (first | apply Kd.R_alloc | apply Kd.R_drewN | apply Kd.R_drew)); exact Kd.R_mono (Kd.R_far (p := ⟨gb310, 4, none⟩) (Kd.R_far (p := ⟨gb310, 3, none⟩) (Kd.R_far (p := ⟨gb310, 2, none⟩) (Kd.R_far (p := ⟨gb310, 1, none⟩) (Kd.R_far (p := ⟨gb310, 0, none⟩) (Kd.R_types HO320.out BK310.out (by decide)) (fun _ hk => hk.2) (.int .u32 a0_0)) (fun _ hk => hk.2) (.slice Ao11 t311.length co11)) (fun _ hk => hk.2) (.string t314)) (fun _ hk => hk.2) (.slice Ao10 t315.length co10)) (fun _ hk => hk.2) (.slice Ao9 t318.length co9)) (fun _ hk => hk.1), by repeat (first | (with_reducible first | exact HB.out | apply below_alloc | apply pw_below_drewN | apply below_drew1 | refine below_set ?_ GE309.out | refine below_set ?_ GE310.out) | exact HB.out)⟩
end Go.Proofs.Ytiioeaalnmjbmaa.PE

namespace Go.Proofs.Ytiioeaalnmjbmaa.PE
open Go.RowKit Go.Proofs.YtiioeaalnmjbmaaW.PrintWords Go.Proofs.YtiioeaalnmjbmaaW.PrintLast Go.Proofs.YtiioeaalnmjbmaaW.PrintMore
attribute [local go_sem] max2_int min2_int max_two min_two max_three min_three max_four min_four   -- for this text's walks alone
set_option linter.unusedVariables false
set_option linter.unusedSimpArgs false
def bytes_Equal.f (l0 : List Int) (l1 : List Int) : Option (Bool) := some ((strOfNums l0).toList == (strOfNums l1).toList)
set_option maxHeartbeats 8000000 in
set_option maxRecDepth 100000 in
theorem bytes_Equal.calls (A0 : Option Addr) (c0 : Nat) (l0 : List Int) (A1 : Option Addr) (c1 : Nat) (l1 : List Int) (r : Bool) (w : World) (hr0 : Kd.C (Kd.int .u8) w A0 l0.length l0) (hc0 : l0.length ≤ c0) (hr1 : Kd.C (Kd.int .u8) w A1 l1.length l1) (hc1 : l1.length ≤ c1) (h : bytes_Equal.f l0 l1 = some r) :
    Calls Try.prog 18 #[.slice A0 l0.length c0, .slice A1 l1.length c1] w fun e w' => e = .returned (.bool r) ∧ Drawn0 w w' := by
  have HR0 := Aside0.mk hr0
  have HC0 := Aside0.mk hc0
  clear hr0 hc0
  have HR1 := Aside0.mk hr1
  have HC1 := Aside0.mk hc1
  clear hr1 hc1
  have H : (some ((strOfNums l0).toList == (strOfNums l1).toList)) = some r := h
  clear h
  obtain rfl := Option.some.inj H
  have hcv3 := Kd.C_string (P := Try.prog) (A := A0) (c := c0) Try.underlying33 Try.underlying5 Try.underlying9 HR0.out
  have hcv3d := fun nd_ : Nat => Kd.C_string (P := Try.prog) (A := A0) (c := c0) Try.underlying33 Try.underlying5 Try.underlying9 (Kd.C_drewN HR0.out nd_)
  have hcv4 := Kd.C_string (P := Try.prog) (A := A1) (c := c1) Try.underlying33 Try.underlying5 Try.underlying9 HR1.out
  have hcv4d := fun nd_ : Nat => Kd.C_string (P := Try.prog) (A := A1) (c := c1) Try.underlying33 Try.underlying5 Try.underlying9 (Kd.C_drewN HR1.out nd_)
  go_enter Try.func18, Try.ntmps18
  go_wp2
  go_ret
  exact ⟨by first | rfl | (simp; done) | (simp [*]; done), by repeat (first | exact Drawn0.refl _ | apply Drawn0.step)⟩
end Go.Proofs.Ytiioeaalnmjbmaa.PE

namespace Go.Proofs.Ytiioeaalnmjbmaa.PE
open Go.RowKit Go.Proofs.YtiioeaalnmjbmaaW.PrintWords Go.Proofs.YtiioeaalnmjbmaaW.PrintLast Go.Proofs.YtiioeaalnmjbmaaW.PrintMore
attribute [local go_sem] max2_int min2_int max_two min_two max_three min_three max_four min_four   -- for this text's walks alone
set_option linter.unusedVariables false
set_option linter.unusedSimpArgs false
def sameP (x y : S35) : Option Bool := if x.f0.toList = y.f0.toList then bytes_Equal.f x.f1 y.f1 else some false
def samePs : List S35 → List S35 → Option Bool
  | x :: r, y :: s => (sameP x y).bind fun b => if b = true then samePs r s else some false
  | _, _ => some true
def sameKs (F : ByteArray → List S35 → List S27 → ByteArray → List S35 → List S27 → Option Bool) : List S27 → List S27 → Option Bool
  | x :: r, y :: s => (F x.f0 x.f1 x.f2 y.f0 y.f1 y.f2).bind fun b => if b = true then sameKs F r s else some false
  | _, _ => some true
def tree_SameNode.f : Nat → ByteArray → List S35 → List S27 → ByteArray → List S35 → List S27 → Option Bool
  | 0, _, _, _, _, _, _ => none
  | k + 1, nm, ps, ks, nm', ps', ks' => if nm.toList = nm'.toList then (if ps.length = ps'.length then (samePs ps ps').bind fun b => if b = true then (if ks.length = ks'.length then sameKs (tree_SameNode.f k) ks ks' else some false) else some false else some false) else some false
set_option maxRecDepth 100000 in
theorem sameP_calls (x y : S35) (A : Option Addr) (c : Nat) (A' : Option Addr) (c' : Nat) (b : Bool) (w : World) (hr : Kd.C (Kd.int .u8) w A x.f1.length x.f1) (hc : x.f1.length ≤ c) (hr' : Kd.C (Kd.int .u8) w A' y.f1.length y.f1) (hc' : y.f1.length ≤ c') (h : sameP x y = some b) :
    Calls Try.prog 17 #[.agg #[.string x.f0, .slice A x.f1.length c], .agg #[.string y.f0, .slice A' y.f1.length c']] w fun e w' => e = .returned (.bool b) ∧ Below w.heap.size w w' := by
  have hu35 := Try.underlying35
  unfold sameP at h
  by_cases e : x.f0.toList = y.f0.toList
  · rw [if_pos e] at h
    have eb : (x.f0.toList == y.f0.toList) = true := beq_iff_eq.mpr e
    have q := fun W (hW : Below w.heap.size w W) => bytes_Equal.calls A c x.f1 A' c' y.f1 b W (Kd.C_below hr hW) hc (Kd.C_below hr' hW) hc' h
    clear hr hr' h e hc hc'
    go_enter Try.func17, Try.ntmps17
    go_wp2_with (go_at_call 18; refine (q _ (below_alloc (below_alloc (Below.refl _ _) _) _)).mono ?_; rintro e w' ⟨rfl, ⟨nd, rfl⟩⟩)
    go_ret
    exact ⟨rfl, by repeat (first | exact Below.refl _ _ | apply below_alloc | apply pw_below_drewN | apply below_drew1)⟩
  · rw [if_neg e] at h
    obtain rfl := Option.some.inj h
    have eb : (x.f0.toList == y.f0.toList) = false := beq_eq_false_iff_ne.mpr e
    clear hr hr' h e
    go_enter Try.func17, Try.ntmps17
    go_wp2
    go_ret
    exact ⟨rfl, by repeat (first | exact Below.refl _ _ | apply below_alloc | apply pw_below_drewN | apply below_drew1)⟩
set_option maxHeartbeats 4000000 in
set_option maxRecDepth 100000 in
theorem eqps_calls (l m : List S35) (A : Option Addr) (c : Nat) (A' : Option Addr) (c' : Nat) (b : Bool) (w : World) (hr : Kd.C k35 w A l.length l) (hc : l.length ≤ c) (hr' : Kd.C k35 w A' m.length m) (hc' : m.length ≤ c') (h : (if l.length = m.length then samePs l m else some false) = some b) :
    Calls Try.prog 16 #[.slice A l.length c, .slice A' m.length c', .func (.func 17) #[] #[]] w fun e w' => e = .returned (.bool b) ∧ Below w.heap.size w w' := by
  have hu35 := Try.underlying35
  by_cases e : l.length = m.length
  · rw [if_pos e] at h
    have hm : l.length ≤ 9223372036854775807 := hr.2.1
    have HR := Aside0.mk hr
    have HR2 := Aside0.mk hr'
    have HM := Aside0.mk hm
    have H0 := Aside0.mk h
    have HE := Aside0.mk e
    have eb : ((l.length : Int) == (m.length : Int)) = true := by rw [e]; exact beq_self_eq_true _
    have eb2 : ((l.length : Int) != (m.length : Int)) = false := by rw [e]; exact bne_self_eq_false _
    have eb3 : (l.length == m.length) = true := beq_iff_eq.mpr e
    have eb4 : (l.length != m.length) = false := by rw [bne_eq_false_iff_eq]; exact e
    clear hr hr' hm h e hc hc'
    go_enter Try.func16, Try.ntmps16
    go_wp2
    clear eb eb2 eb3 eb4
    go_loopg [17] (l.length + 1) (fun kq v17 w' => ∃ i : Nat, v17 = .int .i64 (i : Int) ∧ Aside0 (i + kq = l.length + 1) ∧ Aside0 (samePs (l.drop i) (m.drop i) = some b) ∧ Aside0 (Below w.heap.size w w'))
    case atStart => exact ⟨0, rfl, ⟨by omega⟩, ⟨by rw [List.drop_zero, List.drop_zero]; exact H0.out⟩, ⟨Below.refl _ _⟩⟩
    case round =>
      obtain ⟨i, rfl, HI, HX, HB⟩ := hrel
      by_cases ci : (i : Int) < (l.length : Int)
      · have cib : decide ((i : Int) < (l.length : Int)) = true := decide_eq_true ci
        have cil : i < l.length := by omega
        have cim : i < m.length := by rw [← HE.out]; exact cil
        have ci2 : (i : Int) < (m.length : Int) := by omega
        have cmb : decide ((i : Int) < (m.length : Int)) = true := decide_eq_true ci2
        obtain ⟨ad, P1, Pc1, e1, hx0, hx1, hlx1, hCx1⟩ := at_T35 HR.out (i : Int) (Int.natCast_nonneg i) ci
        subst e1
        obtain ⟨ad2, Q1, Qc1, e2, hy0, hy1, hly1, hCy1⟩ := at_T35 HR2.out (i : Int) (Int.natCast_nonneg i) ci2
        subst e2
        simp only [Int.toNat_natCast] at hx0 hx1 hy0 hy1
        have hX := HX.out
        rw [List.drop_eq_getElem_cons cil, List.drop_eq_getElem_cons cim] at hX
        have hxe : l[i] = rd_T35 l (i : Int) := by simp only [rd_T35, Int.toNat_natCast, List.getD_eq_getElem?_getD, List.getElem?_eq_getElem cil, Option.getD_some]
        have hye : m[i] = rd_T35 m (i : Int) := by simp only [rd_T35, Int.toNat_natCast, List.getD_eq_getElem?_getD, List.getElem?_eq_getElem cim, Option.getD_some]
        rw [hxe, hye] at hX
        obtain ⟨x, hx⟩ : ∃ x, x = rd_T35 l (i : Int) := ⟨_, rfl⟩
        obtain ⟨y, hy⟩ : ∃ y, y = rd_T35 m (i : Int) := ⟨_, rfl⟩
        rw [← hx, ← hy] at hX
        rw [← hx] at hx0 hx1 hlx1 hCx1
        rw [← hy] at hy0 hy1 hly1 hCy1
        clear hx hy hxe hye HX
        obtain ⟨b1, hF, hX⟩ := Option.bind_eq_some_iff.mp hX
        have HCx1 := Aside0.mk hCx1
        have HLx1 := Aside0.mk hlx1
        have HCy1 := Aside0.mk hCy1
        have HLy1 := Aside0.mk hly1
        have HF := Aside0.mk hF
        have HX := Aside0.mk hX
        clear hF hX hCx1 hlx1 hCy1 hly1
        have HY0 := Aside0.mk hy0
        replace hx0 := (HB.out.cell (World.block_lt_of_cell? w _ hx0)).trans hx0
        have HY1 := Aside0.mk hy1
        replace hx1 := (HB.out.cell (World.block_lt_of_cell? w _ hx1)).trans hx1
        clear hy0 hy1
        cases gk with
        | zero => exact absurd HI.out (by omega)
        | succ k1 =>
          go_upto_region 6 with ((with_reducible refine gate_dst (N := 8) rfl ?_); refine box_event ?hg (N := 8) ?hd (cs := #[.string (⟨#[]⟩ : ByteArray), .slice none 0 0]) (t := 35) ?hr ?_; (case hd => rfl); (case hg => rfl); (case hr => first | (go_simp; done) | (go_simp; rfl)); intro g1 hg w14 hbox hb; have n0_ := Aside0.mk (below_step HB.out hb); have GEg1 := Aside0.mk (show w.heap.size ≤ g1 from by rw [hg]; exact HB.out.size); have BXg1 := Aside0.mk hbox; clear hb hbox hg; have hz0 := (blk_cell BXg1.out 0).trans rfl; have hz1 := (blk_cell BXg1.out 1).trans rfl; have hf0 := blk_frozen BXg1.out 0; have hf1 := blk_frozen BXg1.out 1)
          clear hz0 hz1 hf0 hf1 hx0 hx1
          have m0_ : Aside0 (Below w.heap.size w ((w14.setCell ⟨g1, 0, none⟩ (.string x.f0)).setCell ⟨g1, 1, none⟩ (.slice P1 x.f1.length Pc1))) := ⟨(below_set (below_set n0_.out GEg1.out) GEg1.out)⟩
          have m1_ : Aside0 (((w14.setCell ⟨g1, 0, none⟩ (.string x.f0)).setCell ⟨g1, 1, none⟩ (.slice P1 x.f1.length Pc1)).heap[g1]? = some (.cells #[.string x.f0, .slice P1 x.f1.length Pc1] 35 (0, 0))) := ⟨(blk_put (cs := #[.string x.f0, .slice none 0 0]) (blk_put (cs := #[.string (⟨#[]⟩ : ByteArray), .slice none 0 0]) BXg1.out 0 _ rfl) 1 _ rfl)⟩
          clear n0_ BXg1
          generalize ((w14.setCell ⟨g1, 0, none⟩ (.string x.f0)).setCell ⟨g1, 1, none⟩ (.slice P1 x.f1.length Pc1)) = w18 at m0_ m1_ ⊢
          have hy0 := (m0_.out.cell (World.block_lt_of_cell? w _ HY0.out)).trans HY0.out
          have hy1 := (m0_.out.cell (World.block_lt_of_cell? w _ HY1.out)).trans HY1.out
          go_upto_region 7 with ((with_reducible refine gate_dst (N := 9) rfl ?_); refine box_event ?hg (N := 9) ?hd (cs := #[.string (⟨#[]⟩ : ByteArray), .slice none 0 0]) (t := 35) ?hr ?_; (case hd => rfl); (case hg => rfl); (case hr => first | (go_simp; done) | (go_simp; rfl)); intro g2 hg w24 hbox hb; have n0_ := Aside0.mk (below_step m0_.out hb); have n1_ := Aside0.mk (blk_below m1_.out hb); have NE := Aside0.mk (show g1 ≠ g2 from by rw [hg]; exact Nat.ne_of_lt (blk_lt m1_.out)); have GEg2 := Aside0.mk (show w.heap.size ≤ g2 from by rw [hg]; exact m0_.out.size); have BXg2 := Aside0.mk hbox; clear hb hbox hg; have hz0 := (blk_cell BXg2.out 0).trans rfl; have hz1 := (blk_cell BXg2.out 1).trans rfl; have hf0 := blk_frozen BXg2.out 0; have hf1 := blk_frozen BXg2.out 1)
          clear hz0 hz1 hf0 hf1 hy0 hy1
          have p0_ : Aside0 (Below w.heap.size w ((w24.setCell ⟨g2, 0, none⟩ (.string y.f0)).setCell ⟨g2, 1, none⟩ (.slice Q1 y.f1.length Qc1))) := ⟨(below_set (below_set n0_.out GEg2.out) GEg2.out)⟩
          have p1_ : Aside0 (((w24.setCell ⟨g2, 0, none⟩ (.string y.f0)).setCell ⟨g2, 1, none⟩ (.slice Q1 y.f1.length Qc1)).heap[g1]? = some (.cells #[.string x.f0, .slice P1 x.f1.length Pc1] 35 (0, 0))) := ⟨(blk_far (blk_far n1_.out NE.out _) NE.out _)⟩
          have p2_ : Aside0 (((w24.setCell ⟨g2, 0, none⟩ (.string y.f0)).setCell ⟨g2, 1, none⟩ (.slice Q1 y.f1.length Qc1)).heap[g2]? = some (.cells #[.string y.f0, .slice Q1 y.f1.length Qc1] 35 (0, 0))) := ⟨(blk_put (cs := #[.string y.f0, .slice none 0 0]) (blk_put (cs := #[.string (⟨#[]⟩ : ByteArray), .slice none 0 0]) BXg2.out 0 _ rfl) 1 _ rfl)⟩
          clear n0_ n1_ BXg2 m0_ m1_
          generalize ((w24.setCell ⟨g2, 0, none⟩ (.string y.f0)).setCell ⟨g2, 1, none⟩ (.slice Q1 y.f1.length Qc1)) = w28 at p0_ p1_ p2_ ⊢
          have hu0_ := (blk_cell p1_.out 0).trans rfl
          have hv0_ := (blk_cell p2_.out 0).trans rfl
          have hu1_ := (blk_cell p1_.out 1).trans rfl
          have hv1_ := (blk_cell p2_.out 1).trans rfl
          have hw := i64_w ((i : Int) + 1)
          have hw2 : Go.RowKit.wrap64 ((i : Int) + 1) = ((i + 1 : Nat) : Int) := by have := HM.out; unfold Go.RowKit.wrap64; omega
          cases b1 with
          | false =>
            have hX := HX.out
            rw [if_neg (by decide)] at hX
            obtain rfl := Option.some.inj hX
            clear hX HX hw hw2
            go_wp2_with (go_at_call 17; refine (sameP_calls x y P1 Pc1 Q1 Qc1 _ _ (Kd.C_below HCx1.out p0_.out) HLx1.out (Kd.C_below HCy1.out p0_.out) HLy1.out HF.out).mono ?_; rintro en w4 ⟨rfl, hb4⟩; have HB4 := Aside0.mk (below_step p0_.out hb4); clear hb4)
            go_ret
            exact ⟨rfl, HB4.out⟩
          | true =>
            have hX := HX.out
            rw [if_pos rfl] at hX
            have HX2 := Aside0.mk hX
            clear hX HX
            go_wp2_with (go_at_call 17; refine (sameP_calls x y P1 Pc1 Q1 Qc1 _ _ (Kd.C_below HCx1.out p0_.out) HLx1.out (Kd.C_below HCy1.out p0_.out) HLy1.out HF.out).mono ?_; rintro en w4 ⟨rfl, hb4⟩; have HB4 := Aside0.mk (below_step p0_.out hb4); clear hb4)
            go_roundg k1
            case measure => clear hw hw2; omega
            case rel => exact ⟨i + 1, by first | rfl | (simp; done) | (simp [*]; done), ⟨by clear hw hw2; have := HI.out; omega⟩, HX2, HB4⟩
      · have cib : decide ((i : Int) < (l.length : Int)) = false := decide_eq_false ci
        have hX := HX.out
        rw [List.drop_of_length_le (by omega)] at hX
        have hb_ : b = true := by simp only [samePs] at hX; exact (Option.some.inj hX).symm
        subst hb_
        clear HX hX
        go_wp2
        go_ret
        exact ⟨rfl, by repeat (first | exact HB.out | apply below_drew1 | apply pw_below_drewN)⟩
  · rw [if_neg e] at h
    obtain rfl := Option.some.inj h
    have eb : ((l.length : Int) == (m.length : Int)) = false := by rw [beq_eq_false_iff_ne]; omega
    have eb2 : ((l.length : Int) != (m.length : Int)) = true := by rw [bne_iff_ne]; omega
    have eb3 : (l.length == m.length) = false := beq_eq_false_iff_ne.mpr e
    have eb4 : (l.length != m.length) = true := bne_iff_ne.mpr e
    have eb5 : decide (l.length = m.length) = false := decide_eq_false e
    have eb6 : (!decide (l.length = m.length)) = true := by rw [eb5]; rfl
    clear hr hr' h
    go_enter Try.func16, Try.ntmps16
    go_wp2
    go_ret
    exact ⟨rfl, Below.refl _ _⟩
set_option maxHeartbeats 4000000 in
set_option maxRecDepth 100000 in
theorem eqks_calls (k : Nat) (ih : ∀ (nm : ByteArray) (A1 : Option Addr) (c1 : Nat) (ps : List S35) (A2 : Option Addr) (c2 : Nat) (ks : List S27) (nm' : ByteArray) (A1' : Option Addr) (c1' : Nat) (ps' : List S35) (A2' : Option Addr) (c2' : Nat) (ks' : List S27) (r : Bool) (w : World) (hr1 : Kd.C k35 w A1 ps.length ps) (hc1 : ps.length ≤ c1) (hr2 : Kd.C k27 w A2 ks.length ks) (hc2 : ks.length ≤ c2) (hr1' : Kd.C k35 w A1' ps'.length ps') (hc1' : ps'.length ≤ c1') (hr2' : Kd.C k27 w A2' ks'.length ks') (hc2' : ks'.length ≤ c2') (h : tree_SameNode.f k nm ps ks nm' ps' ks' = some r), Calls Try.prog 9 #[.agg #[.string nm, .slice A1 ps.length c1, .slice A2 ks.length c2], .agg #[.string nm', .slice A1' ps'.length c1', .slice A2' ks'.length c2']] w fun e w' => e = .returned (.bool r) ∧ Below w.heap.size w w') (l m : List S27) (A : Option Addr) (c : Nat) (A' : Option Addr) (c' : Nat) (b : Bool) (w : World) (hr : Kd.C k27 w A l.length l) (hc : l.length ≤ c) (hr' : Kd.C k27 w A' m.length m) (hc' : m.length ≤ c') (h : (if l.length = m.length then sameKs (tree_SameNode.f k) l m else some false) = some b) :
    Calls Try.prog 19 #[.slice A l.length c, .slice A' m.length c', .func (.func 9) #[] #[]] w fun e w' => e = .returned (.bool b) ∧ Below w.heap.size w w' := by
  have hu27 := Try.underlying27
  by_cases e : l.length = m.length
  · rw [if_pos e] at h
    have hm : l.length ≤ 9223372036854775807 := hr.2.1
    have HR := Aside0.mk hr
    have HR2 := Aside0.mk hr'
    have HM := Aside0.mk hm
    have H0 := Aside0.mk h
    have HE := Aside0.mk e
    have IH := Aside0.mk ih
    clear ih
    have eb : ((l.length : Int) == (m.length : Int)) = true := by rw [e]; exact beq_self_eq_true _
    have eb2 : ((l.length : Int) != (m.length : Int)) = false := by rw [e]; exact bne_self_eq_false _
    have eb3 : (l.length == m.length) = true := beq_iff_eq.mpr e
    have eb4 : (l.length != m.length) = false := by rw [bne_eq_false_iff_eq]; exact e
    clear hr hr' hm h e hc hc'
    go_enter Try.func19, Try.ntmps19
    go_wp2
    clear eb eb2 eb3 eb4
    go_loopg [17] (l.length + 1) (fun kq v17 w' => ∃ i : Nat, v17 = .int .i64 (i : Int) ∧ Aside0 (i + kq = l.length + 1) ∧ Aside0 (sameKs (tree_SameNode.f k) (l.drop i) (m.drop i) = some b) ∧ Aside0 (Below w.heap.size w w'))
    case atStart => exact ⟨0, rfl, ⟨by omega⟩, ⟨by rw [List.drop_zero, List.drop_zero]; exact H0.out⟩, ⟨Below.refl _ _⟩⟩
    case round =>
      obtain ⟨i, rfl, HI, HX, HB⟩ := hrel
      by_cases ci : (i : Int) < (l.length : Int)
      · have cib : decide ((i : Int) < (l.length : Int)) = true := decide_eq_true ci
        have cil : i < l.length := by omega
        have cim : i < m.length := by rw [← HE.out]; exact cil
        have ci2 : (i : Int) < (m.length : Int) := by omega
        have cmb : decide ((i : Int) < (m.length : Int)) = true := decide_eq_true ci2
        obtain ⟨ad, P1, Pc1, P2, Pc2, e1, hx0, hx1, hx2, hlx1, hCx1, hlx2, hCx2⟩ := at_T27 HR.out (i : Int) (Int.natCast_nonneg i) ci
        subst e1
        obtain ⟨ad2, Q1, Qc1, Q2, Qc2, e2, hy0, hy1, hy2, hly1, hCy1, hly2, hCy2⟩ := at_T27 HR2.out (i : Int) (Int.natCast_nonneg i) ci2
        subst e2
        simp only [Int.toNat_natCast] at hx0 hx1 hx2 hy0 hy1 hy2
        have hX := HX.out
        rw [List.drop_eq_getElem_cons cil, List.drop_eq_getElem_cons cim] at hX
        have hxe : l[i] = rd_T27 l (i : Int) := by simp only [rd_T27, Int.toNat_natCast, List.getD_eq_getElem?_getD, List.getElem?_eq_getElem cil, Option.getD_some]
        have hye : m[i] = rd_T27 m (i : Int) := by simp only [rd_T27, Int.toNat_natCast, List.getD_eq_getElem?_getD, List.getElem?_eq_getElem cim, Option.getD_some]
        rw [hxe, hye] at hX
        obtain ⟨x, hx⟩ : ∃ x, x = rd_T27 l (i : Int) := ⟨_, rfl⟩
        obtain ⟨y, hy⟩ : ∃ y, y = rd_T27 m (i : Int) := ⟨_, rfl⟩
        rw [← hx, ← hy] at hX
        rw [← hx] at hx0 hx1 hx2 hlx1 hCx1 hlx2 hCx2
        rw [← hy] at hy0 hy1 hy2 hly1 hCy1 hly2 hCy2
        clear hx hy hxe hye HX
        obtain ⟨b1, hF, hX⟩ := Option.bind_eq_some_iff.mp hX
        have HCx1 := Aside0.mk hCx1
        have HLx1 := Aside0.mk hlx1
        have HCy1 := Aside0.mk hCy1
        have HLy1 := Aside0.mk hly1
        have HCx2 := Aside0.mk hCx2
        have HLx2 := Aside0.mk hlx2
        have HCy2 := Aside0.mk hCy2
        have HLy2 := Aside0.mk hly2
        have HF := Aside0.mk hF
        have HX := Aside0.mk hX
        clear hF hX hCx1 hlx1 hCy1 hly1 hCx2 hlx2 hCy2 hly2
        have HY0 := Aside0.mk hy0
        replace hx0 := (HB.out.cell (World.block_lt_of_cell? w _ hx0)).trans hx0
        have HY1 := Aside0.mk hy1
        replace hx1 := (HB.out.cell (World.block_lt_of_cell? w _ hx1)).trans hx1
        have HY2 := Aside0.mk hy2
        replace hx2 := (HB.out.cell (World.block_lt_of_cell? w _ hx2)).trans hx2
        clear hy0 hy1 hy2
        cases gk with
        | zero => exact absurd HI.out (by omega)
        | succ k1 =>
          go_upto_region 6 with ((with_reducible refine gate_dst (N := 8) rfl ?_); refine box_event ?hg (N := 8) ?hd (cs := #[.string (⟨#[]⟩ : ByteArray), .slice none 0 0, .slice none 0 0]) (t := 27) ?hr ?_; (case hd => rfl); (case hg => rfl); (case hr => first | (go_simp; done) | (go_simp; rfl)); intro g1 hg w14 hbox hb; have n0_ := Aside0.mk (below_step HB.out hb); have GEg1 := Aside0.mk (show w.heap.size ≤ g1 from by rw [hg]; exact HB.out.size); have BXg1 := Aside0.mk hbox; clear hb hbox hg; have hz0 := (blk_cell BXg1.out 0).trans rfl; have hz1 := (blk_cell BXg1.out 1).trans rfl; have hz2 := (blk_cell BXg1.out 2).trans rfl; have hf0 := blk_frozen BXg1.out 0; have hf1 := blk_frozen BXg1.out 1; have hf2 := blk_frozen BXg1.out 2)
          clear hz0 hz1 hf0 hf1 hz2 hf2 hx0 hx1 hx2
          have m0_ : Aside0 (Below w.heap.size w (((w14.setCell ⟨g1, 0, none⟩ (.string x.f0)).setCell ⟨g1, 1, none⟩ (.slice P1 x.f1.length Pc1)).setCell ⟨g1, 2, none⟩ (.slice P2 x.f2.length Pc2))) := ⟨(below_set (below_set (below_set n0_.out GEg1.out) GEg1.out) GEg1.out)⟩
          have m1_ : Aside0 ((((w14.setCell ⟨g1, 0, none⟩ (.string x.f0)).setCell ⟨g1, 1, none⟩ (.slice P1 x.f1.length Pc1)).setCell ⟨g1, 2, none⟩ (.slice P2 x.f2.length Pc2)).heap[g1]? = some (.cells #[.string x.f0, .slice P1 x.f1.length Pc1, .slice P2 x.f2.length Pc2] 27 (0, 0))) := ⟨(blk_put (cs := #[.string x.f0, .slice P1 x.f1.length Pc1, .slice none 0 0]) (blk_put (cs := #[.string x.f0, .slice none 0 0, .slice none 0 0]) (blk_put (cs := #[.string (⟨#[]⟩ : ByteArray), .slice none 0 0, .slice none 0 0]) BXg1.out 0 _ rfl) 1 _ rfl) 2 _ rfl)⟩
          clear n0_ BXg1
          generalize (((w14.setCell ⟨g1, 0, none⟩ (.string x.f0)).setCell ⟨g1, 1, none⟩ (.slice P1 x.f1.length Pc1)).setCell ⟨g1, 2, none⟩ (.slice P2 x.f2.length Pc2)) = w18 at m0_ m1_ ⊢
          have hy0 := (m0_.out.cell (World.block_lt_of_cell? w _ HY0.out)).trans HY0.out
          have hy1 := (m0_.out.cell (World.block_lt_of_cell? w _ HY1.out)).trans HY1.out
          have hy2 := (m0_.out.cell (World.block_lt_of_cell? w _ HY2.out)).trans HY2.out
          go_upto_region 7 with ((with_reducible refine gate_dst (N := 9) rfl ?_); refine box_event ?hg (N := 9) ?hd (cs := #[.string (⟨#[]⟩ : ByteArray), .slice none 0 0, .slice none 0 0]) (t := 27) ?hr ?_; (case hd => rfl); (case hg => rfl); (case hr => first | (go_simp; done) | (go_simp; rfl)); intro g2 hg w24 hbox hb; have n0_ := Aside0.mk (below_step m0_.out hb); have n1_ := Aside0.mk (blk_below m1_.out hb); have NE := Aside0.mk (show g1 ≠ g2 from by rw [hg]; exact Nat.ne_of_lt (blk_lt m1_.out)); have GEg2 := Aside0.mk (show w.heap.size ≤ g2 from by rw [hg]; exact m0_.out.size); have BXg2 := Aside0.mk hbox; clear hb hbox hg; have hz0 := (blk_cell BXg2.out 0).trans rfl; have hz1 := (blk_cell BXg2.out 1).trans rfl; have hz2 := (blk_cell BXg2.out 2).trans rfl; have hf0 := blk_frozen BXg2.out 0; have hf1 := blk_frozen BXg2.out 1; have hf2 := blk_frozen BXg2.out 2)
          clear hz0 hz1 hf0 hf1 hz2 hf2 hy0 hy1 hy2
          have p0_ : Aside0 (Below w.heap.size w (((w24.setCell ⟨g2, 0, none⟩ (.string y.f0)).setCell ⟨g2, 1, none⟩ (.slice Q1 y.f1.length Qc1)).setCell ⟨g2, 2, none⟩ (.slice Q2 y.f2.length Qc2))) := ⟨(below_set (below_set (below_set n0_.out GEg2.out) GEg2.out) GEg2.out)⟩
          have p1_ : Aside0 ((((w24.setCell ⟨g2, 0, none⟩ (.string y.f0)).setCell ⟨g2, 1, none⟩ (.slice Q1 y.f1.length Qc1)).setCell ⟨g2, 2, none⟩ (.slice Q2 y.f2.length Qc2)).heap[g1]? = some (.cells #[.string x.f0, .slice P1 x.f1.length Pc1, .slice P2 x.f2.length Pc2] 27 (0, 0))) := ⟨(blk_far (blk_far (blk_far n1_.out NE.out _) NE.out _) NE.out _)⟩
          have p2_ : Aside0 ((((w24.setCell ⟨g2, 0, none⟩ (.string y.f0)).setCell ⟨g2, 1, none⟩ (.slice Q1 y.f1.length Qc1)).setCell ⟨g2, 2, none⟩ (.slice Q2 y.f2.length Qc2)).heap[g2]? = some (.cells #[.string y.f0, .slice Q1 y.f1.length Qc1, .slice Q2 y.f2.length Qc2] 27 (0, 0))) := ⟨(blk_put (cs := #[.string y.f0, .slice Q1 y.f1.length Qc1, .slice none 0 0]) (blk_put (cs := #[.string y.f0, .slice none 0 0, .slice none 0 0]) (blk_put (cs := #[.string (⟨#[]⟩ : ByteArray), .slice none 0 0, .slice none 0 0]) BXg2.out 0 _ rfl) 1 _ rfl) 2 _ rfl)⟩
          clear n0_ n1_ BXg2 m0_ m1_
          generalize (((w24.setCell ⟨g2, 0, none⟩ (.string y.f0)).setCell ⟨g2, 1, none⟩ (.slice Q1 y.f1.length Qc1)).setCell ⟨g2, 2, none⟩ (.slice Q2 y.f2.length Qc2)) = w28 at p0_ p1_ p2_ ⊢
          have hu0_ := (blk_cell p1_.out 0).trans rfl
          have hv0_ := (blk_cell p2_.out 0).trans rfl
          have hu1_ := (blk_cell p1_.out 1).trans rfl
          have hv1_ := (blk_cell p2_.out 1).trans rfl
          have hu2_ := (blk_cell p1_.out 2).trans rfl
          have hv2_ := (blk_cell p2_.out 2).trans rfl
          have hw := i64_w ((i : Int) + 1)
          have hw2 : Go.RowKit.wrap64 ((i : Int) + 1) = ((i + 1 : Nat) : Int) := by have := HM.out; unfold Go.RowKit.wrap64; omega
          cases b1 with
          | false =>
            have hX := HX.out
            rw [if_neg (by decide)] at hX
            obtain rfl := Option.some.inj hX
            clear hX HX hw hw2
            go_wp2_with (go_at_call 9; refine (IH.out x.f0 P1 Pc1 x.f1 P2 Pc2 x.f2 y.f0 Q1 Qc1 y.f1 Q2 Qc2 y.f2 _ _ (Kd.C_below HCx1.out p0_.out) HLx1.out (Kd.C_below HCx2.out p0_.out) HLx2.out (Kd.C_below HCy1.out p0_.out) HLy1.out (Kd.C_below HCy2.out p0_.out) HLy2.out HF.out).mono ?_; rintro en w4 ⟨rfl, hb4⟩; have HB4 := Aside0.mk (below_step p0_.out hb4); clear hb4)
            go_ret
            exact ⟨rfl, HB4.out⟩
          | true =>
            have hX := HX.out
            rw [if_pos rfl] at hX
            have HX2 := Aside0.mk hX
            clear hX HX
            go_wp2_with (go_at_call 9; refine (IH.out x.f0 P1 Pc1 x.f1 P2 Pc2 x.f2 y.f0 Q1 Qc1 y.f1 Q2 Qc2 y.f2 _ _ (Kd.C_below HCx1.out p0_.out) HLx1.out (Kd.C_below HCx2.out p0_.out) HLx2.out (Kd.C_below HCy1.out p0_.out) HLy1.out (Kd.C_below HCy2.out p0_.out) HLy2.out HF.out).mono ?_; rintro en w4 ⟨rfl, hb4⟩; have HB4 := Aside0.mk (below_step p0_.out hb4); clear hb4)
            go_roundg k1
            case measure => clear hw hw2; omega
            case rel => exact ⟨i + 1, by first | rfl | (simp; done) | (simp [*]; done), ⟨by clear hw hw2; have := HI.out; omega⟩, HX2, HB4⟩
      · have cib : decide ((i : Int) < (l.length : Int)) = false := decide_eq_false ci
        have hX := HX.out
        rw [List.drop_of_length_le (by omega)] at hX
        have hb_ : b = true := by simp only [sameKs] at hX; exact (Option.some.inj hX).symm
        subst hb_
        clear HX hX
        go_wp2
        go_ret
        exact ⟨rfl, by repeat (first | exact HB.out | apply below_drew1 | apply pw_below_drewN)⟩
  · rw [if_neg e] at h
    obtain rfl := Option.some.inj h
    have eb : ((l.length : Int) == (m.length : Int)) = false := by rw [beq_eq_false_iff_ne]; omega
    have eb2 : ((l.length : Int) != (m.length : Int)) = true := by rw [bne_iff_ne]; omega
    have eb3 : (l.length == m.length) = false := beq_eq_false_iff_ne.mpr e
    have eb4 : (l.length != m.length) = true := bne_iff_ne.mpr e
    have eb5 : decide (l.length = m.length) = false := decide_eq_false e
    have eb6 : (!decide (l.length = m.length)) = true := by rw [eb5]; rfl
    clear hr hr' h ih
    go_enter Try.func19, Try.ntmps19
    go_wp2
    go_ret
    exact ⟨rfl, Below.refl _ _⟩
set_option maxHeartbeats 4000000 in
set_option maxRecDepth 100000 in
theorem tree_SameNode.calls (k : Nat) : ∀ (nm : ByteArray) (A1 : Option Addr) (c1 : Nat) (ps : List S35) (A2 : Option Addr) (c2 : Nat) (ks : List S27) (nm' : ByteArray) (A1' : Option Addr) (c1' : Nat) (ps' : List S35) (A2' : Option Addr) (c2' : Nat) (ks' : List S27) (r : Bool) (w : World) (hr1 : Kd.C k35 w A1 ps.length ps) (hc1 : ps.length ≤ c1) (hr2 : Kd.C k27 w A2 ks.length ks) (hc2 : ks.length ≤ c2) (hr1' : Kd.C k35 w A1' ps'.length ps') (hc1' : ps'.length ≤ c1') (hr2' : Kd.C k27 w A2' ks'.length ks') (hc2' : ks'.length ≤ c2') (h : tree_SameNode.f k nm ps ks nm' ps' ks' = some r), Calls Try.prog 9 #[.agg #[.string nm, .slice A1 ps.length c1, .slice A2 ks.length c2], .agg #[.string nm', .slice A1' ps'.length c1', .slice A2' ks'.length c2']] w fun e w' => e = .returned (.bool r) ∧ Below w.heap.size w w' := by
  induction k with
  | zero => intro nm A1 c1 ps A2 c2 ks nm' A1' c1' ps' A2' c2' ks' r w hr1 hc1 hr2 hc2 hr1' hc1' hr2' hc2' h; cases h
  | succ k ih =>
  intro nm A1 c1 ps A2 c2 ks nm' A1' c1' ps' A2' c2' ks' r w hr1 hc1 hr2 hc2 hr1' hc1' hr2' hc2' h
  have hu27 := Try.underlying27
  simp only [tree_SameNode.f] at h
  have hB2 : ∀ o1 o2 : Obj, Below w.heap.size w ((w.alloc o1).alloc o2) := fun o1 o2 => below_alloc (below_alloc (Below.refl _ _) _) _
  by_cases e : nm.toList = nm'.toList
  · rw [if_pos e] at h
    have eb : (nm.toList == nm'.toList) = true := beq_iff_eq.mpr e
    have key : ∃ b1, (if ps.length = ps'.length then samePs ps ps' else some false) = some b1 ∧ (if b1 = true then (if ks.length = ks'.length then sameKs (tree_SameNode.f k) ks ks' else some false) else some false) = some r := by
      by_cases c : ps.length = ps'.length
      · rw [if_pos c] at h ⊢
        obtain ⟨b1, h1, h2⟩ := Option.bind_eq_some_iff.mp h
        exact ⟨b1, h1, h2⟩
      · rw [if_neg c] at h ⊢
        exact ⟨false, rfl, by rw [if_neg (by decide)]; exact h⟩
    obtain ⟨b1, hp, h⟩ := key
    have q1 := fun W (hW : Below w.heap.size w W) => eqps_calls ps ps' A1 c1 A1' c1' b1 W (Kd.C_below hr1 hW) hc1 (Kd.C_below hr1' hW) hc1' hp
    have Q1 := Aside0.mk q1
    clear q1
    cases b1 with
    | false =>
      rw [if_neg (by decide)] at h
      obtain rfl := Option.some.inj h
      clear hr1 hr2 hr1' hr2' hp h e ih
      go_enter Try.func9, Try.ntmps9
      go_wp2_with (go_at_call 16; refine (Q1.out _ (hB2 _ _)).mono ?_; rintro en w4 ⟨rfl, hb4⟩; have HB4 := Aside0.mk (below_step (hB2 _ _) hb4); clear hb4)
      go_ret
      exact ⟨rfl, HB4.out⟩
    | true =>
      rw [if_pos rfl] at h
      have q2 := fun W (hW : Below w.heap.size w W) => eqks_calls k ih ks ks' A2 c2 A2' c2' r W (Kd.C_below hr2 hW) hc2 (Kd.C_below hr2' hW) hc2' h
      have Q2 := Aside0.mk q2
      have hk := Aside0.mk (blk_new w (.cells #[.string nm, .slice A1 ps.length c1, .slice A2 ks.length c2] 27 (0, 0)))
      have hk2 := Aside0.mk (blk_new (w.alloc (.cells #[.string nm, .slice A1 ps.length c1, .slice A2 ks.length c2] 27)) (.cells #[.string nm', .slice A1' ps'.length c1', .slice A2' ks'.length c2'] 27 (0, 0)))
      clear hr1 hr2 hr1' hr2' hp h e ih q2
      go_enter Try.func9, Try.ntmps9
      go_wp2_with (first | (go_at_call 16; refine (Q1.out _ (hB2 _ _)).mono ?_; rintro en w4 ⟨rfl, hb4⟩; have HB4 := Aside0.mk (below_step (hB2 _ _) hb4); have hka := Aside0.mk (blk_below (blk_below hk.out (below_alloc (Below.refl _ _) _)) hb4); have hkb := Aside0.mk (blk_below hk2.out hb4); clear hb4; have hc2a := (blk_cell hka.out 2).trans rfl; have hc2b := (blk_cell hkb.out 2).trans rfl; (try simp only [Array.size_push, World.alloc] at hc2b)) | (go_at_call 19; refine (Q2.out _ HB4.out).mono ?_; rintro en w5 ⟨rfl, hb5⟩; have HB5 := Aside0.mk (below_step HB4.out hb5); clear hb5))
      go_ret
      exact ⟨rfl, HB5.out⟩
  · rw [if_neg e] at h
    obtain rfl := Option.some.inj h
    have eb : (nm.toList == nm'.toList) = false := beq_eq_false_iff_ne.mpr e
    clear hr1 hr2 hr1' hr2' h e ih
    go_enter Try.func9, Try.ntmps9
    go_wp2
    go_ret
    exact ⟨rfl, hB2 _ _⟩
end Go.Proofs.Ytiioeaalnmjbmaa.PE

namespace Go.Proofs.Ytiioeaalnmjbmaa.PE
open Go.RowKit Go.Proofs.YtiioeaalnmjbmaaW.PrintWords Go.Proofs.YtiioeaalnmjbmaaW.PrintLast Go.Proofs.YtiioeaalnmjbmaaW.PrintMore
attribute [local go_sem] max2_int min2_int max_two min_two max_three min_three max_four min_four   -- for this text's walks alone
set_option linter.unusedVariables false
set_option linter.unusedSimpArgs false
theorem eqA45 (d : Nat) (w : World) (x0 y0 : Int) (x1 y1 : Int) :
    (Op.equalIn (d + 2) 45 (.agg #[.int .u64 x0, .int .u64 x1]) (.agg #[.int .u64 y0, .int .u64 y1])).run Try.prog w = .ok (x0 == y0 && (x1 == y1)) w := by
  refine eqA_of Try.underlying45 (by kernel_rfl) ?_
  refine eqf_cons (by rfl) (by go_simp; rfl) (by go_simp; rfl) (by go_simp) ?_
  exact eqf_last (by rfl) (by go_simp; rfl) (by go_simp; rfl) (by go_simp)
end Go.Proofs.Ytiioeaalnmjbmaa.PE

namespace Go.Proofs.Ytiioeaalnmjbmaa.PE
open Go.RowKit Go.Proofs.YtiioeaalnmjbmaaW.PrintWords Go.Proofs.YtiioeaalnmjbmaaW.PrintLast Go.Proofs.YtiioeaalnmjbmaaW.PrintMore
attribute [local go_sem] max2_int min2_int max_two min_two max_three min_three max_four min_four   -- for this text's walks alone
set_option linter.unusedVariables false
set_option linter.unusedSimpArgs false
attribute [local go_sem high] eqA45
def api_Reserve_15.l0 : Nat → List (S45) → List (S45) → Int → Int → Option (Bool)
  | 0, _, _, _, _ => none
  | k + 1, x0, x1, x12, x13 => if x13 < x12 then (if 0 ≤ x13 then (if x13 < (x0.length : Int) then (if x13 < (x1.length : Int) then (if (!(((rd_T45 x0 x13).f0) == ((rd_T45 x1 x13).f0)) || (!(((rd_T45 x0 x13).f1) == ((rd_T45 x1 x13).f1)))) = true then (some false) else (api_Reserve_15.l0 k x0 x1 x12 (wrap64 (x13 + 1)))) else (none)) else (none)) else (none)) else (some true)
def api_Reserve_15.f (k : Nat) (l0 : List (S45)) (l1 : List (S45)) : Option (Bool) := if (l0.length : Int) = (l1.length : Int) then (api_Reserve_15.l0 k l0 l1 (l0.length : Int) 0) else (some false)
set_option maxHeartbeats 8000000 in
set_option maxRecDepth 100000 in
theorem api_Reserve_15.calls (k : Nat) (A0 : Option Addr) (c0 : Nat) (l0 : List (S45)) (A1 : Option Addr) (c1 : Nat) (l1 : List (S45)) (r : Bool) (w : World) (hr0 : Kd.C k45 w A0 l0.length l0) (hc0 : l0.length ≤ c0) (hr1 : Kd.C k45 w A1 l1.length l1) (hc1 : l1.length ≤ c1) (h : api_Reserve_15.f k l0 l1 = some r) :
    Calls Try.prog 15 #[.slice A0 l0.length c0, .slice A1 l1.length c1] w fun e w' => e = .returned (.bool r) ∧ Drawn0 w w' := by
  have hu45 := Try.underlying45
  have HR0 := Aside0.mk hr0
  have HC0 := Aside0.mk hc0
  clear hr0 hc0
  have HR1 := Aside0.mk hr1
  have HC1 := Aside0.mk hc1
  clear hr1 hc1
  have H : (if (l0.length : Int) = (l1.length : Int) then (api_Reserve_15.l0 k l0 l1 (l0.length : Int) 0) else (some false)) = some r := h
  clear h
  by_cases c3 : (l0.length : Int) = (l1.length : Int)
  · rw [if_pos c3] at H
    have c3b0 : ((l0.length : Int) == (l1.length : Int)) = true := beq_iff_eq.mpr c3
    have c3b1 : ((l0.length : Int) != (l1.length : Int)) = false := bne_eq_false_iff_eq.mpr c3
    have c3b2 : (l0.length == l1.length) = true := by first | simpa using c3 | (simp at c3 ⊢; omega)
    clear c3
    have H' := Aside0.mk H
    clear H
    go_enter Try.func15, Try.ntmps15
    go_wp2
    repeat (go_quiet (fail); try go_wp2)
    go_loopg [13] k (fun kq v13 w' => ∃ (x13_1 : Int), v13 = .int .i64 x13_1 ∧ Aside0 (api_Reserve_15.l0 kq l0 l1 (l0.length : Int) x13_1 = some r) ∧ Aside0 (kq ≤ k) ∧ Drawn0 w w')
    case atStart => exact ⟨(0), (by first | rfl | (simp; done) | (simp [*]; done)), H', ⟨Nat.le_refl _⟩, by repeat (first | exact Drawn0.refl _ | apply Drawn0.step)⟩
    case round =>
      clear H'
      try clear c1
      try clear p2
      try clear c3
      try clear c3b0
      try clear c3b1
      try clear c3b2
      obtain ⟨x13_1, rfl, HA, HK1, ⟨m1, rfl⟩⟩ := hrel
      cases gk with
      | zero => exact absurd HA.out (by simp [api_Reserve_15.l0])
      | succ k1 =>
        have H := HA.out
        clear HA
        simp only [api_Reserve_15.l0] at H
        by_cases c4 : x13_1 < (l0.length : Int)
        · rw [if_pos c4] at H
          have c4b0 : decide (x13_1 < (l0.length : Int)) = true := decide_eq_true c4
          clear c4
          by_cases c5 : 0 ≤ x13_1
          · rw [if_pos c5] at H
            have c5b0 : decide (0 ≤ x13_1) = true := decide_eq_true c5
            clear c5
            by_cases c6 : x13_1 < (l0.length : Int)
            · rw [if_pos c6] at H
              have c6b0 : decide (x13_1 < (l0.length : Int)) = true := decide_eq_true c6
              clear c6
              by_cases c7 : x13_1 < (l1.length : Int)
              · rw [if_pos c7] at H
                have c7b0 : decide (x13_1 < (l1.length : Int)) = true := decide_eq_true c7
                clear c7
                by_cases c8 : (!(((rd_T45 l0 x13_1).f0) == ((rd_T45 l1 x13_1).f0)) || (!(((rd_T45 l0 x13_1).f1) == ((rd_T45 l1 x13_1).f1)))) = true
                · rw [if_pos c8] at H
                  have c8b0 : (!(((rd_T45 l0 x13_1).f0) == ((rd_T45 l1 x13_1).f0)) || (!(((rd_T45 l0 x13_1).f1) == ((rd_T45 l1 x13_1).f1)))) = true := c8
                  clear c8
                  obtain rfl := Option.some.inj H
                  have p321 : 0 ≤ (x13_1 : Int) := of_decide_eq_true (by first | (with_reducible assumption) | assumption)
                  have q321 : x13_1 < (l0.length : Int) := of_decide_eq_true (by first | (with_reducible assumption) | assumption)
                  obtain ⟨ad321, e321, hx321_0, hx321_1⟩ := at_T45 HR0.out x13_1 p321 q321
                  cases e321
                  replace p321 := eq_true p321
                  replace q321 := eq_true q321
                  have p322 : 0 ≤ (x13_1 : Int) := of_decide_eq_true (by first | (with_reducible assumption) | assumption)
                  have q322 : x13_1 < (l1.length : Int) := of_decide_eq_true (by first | (with_reducible assumption) | assumption)
                  obtain ⟨ad322, e322, hx322_0, hx322_1⟩ := at_T45 HR1.out x13_1 p322 q322
                  cases e322
                  replace p322 := eq_true p322
                  replace q322 := eq_true q322
                  go_wp2
                  repeat (go_quiet (fail); try go_wp2)
                  go_ret
                  exact ⟨by first | rfl | (simp; done) | (simp [*]; done), by repeat (first | exact Drawn0.refl _ | apply Drawn0.step)⟩
                · rw [if_neg c8] at H
                  have c8b0 : (!(((rd_T45 l0 x13_1).f0) == ((rd_T45 l1 x13_1).f0)) || (!(((rd_T45 l0 x13_1).f1) == ((rd_T45 l1 x13_1).f1)))) = false := by simpa using c8
                  clear c8
                  have H' := Aside0.mk H
                  clear H
                  have p321 : 0 ≤ (x13_1 : Int) := of_decide_eq_true (by first | (with_reducible assumption) | assumption)
                  have q321 : x13_1 < (l0.length : Int) := of_decide_eq_true (by first | (with_reducible assumption) | assumption)
                  obtain ⟨ad321, e321, hx321_0, hx321_1⟩ := at_T45 HR0.out x13_1 p321 q321
                  cases e321
                  replace p321 := eq_true p321
                  replace q321 := eq_true q321
                  have p322 : 0 ≤ (x13_1 : Int) := of_decide_eq_true (by first | (with_reducible assumption) | assumption)
                  have q322 : x13_1 < (l1.length : Int) := of_decide_eq_true (by first | (with_reducible assumption) | assumption)
                  obtain ⟨ad322, e322, hx322_0, hx322_1⟩ := at_T45 HR1.out x13_1 p322 q322
                  cases e322
                  replace p322 := eq_true p322
                  replace q322 := eq_true q322
                  go_wp2
                  repeat (go_quiet (fail); try go_wp2)
                  go_roundg k1
                  case measure => have := HK1.out; omega
                  case rel => exact ⟨(wrap64 (x13_1 + 1)), (by first | rfl | (simp; done) | (simp [*]; done)), H', ⟨by have := HK1.out; omega⟩, by repeat (first | exact Drawn0.refl _ | apply Drawn0.step)⟩
              · rw [if_neg c7] at H
                exact absurd H (by simp)
            · rw [if_neg c6] at H
              exact absurd H (by simp)
          · rw [if_neg c5] at H
            exact absurd H (by simp)
        · rw [if_neg c4] at H
          have c4b0 : decide (x13_1 < (l0.length : Int)) = false := decide_eq_false c4
          clear c4
          obtain rfl := Option.some.inj H
          go_wp2
          repeat (go_quiet (fail); try go_wp2)
          go_ret
          exact ⟨by first | rfl | (simp; done) | (simp [*]; done), by repeat (first | exact Drawn0.refl _ | apply Drawn0.step)⟩
  · rw [if_neg c3] at H
    have c3b0 : ((l0.length : Int) == (l1.length : Int)) = false := beq_eq_false_iff_ne.mpr c3
    have c3b1 : ((l0.length : Int) != (l1.length : Int)) = true := bne_iff_ne.mpr c3
    have c3b2 : (l0.length == l1.length) = false := by first | simpa using c3 | (simp at c3 ⊢; omega)
    obtain rfl := Option.some.inj H
    go_enter Try.func15, Try.ntmps15
    go_wp2
    repeat (go_quiet (fail); try go_wp2)
    go_ret
    exact ⟨by first | rfl | (simp; done) | (simp [*]; done), by repeat (first | exact Drawn0.refl _ | apply Drawn0.step)⟩
end Go.Proofs.Ytiioeaalnmjbmaa.PE

namespace Go.Proofs.Ytiioeaalnmjbmaa.PE
open Go.RowKit Go.Proofs.YtiioeaalnmjbmaaW.PrintWords Go.Proofs.YtiioeaalnmjbmaaW.PrintLast Go.Proofs.YtiioeaalnmjbmaaW.PrintMore
attribute [local go_sem] max2_int min2_int max_two min_two max_three min_three max_four min_four   -- for this text's walks alone
set_option linter.unusedVariables false
set_option linter.unusedSimpArgs false
def tree_Equal.f (k : Nat) (a0_0 : Int) (l0_1 : List (S45)) (a0_2 : ByteArray) (l0_3 : List (S35)) (l0_4 : List (S27)) (a1_0 : Int) (l1_1 : List (S45)) (a1_2 : ByteArray) (l1_3 : List (S35)) (l1_4 : List (S27)) : Option (Bool) := if a0_0 = a1_0 then ((api_Reserve_15.f k l0_1 l1_1).bind fun t325 => (if t325 = true then ((tree_SameNode.f k a0_2 l0_3 l0_4 a1_2 l1_3 l1_4).bind fun t326 => (some t326)) else (some false))) else (some false)
set_option maxHeartbeats 8000000 in
set_option maxRecDepth 100000 in
theorem tree_Equal.calls (k : Nat) (a0_0 : Int) (A0_1 : Option Addr) (c0_1 : Nat) (l0_1 : List (S45)) (a0_2 : ByteArray) (A0_3 : Option Addr) (c0_3 : Nat) (l0_3 : List (S35)) (A0_4 : Option Addr) (c0_4 : Nat) (l0_4 : List (S27)) (a1_0 : Int) (A1_1 : Option Addr) (c1_1 : Nat) (l1_1 : List (S45)) (a1_2 : ByteArray) (A1_3 : Option Addr) (c1_3 : Nat) (l1_3 : List (S35)) (A1_4 : Option Addr) (c1_4 : Nat) (l1_4 : List (S27)) (r : Bool) (w : World) (hr0_1 : Kd.C k45 w A0_1 l0_1.length l0_1) (hc0_1 : l0_1.length ≤ c0_1) (hr0_3 : Kd.C k35 w A0_3 l0_3.length l0_3) (hc0_3 : l0_3.length ≤ c0_3) (hr0_4 : Kd.C k27 w A0_4 l0_4.length l0_4) (hc0_4 : l0_4.length ≤ c0_4) (hr1_1 : Kd.C k45 w A1_1 l1_1.length l1_1) (hc1_1 : l1_1.length ≤ c1_1) (hr1_3 : Kd.C k35 w A1_3 l1_3.length l1_3) (hc1_3 : l1_3.length ≤ c1_3) (hr1_4 : Kd.C k27 w A1_4 l1_4.length l1_4) (hc1_4 : l1_4.length ≤ c1_4) (h : tree_Equal.f k a0_0 l0_1 a0_2 l0_3 l0_4 a1_0 l1_1 a1_2 l1_3 l1_4 = some r) :
    Calls Try.prog 7 #[.agg #[.int .u32 a0_0, .slice A0_1 l0_1.length c0_1, .string a0_2, .slice A0_3 l0_3.length c0_3, .slice A0_4 l0_4.length c0_4], .agg #[.int .u32 a1_0, .slice A1_1 l1_1.length c1_1, .string a1_2, .slice A1_3 l1_3.length c1_3, .slice A1_4 l1_4.length c1_4]] w fun e w' => e = .returned (.bool r) ∧ Below w.heap.size w w' := by
  have hu29 := Try.underlying29
  have hu27 := Try.underlying27
  have HR0_1 := Aside0.mk hr0_1
  have HC0_1 := Aside0.mk hc0_1
  clear hr0_1 hc0_1
  have HR0_3 := Aside0.mk hr0_3
  have HC0_3 := Aside0.mk hc0_3
  clear hr0_3 hc0_3
  have HR0_4 := Aside0.mk hr0_4
  have HC0_4 := Aside0.mk hc0_4
  clear hr0_4 hc0_4
  have HR1_1 := Aside0.mk hr1_1
  have HC1_1 := Aside0.mk hc1_1
  clear hr1_1 hc1_1
  have HR1_3 := Aside0.mk hr1_3
  have HC1_3 := Aside0.mk hc1_3
  clear hr1_3 hc1_3
  have HR1_4 := Aside0.mk hr1_4
  have HC1_4 := Aside0.mk hc1_4
  clear hr1_4 hc1_4
  have HB := Aside0.mk (Below.refl w.heap.size w)
  have H : (if a0_0 = a1_0 then ((api_Reserve_15.f k l0_1 l1_1).bind fun t325 => (if t325 = true then ((tree_SameNode.f k a0_2 l0_3 l0_4 a1_2 l1_3 l1_4).bind fun t326 => (some t326)) else (some false))) else (some false)) = some r := h
  clear h
  by_cases c3 : a0_0 = a1_0
  · rw [if_pos c3] at H
    have c3b0 : (a0_0 == a1_0) = true := beq_iff_eq.mpr c3
    have c3b1 : (a0_0 != a1_0) = false := bne_eq_false_iff_eq.mpr c3
    clear c3
    replace H := Option.bind_eq_some_iff.mp H
    obtain ⟨t325, A40, H⟩ := H
    replace H : (if t325 = true then ((tree_SameNode.f k a0_2 l0_3 l0_4 a1_2 l1_3 l1_4).bind fun t326 => (some t326)) else (some false)) = some r := H
    have A4 := Aside0.mk A40
    clear A40
    by_cases c5 : t325 = true
    · subst c5
      have H1 : ((tree_SameNode.f k a0_2 l0_3 l0_4 a1_2 l1_3 l1_4).bind fun t326 => (some t326)) = some r := by rw [if_pos rfl] at H; exact H
      clear H
      have H := H1
      clear H1
      replace H := Option.bind_eq_some_iff.mp H
      obtain ⟨t326, A60, H⟩ := H
      replace H : (some t326) = some r := H
      have A6 := Aside0.mk A60
      clear A60
      obtain rfl := Option.some.inj H
      go_enter Try.func7, Try.ntmps7
      go_wp2_with (first | ((with_reducible refine gate_dst (N := 2) rfl ?_); refine box_event ?hg (N := 2) ?hd (cs := #[.int .u32 a0_0, .slice A0_1 l0_1.length c0_1, .string a0_2, .slice A0_3 l0_3.length c0_3, .slice A0_4 l0_4.length c0_4]) (t := 29) ?hr ?_; (case hd => rfl); (case hg => rfl); (case hr => first | (go_simp; done) | (go_simp; rfl)); intro gb323 hg w7 hbox hb; have n0_ := Aside0.mk (below_step (by repeat (first | (with_reducible first | exact HB.out | apply below_alloc | apply pw_below_drewN | apply below_drew1) | exact HB.out)) hb); have n1_ := Aside0.mk (hbox); have n2_ := Aside0.mk ((by rw [hg]; exact (below_size (by repeat (first | (with_reducible first | exact HB.out | apply below_alloc | apply pw_below_drewN | apply below_drew1) | exact HB.out))) : w.heap.size ≤ gb323)); have n3_ := Aside0.mk ((by rw [hg]; exact (below_size (by repeat (first | (with_reducible first | exact HB.out | apply below_alloc | apply pw_below_drewN | apply below_drew1) | exact HB.out))) : w.heap.size ≤ gb323)); clear HB; have HB := n0_; have BK323 := n1_; have GW323 := n2_; have GE323 := n3_; clear n0_ n1_ n2_ n3_; clear hb hbox hg) | ((with_reducible refine gate_dst (N := 3) rfl ?_); refine box_event ?hg (N := 3) ?hd (cs := #[.int .u32 a1_0, .slice A1_1 l1_1.length c1_1, .string a1_2, .slice A1_3 l1_3.length c1_3, .slice A1_4 l1_4.length c1_4]) (t := 29) ?hr ?_; (case hd => rfl); (case hg => rfl); (case hr => first | (go_simp; done) | (go_simp; rfl)); intro gb324 hg w8 hbox hb; have n0_ := Aside0.mk (blk_below (g := gb323) (o := .cells #[.int .u32 a0_0, .slice A0_1 l0_1.length c0_1, .string a0_2, .slice A0_3 l0_3.length c0_3, .slice A0_4 l0_4.length c0_4] 29 (0, 0)) (by (with_reducible repeat (first | refine blk_drewN ?_ _ | refine blk_drew ?_ | refine blk_alloc ?_ _)); exact BK323.out) hb); have n1_ := Aside0.mk (below_step (by repeat (first | (with_reducible first | exact HB.out | apply below_alloc | apply pw_below_drewN | apply below_drew1 | refine below_set ?_ GE323.out) | exact HB.out)) hb); have n2_ := Aside0.mk (hbox); have n3_ := Aside0.mk ((by rw [hg]; exact (below_size (by repeat (first | (with_reducible first | exact HB.out | apply below_alloc | apply pw_below_drewN | apply below_drew1 | refine below_set ?_ GE323.out) | exact HB.out))) : w.heap.size ≤ gb324)); have n4_ := Aside0.mk ((by rw [hg]; exact (below_size (by repeat (first | (with_reducible first | exact HB.out | apply below_alloc | apply pw_below_drewN | apply below_drew1 | refine below_set ?_ GE323.out) | exact HB.out))) : w.heap.size ≤ gb324)); have n5_ := Aside0.mk ((by rw [hg]; exact Nat.ne_of_lt (blk_lt (g := gb323) (o := .cells #[.int .u32 a0_0, .slice A0_1 l0_1.length c0_1, .string a0_2, .slice A0_3 l0_3.length c0_3, .slice A0_4 l0_4.length c0_4] 29 (0, 0)) (by (with_reducible repeat (first | refine blk_drewN ?_ _ | refine blk_drew ?_ | refine blk_alloc ?_ _)); exact BK323.out)) : gb323 ≠ gb324)); have n6_ := Aside0.mk ((by rw [hg]; exact Nat.ne_of_gt (blk_lt (g := gb323) (o := .cells #[.int .u32 a0_0, .slice A0_1 l0_1.length c0_1, .string a0_2, .slice A0_3 l0_3.length c0_3, .slice A0_4 l0_4.length c0_4] 29 (0, 0)) (by (with_reducible repeat (first | refine blk_drewN ?_ _ | refine blk_drew ?_ | refine blk_alloc ?_ _)); exact BK323.out)) : gb324 ≠ gb323)); clear BK323; clear HB; have BK323 := n0_; have HB := n1_; have BK324 := n2_; have GW324 := n3_; have GE324 := n4_; have NB323_324 := n5_; have NB324_323 := n6_; clear n0_ n1_ n2_ n3_ n4_ n5_ n6_; clear hb hbox hg; have hnb9 := NB323_324.out; have hnc9 := NB324_323.out; have hcz10_0 : w8.cell? ⟨gb323, 0, none⟩ = some (.int .u32 a0_0) := (blk_cell BK323.out 0).trans rfl; have hcz10_1 : w8.cell? ⟨gb323, 1, none⟩ = some (.slice A0_1 l0_1.length c0_1) := (blk_cell BK323.out 1).trans rfl; have hcz10_2 : w8.cell? ⟨gb323, 2, none⟩ = some (.string a0_2) := (blk_cell BK323.out 2).trans rfl; have hcz10_3 : w8.cell? ⟨gb323, 3, none⟩ = some (.slice A0_3 l0_3.length c0_3) := (blk_cell BK323.out 3).trans rfl; have hcz10_4 : w8.cell? ⟨gb323, 4, none⟩ = some (.slice A0_4 l0_4.length c0_4) := (blk_cell BK323.out 4).trans rfl; have hfz10_0 := blk_frozen BK323.out 0; have hfz10_1 := blk_frozen BK323.out 1; have hfz10_2 := blk_frozen BK323.out 2; have hfz10_3 := blk_frozen BK323.out 3; have hfz10_4 := blk_frozen BK323.out 4; have hcz11_0 : w8.cell? ⟨gb324, 0, none⟩ = some (.int .u32 a1_0) := (blk_cell BK324.out 0).trans rfl; have hcz11_1 : w8.cell? ⟨gb324, 1, none⟩ = some (.slice A1_1 l1_1.length c1_1) := (blk_cell BK324.out 1).trans rfl; have hcz11_2 : w8.cell? ⟨gb324, 2, none⟩ = some (.string a1_2) := (blk_cell BK324.out 2).trans rfl; have hcz11_3 : w8.cell? ⟨gb324, 3, none⟩ = some (.slice A1_3 l1_3.length c1_3) := (blk_cell BK324.out 3).trans rfl; have hcz11_4 : w8.cell? ⟨gb324, 4, none⟩ = some (.slice A1_4 l1_4.length c1_4) := (blk_cell BK324.out 4).trans rfl; have hfz11_0 := blk_frozen BK324.out 0; have hfz11_1 := blk_frozen BK324.out 1; have hfz11_2 := blk_frozen BK324.out 2; have hfz11_3 := blk_frozen BK324.out 3; have hfz11_4 := blk_frozen BK324.out 4) | (go_at_call 15; (with_reducible refine (api_Reserve_15.calls k _ _ l0_1 _ _ l1_1 true _ ?side1 ?side2 ?side3 ?side4 A4.out).mono ?_); (case side1 => repeat (first | exact (Kd.C_below HR0_1.out HB.out) | (with_reducible refine Kd.C_alloc ?_ _) | (with_reducible refine Kd.C_drewN ?_ _) | (with_reducible refine Kd.C_drew ?_))); (case side2 => exact HC0_1.out); (case side3 => repeat (first | exact (Kd.C_below HR1_1.out HB.out) | (with_reducible refine Kd.C_alloc ?_ _) | (with_reducible refine Kd.C_drewN ?_ _) | (with_reducible refine Kd.C_drew ?_))); (case side4 => exact HC1_1.out); rintro e w' ⟨rfl, ⟨nd, rfl⟩⟩) | (go_at_call 9; (with_reducible refine (tree_SameNode.calls k a0_2 _ _ l0_3 _ _ l0_4 a1_2 _ _ l1_3 _ _ l1_4 t326 _ ?side1 ?side2 ?side3 ?side4 ?side5 ?side6 ?side7 ?side8 A6.out).mono ?_); (case side1 => repeat (first | exact (Kd.C_below HR0_3.out (by repeat (first | (with_reducible first | exact HB.out | apply below_alloc | apply pw_below_drewN | apply below_drew1 | refine below_set ?_ GE323.out | refine below_set ?_ GE324.out) | exact HB.out))) | (with_reducible refine Kd.C_alloc ?_ _) | (with_reducible refine Kd.C_drewN ?_ _) | (with_reducible refine Kd.C_drew ?_))); (case side2 => exact HC0_3.out); (case side3 => repeat (first | exact (Kd.C_below HR0_4.out (by repeat (first | (with_reducible first | exact HB.out | apply below_alloc | apply pw_below_drewN | apply below_drew1 | refine below_set ?_ GE323.out | refine below_set ?_ GE324.out) | exact HB.out))) | (with_reducible refine Kd.C_alloc ?_ _) | (with_reducible refine Kd.C_drewN ?_ _) | (with_reducible refine Kd.C_drew ?_))); (case side4 => exact HC0_4.out); (case side5 => repeat (first | exact (Kd.C_below HR1_3.out (by repeat (first | (with_reducible first | exact HB.out | apply below_alloc | apply pw_below_drewN | apply below_drew1 | refine below_set ?_ GE323.out | refine below_set ?_ GE324.out) | exact HB.out))) | (with_reducible refine Kd.C_alloc ?_ _) | (with_reducible refine Kd.C_drewN ?_ _) | (with_reducible refine Kd.C_drew ?_))); (case side6 => exact HC1_3.out); (case side7 => repeat (first | exact (Kd.C_below HR1_4.out (by repeat (first | (with_reducible first | exact HB.out | apply below_alloc | apply pw_below_drewN | apply below_drew1 | refine below_set ?_ GE323.out | refine below_set ?_ GE324.out) | exact HB.out))) | (with_reducible refine Kd.C_alloc ?_ _) | (with_reducible refine Kd.C_drewN ?_ _) | (with_reducible refine Kd.C_drew ?_))); (case side8 => exact HC1_4.out); rintro e w12 ⟨rfl, hb⟩; have n0_ := Aside0.mk (blk_below (g := gb323) (o := .cells #[.int .u32 a0_0, .slice A0_1 l0_1.length c0_1, .string a0_2, .slice A0_3 l0_3.length c0_3, .slice A0_4 l0_4.length c0_4] 29 (0, 0)) (by (with_reducible repeat (first | refine blk_drewN ?_ _ | refine blk_drew ?_ | refine blk_alloc ?_ _)); exact BK323.out) hb); have n1_ := Aside0.mk (blk_below (g := gb324) (o := .cells #[.int .u32 a1_0, .slice A1_1 l1_1.length c1_1, .string a1_2, .slice A1_3 l1_3.length c1_3, .slice A1_4 l1_4.length c1_4] 29 (0, 0)) (by (with_reducible repeat (first | refine blk_drewN ?_ _ | refine blk_drew ?_ | refine blk_alloc ?_ _)); exact BK324.out) hb); have n2_ := Aside0.mk (below_step (by repeat (first | (with_reducible first | exact HB.out | apply below_alloc | apply pw_below_drewN | apply below_drew1 | refine below_set ?_ GE323.out | refine below_set ?_ GE324.out) | exact HB.out)) hb); clear BK323; clear BK324; clear HB; have BK323 := n0_; have BK324 := n1_; have HB := n2_; clear n0_ n1_ n2_; (try clear hb); (try clear hb2); (try clear hk); (try clear hi)))
      go_ret
      exact ⟨by first | rfl | (simp [errW_none, errW_some] <;> rfl) | (simp [*, errW_none, errW_some] <;> rfl), by repeat (first | (with_reducible first | exact HB.out | apply below_alloc | apply pw_below_drewN | apply below_drew1 | refine below_set ?_ GE323.out | refine below_set ?_ GE324.out) | exact HB.out)⟩
    · replace c5 := Bool.eq_false_iff.mpr c5
      subst c5
      have H1 : (some false) = some r := by rw [if_neg (show ¬ (false = true) by decide)] at H; exact H
      clear H
      have H := H1
      clear H1
      obtain rfl := Option.some.inj H
      go_enter Try.func7, Try.ntmps7
      go_wp2_with (first | ((with_reducible refine gate_dst (N := 2) rfl ?_); refine box_event ?hg (N := 2) ?hd (cs := #[.int .u32 a0_0, .slice A0_1 l0_1.length c0_1, .string a0_2, .slice A0_3 l0_3.length c0_3, .slice A0_4 l0_4.length c0_4]) (t := 29) ?hr ?_; (case hd => rfl); (case hg => rfl); (case hr => first | (go_simp; done) | (go_simp; rfl)); intro gb323 hg w13 hbox hb; have n0_ := Aside0.mk (below_step (by repeat (first | (with_reducible first | exact HB.out | apply below_alloc | apply pw_below_drewN | apply below_drew1) | exact HB.out)) hb); have n1_ := Aside0.mk (hbox); have n2_ := Aside0.mk ((by rw [hg]; exact (below_size (by repeat (first | (with_reducible first | exact HB.out | apply below_alloc | apply pw_below_drewN | apply below_drew1) | exact HB.out))) : w.heap.size ≤ gb323)); have n3_ := Aside0.mk ((by rw [hg]; exact (below_size (by repeat (first | (with_reducible first | exact HB.out | apply below_alloc | apply pw_below_drewN | apply below_drew1) | exact HB.out))) : w.heap.size ≤ gb323)); clear HB; have HB := n0_; have BK323 := n1_; have GW323 := n2_; have GE323 := n3_; clear n0_ n1_ n2_ n3_; clear hb hbox hg) | ((with_reducible refine gate_dst (N := 3) rfl ?_); refine box_event ?hg (N := 3) ?hd (cs := #[.int .u32 a1_0, .slice A1_1 l1_1.length c1_1, .string a1_2, .slice A1_3 l1_3.length c1_3, .slice A1_4 l1_4.length c1_4]) (t := 29) ?hr ?_; (case hd => rfl); (case hg => rfl); (case hr => first | (go_simp; done) | (go_simp; rfl)); intro gb324 hg w14 hbox hb; have n0_ := Aside0.mk (blk_below (g := gb323) (o := .cells #[.int .u32 a0_0, .slice A0_1 l0_1.length c0_1, .string a0_2, .slice A0_3 l0_3.length c0_3, .slice A0_4 l0_4.length c0_4] 29 (0, 0)) (by (with_reducible repeat (first | refine blk_drewN ?_ _ | refine blk_drew ?_ | refine blk_alloc ?_ _)); exact BK323.out) hb); have n1_ := Aside0.mk (below_step (by repeat (first | (with_reducible first | exact HB.out | apply below_alloc | apply pw_below_drewN | apply below_drew1 | refine below_set ?_ GE323.out) | exact HB.out)) hb); have n2_ := Aside0.mk (hbox); have n3_ := Aside0.mk ((by rw [hg]; exact (below_size (by repeat (first | (with_reducible first | exact HB.out | apply below_alloc | apply pw_below_drewN | apply below_drew1 | refine below_set ?_ GE323.out) | exact HB.out))) : w.heap.size ≤ gb324)); have n4_ := Aside0.mk ((by rw [hg]; exact (below_size (by repeat (first | (with_reducible first | exact HB.out | apply below_alloc | apply pw_below_drewN | apply below_drew1 | refine below_set ?_ GE323.out) | exact HB.out))) : w.heap.size ≤ gb324)); have n5_ := Aside0.mk ((by rw [hg]; exact Nat.ne_of_lt (blk_lt (g := gb323) (o := .cells #[.int .u32 a0_0, .slice A0_1 l0_1.length c0_1, .string a0_2, .slice A0_3 l0_3.length c0_3, .slice A0_4 l0_4.length c0_4] 29 (0, 0)) (by (with_reducible repeat (first | refine blk_drewN ?_ _ | refine blk_drew ?_ | refine blk_alloc ?_ _)); exact BK323.out)) : gb323 ≠ gb324)); have n6_ := Aside0.mk ((by rw [hg]; exact Nat.ne_of_gt (blk_lt (g := gb323) (o := .cells #[.int .u32 a0_0, .slice A0_1 l0_1.length c0_1, .string a0_2, .slice A0_3 l0_3.length c0_3, .slice A0_4 l0_4.length c0_4] 29 (0, 0)) (by (with_reducible repeat (first | refine blk_drewN ?_ _ | refine blk_drew ?_ | refine blk_alloc ?_ _)); exact BK323.out)) : gb324 ≠ gb323)); clear BK323; clear HB; have BK323 := n0_; have HB := n1_; have BK324 := n2_; have GW324 := n3_; have GE324 := n4_; have NB323_324 := n5_; have NB324_323 := n6_; clear n0_ n1_ n2_ n3_ n4_ n5_ n6_; clear hb hbox hg; have hnb15 := NB323_324.out; have hnc15 := NB324_323.out; have hcz16_0 : w14.cell? ⟨gb323, 0, none⟩ = some (.int .u32 a0_0) := (blk_cell BK323.out 0).trans rfl; have hcz16_1 : w14.cell? ⟨gb323, 1, none⟩ = some (.slice A0_1 l0_1.length c0_1) := (blk_cell BK323.out 1).trans rfl; have hcz16_2 : w14.cell? ⟨gb323, 2, none⟩ = some (.string a0_2) := (blk_cell BK323.out 2).trans rfl; have hcz16_3 : w14.cell? ⟨gb323, 3, none⟩ = some (.slice A0_3 l0_3.length c0_3) := (blk_cell BK323.out 3).trans rfl; have hcz16_4 : w14.cell? ⟨gb323, 4, none⟩ = some (.slice A0_4 l0_4.length c0_4) := (blk_cell BK323.out 4).trans rfl; have hfz16_0 := blk_frozen BK323.out 0; have hfz16_1 := blk_frozen BK323.out 1; have hfz16_2 := blk_frozen BK323.out 2; have hfz16_3 := blk_frozen BK323.out 3; have hfz16_4 := blk_frozen BK323.out 4; have hcz17_0 : w14.cell? ⟨gb324, 0, none⟩ = some (.int .u32 a1_0) := (blk_cell BK324.out 0).trans rfl; have hcz17_1 : w14.cell? ⟨gb324, 1, none⟩ = some (.slice A1_1 l1_1.length c1_1) := (blk_cell BK324.out 1).trans rfl; have hcz17_2 : w14.cell? ⟨gb324, 2, none⟩ = some (.string a1_2) := (blk_cell BK324.out 2).trans rfl; have hcz17_3 : w14.cell? ⟨gb324, 3, none⟩ = some (.slice A1_3 l1_3.length c1_3) := (blk_cell BK324.out 3).trans rfl; have hcz17_4 : w14.cell? ⟨gb324, 4, none⟩ = some (.slice A1_4 l1_4.length c1_4) := (blk_cell BK324.out 4).trans rfl; have hfz17_0 := blk_frozen BK324.out 0; have hfz17_1 := blk_frozen BK324.out 1; have hfz17_2 := blk_frozen BK324.out 2; have hfz17_3 := blk_frozen BK324.out 3; have hfz17_4 := blk_frozen BK324.out 4) | (go_at_call 15; (with_reducible refine (api_Reserve_15.calls k _ _ l0_1 _ _ l1_1 false _ ?side1 ?side2 ?side3 ?side4 A4.out).mono ?_); (case side1 => repeat (first | exact (Kd.C_below HR0_1.out HB.out) | (with_reducible refine Kd.C_alloc ?_ _) | (with_reducible refine Kd.C_drewN ?_ _) | (with_reducible refine Kd.C_drew ?_))); (case side2 => exact HC0_1.out); (case side3 => repeat (first | exact (Kd.C_below HR1_1.out HB.out) | (with_reducible refine Kd.C_alloc ?_ _) | (with_reducible refine Kd.C_drewN ?_ _) | (with_reducible refine Kd.C_drew ?_))); (case side4 => exact HC1_1.out); rintro e w' ⟨rfl, ⟨nd, rfl⟩⟩))
      go_ret
      exact ⟨by first | rfl | (simp [errW_none, errW_some] <;> rfl) | (simp [*, errW_none, errW_some] <;> rfl), by repeat (first | (with_reducible first | exact HB.out | apply below_alloc | apply pw_below_drewN | apply below_drew1 | refine below_set ?_ GE323.out | refine below_set ?_ GE324.out) | exact HB.out)⟩
  · rw [if_neg c3] at H
    have c3b0 : (a0_0 == a1_0) = false := beq_eq_false_iff_ne.mpr c3
    have c3b1 : (a0_0 != a1_0) = true := bne_iff_ne.mpr c3
    obtain rfl := Option.some.inj H
    go_enter Try.func7, Try.ntmps7
    go_wp2_with (first | ((with_reducible refine gate_dst (N := 2) rfl ?_); refine box_event ?hg (N := 2) ?hd (cs := #[.int .u32 a0_0, .slice A0_1 l0_1.length c0_1, .string a0_2, .slice A0_3 l0_3.length c0_3, .slice A0_4 l0_4.length c0_4]) (t := 29) ?hr ?_; (case hd => rfl); (case hg => rfl); (case hr => first | (go_simp; done) | (go_simp; rfl)); intro gb323 hg w18 hbox hb; have n0_ := Aside0.mk (below_step (by repeat (first | (with_reducible first | exact HB.out | apply below_alloc | apply pw_below_drewN | apply below_drew1) | exact HB.out)) hb); have n1_ := Aside0.mk (hbox); have n2_ := Aside0.mk ((by rw [hg]; exact (below_size (by repeat (first | (with_reducible first | exact HB.out | apply below_alloc | apply pw_below_drewN | apply below_drew1) | exact HB.out))) : w.heap.size ≤ gb323)); have n3_ := Aside0.mk ((by rw [hg]; exact (below_size (by repeat (first | (with_reducible first | exact HB.out | apply below_alloc | apply pw_below_drewN | apply below_drew1) | exact HB.out))) : w.heap.size ≤ gb323)); clear HB; have HB := n0_; have BK323 := n1_; have GW323 := n2_; have GE323 := n3_; clear n0_ n1_ n2_ n3_; clear hb hbox hg) | ((with_reducible refine gate_dst (N := 3) rfl ?_); refine box_event ?hg (N := 3) ?hd (cs := #[.int .u32 a1_0, .slice A1_1 l1_1.length c1_1, .string a1_2, .slice A1_3 l1_3.length c1_3, .slice A1_4 l1_4.length c1_4]) (t := 29) ?hr ?_; (case hd => rfl); (case hg => rfl); (case hr => first | (go_simp; done) | (go_simp; rfl)); intro gb324 hg w19 hbox hb; have n0_ := Aside0.mk (blk_below (g := gb323) (o := .cells #[.int .u32 a0_0, .slice A0_1 l0_1.length c0_1, .string a0_2, .slice A0_3 l0_3.length c0_3, .slice A0_4 l0_4.length c0_4] 29 (0, 0)) (by (with_reducible repeat (first | refine blk_drewN ?_ _ | refine blk_drew ?_ | refine blk_alloc ?_ _)); exact BK323.out) hb); have n1_ := Aside0.mk (below_step (by repeat (first | (with_reducible first | exact HB.out | apply below_alloc | apply pw_below_drewN | apply below_drew1 | refine below_set ?_ GE323.out) | exact HB.out)) hb); have n2_ := Aside0.mk (hbox); have n3_ := Aside0.mk ((by rw [hg]; exact (below_size (by repeat (first | (with_reducible first | exact HB.out | apply below_alloc | apply pw_below_drewN | apply below_drew1 | refine below_set ?_ GE323.out) | exact HB.out))) : w.heap.size ≤ gb324)); have n4_ := Aside0.mk ((by rw [hg]; exact (below_size (by repeat (first | (with_reducible first | exact HB.out | apply below_alloc | apply pw_below_drewN | apply below_drew1 | refine below_set ?_ GE323.out) | exact HB.out))) : w.heap.size ≤ gb324)); have n5_ := Aside0.mk ((by rw [hg]; exact Nat.ne_of_lt (blk_lt (g := gb323) (o := .cells #[.int .u32 a0_0, .slice A0_1 l0_1.length c0_1, .string a0_2, .slice A0_3 l0_3.length c0_3, .slice A0_4 l0_4.length c0_4] 29 (0, 0)) (by (with_reducible repeat (first | refine blk_drewN ?_ _ | refine blk_drew ?_ | refine blk_alloc ?_ _)); exact BK323.out)) : gb323 ≠ gb324)); have n6_ := Aside0.mk ((by rw [hg]; exact Nat.ne_of_gt (blk_lt (g := gb323) (o := .cells #[.int .u32 a0_0, .slice A0_1 l0_1.length c0_1, .string a0_2, .slice A0_3 l0_3.length c0_3, .slice A0_4 l0_4.length c0_4] 29 (0, 0)) (by (with_reducible repeat (first | refine blk_drewN ?_ _ | refine blk_drew ?_ | refine blk_alloc ?_ _)); exact BK323.out)) : gb324 ≠ gb323)); clear BK323; clear HB; have BK323 := n0_; have HB := n1_; have BK324 := n2_; have GW324 := n3_; have GE324 := n4_; have NB323_324 := n5_; have NB324_323 := n6_; clear n0_ n1_ n2_ n3_ n4_ n5_ n6_; clear hb hbox hg; have hnb20 := NB323_324.out; have hnc20 := NB324_323.out; have hcz21_0 : w19.cell? ⟨gb323, 0, none⟩ = some (.int .u32 a0_0) := (blk_cell BK323.out 0).trans rfl; have hcz21_1 : w19.cell? ⟨gb323, 1, none⟩ = some (.slice A0_1 l0_1.length c0_1) := (blk_cell BK323.out 1).trans rfl; have hcz21_2 : w19.cell? ⟨gb323, 2, none⟩ = some (.string a0_2) := (blk_cell BK323.out 2).trans rfl; have hcz21_3 : w19.cell? ⟨gb323, 3, none⟩ = some (.slice A0_3 l0_3.length c0_3) := (blk_cell BK323.out 3).trans rfl; have hcz21_4 : w19.cell? ⟨gb323, 4, none⟩ = some (.slice A0_4 l0_4.length c0_4) := (blk_cell BK323.out 4).trans rfl; have hfz21_0 := blk_frozen BK323.out 0; have hfz21_1 := blk_frozen BK323.out 1; have hfz21_2 := blk_frozen BK323.out 2; have hfz21_3 := blk_frozen BK323.out 3; have hfz21_4 := blk_frozen BK323.out 4; have hcz22_0 : w19.cell? ⟨gb324, 0, none⟩ = some (.int .u32 a1_0) := (blk_cell BK324.out 0).trans rfl; have hcz22_1 : w19.cell? ⟨gb324, 1, none⟩ = some (.slice A1_1 l1_1.length c1_1) := (blk_cell BK324.out 1).trans rfl; have hcz22_2 : w19.cell? ⟨gb324, 2, none⟩ = some (.string a1_2) := (blk_cell BK324.out 2).trans rfl; have hcz22_3 : w19.cell? ⟨gb324, 3, none⟩ = some (.slice A1_3 l1_3.length c1_3) := (blk_cell BK324.out 3).trans rfl; have hcz22_4 : w19.cell? ⟨gb324, 4, none⟩ = some (.slice A1_4 l1_4.length c1_4) := (blk_cell BK324.out 4).trans rfl; have hfz22_0 := blk_frozen BK324.out 0; have hfz22_1 := blk_frozen BK324.out 1; have hfz22_2 := blk_frozen BK324.out 2; have hfz22_3 := blk_frozen BK324.out 3; have hfz22_4 := blk_frozen BK324.out 4))
    go_ret
    exact ⟨by first | rfl | (simp [errW_none, errW_some] <;> rfl) | (simp [*, errW_none, errW_some] <;> rfl), by repeat (first | (with_reducible first | exact HB.out | apply below_alloc | apply pw_below_drewN | apply below_drew1 | refine below_set ?_ GE323.out | refine below_set ?_ GE324.out) | exact HB.out)⟩
end Go.Proofs.Ytiioeaalnmjbmaa.PE

namespace Go.Proofs.Ytiioeaalnmjbmaa.PE
open Go.RowKit Go.Proofs.YtiioeaalnmjbmaaW.PrintWords Go.Proofs.YtiioeaalnmjbmaaW.PrintLast Go.Proofs.YtiioeaalnmjbmaaW.PrintMore
attribute [local go_sem] max2_int min2_int max_two min_two max_three min_three max_four min_four   -- for this text's walks alone
set_option linter.unusedVariables false
set_option linter.unusedSimpArgs false
mutual
def arboretref01_Same.j0 : Nat → Bool → ByteArray → List (S35) → List (S27) → ByteArray → List (S35) → List (S27) → Option (Bool)
  | 0, _, _, _, _, _, _, _ => none
  | k + 1, x29, x328000, x328001, x328002, x329000, x329001, x329002 => if x29 = true then (some false) else (arboretref01_Same.l0 k (x328001.length : Int) 0 x328000 x328001 x328002 x329000 x329001 x329002)
def arboretref01_Same.l0 : Nat → Int → Int → ByteArray → List (S35) → List (S27) → ByteArray → List (S35) → List (S27) → Option (Bool)
  | 0, _, _, _, _, _, _, _, _ => none
  | k + 1, x32, x33, x328000, x328001, x328002, x329000, x329001, x329002 => if x33 < x32 then (if 0 ≤ x33 then (if x33 < (x328001.length : Int) then (if x33 < (x329001.length : Int) then (if ((rd_T35 x328001 x33).f0).toList = ((rd_T35 x329001 x33).f0).toList then (if (strOfNums ((rd_T35 x328001 x33).f1)).toList = (strOfNums ((rd_T35 x329001 x33).f1)).toList then (arboretref01_Same.l0 k x32 (wrap64 (x33 + 1)) x328000 x328001 x328002 x329000 x329001 x329002) else (some false)) else (some false)) else (none)) else (none)) else (none)) else (arboretref01_Same.l1 k (x328002.length : Int) 0 x328000 x328001 x328002 x329000 x329001 x329002)
def arboretref01_Same.l1 : Nat → Int → Int → ByteArray → List (S35) → List (S27) → ByteArray → List (S35) → List (S27) → Option (Bool)
  | 0, _, _, _, _, _, _, _, _ => none
  | k + 1, x69, x70, x328000, x328001, x328002, x329000, x329001, x329002 => if x70 < x69 then (if 0 ≤ x70 then (if x70 < (x328002.length : Int) then (if x70 < (x329002.length : Int) then ((arboretref01_Same.f k ((rd_T27 x328002 x70).f0) ((rd_T27 x328002 x70).f1) ((rd_T27 x328002 x70).f2) ((rd_T27 x329002 x70).f0) ((rd_T27 x329002 x70).f1) ((rd_T27 x329002 x70).f2)).bind fun t335 => (if t335 = true then (arboretref01_Same.l1 k x69 (wrap64 (x70 + 1)) x328000 x328001 x328002 x329000 x329001 x329002) else (some false))) else (none)) else (none)) else (none)) else (some true)
def arboretref01_Same.f : Nat → ByteArray → List (S35) → List (S27) → ByteArray → List (S35) → List (S27) → Option (Bool)
  | 0, _, _, _, _, _, _ => none
  | k + 1, a0_0, l0_1, l0_2, a1_0, l1_1, l1_2 => if a0_0.toList = a1_0.toList then (if (l0_1.length : Int) = (l1_1.length : Int) then (arboretref01_Same.j0 k ((l0_2.length : Int) != (l1_2.length : Int)) a0_0 l0_1 l0_2 a1_0 l1_1 l1_2) else (arboretref01_Same.j0 k true a0_0 l0_1 l0_2 a1_0 l1_1 l1_2)) else (arboretref01_Same.j0 k true a0_0 l0_1 l0_2 a1_0 l1_1 l1_2)
end
def arboretref01_Same.T12 : Bool × List (List Nat × List Nat) := (true, [([], []), ([0], [0]), ([], []), ([1, 2], [1, 2]), ([3], [3]), ([], []), ([5], [5]), ([], []), ([6, 7], [6, 7]), ([8], [8]), ([4, 9], [4, 9]), ([10], [10])])
def arboretref01_Same.B12 : List Nat := [0, 1, 0, 7, 15, 0, 32, 0, 224, 480, 1023, 2047]
theorem arboretref01_Same.tab12 : rtab .any (opsOf Try.f10 12) = arboretref01_Same.T12 := by kernel_rfl
theorem arboretref01_Same.bits12 : waitsOk arboretref01_Same.T12.2 arboretref01_Same.B12 = true := by kernel_rfl
set_option maxHeartbeats 8000000 in
set_option maxRecDepth 100000 in
theorem arboretref01_Same.calls (k : Nat) : ∀ (a0_0 : ByteArray) (A0_1 : Option Addr) (c0_1 : Nat) (l0_1 : List (S35)) (A0_2 : Option Addr) (c0_2 : Nat) (l0_2 : List (S27)) (a1_0 : ByteArray) (A1_1 : Option Addr) (c1_1 : Nat) (l1_1 : List (S35)) (A1_2 : Option Addr) (c1_2 : Nat) (l1_2 : List (S27)) (r : Bool) (w : World) (hr0_1 : Kd.C k35 w A0_1 l0_1.length l0_1) (hc0_1 : l0_1.length ≤ c0_1) (hr0_2 : Kd.C k27 w A0_2 l0_2.length l0_2) (hc0_2 : l0_2.length ≤ c0_2) (hr1_1 : Kd.C k35 w A1_1 l1_1.length l1_1) (hc1_1 : l1_1.length ≤ c1_1) (hr1_2 : Kd.C k27 w A1_2 l1_2.length l1_2) (hc1_2 : l1_2.length ≤ c1_2) (h : arboretref01_Same.f k a0_0 l0_1 l0_2 a1_0 l1_1 l1_2 = some r),
    Calls Try.prog 10 #[.agg #[.string a0_0, .slice A0_1 l0_1.length c0_1, .slice A0_2 l0_2.length c0_2], .agg #[.string a1_0, .slice A1_1 l1_1.length c1_1, .slice A1_2 l1_2.length c1_2]] w fun e w' => e = .returned (.bool r) ∧ Below w.heap.size w w' := by
  induction k using Nat.strongRecOn with
  | _ k ih =>
  intro a0_0 A0_1 c0_1 l0_1 A0_2 c0_2 l0_2 a1_0 A1_1 c1_1 l1_1 A1_2 c1_2 l1_2 r w hr0_1 hc0_1 hr0_2 hc0_2 hr1_1 hc1_1 hr1_2 hc1_2 h
  cases k with
  | zero => exact absurd h (by simp [arboretref01_Same.f])
  | succ k =>
  simp only [arboretref01_Same.f] at h
  have hu27 := Try.underlying27
  have HR0_1 := Aside0.mk hr0_1
  have HC0_1 := Aside0.mk hc0_1
  clear hr0_1 hc0_1
  have HR0_2 := Aside0.mk hr0_2
  have HC0_2 := Aside0.mk hc0_2
  clear hr0_2 hc0_2
  have HR1_1 := Aside0.mk hr1_1
  have HC1_1 := Aside0.mk hc1_1
  clear hr1_1 hc1_1
  have HR1_2 := Aside0.mk hr1_2
  have HC1_2 := Aside0.mk hc1_2
  clear hr1_2 hc1_2
  have HB := Aside0.mk (Below.refl w.heap.size w)
  have H : (if a0_0.toList = a1_0.toList then (if (l0_1.length : Int) = (l1_1.length : Int) then (arboretref01_Same.j0 k ((l0_2.length : Int) != (l1_2.length : Int)) a0_0 l0_1 l0_2 a1_0 l1_1 l1_2) else (arboretref01_Same.j0 k true a0_0 l0_1 l0_2 a1_0 l1_1 l1_2)) else (arboretref01_Same.j0 k true a0_0 l0_1 l0_2 a1_0 l1_1 l1_2)) = some r := h
  clear h
  have HC3 := Aside0.mk H
  clear H
  go_enter Try.func10, Try.ntmps10
  go_upto_region 1 with (first | ((with_reducible refine gate_dst (N := 2) rfl ?_); (try (refine gate_guard (by rfl) ?_; dsimp only)); refine box_event ?hg (N := 2) ?hd (cs := #[.string a0_0, .slice A0_1 l0_1.length c0_1, .slice A0_2 l0_2.length c0_2]) (t := 27) ?hr ?_; (case hd => rfl); (case hg => rfl); (case hr => first | (go_simp; done) | (go_simp; rfl)); intro gb327 hg w4 hbox hb; have n0_ := Aside0.mk (below_step (by repeat (first | (with_reducible first | exact HB.out | apply below_alloc | apply pw_below_drewN | apply below_drew1) | exact HB.out)) hb); have n1_ := Aside0.mk (hbox); have n2_ := Aside0.mk ((by rw [hg]; exact (below_size (by repeat (first | (with_reducible first | exact HB.out | apply below_alloc | apply pw_below_drewN | apply below_drew1) | exact HB.out))) : w.heap.size ≤ gb327)); have n3_ := Aside0.mk ((by rw [hg]; exact (below_size (by repeat (first | (with_reducible first | exact HB.out | apply below_alloc | apply pw_below_drewN | apply below_drew1) | exact HB.out))) : w.heap.size ≤ gb327)); clear HB; have HB := n0_; have BK327 := n1_; have GW327 := n2_; have GE327 := n3_; clear n0_ n1_ n2_ n3_; clear hb hbox hg) | ((with_reducible refine gate_dst (N := 3) rfl ?_); (try (refine gate_guard (by rfl) ?_; dsimp only)); refine box_event ?hg (N := 3) ?hd (cs := #[.string a1_0, .slice A1_1 l1_1.length c1_1, .slice A1_2 l1_2.length c1_2]) (t := 27) ?hr ?_; (case hd => rfl); (case hg => rfl); (case hr => first | (go_simp; done) | (go_simp; rfl)); intro gb328 hg w5 hbox hb; have n0_ := Aside0.mk (blk_below (g := gb327) (o := .cells #[.string a0_0, .slice A0_1 l0_1.length c0_1, .slice A0_2 l0_2.length c0_2] 27 (0, 0)) (by (with_reducible repeat (first | refine blk_drewN ?_ _ | refine blk_drew ?_ | refine blk_alloc ?_ _)); exact BK327.out) hb); have n1_ := Aside0.mk (below_step (by repeat (first | (with_reducible first | exact HB.out | apply below_alloc | apply pw_below_drewN | apply below_drew1 | refine below_set ?_ GE327.out) | exact HB.out)) hb); have n2_ := Aside0.mk (hbox); have n3_ := Aside0.mk ((by rw [hg]; exact (below_size (by repeat (first | (with_reducible first | exact HB.out | apply below_alloc | apply pw_below_drewN | apply below_drew1 | refine below_set ?_ GE327.out) | exact HB.out))) : w.heap.size ≤ gb328)); have n4_ := Aside0.mk ((by rw [hg]; exact (below_size (by repeat (first | (with_reducible first | exact HB.out | apply below_alloc | apply pw_below_drewN | apply below_drew1 | refine below_set ?_ GE327.out) | exact HB.out))) : w.heap.size ≤ gb328)); have n5_ := Aside0.mk ((by rw [hg]; exact Nat.ne_of_lt (blk_lt (g := gb327) (o := .cells #[.string a0_0, .slice A0_1 l0_1.length c0_1, .slice A0_2 l0_2.length c0_2] 27 (0, 0)) (by (with_reducible repeat (first | refine blk_drewN ?_ _ | refine blk_drew ?_ | refine blk_alloc ?_ _)); exact BK327.out)) : gb327 ≠ gb328)); have n6_ := Aside0.mk ((by rw [hg]; exact Nat.ne_of_gt (blk_lt (g := gb327) (o := .cells #[.string a0_0, .slice A0_1 l0_1.length c0_1, .slice A0_2 l0_2.length c0_2] 27 (0, 0)) (by (with_reducible repeat (first | refine blk_drewN ?_ _ | refine blk_drew ?_ | refine blk_alloc ?_ _)); exact BK327.out)) : gb328 ≠ gb327)); clear BK327; clear HB; have BK327 := n0_; have HB := n1_; have BK328 := n2_; have GW328 := n3_; have GE328 := n4_; have NB327_328 := n5_; have NB328_327 := n6_; clear n0_ n1_ n2_ n3_ n4_ n5_ n6_; clear hb hbox hg))
  (try simp only [Act.put, List.setIfInBounds_toArray, List.set_cons_zero, List.set_cons_succ])
  go_cut [29] (fun v29 wc => ∃ (kq : Nat) (x29_2 : Bool), v29 = .bool x29_2 ∧ Aside0 (arboretref01_Same.j0 kq x29_2 a0_0 l0_1 l0_2 a1_0 l1_1 l1_2 = some r) ∧ Aside0 (kq ≤ k) ∧ Aside0 (wc.heap[gb327]? = some (.cells #[.string a0_0, (.slice A0_1 l0_1.length c0_1), (.slice A0_2 l0_2.length c0_2)] 27 (0, 0))) ∧ Aside0 (wc.heap[gb328]? = some (.cells #[.string a1_0, (.slice A1_1 l1_1.length c1_1), (.slice A1_2 l1_2.length c1_2)] 27 (0, 0))) ∧ Aside0 (Below w.heap.size w wc))
  case first =>
    have H := HC3.out
    clear HC3
    by_cases c6 : a0_0.toList = a1_0.toList
    · rw [if_pos c6] at H
      have c6b0 : (a0_0.toList == a1_0.toList) = true := beq_iff_eq.mpr c6
      have c6b1 : (a0_0.toList != a1_0.toList) = false := bne_eq_false_iff_eq.mpr c6
      clear c6
      (first | rw [c6b0] | (simp only [i64_w, i32_w]; rw [c6b0]) | skip)
      by_cases c7 : (l0_1.length : Int) = (l1_1.length : Int)
      · rw [if_pos c7] at H
        have c7b0 : ((l0_1.length : Int) == (l1_1.length : Int)) = true := beq_iff_eq.mpr c7
        have c7b1 : ((l0_1.length : Int) != (l1_1.length : Int)) = false := bne_eq_false_iff_eq.mpr c7
        have c7b2 : (l0_1.length == l1_1.length) = true := by first | simpa using c7 | (simp at c7 ⊢; omega)
        clear c7
        have H' := Aside0.mk H
        clear H
        have hnb8 := NB327_328.out
        have hnc8 := NB328_327.out
        have hcz9_0 : w5.cell? ⟨gb327, 0, none⟩ = some (.string a0_0) := (blk_cell BK327.out 0).trans rfl
        have hcz9_1 : w5.cell? ⟨gb327, 1, none⟩ = some (.slice A0_1 l0_1.length c0_1) := (blk_cell BK327.out 1).trans rfl
        have hcz9_2 : w5.cell? ⟨gb327, 2, none⟩ = some (.slice A0_2 l0_2.length c0_2) := (blk_cell BK327.out 2).trans rfl
        have hfz9_0 := blk_frozen BK327.out 0
        have hfz9_1 := blk_frozen BK327.out 1
        have hfz9_2 := blk_frozen BK327.out 2
        have hcz10_0 : w5.cell? ⟨gb328, 0, none⟩ = some (.string a1_0) := (blk_cell BK328.out 0).trans rfl
        have hcz10_1 : w5.cell? ⟨gb328, 1, none⟩ = some (.slice A1_1 l1_1.length c1_1) := (blk_cell BK328.out 1).trans rfl
        have hcz10_2 : w5.cell? ⟨gb328, 2, none⟩ = some (.slice A1_2 l1_2.length c1_2) := (blk_cell BK328.out 2).trans rfl
        have hfz10_0 := blk_frozen BK328.out 0
        have hfz10_1 := blk_frozen BK328.out 1
        have hfz10_2 := blk_frozen BK328.out 2
        go_wp2
        go_meet
        case rel => exact ⟨_, (((l0_2.length : Int) != (l1_2.length : Int))), (by first | rfl | (simp; done) | (simp [*]; done)), H', ⟨by first | omega | exact Nat.le_refl _⟩, ⟨by (with_reducible repeat (first | refine blk_drewN ?_ _ | refine blk_drew ?_ | refine blk_alloc ?_ _)); exact BK327.out⟩, ⟨by (with_reducible repeat (first | refine blk_drewN ?_ _ | refine blk_drew ?_ | refine blk_alloc ?_ _)); exact BK328.out⟩, ⟨by repeat (first | (with_reducible first | exact HB.out | apply below_alloc | apply pw_below_drewN | apply below_drew1 | refine below_set ?_ GE327.out | refine below_set ?_ GE328.out) | exact HB.out)⟩⟩
      · rw [if_neg c7] at H
        have c7b0 : ((l0_1.length : Int) == (l1_1.length : Int)) = false := beq_eq_false_iff_ne.mpr c7
        have c7b1 : ((l0_1.length : Int) != (l1_1.length : Int)) = true := bne_iff_ne.mpr c7
        have c7b2 : (l0_1.length == l1_1.length) = false := by first | simpa using c7 | (simp at c7 ⊢; omega)
        have H' := Aside0.mk H
        clear H
        have hnb11 := NB327_328.out
        have hnc11 := NB328_327.out
        have hcz12_0 : w5.cell? ⟨gb327, 0, none⟩ = some (.string a0_0) := (blk_cell BK327.out 0).trans rfl
        have hcz12_1 : w5.cell? ⟨gb327, 1, none⟩ = some (.slice A0_1 l0_1.length c0_1) := (blk_cell BK327.out 1).trans rfl
        have hcz12_2 : w5.cell? ⟨gb327, 2, none⟩ = some (.slice A0_2 l0_2.length c0_2) := (blk_cell BK327.out 2).trans rfl
        have hfz12_0 := blk_frozen BK327.out 0
        have hfz12_1 := blk_frozen BK327.out 1
        have hfz12_2 := blk_frozen BK327.out 2
        have hcz13_0 : w5.cell? ⟨gb328, 0, none⟩ = some (.string a1_0) := (blk_cell BK328.out 0).trans rfl
        have hcz13_1 : w5.cell? ⟨gb328, 1, none⟩ = some (.slice A1_1 l1_1.length c1_1) := (blk_cell BK328.out 1).trans rfl
        have hcz13_2 : w5.cell? ⟨gb328, 2, none⟩ = some (.slice A1_2 l1_2.length c1_2) := (blk_cell BK328.out 2).trans rfl
        have hfz13_0 := blk_frozen BK328.out 0
        have hfz13_1 := blk_frozen BK328.out 1
        have hfz13_2 := blk_frozen BK328.out 2
        go_wp2
        go_meet
        case rel => exact ⟨_, (true), (by first | rfl | (simp; done) | (simp [*]; done)), H', ⟨by first | omega | exact Nat.le_refl _⟩, ⟨by (with_reducible repeat (first | refine blk_drewN ?_ _ | refine blk_drew ?_ | refine blk_alloc ?_ _)); exact BK327.out⟩, ⟨by (with_reducible repeat (first | refine blk_drewN ?_ _ | refine blk_drew ?_ | refine blk_alloc ?_ _)); exact BK328.out⟩, ⟨by repeat (first | (with_reducible first | exact HB.out | apply below_alloc | apply pw_below_drewN | apply below_drew1 | refine below_set ?_ GE327.out | refine below_set ?_ GE328.out) | exact HB.out)⟩⟩
    · rw [if_neg c6] at H
      have c6b0 : (a0_0.toList == a1_0.toList) = false := beq_eq_false_iff_ne.mpr c6
      have c6b1 : (a0_0.toList != a1_0.toList) = true := bne_iff_ne.mpr c6
      (first | rw [c6b0] | (simp only [i64_w, i32_w]; rw [c6b0]) | skip)
      have H' := Aside0.mk H
      clear H
      have hnb14 := NB327_328.out
      have hnc14 := NB328_327.out
      have hcz15_0 : w5.cell? ⟨gb327, 0, none⟩ = some (.string a0_0) := (blk_cell BK327.out 0).trans rfl
      have hcz15_1 : w5.cell? ⟨gb327, 1, none⟩ = some (.slice A0_1 l0_1.length c0_1) := (blk_cell BK327.out 1).trans rfl
      have hcz15_2 : w5.cell? ⟨gb327, 2, none⟩ = some (.slice A0_2 l0_2.length c0_2) := (blk_cell BK327.out 2).trans rfl
      have hfz15_0 := blk_frozen BK327.out 0
      have hfz15_1 := blk_frozen BK327.out 1
      have hfz15_2 := blk_frozen BK327.out 2
      have hcz16_0 : w5.cell? ⟨gb328, 0, none⟩ = some (.string a1_0) := (blk_cell BK328.out 0).trans rfl
      have hcz16_1 : w5.cell? ⟨gb328, 1, none⟩ = some (.slice A1_1 l1_1.length c1_1) := (blk_cell BK328.out 1).trans rfl
      have hcz16_2 : w5.cell? ⟨gb328, 2, none⟩ = some (.slice A1_2 l1_2.length c1_2) := (blk_cell BK328.out 2).trans rfl
      have hfz16_0 := blk_frozen BK328.out 0
      have hfz16_1 := blk_frozen BK328.out 1
      have hfz16_2 := blk_frozen BK328.out 2
      go_wp2
      go_meet
      case rel => exact ⟨_, (true), (by first | rfl | (simp; done) | (simp [*]; done)), H', ⟨by first | omega | exact Nat.le_refl _⟩, ⟨by (with_reducible repeat (first | refine blk_drewN ?_ _ | refine blk_drew ?_ | refine blk_alloc ?_ _)); exact BK327.out⟩, ⟨by (with_reducible repeat (first | refine blk_drewN ?_ _ | refine blk_drew ?_ | refine blk_alloc ?_ _)); exact BK328.out⟩, ⟨by repeat (first | (with_reducible first | exact HB.out | apply below_alloc | apply pw_below_drewN | apply below_drew1 | refine below_set ?_ GE327.out | refine below_set ?_ GE328.out) | exact HB.out)⟩⟩
  case rest =>
    clear HC3
    try clear c1
    try clear p2
    try clear c6
    try clear c6b0
    try clear c6b1
    try clear c7
    try clear c7b0
    try clear c7b1
    try clear c7b2
    try clear c8
    try clear c10
    try clear c11
    try clear c14
    try clear hcz10_0
    try clear hcz10_1
    try clear hcz10_2
    try clear hcz12_0
    try clear hcz12_1
    try clear hcz12_2
    try clear hcz13_0
    try clear hcz13_1
    try clear hcz13_2
    try clear hcz15_0
    try clear hcz15_1
    try clear hcz15_2
    try clear hcz16_0
    try clear hcz16_1
    try clear hcz16_2
    try clear hcz9_0
    try clear hcz9_1
    try clear hcz9_2
    try clear hfz10_0
    try clear hfz10_1
    try clear hfz10_2
    try clear hfz12_0
    try clear hfz12_1
    try clear hfz12_2
    try clear hfz13_0
    try clear hfz13_1
    try clear hfz13_2
    try clear hfz15_0
    try clear hfz15_1
    try clear hfz15_2
    try clear hfz16_0
    try clear hfz16_1
    try clear hfz16_2
    try clear hfz9_0
    try clear hfz9_1
    try clear hfz9_2
    obtain ⟨kq, x29_2, rfl, HA, HJ2, BK327, BK328, HB⟩ := hcut
    cases kq with
    | zero => exact absurd HA.out (by simp [arboretref01_Same.j0])
    | succ kj2 =>
      have H := HA.out
      clear HA
      simp only [arboretref01_Same.j0] at H
      by_cases c17 : x29_2 = true
      · subst c17
        have H1 : (some false) = some r := by rw [if_pos rfl] at H; exact H
        clear H
        have H := H1
        clear H1
        obtain rfl := Option.some.inj H
        go_wp2
        go_ret
        exact ⟨by first | rfl | (simp [errW_none, errW_some] <;> rfl) | (simp [*, errW_none, errW_some] <;> rfl), by repeat (first | (with_reducible first | exact HB.out | apply below_alloc | apply pw_below_drewN | apply below_drew1 | refine below_set ?_ GE327.out | refine below_set ?_ GE328.out) | exact HB.out)⟩
      · replace c17 := Bool.eq_false_iff.mpr c17
        subst c17
        have H1 : (arboretref01_Same.l0 kj2 (l0_1.length : Int) 0 a0_0 l0_1 l0_2 a1_0 l1_1 l1_2) = some r := by rw [if_neg (show ¬ (false = true) by decide)] at H; exact H
        clear H
        have H := H1
        clear H1
        have H' := Aside0.mk H
        clear H
        have hnb18 := NB327_328.out
        have hnc18 := NB328_327.out
        have hcz19_0 : wc.cell? ⟨gb327, 0, none⟩ = some (.string a0_0) := (blk_cell BK327.out 0).trans rfl
        have hcz19_1 : wc.cell? ⟨gb327, 1, none⟩ = some (.slice A0_1 l0_1.length c0_1) := (blk_cell BK327.out 1).trans rfl
        have hcz19_2 : wc.cell? ⟨gb327, 2, none⟩ = some (.slice A0_2 l0_2.length c0_2) := (blk_cell BK327.out 2).trans rfl
        have hfz19_0 := blk_frozen BK327.out 0
        have hfz19_1 := blk_frozen BK327.out 1
        have hfz19_2 := blk_frozen BK327.out 2
        go_wp2
        go_loopg [33] kj2 (fun kq v33 w' => ∃ (x33_2 : Int), v33 = .int .i64 x33_2 ∧ Aside0 (arboretref01_Same.l0 kq (l0_1.length : Int) x33_2 a0_0 l0_1 l0_2 a1_0 l1_1 l1_2 = some r) ∧ Aside0 (kq ≤ kj2) ∧ Aside0 (w'.heap[gb327]? = some (.cells #[.string a0_0, (.slice A0_1 l0_1.length c0_1), (.slice A0_2 l0_2.length c0_2)] 27 (0, 0))) ∧ Aside0 (w'.heap[gb328]? = some (.cells #[.string a1_0, (.slice A1_1 l1_1.length c1_1), (.slice A1_2 l1_2.length c1_2)] 27 (0, 0))) ∧ Aside0 (Below w.heap.size w w'))
        case atStart => exact ⟨(0), (by first | rfl | (simp; done) | (simp [*]; done)), H', ⟨Nat.le_refl _⟩, ⟨by (with_reducible repeat (first | refine blk_drewN ?_ _ | refine blk_drew ?_ | refine blk_alloc ?_ _)); exact BK327.out⟩, ⟨by (with_reducible repeat (first | refine blk_drewN ?_ _ | refine blk_drew ?_ | refine blk_alloc ?_ _)); exact BK328.out⟩, ⟨by repeat (first | (with_reducible first | exact HB.out | apply below_alloc | apply pw_below_drewN | apply below_drew1 | refine below_set ?_ GE327.out | refine below_set ?_ GE328.out) | exact HB.out)⟩⟩
        case round =>
          clear H'
          try clear c1
          try clear p2
          try clear c6
          try clear c6b0
          try clear c6b1
          try clear c7
          try clear c7b0
          try clear c7b1
          try clear c7b2
          try clear c8
          try clear c10
          try clear c11
          try clear c14
          try clear c17
          try clear c18
          try clear hcz10_0
          try clear hcz10_1
          try clear hcz10_2
          try clear hcz12_0
          try clear hcz12_1
          try clear hcz12_2
          try clear hcz13_0
          try clear hcz13_1
          try clear hcz13_2
          try clear hcz15_0
          try clear hcz15_1
          try clear hcz15_2
          try clear hcz16_0
          try clear hcz16_1
          try clear hcz16_2
          try clear hcz19_0
          try clear hcz19_1
          try clear hcz19_2
          try clear hcz9_0
          try clear hcz9_1
          try clear hcz9_2
          try clear hfz10_0
          try clear hfz10_1
          try clear hfz10_2
          try clear hfz12_0
          try clear hfz12_1
          try clear hfz12_2
          try clear hfz13_0
          try clear hfz13_1
          try clear hfz13_2
          try clear hfz15_0
          try clear hfz15_1
          try clear hfz15_2
          try clear hfz16_0
          try clear hfz16_1
          try clear hfz16_2
          try clear hfz19_0
          try clear hfz19_1
          try clear hfz19_2
          try clear hfz9_0
          try clear hfz9_1
          try clear hfz9_2
          try clear p2
          obtain ⟨x33_2, rfl, HA, HK2, BK327, BK328, HB⟩ := hrel
          cases gk with
          | zero => exact absurd HA.out (by simp [arboretref01_Same.l0])
          | succ k2 =>
            have H := HA.out
            clear HA
            simp only [arboretref01_Same.l0] at H
            by_cases c20 : x33_2 < (l0_1.length : Int)
            · rw [if_pos c20] at H
              have c20b0 : decide (x33_2 < (l0_1.length : Int)) = true := decide_eq_true c20
              clear c20
              by_cases c21 : 0 ≤ x33_2
              · rw [if_pos c21] at H
                have c21b0 : decide (0 ≤ x33_2) = true := decide_eq_true c21
                clear c21
                by_cases c22 : x33_2 < (l0_1.length : Int)
                · rw [if_pos c22] at H
                  have c22b0 : decide (x33_2 < (l0_1.length : Int)) = true := decide_eq_true c22
                  clear c22
                  by_cases c23 : x33_2 < (l1_1.length : Int)
                  · rw [if_pos c23] at H
                    have c23b0 : decide (x33_2 < (l1_1.length : Int)) = true := decide_eq_true c23
                    clear c23
                    by_cases c24 : ((rd_T35 l0_1 x33_2).f0).toList = ((rd_T35 l1_1 x33_2).f0).toList
                    · rw [if_pos c24] at H
                      have c24b0 : (((rd_T35 l0_1 x33_2).f0).toList == ((rd_T35 l1_1 x33_2).f0).toList) = true := beq_iff_eq.mpr c24
                      have c24b1 : (((rd_T35 l0_1 x33_2).f0).toList != ((rd_T35 l1_1 x33_2).f0).toList) = false := bne_eq_false_iff_eq.mpr c24
                      clear c24
                      by_cases c25 : (strOfNums ((rd_T35 l0_1 x33_2).f1)).toList = (strOfNums ((rd_T35 l1_1 x33_2).f1)).toList
                      · rw [if_pos c25] at H
                        have c25b0 : ((strOfNums ((rd_T35 l0_1 x33_2).f1)).toList == (strOfNums ((rd_T35 l1_1 x33_2).f1)).toList) = true := beq_iff_eq.mpr c25
                        have c25b1 : ((strOfNums ((rd_T35 l0_1 x33_2).f1)).toList != (strOfNums ((rd_T35 l1_1 x33_2).f1)).toList) = false := bne_eq_false_iff_eq.mpr c25
                        clear c25
                        have H' := Aside0.mk H
                        clear H
                        try go_wp2
                        have p329 : 0 ≤ (x33_2 : Int) := of_decide_eq_true (by first | (with_reducible assumption) | assumption)
                        have q329 : x33_2 < (l0_1.length : Int) := of_decide_eq_true (by first | (with_reducible assumption) | assumption)
                        obtain ⟨ad329, A329_1, c329_1, e329, hx329_0, hx329_1, hl329_1, hi329_1⟩ := at_T35 HR0_1.out x33_2 p329 q329
                        have hw329_1 := hx329_1
                        have hw329_0 := hx329_0
                        cases e329
                        replace hx329_0 := (HB.out.cell (World.block_lt_of_cell? w _ hx329_0)).trans hx329_0
                        replace hx329_1 := (HB.out.cell (World.block_lt_of_cell? w _ hx329_1)).trans hx329_1
                        have HR329_1 := Aside0.mk hi329_1
                        have HC329_1 := Aside0.mk hl329_1
                        clear hi329_1 hl329_1
                        replace p329 := eq_true p329
                        replace q329 := eq_true q329
                        have p330 : 0 ≤ (x33_2 : Int) := of_decide_eq_true (by first | (with_reducible assumption) | assumption)
                        have q330 : x33_2 < (l1_1.length : Int) := of_decide_eq_true (by first | (with_reducible assumption) | assumption)
                        obtain ⟨ad330, A330_1, c330_1, e330, hx330_0, hx330_1, hl330_1, hi330_1⟩ := at_T35 HR1_1.out x33_2 p330 q330
                        have hw330_1 := hx330_1
                        have hw330_0 := hx330_0
                        cases e330
                        replace hx330_0 := (HB.out.cell (World.block_lt_of_cell? w _ hx330_0)).trans hx330_0
                        replace hx330_1 := (HB.out.cell (World.block_lt_of_cell? w _ hx330_1)).trans hx330_1
                        have HR330_1 := Aside0.mk hi330_1
                        have HC330_1 := Aside0.mk hl330_1
                        clear hi330_1 hl330_1
                        replace p330 := eq_true p330
                        replace q330 := eq_true q330
                        have p331 : 0 ≤ (x33_2 : Int) := of_decide_eq_true (by first | (with_reducible assumption) | assumption)
                        have q331 : x33_2 < (l0_1.length : Int) := of_decide_eq_true (by first | (with_reducible assumption) | assumption)
                        obtain ⟨ad331, A331_1, c331_1, e331, hx331_0, hx331_1, hl331_1, hi331_1⟩ := at_T35 HR0_1.out x33_2 p331 q331
                        have hw331_1 := hx331_1
                        have hw331_0 := hx331_0
                        obtain rfl : ad329 = ad331 := (by injection e331)
                        replace hx331_0 := (HB.out.cell (World.block_lt_of_cell? w _ hx331_0)).trans hx331_0
                        replace hx331_1 := (HB.out.cell (World.block_lt_of_cell? w _ hx331_1)).trans hx331_1
                        have HR331_1 := Aside0.mk hi331_1
                        have HC331_1 := Aside0.mk hl331_1
                        clear hi331_1 hl331_1
                        replace p331 := eq_true p331
                        replace q331 := eq_true q331
                        have ea_ := Option.some.inj (hx329_1.symm.trans hx331_1)
                        injection ea_ with ea_ en_ ec_
                        subst ea_
                        subst ec_
                        clear en_
                        have p332 : 0 ≤ (x33_2 : Int) := of_decide_eq_true (by first | (with_reducible assumption) | assumption)
                        have q332 : x33_2 < (l1_1.length : Int) := of_decide_eq_true (by first | (with_reducible assumption) | assumption)
                        obtain ⟨ad332, A332_1, c332_1, e332, hx332_0, hx332_1, hl332_1, hi332_1⟩ := at_T35 HR1_1.out x33_2 p332 q332
                        have hw332_1 := hx332_1
                        have hw332_0 := hx332_0
                        obtain rfl : ad330 = ad332 := (by injection e332)
                        replace hx332_0 := (HB.out.cell (World.block_lt_of_cell? w _ hx332_0)).trans hx332_0
                        replace hx332_1 := (HB.out.cell (World.block_lt_of_cell? w _ hx332_1)).trans hx332_1
                        have HR332_1 := Aside0.mk hi332_1
                        have HC332_1 := Aside0.mk hl332_1
                        clear hi332_1 hl332_1
                        replace p332 := eq_true p332
                        replace q332 := eq_true q332
                        have ea_ := Option.some.inj (hx330_1.symm.trans hx332_1)
                        injection ea_ with ea_ en_ ec_
                        subst ea_
                        subst ec_
                        clear en_
                        have hcv27 := fun n_ : Nat => Kd.C_string (P := Try.prog) (A := A329_1) (c := c329_1) Try.underlying33 Try.underlying5 Try.underlying9 (Kd.C_below HR331_1.out (pw_below_drewN HB.out n_))
                        have hcv28 := fun n_ : Nat => Kd.C_string (P := Try.prog) (A := A330_1) (c := c330_1) Try.underlying33 Try.underlying5 Try.underlying9 (Kd.C_below HR332_1.out (pw_below_drewN HB.out n_))
                        obtain ⟨sq0, sq1, sq2, sq3, sq4, sq5, sq6, sq7, sq8, sq9, sq10, sq11, sq12, sq13⟩ : wr.cell? ⟨gb327, 0, none⟩ = some (.string a0_0) ∧ wr.cell? ⟨gb327, 1, none⟩ = some (.slice (some ad329) l0_1.length c0_1) ∧ wr.cell? ⟨gb327, 2, none⟩ = some (.slice A0_2 l0_2.length c0_2) ∧ wr.cell? ⟨gb328, 0, none⟩ = some (.string a1_0) ∧ wr.cell? ⟨gb328, 1, none⟩ = some (.slice (some ad330) l1_1.length c1_1) ∧ wr.cell? ⟨gb328, 2, none⟩ = some (.slice A1_2 l1_2.length c1_2) ∧ wr.cell? (ad329.add ((x33_2).toNat * 2)) = some (.string ((rd_T35 l0_1 x33_2).f0)) ∧ wr.cell? ⟨(ad329.add ((x33_2).toNat * 2)).block, (ad329.add ((x33_2).toNat * 2)).off + 1, none⟩ = some (.slice A329_1 ((rd_T35 l0_1 x33_2).f1).length c329_1) ∧ wr.cell? (ad330.add ((x33_2).toNat * 2)) = some (.string ((rd_T35 l1_1 x33_2).f0)) ∧ wr.cell? ⟨(ad330.add ((x33_2).toNat * 2)).block, (ad330.add ((x33_2).toNat * 2)).off + 1, none⟩ = some (.slice A330_1 ((rd_T35 l1_1 x33_2).f1).length c330_1) ∧ wr.cell? (ad329.add ((x33_2).toNat * 2)) = some (.string ((rd_T35 l0_1 x33_2).f0)) ∧ wr.cell? ⟨(ad329.add ((x33_2).toNat * 2)).block, (ad329.add ((x33_2).toNat * 2)).off + 1, none⟩ = some (.slice A329_1 ((rd_T35 l0_1 x33_2).f1).length c329_1) ∧ wr.cell? (ad330.add ((x33_2).toNat * 2)) = some (.string ((rd_T35 l1_1 x33_2).f0)) ∧ wr.cell? ⟨(ad330.add ((x33_2).toNat * 2)).block, (ad330.add ((x33_2).toNat * 2)).off + 1, none⟩ = some (.slice A330_1 ((rd_T35 l1_1 x33_2).f1).length c330_1) := ⟨(blk_cell BK327.out 0).trans rfl, (blk_cell BK327.out 1).trans rfl, (blk_cell BK327.out 2).trans rfl, (blk_cell BK328.out 0).trans rfl, (blk_cell BK328.out 1).trans rfl, (blk_cell BK328.out 2).trans rfl, ((HB.out.cell (World.block_lt_of_cell? w _ hw329_0)).trans hw329_0), ((HB.out.cell (World.block_lt_of_cell? w _ hw329_1)).trans hw329_1), ((HB.out.cell (World.block_lt_of_cell? w _ hw330_0)).trans hw330_0), ((HB.out.cell (World.block_lt_of_cell? w _ hw330_1)).trans hw330_1), ((HB.out.cell (World.block_lt_of_cell? w _ hw331_0)).trans hw331_0), ((HB.out.cell (World.block_lt_of_cell? w _ hw331_1)).trans hw331_1), ((HB.out.cell (World.block_lt_of_cell? w _ hw332_0)).trans hw332_0), ((HB.out.cell (World.block_lt_of_cell? w _ hw332_1)).trans hw332_1)⟩
                        go_quiet (fail)
                        try go_wp2
                        go_roundg k2
                        case measure => have := HJ2.out; have := HK2.out; omega
                        case rel => exact ⟨(wrap64 (x33_2 + 1)), (by first | rfl | (simp; done) | (simp [*]; done)), H', ⟨by have := HJ2.out; have := HK2.out; omega⟩, ⟨by (with_reducible repeat (first | refine blk_drewN ?_ _ | refine blk_drew ?_ | refine blk_alloc ?_ _)); exact BK327.out⟩, ⟨by (with_reducible repeat (first | refine blk_drewN ?_ _ | refine blk_drew ?_ | refine blk_alloc ?_ _)); exact BK328.out⟩, ⟨by repeat (first | (with_reducible first | exact HB.out | apply below_alloc | apply pw_below_drewN | apply below_drew1 | refine below_set ?_ GE327.out | refine below_set ?_ GE328.out) | exact HB.out)⟩⟩
                      · rw [if_neg c25] at H
                        have c25b0 : ((strOfNums ((rd_T35 l0_1 x33_2).f1)).toList == (strOfNums ((rd_T35 l1_1 x33_2).f1)).toList) = false := beq_eq_false_iff_ne.mpr c25
                        have c25b1 : ((strOfNums ((rd_T35 l0_1 x33_2).f1)).toList != (strOfNums ((rd_T35 l1_1 x33_2).f1)).toList) = true := bne_iff_ne.mpr c25
                        obtain rfl := Option.some.inj H
                        try go_wp2
                        have p329 : 0 ≤ (x33_2 : Int) := of_decide_eq_true (by first | (with_reducible assumption) | assumption)
                        have q329 : x33_2 < (l0_1.length : Int) := of_decide_eq_true (by first | (with_reducible assumption) | assumption)
                        obtain ⟨ad329, A329_1, c329_1, e329, hx329_0, hx329_1, hl329_1, hi329_1⟩ := at_T35 HR0_1.out x33_2 p329 q329
                        have hw329_1 := hx329_1
                        have hw329_0 := hx329_0
                        cases e329
                        replace hx329_0 := (HB.out.cell (World.block_lt_of_cell? w _ hx329_0)).trans hx329_0
                        replace hx329_1 := (HB.out.cell (World.block_lt_of_cell? w _ hx329_1)).trans hx329_1
                        have HR329_1 := Aside0.mk hi329_1
                        have HC329_1 := Aside0.mk hl329_1
                        clear hi329_1 hl329_1
                        replace p329 := eq_true p329
                        replace q329 := eq_true q329
                        have p330 : 0 ≤ (x33_2 : Int) := of_decide_eq_true (by first | (with_reducible assumption) | assumption)
                        have q330 : x33_2 < (l1_1.length : Int) := of_decide_eq_true (by first | (with_reducible assumption) | assumption)
                        obtain ⟨ad330, A330_1, c330_1, e330, hx330_0, hx330_1, hl330_1, hi330_1⟩ := at_T35 HR1_1.out x33_2 p330 q330
                        have hw330_1 := hx330_1
                        have hw330_0 := hx330_0
                        cases e330
                        replace hx330_0 := (HB.out.cell (World.block_lt_of_cell? w _ hx330_0)).trans hx330_0
                        replace hx330_1 := (HB.out.cell (World.block_lt_of_cell? w _ hx330_1)).trans hx330_1
                        have HR330_1 := Aside0.mk hi330_1
                        have HC330_1 := Aside0.mk hl330_1
                        clear hi330_1 hl330_1
                        replace p330 := eq_true p330
                        replace q330 := eq_true q330
                        have p331 : 0 ≤ (x33_2 : Int) := of_decide_eq_true (by first | (with_reducible assumption) | assumption)
                        have q331 : x33_2 < (l0_1.length : Int) := of_decide_eq_true (by first | (with_reducible assumption) | assumption)
                        obtain ⟨ad331, A331_1, c331_1, e331, hx331_0, hx331_1, hl331_1, hi331_1⟩ := at_T35 HR0_1.out x33_2 p331 q331
                        have hw331_1 := hx331_1
                        have hw331_0 := hx331_0
                        obtain rfl : ad329 = ad331 := (by injection e331)
                        replace hx331_0 := (HB.out.cell (World.block_lt_of_cell? w _ hx331_0)).trans hx331_0
                        replace hx331_1 := (HB.out.cell (World.block_lt_of_cell? w _ hx331_1)).trans hx331_1
                        have HR331_1 := Aside0.mk hi331_1
                        have HC331_1 := Aside0.mk hl331_1
                        clear hi331_1 hl331_1
                        replace p331 := eq_true p331
                        replace q331 := eq_true q331
                        have ea_ := Option.some.inj (hx329_1.symm.trans hx331_1)
                        injection ea_ with ea_ en_ ec_
                        subst ea_
                        subst ec_
                        clear en_
                        have p332 : 0 ≤ (x33_2 : Int) := of_decide_eq_true (by first | (with_reducible assumption) | assumption)
                        have q332 : x33_2 < (l1_1.length : Int) := of_decide_eq_true (by first | (with_reducible assumption) | assumption)
                        obtain ⟨ad332, A332_1, c332_1, e332, hx332_0, hx332_1, hl332_1, hi332_1⟩ := at_T35 HR1_1.out x33_2 p332 q332
                        have hw332_1 := hx332_1
                        have hw332_0 := hx332_0
                        obtain rfl : ad330 = ad332 := (by injection e332)
                        replace hx332_0 := (HB.out.cell (World.block_lt_of_cell? w _ hx332_0)).trans hx332_0
                        replace hx332_1 := (HB.out.cell (World.block_lt_of_cell? w _ hx332_1)).trans hx332_1
                        have HR332_1 := Aside0.mk hi332_1
                        have HC332_1 := Aside0.mk hl332_1
                        clear hi332_1 hl332_1
                        replace p332 := eq_true p332
                        replace q332 := eq_true q332
                        have ea_ := Option.some.inj (hx330_1.symm.trans hx332_1)
                        injection ea_ with ea_ en_ ec_
                        subst ea_
                        subst ec_
                        clear en_
                        have hcv31 := fun n_ : Nat => Kd.C_string (P := Try.prog) (A := A329_1) (c := c329_1) Try.underlying33 Try.underlying5 Try.underlying9 (Kd.C_below HR331_1.out (pw_below_drewN HB.out n_))
                        have hcv32 := fun n_ : Nat => Kd.C_string (P := Try.prog) (A := A330_1) (c := c330_1) Try.underlying33 Try.underlying5 Try.underlying9 (Kd.C_below HR332_1.out (pw_below_drewN HB.out n_))
                        obtain ⟨sq0, sq1, sq2, sq3, sq4, sq5, sq6, sq7, sq8, sq9, sq10, sq11, sq12, sq13⟩ : wr.cell? ⟨gb327, 0, none⟩ = some (.string a0_0) ∧ wr.cell? ⟨gb327, 1, none⟩ = some (.slice (some ad329) l0_1.length c0_1) ∧ wr.cell? ⟨gb327, 2, none⟩ = some (.slice A0_2 l0_2.length c0_2) ∧ wr.cell? ⟨gb328, 0, none⟩ = some (.string a1_0) ∧ wr.cell? ⟨gb328, 1, none⟩ = some (.slice (some ad330) l1_1.length c1_1) ∧ wr.cell? ⟨gb328, 2, none⟩ = some (.slice A1_2 l1_2.length c1_2) ∧ wr.cell? (ad329.add ((x33_2).toNat * 2)) = some (.string ((rd_T35 l0_1 x33_2).f0)) ∧ wr.cell? ⟨(ad329.add ((x33_2).toNat * 2)).block, (ad329.add ((x33_2).toNat * 2)).off + 1, none⟩ = some (.slice A329_1 ((rd_T35 l0_1 x33_2).f1).length c329_1) ∧ wr.cell? (ad330.add ((x33_2).toNat * 2)) = some (.string ((rd_T35 l1_1 x33_2).f0)) ∧ wr.cell? ⟨(ad330.add ((x33_2).toNat * 2)).block, (ad330.add ((x33_2).toNat * 2)).off + 1, none⟩ = some (.slice A330_1 ((rd_T35 l1_1 x33_2).f1).length c330_1) ∧ wr.cell? (ad329.add ((x33_2).toNat * 2)) = some (.string ((rd_T35 l0_1 x33_2).f0)) ∧ wr.cell? ⟨(ad329.add ((x33_2).toNat * 2)).block, (ad329.add ((x33_2).toNat * 2)).off + 1, none⟩ = some (.slice A329_1 ((rd_T35 l0_1 x33_2).f1).length c329_1) ∧ wr.cell? (ad330.add ((x33_2).toNat * 2)) = some (.string ((rd_T35 l1_1 x33_2).f0)) ∧ wr.cell? ⟨(ad330.add ((x33_2).toNat * 2)).block, (ad330.add ((x33_2).toNat * 2)).off + 1, none⟩ = some (.slice A330_1 ((rd_T35 l1_1 x33_2).f1).length c330_1) := ⟨(blk_cell BK327.out 0).trans rfl, (blk_cell BK327.out 1).trans rfl, (blk_cell BK327.out 2).trans rfl, (blk_cell BK328.out 0).trans rfl, (blk_cell BK328.out 1).trans rfl, (blk_cell BK328.out 2).trans rfl, ((HB.out.cell (World.block_lt_of_cell? w _ hw329_0)).trans hw329_0), ((HB.out.cell (World.block_lt_of_cell? w _ hw329_1)).trans hw329_1), ((HB.out.cell (World.block_lt_of_cell? w _ hw330_0)).trans hw330_0), ((HB.out.cell (World.block_lt_of_cell? w _ hw330_1)).trans hw330_1), ((HB.out.cell (World.block_lt_of_cell? w _ hw331_0)).trans hw331_0), ((HB.out.cell (World.block_lt_of_cell? w _ hw331_1)).trans hw331_1), ((HB.out.cell (World.block_lt_of_cell? w _ hw332_0)).trans hw332_0), ((HB.out.cell (World.block_lt_of_cell? w _ hw332_1)).trans hw332_1)⟩
                        go_quiet (fail)
                        try go_wp2
                        go_ret
                        exact ⟨by first | rfl | (simp [errW_none, errW_some] <;> rfl) | (simp [*, errW_none, errW_some] <;> rfl), by repeat (first | (with_reducible first | exact HB.out | apply below_alloc | apply pw_below_drewN | apply below_drew1 | refine below_set ?_ GE327.out | refine below_set ?_ GE328.out) | exact HB.out)⟩
                    · rw [if_neg c24] at H
                      have c24b0 : (((rd_T35 l0_1 x33_2).f0).toList == ((rd_T35 l1_1 x33_2).f0).toList) = false := beq_eq_false_iff_ne.mpr c24
                      have c24b1 : (((rd_T35 l0_1 x33_2).f0).toList != ((rd_T35 l1_1 x33_2).f0).toList) = true := bne_iff_ne.mpr c24
                      obtain rfl := Option.some.inj H
                      try go_wp2
                      have p329 : 0 ≤ (x33_2 : Int) := of_decide_eq_true (by first | (with_reducible assumption) | assumption)
                      have q329 : x33_2 < (l0_1.length : Int) := of_decide_eq_true (by first | (with_reducible assumption) | assumption)
                      obtain ⟨ad329, A329_1, c329_1, e329, hx329_0, hx329_1, hl329_1, hi329_1⟩ := at_T35 HR0_1.out x33_2 p329 q329
                      have hw329_1 := hx329_1
                      have hw329_0 := hx329_0
                      cases e329
                      replace hx329_0 := (HB.out.cell (World.block_lt_of_cell? w _ hx329_0)).trans hx329_0
                      replace hx329_1 := (HB.out.cell (World.block_lt_of_cell? w _ hx329_1)).trans hx329_1
                      have HR329_1 := Aside0.mk hi329_1
                      have HC329_1 := Aside0.mk hl329_1
                      clear hi329_1 hl329_1
                      replace p329 := eq_true p329
                      replace q329 := eq_true q329
                      have p330 : 0 ≤ (x33_2 : Int) := of_decide_eq_true (by first | (with_reducible assumption) | assumption)
                      have q330 : x33_2 < (l1_1.length : Int) := of_decide_eq_true (by first | (with_reducible assumption) | assumption)
                      obtain ⟨ad330, A330_1, c330_1, e330, hx330_0, hx330_1, hl330_1, hi330_1⟩ := at_T35 HR1_1.out x33_2 p330 q330
                      have hw330_1 := hx330_1
                      have hw330_0 := hx330_0
                      cases e330
                      replace hx330_0 := (HB.out.cell (World.block_lt_of_cell? w _ hx330_0)).trans hx330_0
                      replace hx330_1 := (HB.out.cell (World.block_lt_of_cell? w _ hx330_1)).trans hx330_1
                      have HR330_1 := Aside0.mk hi330_1
                      have HC330_1 := Aside0.mk hl330_1
                      clear hi330_1 hl330_1
                      replace p330 := eq_true p330
                      replace q330 := eq_true q330
                      obtain ⟨sq0, sq1, sq2, sq3, sq4, sq5, sq6, sq7, sq8, sq9⟩ : wr.cell? ⟨gb327, 0, none⟩ = some (.string a0_0) ∧ wr.cell? ⟨gb327, 1, none⟩ = some (.slice (some ad329) l0_1.length c0_1) ∧ wr.cell? ⟨gb327, 2, none⟩ = some (.slice A0_2 l0_2.length c0_2) ∧ wr.cell? ⟨gb328, 0, none⟩ = some (.string a1_0) ∧ wr.cell? ⟨gb328, 1, none⟩ = some (.slice (some ad330) l1_1.length c1_1) ∧ wr.cell? ⟨gb328, 2, none⟩ = some (.slice A1_2 l1_2.length c1_2) ∧ wr.cell? (ad329.add ((x33_2).toNat * 2)) = some (.string ((rd_T35 l0_1 x33_2).f0)) ∧ wr.cell? ⟨(ad329.add ((x33_2).toNat * 2)).block, (ad329.add ((x33_2).toNat * 2)).off + 1, none⟩ = some (.slice A329_1 ((rd_T35 l0_1 x33_2).f1).length c329_1) ∧ wr.cell? (ad330.add ((x33_2).toNat * 2)) = some (.string ((rd_T35 l1_1 x33_2).f0)) ∧ wr.cell? ⟨(ad330.add ((x33_2).toNat * 2)).block, (ad330.add ((x33_2).toNat * 2)).off + 1, none⟩ = some (.slice A330_1 ((rd_T35 l1_1 x33_2).f1).length c330_1) := ⟨(blk_cell BK327.out 0).trans rfl, (blk_cell BK327.out 1).trans rfl, (blk_cell BK327.out 2).trans rfl, (blk_cell BK328.out 0).trans rfl, (blk_cell BK328.out 1).trans rfl, (blk_cell BK328.out 2).trans rfl, ((HB.out.cell (World.block_lt_of_cell? w _ hw329_0)).trans hw329_0), ((HB.out.cell (World.block_lt_of_cell? w _ hw329_1)).trans hw329_1), ((HB.out.cell (World.block_lt_of_cell? w _ hw330_0)).trans hw330_0), ((HB.out.cell (World.block_lt_of_cell? w _ hw330_1)).trans hw330_1)⟩
                      go_quiet (fail)
                      try go_wp2
                      go_ret
                      exact ⟨by first | rfl | (simp [errW_none, errW_some] <;> rfl) | (simp [*, errW_none, errW_some] <;> rfl), by repeat (first | (with_reducible first | exact HB.out | apply below_alloc | apply pw_below_drewN | apply below_drew1 | refine below_set ?_ GE327.out | refine below_set ?_ GE328.out) | exact HB.out)⟩
                  · rw [if_neg c23] at H
                    exact absurd H (by simp)
                · rw [if_neg c22] at H
                  exact absurd H (by simp)
              · rw [if_neg c21] at H
                exact absurd H (by simp)
            · rw [if_neg c20] at H
              have c20b0 : decide (x33_2 < (l0_1.length : Int)) = false := decide_eq_false c20
              clear c20
              have H' := Aside0.mk H
              clear H
              have hnb35 := NB327_328.out
              have hnc35 := NB328_327.out
              have hcz36_0 : wr.cell? ⟨gb327, 0, none⟩ = some (.string a0_0) := (blk_cell BK327.out 0).trans rfl
              have hcz36_1 : wr.cell? ⟨gb327, 1, none⟩ = some (.slice A0_1 l0_1.length c0_1) := (blk_cell BK327.out 1).trans rfl
              have hcz36_2 : wr.cell? ⟨gb327, 2, none⟩ = some (.slice A0_2 l0_2.length c0_2) := (blk_cell BK327.out 2).trans rfl
              have hfz36_0 := blk_frozen BK327.out 0
              have hfz36_1 := blk_frozen BK327.out 1
              have hfz36_2 := blk_frozen BK327.out 2
              go_wp2
              go_loopg [70] k2 (fun kq v70 w' => ∃ (x70_3 : Int), v70 = .int .i64 x70_3 ∧ Aside0 (arboretref01_Same.l1 kq (l0_2.length : Int) x70_3 a0_0 l0_1 l0_2 a1_0 l1_1 l1_2 = some r) ∧ Aside0 (kq ≤ k2) ∧ Aside0 (w'.heap[gb327]? = some (.cells #[.string a0_0, (.slice A0_1 l0_1.length c0_1), (.slice A0_2 l0_2.length c0_2)] 27 (0, 0))) ∧ Aside0 (w'.heap[gb328]? = some (.cells #[.string a1_0, (.slice A1_1 l1_1.length c1_1), (.slice A1_2 l1_2.length c1_2)] 27 (0, 0))) ∧ Aside0 (Below w.heap.size w w'))
              case atStart => exact ⟨(0), (by first | rfl | (simp; done) | (simp [*]; done)), H', ⟨Nat.le_refl _⟩, ⟨by (with_reducible repeat (first | refine blk_drewN ?_ _ | refine blk_drew ?_ | refine blk_alloc ?_ _)); exact BK327.out⟩, ⟨by (with_reducible repeat (first | refine blk_drewN ?_ _ | refine blk_drew ?_ | refine blk_alloc ?_ _)); exact BK328.out⟩, ⟨by repeat (first | (with_reducible first | exact HB.out | apply below_alloc | apply pw_below_drewN | apply below_drew1 | refine below_set ?_ GE327.out | refine below_set ?_ GE328.out) | exact HB.out)⟩⟩
              case round =>
                clear H'
                try clear c1
                try clear c2
                try clear p2
                try clear c3
                try clear p3
                try clear q3
                try clear hx3
                try clear hcv3
                try clear p6
                try clear c20
                try clear c20b0
                try clear c21
                try clear c22
                try clear c23
                try clear c24
                try clear c24b0
                try clear c24b1
                try clear c25
                try clear c25b0
                try clear c25b1
                try clear hcv31
                try clear c32
                try clear p32
                try clear q32
                try clear hx32
                try clear hcv32
                try clear c33
                try clear p33
                try clear q33
                try clear hx33
                try clear c35
                try clear hcz36_0
                try clear hcz36_1
                try clear hcz36_2
                try clear hfz36_0
                try clear hfz36_1
                try clear hfz36_2
                try clear hx329_0
                try clear hx329_1
                try clear hx330_0
                try clear hx330_1
                try clear hx331_0
                try clear hx331_1
                try clear hx332_0
                try clear hx332_1
                try clear p329
                try clear p330
                try clear p331
                try clear p332
                try clear q329
                try clear q330
                try clear q331
                try clear q332
                obtain ⟨x70_3, rfl, HA, HK3, BK327, BK328, HB⟩ := hrel
                cases gk with
                | zero => exact absurd HA.out (by simp [arboretref01_Same.l1])
                | succ k3 =>
                  have H := HA.out
                  clear HA
                  simp only [arboretref01_Same.l1] at H
                  by_cases c37 : x70_3 < (l0_2.length : Int)
                  · rw [if_pos c37] at H
                    have c37b0 : decide (x70_3 < (l0_2.length : Int)) = true := decide_eq_true c37
                    clear c37
                    by_cases c38 : 0 ≤ x70_3
                    · rw [if_pos c38] at H
                      have c38b0 : decide (0 ≤ x70_3) = true := decide_eq_true c38
                      clear c38
                      by_cases c39 : x70_3 < (l0_2.length : Int)
                      · rw [if_pos c39] at H
                        have c39b0 : decide (x70_3 < (l0_2.length : Int)) = true := decide_eq_true c39
                        clear c39
                        by_cases c40 : x70_3 < (l1_2.length : Int)
                        · rw [if_pos c40] at H
                          have c40b0 : decide (x70_3 < (l1_2.length : Int)) = true := decide_eq_true c40
                          clear c40
                          replace H := Option.bind_eq_some_iff.mp H
                          obtain ⟨t335, A410, H⟩ := H
                          replace H : (if t335 = true then (arboretref01_Same.l1 k3 (l0_2.length : Int) (wrap64 (x70_3 + 1)) a0_0 l0_1 l0_2 a1_0 l1_1 l1_2) else (some false)) = some r := H
                          have A41 := Aside0.mk A410
                          clear A410
                          by_cases c42 : t335 = true
                          · subst c42
                            have H1 : (arboretref01_Same.l1 k3 (l0_2.length : Int) (wrap64 (x70_3 + 1)) a0_0 l0_1 l0_2 a1_0 l1_1 l1_2) = some r := by rw [if_pos rfl] at H; exact H
                            clear H
                            have H := H1
                            clear H1
                            have H' := Aside0.mk H
                            clear H
                            try go_wp2
                            have n0_ := Aside0.mk (blk_drew BK327.out)
                            have n1_ := Aside0.mk (blk_drew BK328.out)
                            have n2_ := Aside0.mk (below_drew1 HB.out)
                            clear BK327
                            clear BK328
                            clear HB
                            have BK327 := n0_
                            have BK328 := n1_
                            have HB := n2_
                            clear n0_ n1_ n2_
                            have p333 : 0 ≤ (x70_3 : Int) := of_decide_eq_true (by first | (with_reducible assumption) | assumption)
                            have q333 : x70_3 < (l0_2.length : Int) := of_decide_eq_true (by first | (with_reducible assumption) | assumption)
                            obtain ⟨ad333, A333_1, c333_1, A333_2, c333_2, e333, hx333_0, hx333_1, hx333_2, hl333_1, hi333_1, hl333_2, hi333_2⟩ := at_T27 HR0_2.out x70_3 p333 q333
                            have hw333_2 := hx333_2
                            have hw333_1 := hx333_1
                            have hw333_0 := hx333_0
                            cases e333
                            replace hx333_0 := (HB.out.cell (World.block_lt_of_cell? w _ hx333_0)).trans hx333_0
                            replace hx333_1 := (HB.out.cell (World.block_lt_of_cell? w _ hx333_1)).trans hx333_1
                            replace hx333_2 := (HB.out.cell (World.block_lt_of_cell? w _ hx333_2)).trans hx333_2
                            have HR333_1 := Aside0.mk hi333_1
                            have HC333_1 := Aside0.mk hl333_1
                            clear hi333_1 hl333_1
                            have HR333_2 := Aside0.mk hi333_2
                            have HC333_2 := Aside0.mk hl333_2
                            clear hi333_2 hl333_2
                            replace p333 := eq_true p333
                            replace q333 := eq_true q333
                            have p334 : 0 ≤ (x70_3 : Int) := of_decide_eq_true (by first | (with_reducible assumption) | assumption)
                            have q334 : x70_3 < (l1_2.length : Int) := of_decide_eq_true (by first | (with_reducible assumption) | assumption)
                            obtain ⟨ad334, A334_1, c334_1, A334_2, c334_2, e334, hx334_0, hx334_1, hx334_2, hl334_1, hi334_1, hl334_2, hi334_2⟩ := at_T27 HR1_2.out x70_3 p334 q334
                            have hw334_2 := hx334_2
                            have hw334_1 := hx334_1
                            have hw334_0 := hx334_0
                            cases e334
                            replace hx334_0 := (HB.out.cell (World.block_lt_of_cell? w _ hx334_0)).trans hx334_0
                            replace hx334_1 := (HB.out.cell (World.block_lt_of_cell? w _ hx334_1)).trans hx334_1
                            replace hx334_2 := (HB.out.cell (World.block_lt_of_cell? w _ hx334_2)).trans hx334_2
                            have HR334_1 := Aside0.mk hi334_1
                            have HC334_1 := Aside0.mk hl334_1
                            clear hi334_1 hl334_1
                            have HR334_2 := Aside0.mk hi334_2
                            have HC334_2 := Aside0.mk hl334_2
                            clear hi334_2 hl334_2
                            replace p334 := eq_true p334
                            replace q334 := eq_true q334
                            refine start_ (n := 12) (S := fun w' => w'.cell? ⟨gb327, 0, none⟩ = some (.string a0_0) ∧ w'.cell? ⟨gb327, 1, none⟩ = some (.slice A0_1 l0_1.length c0_1) ∧ w'.cell? ⟨gb327, 2, none⟩ = some (.slice (some ad333) l0_2.length c0_2) ∧ w'.cell? ⟨gb328, 0, none⟩ = some (.string a1_0) ∧ w'.cell? ⟨gb328, 1, none⟩ = some (.slice A1_1 l1_1.length c1_1) ∧ w'.cell? ⟨gb328, 2, none⟩ = some (.slice (some ad334) l1_2.length c1_2) ∧ w'.cell? (ad333.add ((x70_3).toNat * 3)) = some (.string ((rd_T27 l0_2 x70_3).f0)) ∧ w'.cell? ⟨(ad333.add ((x70_3).toNat * 3)).block, (ad333.add ((x70_3).toNat * 3)).off + 1, none⟩ = some (.slice A333_1 ((rd_T27 l0_2 x70_3).f1).length c333_1) ∧ w'.cell? ⟨(ad333.add ((x70_3).toNat * 3)).block, (ad333.add ((x70_3).toNat * 3)).off + 2, none⟩ = some (.slice A333_2 ((rd_T27 l0_2 x70_3).f2).length c333_2) ∧ w'.cell? (ad334.add ((x70_3).toNat * 3)) = some (.string ((rd_T27 l1_2 x70_3).f0)) ∧ w'.cell? ⟨(ad334.add ((x70_3).toNat * 3)).block, (ad334.add ((x70_3).toNat * 3)).off + 1, none⟩ = some (.slice A334_1 ((rd_T27 l1_2 x70_3).f1).length c334_1) ∧ w'.cell? ⟨(ad334.add ((x70_3).toNat * 3)).block, (ad334.add ((x70_3).toNat * 3)).off + 2, none⟩ = some (.slice A334_2 ((rd_T27 l1_2 x70_3).f2).length c334_2)) (ds := []) #[false, false, false, false, false, false, false, false, false, false, false, false] (by kernel_rfl) rfl rfl ⟨(blk_cell BK327.out 0).trans rfl, (blk_cell BK327.out 1).trans rfl, (blk_cell BK327.out 2).trans rfl, (blk_cell BK328.out 0).trans rfl, (blk_cell BK328.out 1).trans rfl, (blk_cell BK328.out 2).trans rfl, ((HB.out.cell (World.block_lt_of_cell? w _ hw333_0)).trans hw333_0), ((HB.out.cell (World.block_lt_of_cell? w _ hw333_1)).trans hw333_1), ((HB.out.cell (World.block_lt_of_cell? w _ hw333_2)).trans hw333_2), ((HB.out.cell (World.block_lt_of_cell? w _ hw334_0)).trans hw334_0), ((HB.out.cell (World.block_lt_of_cell? w _ hw334_1)).trans hw334_1), ((HB.out.cell (World.block_lt_of_cell? w _ hw334_2)).trans hw334_2)⟩ (fun hHeld => ?_); refine with_tabW arboretref01_Same.tab12 arboretref01_Same.bits12 (fun HT_ HW_ => ?_)
                            generalize wr.drew = w43 at BK327 BK328 HB HR333_1 HR333_2 HR334_1 HR334_2 hx333_0 hx333_1 hx333_2 hx334_0 hx334_1 hx334_2 hHeld ⊢
                            refine pure_ (i := 0) (N := some 73) (v := ?_) (a' := ?_) #[true, false, false, false, false, false, false, false, false, false, false, false] rfl rfl (any_of HT_.out (by kernel_rfl)) (fun _ _ _ h => h) (Or.inl ⟨by rfl, ?_⟩) ?_ ?_
                            rotate_left
                            · intro w'
                              go_simp
                              with_reducible rfl
                            rotate_left
                            · simp only [Act.put, List.setIfInBounds_toArray, List.set_cons_zero, List.set_cons_succ, i64_w, i32_w]
                              rfl
                            refine pure_ (i := 2) (N := some 75) (v := ?_) (a' := ?_) #[true, false, true, false, false, false, false, false, false, false, false, false] rfl rfl (any_of HT_.out (by kernel_rfl)) (fun _ _ _ h => h) (Or.inl ⟨by rfl, ?_⟩) ?_ ?_
                            rotate_left
                            · intro w'
                              go_simp
                              with_reducible rfl
                            rotate_left
                            · simp only [Act.put, List.setIfInBounds_toArray, List.set_cons_zero, List.set_cons_succ, i64_w, i32_w]
                              rfl
                            refine pure_ (i := 5) (N := some 78) (v := ?_) (a' := ?_) #[true, false, true, false, false, true, false, false, false, false, false, false] rfl rfl (any_of HT_.out (by kernel_rfl)) (fun _ _ _ h => h) (Or.inl ⟨by rfl, ?_⟩) ?_ ?_
                            rotate_left
                            · intro w'
                              go_simp
                              with_reducible rfl
                            rotate_left
                            · simp only [Act.put, List.setIfInBounds_toArray, List.set_cons_zero, List.set_cons_succ, i64_w, i32_w]
                              rfl
                            refine pure_ (i := 7) (N := some 80) (v := ?_) (a' := ?_) #[true, false, true, false, false, true, false, true, false, false, false, false] rfl rfl (any_of HT_.out (by kernel_rfl)) (fun _ _ _ h => h) (Or.inl ⟨by rfl, ?_⟩) ?_ ?_
                            rotate_left
                            · intro w'
                              go_simp
                              with_reducible rfl
                            rotate_left
                            · simp only [Act.put, List.setIfInBounds_toArray, List.set_cons_zero, List.set_cons_succ, i64_w, i32_w]
                              rfl
                            refine take_ (i := 1) (N := some 74) (v := ?_) (a' := ?_) #[true, true, true, false, false, true, false, true, false, false, false, false] rfl rfl (take_ofW HT_.out HW_.out (by kernel_rfl)) (fun _ _ _ h => h) (Or.inl ⟨by rfl, ?_⟩) hHeld ?_ ?_
                            rotate_left
                            · rintro w' ⟨s0, s1, s2, s3, s4, s5, s6, s7, s8, s9, s10, s11⟩
                              go_simp
                              with_reducible rfl
                            rotate_left
                            · simp only [Act.put, List.setIfInBounds_toArray, List.set_cons_zero, List.set_cons_succ, i64_w, i32_w]
                              rfl
                            refine pure_ (i := 3) (N := some 76) (v := ?_) (a' := ?_) #[true, true, true, true, false, true, false, true, false, false, false, false] rfl rfl (any_of HT_.out (by kernel_rfl)) (fun _ _ _ h => h) (Or.inl ⟨by rfl, ?_⟩) ?_ ?_
                            rotate_left
                            · intro w'
                              go_simp
                              with_reducible rfl
                            rotate_left
                            · simp only [Act.put, List.setIfInBounds_toArray, List.set_cons_zero, List.set_cons_succ, i64_w, i32_w]
                              rfl
                            refine take_ (i := 4) (N := some 77) (v := ?_) (a' := ?_) #[true, true, true, true, true, true, false, true, false, false, false, false] rfl rfl (take_ofW HT_.out HW_.out (by kernel_rfl)) (fun _ _ _ h => h) (Or.inl ⟨by rfl, ?_⟩) hHeld ?_ ?_
                            rotate_left
                            · rintro w' ⟨s0, s1, s2, s3, s4, s5, s6, s7, s8, s9, s10, s11⟩
                              go_simp
                              with_reducible rfl
                            rotate_left
                            · simp only [Act.put, List.setIfInBounds_toArray, List.set_cons_zero, List.set_cons_succ, i64_w, i32_w]
                              rfl
                            refine take_ (i := 6) (N := some 79) (v := ?_) (a' := ?_) #[true, true, true, true, true, true, true, true, false, false, false, false] rfl rfl (take_ofW HT_.out HW_.out (by kernel_rfl)) (fun _ _ _ h => h) (Or.inl ⟨by rfl, ?_⟩) hHeld ?_ ?_
                            rotate_left
                            · rintro w' ⟨s0, s1, s2, s3, s4, s5, s6, s7, s8, s9, s10, s11⟩
                              go_simp
                              with_reducible rfl
                            rotate_left
                            · simp only [Act.put, List.setIfInBounds_toArray, List.set_cons_zero, List.set_cons_succ, i64_w, i32_w]
                              rfl
                            refine pure_ (i := 8) (N := some 81) (v := ?_) (a' := ?_) #[true, true, true, true, true, true, true, true, true, false, false, false] rfl rfl (any_of HT_.out (by kernel_rfl)) (fun _ _ _ h => h) (Or.inl ⟨by rfl, ?_⟩) ?_ ?_
                            rotate_left
                            · intro w'
                              go_simp
                              with_reducible rfl
                            rotate_left
                            · simp only [Act.put, List.setIfInBounds_toArray, List.set_cons_zero, List.set_cons_succ, i64_w, i32_w]
                              rfl
                            refine take_ (i := 9) (N := some 82) (v := ?_) (a' := ?_) #[true, true, true, true, true, true, true, true, true, true, false, false] rfl rfl (take_ofW HT_.out HW_.out (by kernel_rfl)) (fun _ _ _ h => h) (Or.inl ⟨by rfl, ?_⟩) hHeld ?_ ?_
                            rotate_left
                            · rintro w' ⟨s0, s1, s2, s3, s4, s5, s6, s7, s8, s9, s10, s11⟩
                              go_simp
                              with_reducible rfl
                            rotate_left
                            · simp only [Act.put, List.setIfInBounds_toArray, List.set_cons_zero, List.set_cons_succ, i64_w, i32_w]
                              rfl
                            refine one_ (i := 10) (N := some 83) #[true, true, true, true, true, true, true, true, true, true, true, false] rfl rfl (one_of HT_.out (by kernel_rfl)) (by decide) (fun K hK => ?_)
                            refine goes_ Try.func10 (by kernel_rfl) rfl #[.agg #[.string ((rd_T27 l0_2 x70_3).f0), .slice A333_1 ((rd_T27 l0_2 x70_3).f1).length c333_1, .slice A333_2 ((rd_T27 l0_2 x70_3).f2).length c333_2], .agg #[.string ((rd_T27 l1_2 x70_3).f0), .slice A334_1 ((rd_T27 l1_2 x70_3).f1).length c334_1, .slice A334_2 ((rd_T27 l1_2 x70_3).f2).length c334_2]] (by rfl) rfl rfl (by (try simp only [List.map_toArray, List.map_cons, List.map_nil]); first | done | rfl | (simp only [List.length_drop, List.length_take]; rfl)) ?_
                            with_reducible refine (ih k3 (by have := HJ2.out; have := HK2.out; have := HK3.out; omega) ((rd_T27 l0_2 x70_3).f0) _ _ ((rd_T27 l0_2 x70_3).f1) _ _ ((rd_T27 l0_2 x70_3).f2) ((rd_T27 l1_2 x70_3).f0) _ _ ((rd_T27 l1_2 x70_3).f1) _ _ ((rd_T27 l1_2 x70_3).f2) true _ ?side1 ?side2 ?side3 ?side4 ?side5 ?side6 ?side7 ?side8 A41.out).mono ?_
                            (case side1 => repeat (first | exact (Kd.C_below HR333_1.out HB.out) | (with_reducible refine Kd.C_alloc ?_ _) | (with_reducible refine Kd.C_drewN ?_ _) | (with_reducible refine Kd.C_drew ?_)))
                            (case side2 => exact HC333_1.out)
                            (case side3 => repeat (first | exact (Kd.C_below HR333_2.out HB.out) | (with_reducible refine Kd.C_alloc ?_ _) | (with_reducible refine Kd.C_drewN ?_ _) | (with_reducible refine Kd.C_drew ?_)))
                            (case side4 => exact HC333_2.out)
                            (case side5 => repeat (first | exact (Kd.C_below HR334_1.out HB.out) | (with_reducible refine Kd.C_alloc ?_ _) | (with_reducible refine Kd.C_drewN ?_ _) | (with_reducible refine Kd.C_drew ?_)))
                            (case side6 => exact HC334_1.out)
                            (case side7 => repeat (first | exact (Kd.C_below HR334_2.out HB.out) | (with_reducible refine Kd.C_alloc ?_ _) | (with_reducible refine Kd.C_drewN ?_ _) | (with_reducible refine Kd.C_drew ?_)))
                            (case side8 => exact HC334_2.out)
                            rintro e w44 ⟨rfl, hb⟩
                            refine ⟨_, rfl, ?_⟩
                            have n0_ := Aside0.mk (blk_below (g := gb327) (o := .cells #[.string a0_0, .slice A0_1 l0_1.length c0_1, .slice (some ad333) l0_2.length c0_2] 27 (0, 0)) (by (with_reducible repeat (first | refine blk_drewN ?_ _ | refine blk_drew ?_ | refine blk_alloc ?_ _)); exact BK327.out) hb)
                            have n1_ := Aside0.mk (blk_below (g := gb328) (o := .cells #[.string a1_0, .slice A1_1 l1_1.length c1_1, .slice (some ad334) l1_2.length c1_2] 27 (0, 0)) (by (with_reducible repeat (first | refine blk_drewN ?_ _ | refine blk_drew ?_ | refine blk_alloc ?_ _)); exact BK328.out) hb)
                            have n2_ := Aside0.mk (below_step (by repeat (first | (with_reducible first | exact HB.out | apply below_alloc | apply pw_below_drewN | apply below_drew1 | refine below_set ?_ GE327.out | refine below_set ?_ GE328.out) | exact HB.out)) hb)
                            clear BK327
                            clear BK328
                            clear HB
                            have BK327 := n0_
                            have BK328 := n1_
                            have HB := n2_
                            clear n0_ n1_ n2_
                            (try clear hb)
                            (try clear hb2)
                            (try clear hk)
                            (try clear hi)
                            refine hK.out _ _ ⟨(blk_cell BK327.out 0).trans rfl, (blk_cell BK327.out 1).trans rfl, (blk_cell BK327.out 2).trans rfl, (blk_cell BK328.out 0).trans rfl, (blk_cell BK328.out 1).trans rfl, (blk_cell BK328.out 2).trans rfl, ((HB.out.cell (World.block_lt_of_cell? w _ hw333_0)).trans hw333_0), ((HB.out.cell (World.block_lt_of_cell? w _ hw333_1)).trans hw333_1), ((HB.out.cell (World.block_lt_of_cell? w _ hw333_2)).trans hw333_2), ((HB.out.cell (World.block_lt_of_cell? w _ hw334_0)).trans hw334_0), ((HB.out.cell (World.block_lt_of_cell? w _ hw334_1)).trans hw334_1), ((HB.out.cell (World.block_lt_of_cell? w _ hw334_2)).trans hw334_2)⟩ (fun hHeld => ?_)
                            clear hK K
                            refine norm_ (a' := ?_) ?_ ?_
                            rotate_left
                            · show Act.put _ (some 83) _ = _
                              simp only [Act.put, List.setIfInBounds_toArray, List.set_cons_zero, List.set_cons_succ, i64_w, i32_w]
                              rfl
                            refine pure_ (i := 11) (N := some 84) (v := ?_) (a' := ?_) #[true, true, true, true, true, true, true, true, true, true, true, true] rfl rfl (any_of HT_.out (by kernel_rfl)) (fun _ _ _ h => h) (Or.inl ⟨by rfl, ?_⟩) ?_ ?_
                            rotate_left
                            · intro w'
                              go_simp
                              with_reducible rfl
                            rotate_left
                            · simp only [Act.put, List.setIfInBounds_toArray, List.set_cons_zero, List.set_cons_succ, i64_w, i32_w]
                              rfl
                            refine done_ (done_of HT_.out (by kernel_rfl)) ?_
                            try go_wp2
                            go_roundg k3
                            case measure => have := HJ2.out; have := HK2.out; have := HK3.out; omega
                            case rel => exact ⟨(wrap64 (x70_3 + 1)), (by first | rfl | (simp; done) | (simp [*]; done)), H', ⟨by have := HJ2.out; have := HK2.out; have := HK3.out; omega⟩, ⟨by (with_reducible repeat (first | refine blk_drewN ?_ _ | refine blk_drew ?_ | refine blk_alloc ?_ _)); exact BK327.out⟩, ⟨by (with_reducible repeat (first | refine blk_drewN ?_ _ | refine blk_drew ?_ | refine blk_alloc ?_ _)); exact BK328.out⟩, ⟨by repeat (first | (with_reducible first | exact HB.out | apply below_alloc | apply pw_below_drewN | apply below_drew1 | refine below_set ?_ GE327.out | refine below_set ?_ GE328.out) | exact HB.out)⟩⟩
                          · replace c42 := Bool.eq_false_iff.mpr c42
                            subst c42
                            have H1 : (some false) = some r := by rw [if_neg (show ¬ (false = true) by decide)] at H; exact H
                            clear H
                            have H := H1
                            clear H1
                            obtain rfl := Option.some.inj H
                            try go_wp2
                            have n0_ := Aside0.mk (blk_drew BK327.out)
                            have n1_ := Aside0.mk (blk_drew BK328.out)
                            have n2_ := Aside0.mk (below_drew1 HB.out)
                            clear BK327
                            clear BK328
                            clear HB
                            have BK327 := n0_
                            have BK328 := n1_
                            have HB := n2_
                            clear n0_ n1_ n2_
                            have p333 : 0 ≤ (x70_3 : Int) := of_decide_eq_true (by first | (with_reducible assumption) | assumption)
                            have q333 : x70_3 < (l0_2.length : Int) := of_decide_eq_true (by first | (with_reducible assumption) | assumption)
                            obtain ⟨ad333, A333_1, c333_1, A333_2, c333_2, e333, hx333_0, hx333_1, hx333_2, hl333_1, hi333_1, hl333_2, hi333_2⟩ := at_T27 HR0_2.out x70_3 p333 q333
                            have hw333_2 := hx333_2
                            have hw333_1 := hx333_1
                            have hw333_0 := hx333_0
                            cases e333
                            replace hx333_0 := (HB.out.cell (World.block_lt_of_cell? w _ hx333_0)).trans hx333_0
                            replace hx333_1 := (HB.out.cell (World.block_lt_of_cell? w _ hx333_1)).trans hx333_1
                            replace hx333_2 := (HB.out.cell (World.block_lt_of_cell? w _ hx333_2)).trans hx333_2
                            have HR333_1 := Aside0.mk hi333_1
                            have HC333_1 := Aside0.mk hl333_1
                            clear hi333_1 hl333_1
                            have HR333_2 := Aside0.mk hi333_2
                            have HC333_2 := Aside0.mk hl333_2
                            clear hi333_2 hl333_2
                            replace p333 := eq_true p333
                            replace q333 := eq_true q333
                            have p334 : 0 ≤ (x70_3 : Int) := of_decide_eq_true (by first | (with_reducible assumption) | assumption)
                            have q334 : x70_3 < (l1_2.length : Int) := of_decide_eq_true (by first | (with_reducible assumption) | assumption)
                            obtain ⟨ad334, A334_1, c334_1, A334_2, c334_2, e334, hx334_0, hx334_1, hx334_2, hl334_1, hi334_1, hl334_2, hi334_2⟩ := at_T27 HR1_2.out x70_3 p334 q334
                            have hw334_2 := hx334_2
                            have hw334_1 := hx334_1
                            have hw334_0 := hx334_0
                            cases e334
                            replace hx334_0 := (HB.out.cell (World.block_lt_of_cell? w _ hx334_0)).trans hx334_0
                            replace hx334_1 := (HB.out.cell (World.block_lt_of_cell? w _ hx334_1)).trans hx334_1
                            replace hx334_2 := (HB.out.cell (World.block_lt_of_cell? w _ hx334_2)).trans hx334_2
                            have HR334_1 := Aside0.mk hi334_1
                            have HC334_1 := Aside0.mk hl334_1
                            clear hi334_1 hl334_1
                            have HR334_2 := Aside0.mk hi334_2
                            have HC334_2 := Aside0.mk hl334_2
                            clear hi334_2 hl334_2
                            replace p334 := eq_true p334
                            replace q334 := eq_true q334
                            refine start_ (n := 12) (S := fun w' => w'.cell? ⟨gb327, 0, none⟩ = some (.string a0_0) ∧ w'.cell? ⟨gb327, 1, none⟩ = some (.slice A0_1 l0_1.length c0_1) ∧ w'.cell? ⟨gb327, 2, none⟩ = some (.slice (some ad333) l0_2.length c0_2) ∧ w'.cell? ⟨gb328, 0, none⟩ = some (.string a1_0) ∧ w'.cell? ⟨gb328, 1, none⟩ = some (.slice A1_1 l1_1.length c1_1) ∧ w'.cell? ⟨gb328, 2, none⟩ = some (.slice (some ad334) l1_2.length c1_2) ∧ w'.cell? (ad333.add ((x70_3).toNat * 3)) = some (.string ((rd_T27 l0_2 x70_3).f0)) ∧ w'.cell? ⟨(ad333.add ((x70_3).toNat * 3)).block, (ad333.add ((x70_3).toNat * 3)).off + 1, none⟩ = some (.slice A333_1 ((rd_T27 l0_2 x70_3).f1).length c333_1) ∧ w'.cell? ⟨(ad333.add ((x70_3).toNat * 3)).block, (ad333.add ((x70_3).toNat * 3)).off + 2, none⟩ = some (.slice A333_2 ((rd_T27 l0_2 x70_3).f2).length c333_2) ∧ w'.cell? (ad334.add ((x70_3).toNat * 3)) = some (.string ((rd_T27 l1_2 x70_3).f0)) ∧ w'.cell? ⟨(ad334.add ((x70_3).toNat * 3)).block, (ad334.add ((x70_3).toNat * 3)).off + 1, none⟩ = some (.slice A334_1 ((rd_T27 l1_2 x70_3).f1).length c334_1) ∧ w'.cell? ⟨(ad334.add ((x70_3).toNat * 3)).block, (ad334.add ((x70_3).toNat * 3)).off + 2, none⟩ = some (.slice A334_2 ((rd_T27 l1_2 x70_3).f2).length c334_2)) (ds := []) #[false, false, false, false, false, false, false, false, false, false, false, false] (by kernel_rfl) rfl rfl ⟨(blk_cell BK327.out 0).trans rfl, (blk_cell BK327.out 1).trans rfl, (blk_cell BK327.out 2).trans rfl, (blk_cell BK328.out 0).trans rfl, (blk_cell BK328.out 1).trans rfl, (blk_cell BK328.out 2).trans rfl, ((HB.out.cell (World.block_lt_of_cell? w _ hw333_0)).trans hw333_0), ((HB.out.cell (World.block_lt_of_cell? w _ hw333_1)).trans hw333_1), ((HB.out.cell (World.block_lt_of_cell? w _ hw333_2)).trans hw333_2), ((HB.out.cell (World.block_lt_of_cell? w _ hw334_0)).trans hw334_0), ((HB.out.cell (World.block_lt_of_cell? w _ hw334_1)).trans hw334_1), ((HB.out.cell (World.block_lt_of_cell? w _ hw334_2)).trans hw334_2)⟩ (fun hHeld => ?_); refine with_tabW arboretref01_Same.tab12 arboretref01_Same.bits12 (fun HT_ HW_ => ?_)
                            generalize wr.drew = w45 at BK327 BK328 HB HR333_1 HR333_2 HR334_1 HR334_2 hx333_0 hx333_1 hx333_2 hx334_0 hx334_1 hx334_2 hHeld ⊢
                            refine pure_ (i := 0) (N := some 73) (v := ?_) (a' := ?_) #[true, false, false, false, false, false, false, false, false, false, false, false] rfl rfl (any_of HT_.out (by kernel_rfl)) (fun _ _ _ h => h) (Or.inl ⟨by rfl, ?_⟩) ?_ ?_
                            rotate_left
                            · intro w'
                              go_simp
                              with_reducible rfl
                            rotate_left
                            · simp only [Act.put, List.setIfInBounds_toArray, List.set_cons_zero, List.set_cons_succ, i64_w, i32_w]
                              rfl
                            refine pure_ (i := 2) (N := some 75) (v := ?_) (a' := ?_) #[true, false, true, false, false, false, false, false, false, false, false, false] rfl rfl (any_of HT_.out (by kernel_rfl)) (fun _ _ _ h => h) (Or.inl ⟨by rfl, ?_⟩) ?_ ?_
                            rotate_left
                            · intro w'
                              go_simp
                              with_reducible rfl
                            rotate_left
                            · simp only [Act.put, List.setIfInBounds_toArray, List.set_cons_zero, List.set_cons_succ, i64_w, i32_w]
                              rfl
                            refine pure_ (i := 5) (N := some 78) (v := ?_) (a' := ?_) #[true, false, true, false, false, true, false, false, false, false, false, false] rfl rfl (any_of HT_.out (by kernel_rfl)) (fun _ _ _ h => h) (Or.inl ⟨by rfl, ?_⟩) ?_ ?_
                            rotate_left
                            · intro w'
                              go_simp
                              with_reducible rfl
                            rotate_left
                            · simp only [Act.put, List.setIfInBounds_toArray, List.set_cons_zero, List.set_cons_succ, i64_w, i32_w]
                              rfl
                            refine pure_ (i := 7) (N := some 80) (v := ?_) (a' := ?_) #[true, false, true, false, false, true, false, true, false, false, false, false] rfl rfl (any_of HT_.out (by kernel_rfl)) (fun _ _ _ h => h) (Or.inl ⟨by rfl, ?_⟩) ?_ ?_
                            rotate_left
                            · intro w'
                              go_simp
                              with_reducible rfl
                            rotate_left
                            · simp only [Act.put, List.setIfInBounds_toArray, List.set_cons_zero, List.set_cons_succ, i64_w, i32_w]
                              rfl
                            refine take_ (i := 1) (N := some 74) (v := ?_) (a' := ?_) #[true, true, true, false, false, true, false, true, false, false, false, false] rfl rfl (take_ofW HT_.out HW_.out (by kernel_rfl)) (fun _ _ _ h => h) (Or.inl ⟨by rfl, ?_⟩) hHeld ?_ ?_
                            rotate_left
                            · rintro w' ⟨s0, s1, s2, s3, s4, s5, s6, s7, s8, s9, s10, s11⟩
                              go_simp
                              with_reducible rfl
                            rotate_left
                            · simp only [Act.put, List.setIfInBounds_toArray, List.set_cons_zero, List.set_cons_succ, i64_w, i32_w]
                              rfl
                            refine pure_ (i := 3) (N := some 76) (v := ?_) (a' := ?_) #[true, true, true, true, false, true, false, true, false, false, false, false] rfl rfl (any_of HT_.out (by kernel_rfl)) (fun _ _ _ h => h) (Or.inl ⟨by rfl, ?_⟩) ?_ ?_
                            rotate_left
                            · intro w'
                              go_simp
                              with_reducible rfl
                            rotate_left
                            · simp only [Act.put, List.setIfInBounds_toArray, List.set_cons_zero, List.set_cons_succ, i64_w, i32_w]
                              rfl
                            refine take_ (i := 4) (N := some 77) (v := ?_) (a' := ?_) #[true, true, true, true, true, true, false, true, false, false, false, false] rfl rfl (take_ofW HT_.out HW_.out (by kernel_rfl)) (fun _ _ _ h => h) (Or.inl ⟨by rfl, ?_⟩) hHeld ?_ ?_
                            rotate_left
                            · rintro w' ⟨s0, s1, s2, s3, s4, s5, s6, s7, s8, s9, s10, s11⟩
                              go_simp
                              with_reducible rfl
                            rotate_left
                            · simp only [Act.put, List.setIfInBounds_toArray, List.set_cons_zero, List.set_cons_succ, i64_w, i32_w]
                              rfl
                            refine take_ (i := 6) (N := some 79) (v := ?_) (a' := ?_) #[true, true, true, true, true, true, true, true, false, false, false, false] rfl rfl (take_ofW HT_.out HW_.out (by kernel_rfl)) (fun _ _ _ h => h) (Or.inl ⟨by rfl, ?_⟩) hHeld ?_ ?_
                            rotate_left
                            · rintro w' ⟨s0, s1, s2, s3, s4, s5, s6, s7, s8, s9, s10, s11⟩
                              go_simp
                              with_reducible rfl
                            rotate_left
                            · simp only [Act.put, List.setIfInBounds_toArray, List.set_cons_zero, List.set_cons_succ, i64_w, i32_w]
                              rfl
                            refine pure_ (i := 8) (N := some 81) (v := ?_) (a' := ?_) #[true, true, true, true, true, true, true, true, true, false, false, false] rfl rfl (any_of HT_.out (by kernel_rfl)) (fun _ _ _ h => h) (Or.inl ⟨by rfl, ?_⟩) ?_ ?_
                            rotate_left
                            · intro w'
                              go_simp
                              with_reducible rfl
                            rotate_left
                            · simp only [Act.put, List.setIfInBounds_toArray, List.set_cons_zero, List.set_cons_succ, i64_w, i32_w]
                              rfl
                            refine take_ (i := 9) (N := some 82) (v := ?_) (a' := ?_) #[true, true, true, true, true, true, true, true, true, true, false, false] rfl rfl (take_ofW HT_.out HW_.out (by kernel_rfl)) (fun _ _ _ h => h) (Or.inl ⟨by rfl, ?_⟩) hHeld ?_ ?_
                            rotate_left
                            · rintro w' ⟨s0, s1, s2, s3, s4, s5, s6, s7, s8, s9, s10, s11⟩
                              go_simp
                              with_reducible rfl
                            rotate_left
                            · simp only [Act.put, List.setIfInBounds_toArray, List.set_cons_zero, List.set_cons_succ, i64_w, i32_w]
                              rfl
                            refine one_ (i := 10) (N := some 83) #[true, true, true, true, true, true, true, true, true, true, true, false] rfl rfl (one_of HT_.out (by kernel_rfl)) (by decide) (fun K hK => ?_)
                            refine goes_ Try.func10 (by kernel_rfl) rfl #[.agg #[.string ((rd_T27 l0_2 x70_3).f0), .slice A333_1 ((rd_T27 l0_2 x70_3).f1).length c333_1, .slice A333_2 ((rd_T27 l0_2 x70_3).f2).length c333_2], .agg #[.string ((rd_T27 l1_2 x70_3).f0), .slice A334_1 ((rd_T27 l1_2 x70_3).f1).length c334_1, .slice A334_2 ((rd_T27 l1_2 x70_3).f2).length c334_2]] (by rfl) rfl rfl (by (try simp only [List.map_toArray, List.map_cons, List.map_nil]); first | done | rfl | (simp only [List.length_drop, List.length_take]; rfl)) ?_
                            with_reducible refine (ih k3 (by have := HJ2.out; have := HK2.out; have := HK3.out; omega) ((rd_T27 l0_2 x70_3).f0) _ _ ((rd_T27 l0_2 x70_3).f1) _ _ ((rd_T27 l0_2 x70_3).f2) ((rd_T27 l1_2 x70_3).f0) _ _ ((rd_T27 l1_2 x70_3).f1) _ _ ((rd_T27 l1_2 x70_3).f2) false _ ?side1 ?side2 ?side3 ?side4 ?side5 ?side6 ?side7 ?side8 A41.out).mono ?_
                            (case side1 => repeat (first | exact (Kd.C_below HR333_1.out HB.out) | (with_reducible refine Kd.C_alloc ?_ _) | (with_reducible refine Kd.C_drewN ?_ _) | (with_reducible refine Kd.C_drew ?_)))
                            (case side2 => exact HC333_1.out)
                            (case side3 => repeat (first | exact (Kd.C_below HR333_2.out HB.out) | (with_reducible refine Kd.C_alloc ?_ _) | (with_reducible refine Kd.C_drewN ?_ _) | (with_reducible refine Kd.C_drew ?_)))
                            (case side4 => exact HC333_2.out)
                            (case side5 => repeat (first | exact (Kd.C_below HR334_1.out HB.out) | (with_reducible refine Kd.C_alloc ?_ _) | (with_reducible refine Kd.C_drewN ?_ _) | (with_reducible refine Kd.C_drew ?_)))
                            (case side6 => exact HC334_1.out)
                            (case side7 => repeat (first | exact (Kd.C_below HR334_2.out HB.out) | (with_reducible refine Kd.C_alloc ?_ _) | (with_reducible refine Kd.C_drewN ?_ _) | (with_reducible refine Kd.C_drew ?_)))
                            (case side8 => exact HC334_2.out)
                            rintro e w46 ⟨rfl, hb⟩
                            refine ⟨_, rfl, ?_⟩
                            have n0_ := Aside0.mk (blk_below (g := gb327) (o := .cells #[.string a0_0, .slice A0_1 l0_1.length c0_1, .slice (some ad333) l0_2.length c0_2] 27 (0, 0)) (by (with_reducible repeat (first | refine blk_drewN ?_ _ | refine blk_drew ?_ | refine blk_alloc ?_ _)); exact BK327.out) hb)
                            have n1_ := Aside0.mk (blk_below (g := gb328) (o := .cells #[.string a1_0, .slice A1_1 l1_1.length c1_1, .slice (some ad334) l1_2.length c1_2] 27 (0, 0)) (by (with_reducible repeat (first | refine blk_drewN ?_ _ | refine blk_drew ?_ | refine blk_alloc ?_ _)); exact BK328.out) hb)
                            have n2_ := Aside0.mk (below_step (by repeat (first | (with_reducible first | exact HB.out | apply below_alloc | apply pw_below_drewN | apply below_drew1 | refine below_set ?_ GE327.out | refine below_set ?_ GE328.out) | exact HB.out)) hb)
                            clear BK327
                            clear BK328
                            clear HB
                            have BK327 := n0_
                            have BK328 := n1_
                            have HB := n2_
                            clear n0_ n1_ n2_
                            (try clear hb)
                            (try clear hb2)
                            (try clear hk)
                            (try clear hi)
                            refine hK.out _ _ ⟨(blk_cell BK327.out 0).trans rfl, (blk_cell BK327.out 1).trans rfl, (blk_cell BK327.out 2).trans rfl, (blk_cell BK328.out 0).trans rfl, (blk_cell BK328.out 1).trans rfl, (blk_cell BK328.out 2).trans rfl, ((HB.out.cell (World.block_lt_of_cell? w _ hw333_0)).trans hw333_0), ((HB.out.cell (World.block_lt_of_cell? w _ hw333_1)).trans hw333_1), ((HB.out.cell (World.block_lt_of_cell? w _ hw333_2)).trans hw333_2), ((HB.out.cell (World.block_lt_of_cell? w _ hw334_0)).trans hw334_0), ((HB.out.cell (World.block_lt_of_cell? w _ hw334_1)).trans hw334_1), ((HB.out.cell (World.block_lt_of_cell? w _ hw334_2)).trans hw334_2)⟩ (fun hHeld => ?_)
                            clear hK K
                            refine norm_ (a' := ?_) ?_ ?_
                            rotate_left
                            · show Act.put _ (some 83) _ = _
                              simp only [Act.put, List.setIfInBounds_toArray, List.set_cons_zero, List.set_cons_succ, i64_w, i32_w]
                              rfl
                            refine pure_ (i := 11) (N := some 84) (v := ?_) (a' := ?_) #[true, true, true, true, true, true, true, true, true, true, true, true] rfl rfl (any_of HT_.out (by kernel_rfl)) (fun _ _ _ h => h) (Or.inl ⟨by rfl, ?_⟩) ?_ ?_
                            rotate_left
                            · intro w'
                              go_simp
                              with_reducible rfl
                            rotate_left
                            · simp only [Act.put, List.setIfInBounds_toArray, List.set_cons_zero, List.set_cons_succ, i64_w, i32_w]
                              rfl
                            refine done_ (done_of HT_.out (by kernel_rfl)) ?_
                            try go_wp2
                            go_ret
                            exact ⟨by first | rfl | (simp [errW_none, errW_some] <;> rfl) | (simp [*, errW_none, errW_some] <;> rfl), by repeat (first | (with_reducible first | exact HB.out | apply below_alloc | apply pw_below_drewN | apply below_drew1 | refine below_set ?_ GE327.out | refine below_set ?_ GE328.out) | exact HB.out)⟩
                        · rw [if_neg c40] at H
                          exact absurd H (by simp)
                      · rw [if_neg c39] at H
                        exact absurd H (by simp)
                    · rw [if_neg c38] at H
                      exact absurd H (by simp)
                  · rw [if_neg c37] at H
                    have c37b0 : decide (x70_3 < (l0_2.length : Int)) = false := decide_eq_false c37
                    clear c37
                    obtain rfl := Option.some.inj H
                    go_wp2
                    go_ret
                    exact ⟨by first | rfl | (simp [errW_none, errW_some] <;> rfl) | (simp [*, errW_none, errW_some] <;> rfl), by repeat (first | (with_reducible first | exact HB.out | apply below_alloc | apply pw_below_drewN | apply below_drew1 | refine below_set ?_ GE327.out | refine below_set ?_ GE328.out) | exact HB.out)⟩
end Go.Proofs.Ytiioeaalnmjbmaa.PE
