/- TreeFinds: texts of this session's, and what the kit's print laid for this seat, as far as the law's row uses them (Dict, Shelf, PXx0, PXx0). -/
import Derived.Shelf.Small.Strs
import Derived.Shelf.Strings.Search1
import Derived.Shelf.Strings.Search2
import Derived.Shelf.Strings.Cut
import Derived.Shelf.LaysM
import Derived.Shelf.Strings.Shaped
import Derived.Test.YteejaaeglfpcmabProg
import Derived.WalkSpells
import Derived.Test.YteejaaeglfpcmabRows
import Derived.ChangeArms
import Derived.DataReads
import Derived.Deep.Slices
import Derived.Lib.EndianBits
import Derived.ProofKit
import Derived.OpenShut
import Derived.ShutString
import Derived.ChangeOld
import Derived.JoinedCond
import Derived.Deep.CondSized
import Derived.Test.YteejaaeglfpcmabZTreeFinds0
set_option linter.unusedVariables false
set_option linter.unusedSimpArgs false
namespace Go.Proofs
variable {p : Prop}
theorem Ak (h : p) : @YteejaaeglfpcmabW.PrintWords.Aside0 p := ⟨h⟩
theorem Sx : (∀ (a : Act) (v : Value) (d : Tmp), a.put (some d) v = { tmps := a.tmps.setIfInBounds d v, defers := a.defers }) ∧ (∀ (a : Act) (v : Value), a.put none v = a) ∧ (∀ (l : List Value) (i : Nat) (a : Value), l.toArray.setIfInBounds i a = (l.set i a).toArray) ∧ (∀ {x : Value} {xs : List Value} {i : Nat} {a : Value}, (x :: xs).set (i + 1) a = x :: xs.set i a) ∧ (∀ {x : Value} {xs : List Value} {a : Value}, (x :: xs).set 0 a = a :: xs) ∧ (∀ n : Int, IntKind.i64.wrap n = Go.RowKit.wrap64 n) ∧ (∀ n : Int, IntKind.i32.wrap n = Go.RowKit.wrap32 n) := ⟨fun _ _ _ => rfl, fun _ _ => rfl, List.setIfInBounds_toArray, List.set_cons_succ, List.set_cons_zero, YteejaaeglfpcmabW.PrintLast.i64_w, YteejaaeglfpcmabW.PrintLast.i32_w⟩
theorem Zq1 (h : p := by kernel_rfl) : p := h
theorem Zq2 (h : p := by rfl) : p := h
theorem Zq3 (h : p := by omega) : p := h
theorem Zq4 (h : p := by repeat (first | (with_reducible first | exact HB.out | apply below_alloc | apply pw_below_drewN | apply below_drew1 | refine below_set ?_ GEaa.out) | exact HB.out)) : p := h
theorem Zq5 (h : p := by (with_reducible repeat (first | refine blk_drewN ?_ _ | refine blk_drew ?_ | refine blk_alloc ?_ _)); exact BKaa.out) : p := h
theorem Zq6 (h : p := by repeat (first | (with_reducible first | exact HB.out | apply below_alloc | apply pw_below_drewN | apply below_drew1) | exact HB.out)) : p := h
theorem Zq7 (h : p := by (try simp only [List.map_toArray, List.map_cons, List.map_nil]); first | done | rfl | (simp only [List.length_drop, List.length_take]; rfl)) : p := h
theorem Zq8 (h : p := by first | rfl | (simp; done) | (simp [*]; done)) : p := h
theorem Zq9 (h : p := by first | (with_reducible assumption) | assumption) : p := h
theorem Zq10 (h : p := by first | rfl | (simp [errW_none, errW_some] <;> rfl) | (simp [*, errW_none, errW_some] <;> rfl)) : p := h
theorem Zq11 (h : p := by (with_reducible repeat (first | apply Kd.R_alloc | apply Kd.R_drewN | apply Kd.R_drew)); exact HOac.out) : p := h
theorem Zq12 (h : p := by have := HK1.out; omega) : p := h
theorem Zq13 (h : p := by simp only [ge_iff_le]; assumption) : p := h
theorem Zq14 (h : p := by simp only [ge_iff_le]; first | assumption | (rw [decide_eq_false_iff_not]; have q3_ := of_decide_eq_true (by assumption : decide (tab < 0) = true); omega)) : p := h
theorem Zq15 (h : p := by (with_reducible repeat (first | refine blk_drewN ?_ _ | refine blk_drew ?_ | refine blk_alloc ?_ _)); exact BKae.out) : p := h
theorem Zq16 (h : p := by repeat (first | (with_reducible first | exact HB.out | apply below_alloc | apply pw_below_drewN | apply below_drew1 | refine below_set ?_ GEae.out) | exact HB.out)) : p := h
theorem Zq17 (h : p := by repeat (first | (with_reducible first | exact HB.out | apply below_alloc | apply pw_below_drewN | apply below_drew1 | refine below_set ?_ GEad.out) | exact HB.out)) : p := h
theorem Zq18 (h : p := by repeat (first | (with_reducible first | exact HB.out | apply below_alloc | apply pw_below_drewN | apply below_drew1 | refine below_set ?_ GEae.out | refine below_set ?_ GEah.out) | exact HB.out)) : p := h
theorem Zq19 (h : p := by (with_reducible repeat (first | refine blk_drewN ?_ _ | refine blk_drew ?_ | refine blk_alloc ?_ _)); exact BKag.out) : p := h
theorem Zq20 (h : p := by repeat (first | (with_reducible first | exact HB.out | apply below_alloc | apply pw_below_drewN | apply below_drew1 | refine below_set ?_ GEag.out) | exact HB.out)) : p := h
theorem Zq21 (h : p := by repeat (first | (with_reducible first | exact HB.out | apply below_alloc | apply pw_below_drewN | apply below_drew1 | refine below_set ?_ GEam.out) | exact HB.out)) : p := h
theorem Zq22 (h : p := by (with_reducible repeat (first | refine blk_drewN ?_ _ | refine blk_drew ?_ | refine blk_alloc ?_ _)); exact BKam.out) : p := h
theorem Zq23 (h : p := by (with_reducible repeat (first | refine blk_drewN ?_ _ | refine blk_drew ?_ | refine blk_alloc ?_ _)); exact BKad.out) : p := h
theorem Zq24 (h : p := by repeat (first | (with_reducible first | exact HB.out | apply below_alloc | apply pw_below_drewN | apply below_drew1 | refine below_set ?_ GEaf.out) | exact HB.out)) : p := h
theorem Zq25 (h : p := by repeat (first | (with_reducible first | exact HB.out | apply below_alloc | apply pw_below_drewN | apply below_drew1 | refine below_set ?_ GEam.out | refine below_set ?_ GEao.out) | exact HB.out)) : p := h
theorem Zq26 (h : p := by (with_reducible repeat (first | refine blk_drewN ?_ _ | refine blk_drew ?_ | refine blk_alloc ?_ _)); exact BKaf.out) : p := h
theorem Zq27 (h : p := by repeat (first | (with_reducible first | exact HB.out | apply below_alloc | apply pw_below_drewN | apply below_drew1 | refine below_set ?_ GEak.out) | exact HB.out)) : p := h
theorem Zq28 (h : p := by repeat (first | (with_reducible first | exact HB.out | apply below_alloc | apply pw_below_drewN | apply below_drew1 | refine below_set ?_ GEal.out) | exact HB.out)) : p := h
theorem Zq29 (h : p := by (with_reducible repeat (first | refine blk_drewN ?_ _ | refine blk_drew ?_ | refine blk_alloc ?_ _)); refine blk_far ?_ NB610_612.out _; (with_reducible repeat (first | refine blk_drewN ?_ _ | refine blk_drew ?_ | refine blk_alloc ?_ _)); refine blk_far ?_ NB610_612.out _; (with_reducible repeat (first | refine blk_drewN ?_ _ | refine blk_drew ?_ | refine blk_alloc ?_ _)); refine blk_far ?_ NB610_612.out _; (with_reducible repeat (first | refine blk_drewN ?_ _ | refine blk_drew ?_ | refine blk_alloc ?_ _)); exact BKae.out) : p := h
theorem Zq30 (h : p := by (with_reducible repeat (first | refine blk_drewN ?_ _ | refine blk_drew ?_ | refine blk_alloc ?_ _)); refine blk_put (cs := #[.string ((rd_T30 l0_2 x16_1).f0), .slice Aap_1 ((rd_T30 l0_2 x16_1).f1).length cap_1, .slice none 0 0]) ?_ 2 _ rfl; (with_reducible repeat (first | refine blk_drewN ?_ _ | refine blk_drew ?_ | refine blk_alloc ?_ _)); refine blk_put (cs := #[.string ((rd_T30 l0_2 x16_1).f0), .slice none 0 0, .slice none 0 0]) ?_ 1 _ rfl; (with_reducible repeat (first | refine blk_drewN ?_ _ | refine blk_drew ?_ | refine blk_alloc ?_ _)); refine blk_put (cs := #[.string (⟨#[]⟩ : ByteArray), .slice none 0 0, .slice none 0 0]) ?_ 0 _ rfl; (with_reducible repeat (first | refine blk_drewN ?_ _ | refine blk_drew ?_ | refine blk_alloc ?_ _)); exact BKah.out) : p := h
theorem Zq31 (h : p := by repeat (first | (with_reducible first | exact HB.out | apply below_alloc | apply pw_below_drewN | apply below_drew1 | refine below_set ?_ GEag.out | refine below_set ?_ GEax.out) | exact HB.out)) : p := h
theorem Zq32 (h : p := by repeat (first | (with_reducible first | exact HB.out | apply below_alloc | apply pw_below_drewN | apply below_drew1 | refine below_set ?_ GEag.out | refine below_set ?_ GEan.out) | exact HB.out)) : p := h
theorem Zq33 (h : p := by exact Aside0.mk (blk_below (g := gbaa) (o := .cells #[.string a0_0, .slice A0_1 l0_1.length c0_1, .slice A0_2 l0_2.length c0_2] 30 (0, 0)) Zq5 hb)) : p := h
theorem Zq34 (h : p := by exact Aside0.mk (below_step Zq4 hb)) : p := h
theorem Zq35 (h : p := by exact Kd.C_below HR0_1.out HB.out) : p := h
theorem Zq36 (h : p := by exact Kd.C_below HR0_2.out HB.out) : p := h
theorem Zq37 (h : p := by exact blk_lt (g := gbae) (o := .cells #[.string a0_0, .slice A0_1 l0_1.length c0_1, .slice (some adap) l0_2.length c0_2] 30 (0, 0)) Zq15) : p := h
theorem Zq38 (h : p := by exact Aside0.mk (Kd.R_below Zq11 hb)) : p := h
theorem Zq39 (h : p := by exact Aside0.mk (blk_below (g := gbah) (o := .cells #[.string ((rd_T30 l0_2 x16_1).f0), .slice Aap_1 ((rd_T30 l0_2 x16_1).f1).length cap_1, .slice Aap_2 ((rd_T30 l0_2 x16_1).f2).length cap_2] 30 (0, 0)) Zq30 hb)) : p := h
theorem Zq40 (h : p := by exact Aside0.mk (below_step Zq6 hb)) : p := h
theorem Zq41 (h : p := by exact blk_lt (g := gbam) (o := .cells #[.string a0_0, .slice (some adaA) l0_1.length c0_1, .slice A0_2 l0_2.length c0_2] 30 (0, 0)) Zq22) : p := h
theorem Zq42 (h : p := by exact Aside0.mk ((by rw [hg]; exact (below_size Zq16) : w.heap.size ≤ gbah))) : p := h
theorem Zq43 (h : p := by exact Aside0.mk ((by rw [hg]; exact (below_size Zq6) : w.heap.size ≤ gbad))) : p := h
theorem Zq44 (h : p := by exact Aside0.mk ((by rw [hg]; exact (below_size Zq6) : w.heap.size ≤ gbaf))) : p := h
theorem Zq45 (h : p := by exact Aside0.mk ((by rw [hg]; exact (below_size Zq6) : w.heap.size ≤ gbae))) : p := h
theorem Zq46 (h : p := by exact Aside0.mk (Kd.R_drew HOac.out)) : p := h
theorem Zq47 (h : p := by exact Aside0.mk (blk_drew BKaa.out)) : p := h
theorem Zq48 (h : p := by exact Aside0.mk (below_drew1 HB.out)) : p := h
theorem Zq49 (h : p := by exact Aside0.mk (Kd.R_lower ho0 (below_size Zq4))) : p := h
theorem Zq50 (h : p := by exact Aside0.mk (blk_below (g := gbad) (o := .cells #[.string a0_0, .slice A0_1 l0_1.length c0_1, .slice (some aday) l0_2.length c0_2] 30 (0, 0)) Zq23 hb)) : p := h
theorem Zq51 (h : p := by exact Aside0.mk (blk_below (g := gbaf) (o := .cells #[.string a0_0, .slice A0_1 l0_1.length c0_1, .slice (some adaz) l0_2.length c0_2] 30 (0, 0)) Zq26 hb)) : p := h
theorem Zq52 (h : p := by exact Aside0.mk (blk_below (g := gbae) (o := .cells #[.string a0_0, .slice A0_1 l0_1.length c0_1, .slice (some adap) l0_2.length c0_2] 30 (0, 0)) Zq15 hb)) : p := h
theorem Zq53 (h : p := by exact Aside0.mk (blk_below (g := gbae) (o := .cells #[.string a0_0, .slice A0_1 l0_1.length c0_1, .slice (some adap) l0_2.length c0_2] 30 (0, 0)) Zq29 hb)) : p := h
theorem Zq54 (h : p := by exact Aside0.mk (Below.refl w.heap.size w)) : p := h
theorem Zq55 (h : p := by exact Aside0.mk ((by rw [hg]; exact (below_size Zq21) : w.heap.size ≤ gbao))) : p := h
theorem Zq56 (h : p := by exact Aside0.mk (blk_below (g := gbam) (o := .cells #[.string a0_0, .slice (some adaA) l0_1.length c0_1, .slice A0_2 l0_2.length c0_2] 30 (0, 0)) Zq22 hb)) : p := h
theorem Zq57 (h : p := by exact blk_lt (g := gbag) (o := .cells #[.string a0_0, .slice (some adaF) l0_1.length c0_1, .slice A0_2 l0_2.length c0_2] 30 (0, 0)) Zq19) : p := h
theorem Zq58 (h : p := by exact blk_lt (g := gbag) (o := .cells #[.string a0_0, .slice A0_1 l0_1.length c0_1, .slice (some adaq) l0_2.length c0_2] 30 (0, 0)) Zq19) : p := h
theorem Zq59 (h : p := by exact Aside0.mk (Kd.R_below (by (with_reducible repeat (first | apply Kd.R_alloc | apply Kd.R_drewN | apply Kd.R_drew)); exact HO_4.out) hb)) : p := h
theorem Zq60 (h : p := by exact Aside0.mk ((by rw [hg]; exact Nat.ne_of_lt Zq37 : gbae ≠ gbah))) : p := h
theorem Zq61 (h : p := by exact Aside0.mk ((by rw [hg]; exact Nat.ne_of_gt Zq37 : gbah ≠ gbae))) : p := h
end Go.Proofs

namespace Go.Proofs
end Go.Proofs

namespace Go.Proofs.Yteejaaeglfpcmab.PX
open Go.RowKit Go.Proofs.YteejaaeglfpcmabW.PrintWords Go.Proofs.YteejaaeglfpcmabW.PrintLast Go.Proofs.YteejaaeglfpcmabW.PrintMore
attribute [local go_sem] max2_int min2_int max_two min_two max_three min_three max_four min_four
def errW : Option Int → Value
 | none => .nilIface
 | some c => .iface 0 (.int .i64 c)
theorem errW_none : errW none = .nilIface := rfl
theorem errW_some (c : Int) : errW (some c) = .iface 0 (.int .i64 c) := rfl
theorem info5 : (Try.prog.info? 5).map (fun i => (i.zero, i.size, i.bytes)) = some (some (.int .u8 0), 1, 1) := by kernel_rfl
theorem info9 : (Try.prog.info? 9).map (fun i => (i.zero, i.size, i.bytes)) = some (some (.string ⟨#[]⟩), 1, 16) := by kernel_rfl
structure S77 where
 f0 : ByteArray
 f1 : (List Int)
def z77 : S77 := ⟨(⟨#[]⟩ : ByteArray), ([] : List Int)⟩
def k77 : Kd S77 := Kd.iso (Kd.pair Kd.string (Kd.slice 5 (Kd.int .u8))) (fun x : S77 => (x.f0, x.f1))
theorem k77_open {w : World} {x : S77} {cs : List Value} (h : k77.K w x cs) : ∃ A1 c1, cs = [.string x.f0, .slice A1 x.f1.length c1] ∧ x.f1.length ≤ c1 ∧ (Kd.int .u8).C w A1 x.f1.length x.f1 := by
 obtain ⟨_, _, rfl, rfl, ⟨A1, c1, rfl, l1, g1⟩⟩ := h
 exact ⟨A1, c1, rfl, l1, g1⟩
def rd_T77 (xs : List S77) (i : Int) : S77 := xs.getD i.toNat z77
theorem at_T77 {w : World} {A : Option Addr} {n : Nat} {xs : List S77} (h : Kd.C k77 w A n xs) (i : Int) (h0 : 0 ≤ i) (h1 : i < n) : ∃ ad A1 c1, A = some ad ∧ w.cell? (ad.add (i.toNat * 2)) = some (.string (rd_T77 xs i).f0) ∧ w.cell? ⟨(ad.add (i.toNat * 2)).block, (ad.add (i.toNat * 2)).off + 1, none⟩ = some (.slice A1 (rd_T77 xs i).f1.length c1) ∧ (rd_T77 xs i).f1.length ≤ c1 ∧ (Kd.int .u8).C w A1 (rd_T77 xs i).f1.length (rd_T77 xs i).f1 := by
 obtain ⟨ad, c, e, _, hK, hc0⟩ := Kd.C_get h z77 i h0 h1; have hc : ∀ j u, c[j]? = some u → w.cell? (ad.add (i.toNat * 2 + j)) = some u := hc0; obtain ⟨A1, c1, rfl, l1, g1⟩ := k77_open hK
 exact ⟨ad, A1, c1, e, hc 0 _ rfl, by rw [← add_field _ _ 1 Zq3]; exact hc 1 _ rfl, l1, g1⟩
structure S30 where
 f0 : ByteArray
 f1 : (List S77)
 f2 : (List S30)
def z30 : S30 := ⟨(⟨#[]⟩ : ByteArray), ([] : List S77), ([] : List S30)⟩
def F30 (d : Kd S30) : Kd S30 := Kd.iso (Kd.pair Kd.string (Kd.pair (Kd.slice 77 k77) (Kd.slice 30 d))) (fun x : S30 => (x.f0, x.f1, x.f2))
theorem mono30 : Kd.Mono F30 := Kd.mono_iso _ (Kd.mono_pair (Kd.mono_const _) (Kd.mono_pair (Kd.mono_const _) (Kd.mono_slice 30 Kd.mono_id)))
theorem sub30 : Kd.Sub F30 [5, 30, 77] := Kd.sub_iso _ (Kd.sub_pair (Kd.sub_const _ (by decide)) (Kd.sub_pair (Kd.sub_const _ (by decide)) (Kd.sub_slice 30 (by decide) Kd.sub_id)))
theorem sz30 : ∀ n, (Kd.upto F30 3 [5, 30, 77] n).sz = 3 := Kd.upto_sz (fun _ => rfl)
def k30 : Kd S30 := Kd.fix F30 3 [5, 30, 77] sz30 (Kd.upto_E sub30)
theorem k30_open {w : World} {x : S30} {cs : List Value} (h : k30.K w x cs) : ∃ A1 c1 A2 c2, cs = [.string x.f0, .slice A1 x.f1.length c1, .slice A2 x.f2.length c2] ∧ x.f1.length ≤ c1 ∧ k77.C w A1 x.f1.length x.f1 ∧ x.f2.length ≤ c2 ∧ k30.C w A2 x.f2.length x.f2 := by
 obtain ⟨n, h⟩ := h
 cases n with
 | zero => exact h.elim
 | succ n =>
  obtain ⟨_, _, rfl, rfl, ⟨_, _, rfl, ⟨A1, c1, rfl, l1, g1⟩, ⟨A2, c2, rfl, l2, g2⟩⟩⟩ := h
  exact ⟨A1, c1, A2, c2, rfl, l1, g1, l2, Kd.fix_C g2⟩
theorem k30_mk (w : World) (x : S30) {A1 : Option Addr} {c1 : Nat} (l1 : x.f1.length ≤ c1) (g1 : k77.C w A1 x.f1.length x.f1) {A2 : Option Addr} {c2 : Nat} (l2 : x.f2.length ≤ c2) (g2 : k30.C w A2 x.f2.length x.f2) : k30.K w x [.string x.f0, .slice A1 x.f1.length c1, .slice A2 x.f2.length c2] := by
 obtain ⟨n2, q2⟩ := Kd.fix_C_back mono30 g2; have r2 := Kd.upto_C_le mono30 sz30 (show n2 ≤ n2 by omega) q2
 exact ⟨n2 + 1, ⟨[.string x.f0], [.slice A1 x.f1.length c1, .slice A2 x.f2.length c2], rfl, rfl, ⟨[.slice A1 x.f1.length c1], [.slice A2 x.f2.length c2], rfl, ⟨A1, c1, rfl, l1, g1⟩, ⟨A2, c2, rfl, l2, r2⟩⟩⟩⟩
def rd_T30 (xs : List S30) (i : Int) : S30 := xs.getD i.toNat z30
theorem at_T30 {w : World} {A : Option Addr} {n : Nat} {xs : List S30} (h : Kd.C k30 w A n xs) (i : Int) (h0 : 0 ≤ i) (h1 : i < n) : ∃ ad A1 c1 A2 c2, A = some ad ∧ w.cell? (ad.add (i.toNat * 3)) = some (.string (rd_T30 xs i).f0) ∧ w.cell? ⟨(ad.add (i.toNat * 3)).block, (ad.add (i.toNat * 3)).off + 1, none⟩ = some (.slice A1 (rd_T30 xs i).f1.length c1) ∧ w.cell? ⟨(ad.add (i.toNat * 3)).block, (ad.add (i.toNat * 3)).off + 2, none⟩ = some (.slice A2 (rd_T30 xs i).f2.length c2) ∧ (rd_T30 xs i).f1.length ≤ c1 ∧ k77.C w A1 (rd_T30 xs i).f1.length (rd_T30 xs i).f1 ∧ (rd_T30 xs i).f2.length ≤ c2 ∧ k30.C w A2 (rd_T30 xs i).f2.length (rd_T30 xs i).f2 := by
 obtain ⟨ad, c, e, _, hK, hc0⟩ := Kd.C_get h z30 i h0 h1; have hc : ∀ j u, c[j]? = some u → w.cell? (ad.add (i.toNat * 3 + j)) = some u := hc0; obtain ⟨A1, c1, A2, c2, rfl, l1, g1, l2, g2⟩ := k30_open hK
 exact ⟨ad, A1, c1, A2, c2, e, hc 0 _ rfl, by rw [← add_field _ _ 1 Zq3]; exact hc 1 _ rfl, by rw [← add_field _ _ 2 Zq3]; exact hc 2 _ rfl, l1, g1, l2, g2⟩
structure S94 where
 f0 : Int
 f1 : Int
def bytes_Clone.f (l0 : List Int) : Option (List Int) := if l0.length < 140737488355328 then (some l0) else (none)
set_option maxRecDepth 100000 in
theorem bytes_Clone.calls (A0 : Option Addr) (c0 : Nat) (l0 : List Int) (r : List Int) (w : World) (hr0 : Kd.C (Kd.int .u8) w A0 l0.length l0) (hc0 : l0.length ≤ c0) (h : bytes_Clone.f l0 = some r) :
  Calls Try.prog 57 #[.slice A0 l0.length c0] w fun e w' => ∃ v0_ : Value, e = .returned (v0_) ∧ Kd.R (Kd.int .u8) 5 w' w.heap.size (fun _ => True) v0_ r ∧ Below w.heap.size w w' := by
 unfold bytes_Clone.f at h
 by_cases c3 : l0.length < 140737488355328
 ·rw [if_pos c3] at h; injection h with h; subst h; have HR0 := Ak hr0; have HC0 := Ak hc0; clear hr0 hc0; have HB := Zq54; have LMc3 := Ak c3; clear c3
  cases A0 with
  | none =>
   have hn : l0 = [] := by
    cases l0 with
    | nil => rfl
    | cons x r =>
     obtain ⟨ad, he, _⟩ := HR0.out.2.2 (by simp)
     cases he
   subst hn
   have q := fun w' : World => Lib.run_eql_slice_nil (P := Try.prog) w' 72 5 none ([] : List Int).length c0 0 0 Try.underlying72
   simp only [Option.isNone_none, List.length_nil] at q
   go_enter Try.func57, Try.ntmps57
   go_wp2
   go_ret
   exact ⟨_, rfl, Kd.R_nil _ _ _ _ _, Below.refl _ _⟩
  | some x0 =>
   have q := fun w' : World => Lib.run_eql_slice_nil (P := Try.prog) w' 72 5 (some x0) l0.length c0 0 0 Try.underlying72
   simp only [Option.isNone_some] at q
   obtain ⟨y5, hy5⟩ : ∃ y_ : List Int, y_ = [] := ⟨_, rfl⟩
   have Ny5 := Ak hy5; clear hy5
   obtain ⟨y7, hy7⟩ : ∃ y_ : List Int, y_ = y5 ++ l0 := ⟨_, rfl⟩
   have Ny7 := Ak hy7; clear hy7
   go_enter Try.func57, Try.ntmps57
   go_wp2_with (first | ((with_reducible refine gate_dst (N := 5) rfl ?_); refine Kd.R_lit (Kd.int .u8) _ 5 ?hg (N := 5) ?hd (xs := ([] : List Int)) (inner := []) (ok := fun _ => True) (okp := fun _ => True) ?hr ?hp (fun _ hk => hk) trivial (Below.refl _ _) (Nat.le_refl _) (by simp) ?_; (case hd | hg => rfl); (case hr => first | (go_simp; done) | (go_simp; rfl)); (case hp => exact (Reps.none _ _)); intro v5 w5 ho6 hb hg_ hnew_; clear hg_ hnew_; rw [← Ny5.out] at ho6; have n0_ := Ak (Kd.R_lower (base' := w.heap.size) ho6 (below_size Zq6)); have n2_ := Zq40; clear HB; have HO5 := n0_; have HB := n2_; clear n0_ n2_ hb ho6) | ((with_reducible refine gate_builtin (b := .append) (xs := #[.tmp 5, .tmp 6]) rfl ?_); at_builtin; refine Kd.R_append_rows (Kd.int .u8) (w0 := w) w.heap.size rfl (.tmp 5) (.tmp 6) 72 5 (.int .u8 0) 1 rfl Try.underlying72 info5 rfl (by decide) Zq3 v5 y5 l0 _ _ _ (fun _ => True) (fun _ => False) rfl rfl ?aO ?aR (fun _ _ h => h) (fun _ h => h.elim) (fun _ _ => trivial) ?aB ?aS ?aL ?_; (case aR => repeat (first | exact (Kd.C_below HR0.out HB.out) | (with_reducible refine Kd.C_alloc ?_ _) | (with_reducible refine Kd.C_drewN ?_ _) | (with_reducible refine Kd.C_drew ?_))); (case aB => exact Zq6); (case aO => exact (by (with_reducible repeat (first | apply Kd.R_alloc | apply Kd.R_drewN | apply Kd.R_drew)); exact HO5.out)); (case aS => exact (below_size Zq6)); (case aL => have := LMc3.out; rw [Ny5.out]; simp; omega); intro v7 w7 ho hb hg hat; rw [← Ny7.out] at ho; have n1_ := Ak (hb); have n2_ := Ak (ho); clear HB HO5; have HB := n1_; have HO7 := n2_; clear n1_ n2_ ho hb hg hat))
   go_ret
   exact ⟨_, rfl, by have e7 : y7 = l0 := (by rw [Ny7.out, Ny5.out]; rfl); rw [← e7]; (with_reducible repeat (first | apply Kd.R_alloc | apply Kd.R_drewN | apply Kd.R_drew)); exact HO7.out, Zq6⟩
 ·rw [if_neg c3] at h
  cases h
def tree_Find.l0 : Nat → ByteArray → List (S77) → Int → Int → Option (List Int × Bool)
 | 0, _, _, _, _ => none
 | k + 1, x1, x9, x10, x11 => if x11 < x10 then (if 0 ≤ x11 then (if x11 < (x9.length : Int) then (if ((rd_T77 x9 x11).f0).toList = x1.toList then ((bytes_Clone.f ((rd_T77 x9 x11).f1)).bind fun tba => (some (tba, true))) else (tree_Find.l0 k x1 x9 x10 (wrap64 (x11 + 1)))) else (none)) else (none)) else (some (([] : List Int), false))
def tree_Find.f (k : Nat) (a0_0 : ByteArray) (l0_1 : List (S77)) (l0_2 : List (S30)) (a1 : ByteArray) : Option (List Int × Bool) := tree_Find.l0 k a1 l0_1 (l0_1.length : Int) 0
set_option maxHeartbeats 8000000 in
set_option maxRecDepth 100000 in
theorem tree_Find.calls (k : Nat) (a0_0 : ByteArray) (A0_1 : Option Addr) (c0_1 : Nat) (l0_1 : List (S77)) (A0_2 : Option Addr) (c0_2 : Nat) (l0_2 : List (S30)) (a1 : ByteArray) (r1 : List Int) (r2 : Bool) (w : World) (hr0_1 : Kd.C k77 w A0_1 l0_1.length l0_1) (hc0_1 : l0_1.length ≤ c0_1) (hr0_2 : Kd.C k30 w A0_2 l0_2.length l0_2) (hc0_2 : l0_2.length ≤ c0_2) (h : tree_Find.f k a0_0 l0_1 l0_2 a1 = some (r1, r2)) :
  Calls Try.prog 31 #[.agg #[.string a0_0, .slice A0_1 l0_1.length c0_1, .slice A0_2 l0_2.length c0_2], .string a1] w fun e w' => ∃ v0_ : Value, e = .returned (.tuple #[v0_, .bool r2]) ∧ Kd.R (Kd.int .u8) 5 w' w.heap.size (fun _ => True) v0_ r1 ∧ Below w.heap.size w w' := by
 have hu30 := Try.underlying30; have hu77 := Try.underlying77; have HR0_1 := Ak hr0_1; have HC0_1 := Ak hc0_1; clear hr0_1 hc0_1; have HR0_2 := Ak hr0_2; have HC0_2 := Ak hc0_2; clear hr0_2 hc0_2; have HB := Zq54; have H : (tree_Find.l0 k a1 l0_1 (l0_1.length : Int) 0) = some (r1, r2) := h; clear h; have H' := Ak H; clear H
 go_enter Try.func31, Try.ntmps31
 go_wp2_with (first | ((with_reducible refine gate_dst (N := 2) rfl ?_); refine box_event ?hg (N := 2) ?hd (cs := #[.string a0_0, .slice A0_1 l0_1.length c0_1, .slice A0_2 l0_2.length c0_2]) (t := 30) ?hr ?_; (case hd | hg => rfl); (case hr => first | (go_simp; done) | (go_simp; rfl)); intro gbam hg w3 hbox hb; have n0_ := Zq40; have n1_ := Ak (hbox); have n2_ := Ak ((by rw [hg]; exact (below_size Zq6) : w.heap.size ≤ gbam)); have n3_ := Ak ((by rw [hg]; exact (below_size Zq6) : w.heap.size ≤ gbam)); clear HB; have HB := n0_; have BKam := n1_; have GWam := n2_; have GEam := n3_; clear n0_ n1_ n2_ n3_ hb hbox hg; have hcz4_0 : w3.cell? ⟨gbam, 0, none⟩ = some (.string a0_0) := (blk_cell BKam.out 0).trans rfl; have hcz4_1 : w3.cell? ⟨gbam, 1, none⟩ = some (.slice A0_1 l0_1.length c0_1) := (blk_cell BKam.out 1).trans rfl; have hcz4_2 : w3.cell? ⟨gbam, 2, none⟩ = some (.slice A0_2 l0_2.length c0_2) := (blk_cell BKam.out 2).trans rfl; have hfz4_0 := blk_frozen BKam.out 0; have hfz4_1 := blk_frozen BKam.out 1; have hfz4_2 := blk_frozen BKam.out 2))
 go_loopg [11] k (fun kq v11 w' => ∃ (x11_1 : Int), v11 = .int .i64 x11_1 ∧ Aside0 (tree_Find.l0 kq a1 l0_1 (l0_1.length : Int) x11_1 = some (r1, r2)) ∧ Aside0 (kq ≤ k) ∧ Aside0 (w'.heap[gbam]? = some (.cells #[.string a0_0, (.slice A0_1 l0_1.length c0_1), (.slice A0_2 l0_2.length c0_2)] 30 (0, 0))) ∧ Aside0 (Below w.heap.size w w'))
 case atStart => exact ⟨(0), Zq8, H', ⟨Nat.le_refl _⟩, ⟨Zq22⟩, ⟨Zq21⟩⟩
 case round =>
  clear H'
  try clear p2
  try clear c3
  try clear hcz4_0
  try clear hcz4_1
  try clear hcz4_2
  try clear hfz4_0
  try clear hfz4_1
  try clear hfz4_2
  obtain ⟨x11_1, rfl, HA, HK1, BKam, HB⟩ := hrel
  cases gk with
  | zero => exact absurd HA.out (by simp [tree_Find.l0])
  | succ k1 =>
   have H := HA.out; clear HA; simp only [tree_Find.l0] at H
   by_cases c5 : x11_1 < (l0_1.length : Int)
   ·rw [if_pos c5] at H; have c5b0 : decide (x11_1 < (l0_1.length : Int)) = true := decide_eq_true c5; clear c5
    by_cases c6 : 0 ≤ x11_1
    ·rw [if_pos c6] at H; have c6b0 : decide (0 ≤ x11_1) = true := decide_eq_true c6; clear c6
     by_cases c7 : x11_1 < (l0_1.length : Int)
     ·rw [if_pos c7] at H; have c7b0 : decide (x11_1 < (l0_1.length : Int)) = true := decide_eq_true c7; clear c7
      by_cases c8 : ((rd_T77 l0_1 x11_1).f0).toList = a1.toList
      ·rw [if_pos c8] at H; have c8b0 : (((rd_T77 l0_1 x11_1).f0).toList == a1.toList) = true := beq_iff_eq.mpr c8; have c8b1 : (((rd_T77 l0_1 x11_1).f0).toList != a1.toList) = false := bne_eq_false_iff_eq.mpr c8; clear c8; replace H := Option.bind_eq_some_iff.mp H; obtain ⟨tba, A90, H⟩ := H; replace H : (some (tba, true)) = some (r1, r2) := H; have A9 := Ak A90; clear A90; simp only [Option.some.injEq, Prod.mk.injEq] at H; obtain ⟨rfl, rfl⟩ := H; have p165 : 0 ≤ (x11_1 : Int) := of_decide_eq_true Zq9; have q165 : x11_1 < (l0_1.length : Int) := of_decide_eq_true Zq9; obtain ⟨adaA, AaA_1, caA_1, e165, hx165_0, hx165_1, hl165_1, hi165_1⟩ := at_T77 HR0_1.out x11_1 p165 q165
       cases e165
       replace hx165_0 := (HB.out.cell (World.block_lt_of_cell? w _ hx165_0)).trans hx165_0; replace hx165_1 := (HB.out.cell (World.block_lt_of_cell? w _ hx165_1)).trans hx165_1; have HRaA_1 := Ak hi165_1; have HCaA_1 := Ak hl165_1; clear hi165_1 hl165_1; replace p165 := eq_true p165; replace q165 := eq_true q165
       go_wp2_with (first | ((with_reducible refine gate_dst (N := 7) rfl ?_); refine box_event ?hg (N := 7) ?hd (cs := #[.string (⟨#[]⟩ : ByteArray), .slice none 0 0]) (t := 77) ?hr ?_; (case hd | hg => rfl); (case hr => first | (go_simp; done) | (go_simp; rfl)); intro gbao hg w10 hbox hb; have n0_ := Zq56; have n1_ := Ak (below_step Zq21 hb); have n2_ := Ak (hbox); have n3_ := Zq55; have n4_ := Zq55; have n5_ := Ak ((by rw [hg]; exact Nat.ne_of_lt Zq41 : gbam ≠ gbao)); have n6_ := Ak ((by rw [hg]; exact Nat.ne_of_gt Zq41 : gbao ≠ gbam)); clear BKam HB; have BKam := n0_; have HB := n1_; have BKao := n2_; have GWao := n3_; have GEao := n4_; have NB164_166 := n5_; have NB166_164 := n6_; clear n0_ n1_ n2_ n3_ n4_ n5_ n6_ hb hbox hg; have hnb11 := NB166_164.out; have hnc11 := NB164_166.out; have hcz12_0 : w10.cell? ⟨gbao, 0, none⟩ = some (.string (⟨#[]⟩ : ByteArray)) := (blk_cell BKao.out 0).trans rfl; have hcz12_1 : w10.cell? ⟨gbao, 1, none⟩ = some (.slice none 0 0) := (blk_cell BKao.out 1).trans rfl; have hfz12_0 := blk_frozen BKao.out 0; have hfz12_1 := blk_frozen BKao.out 1) | ((with_reducible refine gate_callee (f := 57) rfl ?_); refine goesL_ (some 21) rfl rfl Try.func57 Zq1 rfl #[.slice AaA_1 ((rd_T77 l0_1 x11_1).f1).length caA_1] rfl Zq7 ?_; (with_reducible refine (bytes_Clone.calls _ _ ((rd_T77 l0_1 x11_1).f1) tba _ ?side1 ?side2 A9.out).mono ?_); (case side1 => exact Kd.C_below HRaA_1.out Zq25); (case side2 => exact HCaA_1.out); rintro e w13 ⟨v168, rfl, ho0, hb⟩; refine ⟨_, rfl, ?_⟩; have n0_ := Ak (Kd.R_lower ho0 (below_size Zq25)); have n1_ := Ak (blk_below (g := gbam) (o := .cells #[.string a0_0, .slice (some adaA) l0_1.length c0_1, .slice A0_2 l0_2.length c0_2] 30 (0, 0)) (by (with_reducible repeat (first | refine blk_drewN ?_ _ | refine blk_drew ?_ | refine blk_alloc ?_ _)); refine blk_far ?_ NB164_166.out _; (with_reducible repeat (first | refine blk_drewN ?_ _ | refine blk_drew ?_ | refine blk_alloc ?_ _)); refine blk_far ?_ NB164_166.out _; (with_reducible repeat (first | refine blk_drewN ?_ _ | refine blk_drew ?_ | refine blk_alloc ?_ _)); exact BKam.out) hb); have n2_ := Ak (blk_below (g := gbao) (o := .cells #[.string ((rd_T77 l0_1 x11_1).f0), .slice AaA_1 ((rd_T77 l0_1 x11_1).f1).length caA_1] 77 (0, 0)) (by (with_reducible repeat (first | refine blk_drewN ?_ _ | refine blk_drew ?_ | refine blk_alloc ?_ _)); refine blk_put (cs := #[.string ((rd_T77 l0_1 x11_1).f0), .slice none 0 0]) ?_ 1 _ rfl; (with_reducible repeat (first | refine blk_drewN ?_ _ | refine blk_drew ?_ | refine blk_alloc ?_ _)); refine blk_put (cs := #[.string (⟨#[]⟩ : ByteArray), .slice none 0 0]) ?_ 0 _ rfl; (with_reducible repeat (first | refine blk_drewN ?_ _ | refine blk_drew ?_ | refine blk_alloc ?_ _)); exact BKao.out) hb); have n3_ := Ak (below_step Zq25 hb); clear BKam BKao HB; have HObC := n0_; have BKam := n1_; have BKao := n2_; have HB := n3_; clear n0_ n1_ n2_ n3_; (try clear hb); (try clear hb2); (try clear hk); (try clear hi); (try clear ho0)))
       go_ret2
       exact ⟨_, Zq10, by (with_reducible repeat (first | apply Kd.R_alloc | apply Kd.R_drewN | apply Kd.R_drew)); exact HObC.out, Zq25⟩
      ·rw [if_neg c8] at H; have c8b0 : (((rd_T77 l0_1 x11_1).f0).toList == a1.toList) = false := beq_eq_false_iff_ne.mpr c8; have c8b1 : (((rd_T77 l0_1 x11_1).f0).toList != a1.toList) = true := bne_iff_ne.mpr c8; have H' := Ak H; clear H; have p165 : 0 ≤ (x11_1 : Int) := of_decide_eq_true Zq9; have q165 : x11_1 < (l0_1.length : Int) := of_decide_eq_true Zq9; obtain ⟨adaA, AaA_1, caA_1, e165, hx165_0, hx165_1, hl165_1, hi165_1⟩ := at_T77 HR0_1.out x11_1 p165 q165
       cases e165
       replace hx165_0 := (HB.out.cell (World.block_lt_of_cell? w _ hx165_0)).trans hx165_0; replace hx165_1 := (HB.out.cell (World.block_lt_of_cell? w _ hx165_1)).trans hx165_1; have HRaA_1 := Ak hi165_1; have HCaA_1 := Ak hl165_1; clear hi165_1 hl165_1; replace p165 := eq_true p165; replace q165 := eq_true q165
       go_wp2_with (first | ((with_reducible refine gate_dst (N := 7) rfl ?_); refine box_event ?hg (N := 7) ?hd (cs := #[.string (⟨#[]⟩ : ByteArray), .slice none 0 0]) (t := 77) ?hr ?_; (case hd | hg => rfl); (case hr => first | (go_simp; done) | (go_simp; rfl)); intro gbao hg w14 hbox hb; have n0_ := Zq56; have n1_ := Ak (below_step Zq21 hb); have n2_ := Ak (hbox); have n3_ := Zq55; have n4_ := Zq55; have n5_ := Ak ((by rw [hg]; exact Nat.ne_of_lt Zq41 : gbam ≠ gbao)); have n6_ := Ak ((by rw [hg]; exact Nat.ne_of_gt Zq41 : gbao ≠ gbam)); clear BKam HB; have BKam := n0_; have HB := n1_; have BKao := n2_; have GWao := n3_; have GEao := n4_; have NB164_166 := n5_; have NB166_164 := n6_; clear n0_ n1_ n2_ n3_ n4_ n5_ n6_ hb hbox hg; have hnb15 := NB166_164.out; have hnc15 := NB164_166.out; have hcz16_0 : w14.cell? ⟨gbao, 0, none⟩ = some (.string (⟨#[]⟩ : ByteArray)) := (blk_cell BKao.out 0).trans rfl; have hcz16_1 : w14.cell? ⟨gbao, 1, none⟩ = some (.slice none 0 0) := (blk_cell BKao.out 1).trans rfl; have hfz16_0 := blk_frozen BKao.out 0; have hfz16_1 := blk_frozen BKao.out 1))
       go_roundg k1
       case measure => have := HK1.out; omega
       case rel => exact ⟨(wrap64 (x11_1 + 1)), Zq8, H', ⟨Zq12⟩, ⟨by (with_reducible repeat (first | refine blk_drewN ?_ _ | refine blk_drew ?_ | refine blk_alloc ?_ _)); refine blk_far ?_ NB164_166.out _; (with_reducible repeat (first | refine blk_drewN ?_ _ | refine blk_drew ?_ | refine blk_alloc ?_ _)); refine blk_far ?_ NB164_166.out _; (with_reducible repeat (first | refine blk_drewN ?_ _ | refine blk_drew ?_ | refine blk_alloc ?_ _)); exact BKam.out⟩, ⟨Zq25⟩⟩
     ·rw [if_neg c7] at H; exact absurd H (by simp)
    ·rw [if_neg c6] at H; exact absurd H (by simp)
   ·rw [if_neg c5] at H; have c5b0 : decide (x11_1 < (l0_1.length : Int)) = false := decide_eq_false c5; clear c5; simp only [Option.some.injEq, Prod.mk.injEq] at H; obtain ⟨rfl, rfl⟩ := H
    go_wp2
    go_ret2
    exact ⟨_, Zq10, by first | exact Kd.R_nil _ _ _ _ _ | exact Kd.N_nil _ _ _ _ _ | exact Kd.V_nil _ _ _ _ _ | exact Kd.Q_nil _ _ _ _ _ | exact Kd.S_nil _ _ _ _ _, Zq21⟩
mutual
def arboretlaw03_size.l0 : Nat → Int → Int → Int → Int → ByteArray → List (S77) → List (S30) → Option (Int)
 | 0, _, _, _, _, _, _, _ => none
 | k + 1, x1, x5, x14, x15, xbb, xaO, xaK => if x15 < x14 then (if 0 ≤ x15 then (if x15 < (xaO.length : Int) then (arboretlaw03_size.l0 k x1 (wrap64 ((wrap64 ((wrap64 (x5 + 1)) + (((rd_T77 xaO x15).f0).size : Int))) + (((rd_T77 xaO x15).f1).length : Int))) x14 (wrap64 (x15 + 1)) xbb xaO xaK) else (none)) else (none)) else (arboretlaw03_size.l1 k x1 x5 (xaK.length : Int) 0 xbb xaO xaK)
def arboretlaw03_size.l1 : Nat → Int → Int → Int → Int → ByteArray → List (S77) → List (S30) → Option (Int)
 | 0, _, _, _, _, _, _, _ => none
 | k + 1, x1, x5, x39, x40, xbb, xaO, xaK => if x40 < x39 then (if x1 > 20 then (some 1048576) else (if x5 > 100000 then (some 1048576) else (if 0 ≤ x40 then (if x40 < (xaK.length : Int) then ((arboretlaw03_size.f k ((rd_T30 xaK x40).f0) ((rd_T30 xaK x40).f1) ((rd_T30 xaK x40).f2) (wrap64 (x1 + 1))).bind fun taP => (arboretlaw03_size.l1 k x1 (wrap64 (x5 + taP)) x39 (wrap64 (x40 + 1)) xbb xaO xaK)) else (none)) else (none)))) else (some x5)
def arboretlaw03_size.f : Nat → ByteArray → List (S77) → List (S30) → Int → Option (Int)
 | 0, _, _, _, _ => none
 | k + 1, a0_0, l0_1, l0_2, a1 => arboretlaw03_size.l0 k a1 (wrap64 (1 + (a0_0.size : Int))) (l0_1.length : Int) 0 a0_0 l0_1 l0_2
end
set_option maxHeartbeats 8000000 in
set_option maxRecDepth 100000 in
theorem arboretlaw03_size.calls (k : Nat) : ∀ (a0_0 : ByteArray) (A0_1 : Option Addr) (c0_1 : Nat) (l0_1 : List (S77)) (A0_2 : Option Addr) (c0_2 : Nat) (l0_2 : List (S30)) (a1 : Int) (r : Int) (w : World) (hr0_1 : Kd.C k77 w A0_1 l0_1.length l0_1) (hc0_1 : l0_1.length ≤ c0_1) (hr0_2 : Kd.C k30 w A0_2 l0_2.length l0_2) (hc0_2 : l0_2.length ≤ c0_2) (h : arboretlaw03_size.f k a0_0 l0_1 l0_2 a1 = some r),
  Calls Try.prog 28 #[.agg #[.string a0_0, .slice A0_1 l0_1.length c0_1, .slice A0_2 l0_2.length c0_2], .int .i64 a1] w fun e w' => e = .returned (.int .i64 r) ∧ Below w.heap.size w w' := by
 induction k using Nat.strongRecOn with
 | _ k ih =>
 intro a0_0 A0_1 c0_1 l0_1 A0_2 c0_2 l0_2 a1 r w hr0_1 hc0_1 hr0_2 hc0_2 h
 cases k with
 | zero => exact absurd h (by simp [arboretlaw03_size.f])
 | succ k =>
 simp only [arboretlaw03_size.f] at h; have hu30 := Try.underlying30; have HR0_1 := Ak hr0_1; have HC0_1 := Ak hc0_1; clear hr0_1 hc0_1; have HR0_2 := Ak hr0_2; have HC0_2 := Ak hc0_2; clear hr0_2 hc0_2; have HB := Zq54; have H : (arboretlaw03_size.l0 k a1 (wrap64 (1 + (a0_0.size : Int))) (l0_1.length : Int) 0 a0_0 l0_1 l0_2) = some r := h; clear h; have H' := Ak H; clear H
 go_enter Try.func28, Try.ntmps28
 go_wp2_with (first | ((with_reducible refine gate_dst (N := 2) rfl ?_); refine box_event ?hg (N := 2) ?hd (cs := #[.string a0_0, .slice A0_1 l0_1.length c0_1, .slice A0_2 l0_2.length c0_2]) (t := 30) ?hr ?_; (case hd | hg => rfl); (case hr => first | (go_simp; done) | (go_simp; rfl)); intro gbad hg w3 hbox hb; have n0_ := Zq40; have n1_ := Ak (hbox); have n2_ := Zq43; have n3_ := Zq43; clear HB; have HB := n0_; have BKad := n1_; have GWad := n2_; have GEad := n3_; clear n0_ n1_ n2_ n3_ hb hbox hg; have hcz4_0 : w3.cell? ⟨gbad, 0, none⟩ = some (.string a0_0) := (blk_cell BKad.out 0).trans rfl; have hcz4_1 : w3.cell? ⟨gbad, 1, none⟩ = some (.slice A0_1 l0_1.length c0_1) := (blk_cell BKad.out 1).trans rfl; have hcz4_2 : w3.cell? ⟨gbad, 2, none⟩ = some (.slice A0_2 l0_2.length c0_2) := (blk_cell BKad.out 2).trans rfl; have hfz4_0 := blk_frozen BKad.out 0; have hfz4_1 := blk_frozen BKad.out 1; have hfz4_2 := blk_frozen BKad.out 2))
 repeat (go_quiet (first | ((with_reducible refine gate_dst (N := 2) rfl ?_); refine box_event ?hg (N := 2) ?hd (cs := #[.string a0_0, .slice A0_1 l0_1.length c0_1, .slice A0_2 l0_2.length c0_2]) (t := 30) ?hr ?_; (case hd | hg => rfl); (case hr => first | (go_simp; done) | (go_simp; rfl)); intro gbad hg w3 hbox hb; have n0_ := Zq40; have n1_ := Ak (hbox); have n2_ := Zq43; have n3_ := Zq43; clear HB; have HB := n0_; have BKad := n1_; have GWad := n2_; have GEad := n3_; clear n0_ n1_ n2_ n3_ hb hbox hg; have hcz4_0 : w3.cell? ⟨gbad, 0, none⟩ = some (.string a0_0) := (blk_cell BKad.out 0).trans rfl; have hcz4_1 : w3.cell? ⟨gbad, 1, none⟩ = some (.slice A0_1 l0_1.length c0_1) := (blk_cell BKad.out 1).trans rfl; have hcz4_2 : w3.cell? ⟨gbad, 2, none⟩ = some (.slice A0_2 l0_2.length c0_2) := (blk_cell BKad.out 2).trans rfl; have hfz4_0 := blk_frozen BKad.out 0; have hfz4_1 := blk_frozen BKad.out 1; have hfz4_2 := blk_frozen BKad.out 2)); try go_wp2_with (first | ((with_reducible refine gate_dst (N := 2) rfl ?_); refine box_event ?hg (N := 2) ?hd (cs := #[.string a0_0, .slice A0_1 l0_1.length c0_1, .slice A0_2 l0_2.length c0_2]) (t := 30) ?hr ?_; (case hd | hg => rfl); (case hr => first | (go_simp; done) | (go_simp; rfl)); intro gbad hg w3 hbox hb; have n0_ := Zq40; have n1_ := Ak (hbox); have n2_ := Zq43; have n3_ := Zq43; clear HB; have HB := n0_; have BKad := n1_; have GWad := n2_; have GEad := n3_; clear n0_ n1_ n2_ n3_ hb hbox hg; have hcz4_0 : w3.cell? ⟨gbad, 0, none⟩ = some (.string a0_0) := (blk_cell BKad.out 0).trans rfl; have hcz4_1 : w3.cell? ⟨gbad, 1, none⟩ = some (.slice A0_1 l0_1.length c0_1) := (blk_cell BKad.out 1).trans rfl; have hcz4_2 : w3.cell? ⟨gbad, 2, none⟩ = some (.slice A0_2 l0_2.length c0_2) := (blk_cell BKad.out 2).trans rfl; have hfz4_0 := blk_frozen BKad.out 0; have hfz4_1 := blk_frozen BKad.out 1; have hfz4_2 := blk_frozen BKad.out 2)))
 go_loopg [5, 15] k (fun kq v5 v15 w' => ∃ (x5_1 : Int) (x15_1 : Int), v5 = .int .i64 x5_1 ∧ v15 = .int .i64 x15_1 ∧ Aside0 (arboretlaw03_size.l0 kq a1 x5_1 (l0_1.length : Int) x15_1 a0_0 l0_1 l0_2 = some r) ∧ Aside0 (kq ≤ k) ∧ Aside0 (w'.heap[gbad]? = some (.cells #[.string a0_0, (.slice A0_1 l0_1.length c0_1), (.slice A0_2 l0_2.length c0_2)] 30 (0, 0))) ∧ Aside0 (Below w.heap.size w w'))
 case atStart => exact ⟨(wrap64 (1 + (a0_0.size : Int))), (0), Zq8, Zq8, H', ⟨Nat.le_refl _⟩, ⟨Zq23⟩, ⟨Zq17⟩⟩
 case round =>
  clear H'
  try clear c2
  try clear p2
  try clear hcz4_0
  try clear hcz4_1
  try clear hcz4_2
  try clear hfz4_0
  try clear hfz4_1
  try clear hfz4_2
  obtain ⟨x5_1, x15_1, rfl, rfl, HA, HK1, BKad, HB⟩ := hrel
  cases gk with
  | zero => exact absurd HA.out (by simp [arboretlaw03_size.l0])
  | succ k1 =>
   have H := HA.out; clear HA; simp only [arboretlaw03_size.l0] at H
   by_cases c5 : x15_1 < (l0_1.length : Int)
   ·rw [if_pos c5] at H; have c5b0 : decide (x15_1 < (l0_1.length : Int)) = true := decide_eq_true c5; clear c5
    by_cases c6 : 0 ≤ x15_1
    ·rw [if_pos c6] at H; have c6b0 : decide (0 ≤ x15_1) = true := decide_eq_true c6; clear c6
     by_cases c7 : x15_1 < (l0_1.length : Int)
     ·rw [if_pos c7] at H; have c7b0 : decide (x15_1 < (l0_1.length : Int)) = true := decide_eq_true c7; clear c7; have H' := Ak H; clear H; have hcz8_0 : wr.cell? ⟨gbad, 0, none⟩ = some (.string a0_0) := (blk_cell BKad.out 0).trans rfl; have hcz8_1 : wr.cell? ⟨gbad, 1, none⟩ = some (.slice A0_1 l0_1.length c0_1) := (blk_cell BKad.out 1).trans rfl; have hcz8_2 : wr.cell? ⟨gbad, 2, none⟩ = some (.slice A0_2 l0_2.length c0_2) := (blk_cell BKad.out 2).trans rfl; have hfz8_0 := blk_frozen BKad.out 0; have hfz8_1 := blk_frozen BKad.out 1; have hfz8_2 := blk_frozen BKad.out 2; have p275 : 0 ≤ (x15_1 : Int) := of_decide_eq_true Zq9; have q275 : x15_1 < (l0_1.length : Int) := of_decide_eq_true Zq9; obtain ⟨adaU, AaU_1, caU_1, e275, hx275_0, hx275_1, hl275_1, hi275_1⟩ := at_T77 HR0_1.out x15_1 p275 q275
      cases e275
      replace hx275_0 := (HB.out.cell (World.block_lt_of_cell? w _ hx275_0)).trans hx275_0; replace hx275_1 := (HB.out.cell (World.block_lt_of_cell? w _ hx275_1)).trans hx275_1; have HRaU_1 := Ak hi275_1; have HCaU_1 := Ak hl275_1; clear hi275_1 hl275_1; replace p275 := eq_true p275; replace q275 := eq_true q275; have p276 : 0 ≤ (x15_1 : Int) := of_decide_eq_true Zq9; have q276 : x15_1 < (l0_1.length : Int) := of_decide_eq_true Zq9; obtain ⟨adaV, AaV_1, caV_1, e276, hx276_0, hx276_1, hl276_1, hi276_1⟩ := at_T77 HR0_1.out x15_1 p276 q276
      obtain rfl : adaU = adaV := (by injection e276)
      replace hx276_0 := (HB.out.cell (World.block_lt_of_cell? w _ hx276_0)).trans hx276_0; replace hx276_1 := (HB.out.cell (World.block_lt_of_cell? w _ hx276_1)).trans hx276_1; have HRaV_1 := Ak hi276_1; have HCaV_1 := Ak hl276_1; clear hi276_1 hl276_1; replace p276 := eq_true p276; replace q276 := eq_true q276; have ea_ := Option.some.inj (hx275_1.symm.trans hx276_1); injection ea_ with ea_ en_ ec_; subst ea_; subst ec_; clear en_
      go_wp2
      repeat (go_quiet (fail); try go_wp2)
      go_roundg k1
      case measure => have := HK1.out; omega
      case rel => exact ⟨(wrap64 ((wrap64 ((wrap64 (x5_1 + 1)) + (((rd_T77 l0_1 x15_1).f0).size : Int))) + (((rd_T77 l0_1 x15_1).f1).length : Int))), (wrap64 (x15_1 + 1)), Zq8, Zq8, H', ⟨Zq12⟩, ⟨Zq23⟩, ⟨Zq17⟩⟩
     ·rw [if_neg c7] at H; exact absurd H (by simp)
    ·rw [if_neg c6] at H; exact absurd H (by simp)
   ·rw [if_neg c5] at H; have c5b0 : decide (x15_1 < (l0_1.length : Int)) = false := decide_eq_false c5; clear c5; have H' := Ak H; clear H; have hcz9_0 : wr.cell? ⟨gbad, 0, none⟩ = some (.string a0_0) := (blk_cell BKad.out 0).trans rfl; have hcz9_1 : wr.cell? ⟨gbad, 1, none⟩ = some (.slice A0_1 l0_1.length c0_1) := (blk_cell BKad.out 1).trans rfl; have hcz9_2 : wr.cell? ⟨gbad, 2, none⟩ = some (.slice A0_2 l0_2.length c0_2) := (blk_cell BKad.out 2).trans rfl; have hfz9_0 := blk_frozen BKad.out 0; have hfz9_1 := blk_frozen BKad.out 1; have hfz9_2 := blk_frozen BKad.out 2
    go_wp2
    repeat (go_quiet (fail); try go_wp2)
    go_loopg [5, 40] k1 (fun kq v5 v40 w' => ∃ (x5_2 : Int) (x40_2 : Int), v5 = .int .i64 x5_2 ∧ v40 = .int .i64 x40_2 ∧ Aside0 (arboretlaw03_size.l1 kq a1 x5_2 (l0_2.length : Int) x40_2 a0_0 l0_1 l0_2 = some r) ∧ Aside0 (kq ≤ k1) ∧ Aside0 (w'.heap[gbad]? = some (.cells #[.string a0_0, (.slice A0_1 l0_1.length c0_1), (.slice A0_2 l0_2.length c0_2)] 30 (0, 0))) ∧ Aside0 (Below w.heap.size w w'))
    case atStart => exact ⟨(x5_1), (0), Zq8, Zq8, H', ⟨Nat.le_refl _⟩, ⟨Zq23⟩, ⟨Zq17⟩⟩
    case round =>
     clear H'
     try clear c2
     try clear p2
     try clear q2
     try clear hx2
     try clear c5
     try clear c5b0
     try clear c6
     try clear c6b0
     try clear p6
     try clear c7
     try clear c7b0
     try clear hcz4_0
     try clear hcz4_1
     try clear hcz4_2
     try clear hcz8_0
     try clear hcz8_1
     try clear hcz8_2
     try clear hcz9_0
     try clear hcz9_1
     try clear hcz9_2
     try clear hfz4_0
     try clear hfz4_1
     try clear hfz4_2
     try clear hfz8_0
     try clear hfz8_1
     try clear hfz8_2
     try clear hfz9_0
     try clear hfz9_1
     try clear hfz9_2
     try clear hx275_0
     try clear hx275_1
     try clear hx276_0
     try clear hx276_1
     try clear p2
     try clear p275
     try clear p276
     try clear q275
     try clear q276
     obtain ⟨x5_2, x40_2, rfl, rfl, HA, HK2, BKad, HB⟩ := hrel
     cases gk with
     | zero => exact absurd HA.out (by simp [arboretlaw03_size.l1])
     | succ k2 =>
      have H := HA.out; clear HA; simp only [arboretlaw03_size.l1] at H
      by_cases c10 : x40_2 < (l0_2.length : Int)
      ·rw [if_pos c10] at H; have c10b0 : decide (x40_2 < (l0_2.length : Int)) = true := decide_eq_true c10; clear c10
       by_cases c11 : a1 > 20
       ·rw [if_pos c11] at H; have c11b0 : decide (20 < a1) = true := decide_eq_true c11; clear c11; obtain rfl := Option.some.inj H
        go_wp2
        repeat (go_quiet (fail); try go_wp2)
        go_ret
        exact ⟨Zq10, Zq17⟩
       ·rw [if_neg c11] at H; have c11b0 : decide (20 < a1) = false := decide_eq_false c11; clear c11
        by_cases c12 : x5_2 > 100000
        ·rw [if_pos c12] at H; have c12b0 : decide (100000 < x5_2) = true := decide_eq_true c12; clear c12; obtain rfl := Option.some.inj H
         go_wp2
         repeat (go_quiet (fail); try go_wp2)
         go_ret
         exact ⟨Zq10, Zq17⟩
        ·rw [if_neg c12] at H; have c12b0 : decide (100000 < x5_2) = false := decide_eq_false c12; clear c12
         by_cases c13 : 0 ≤ x40_2
         ·rw [if_pos c13] at H; have c13b0 : decide (0 ≤ x40_2) = true := decide_eq_true c13; clear c13
          by_cases c14 : x40_2 < (l0_2.length : Int)
          ·rw [if_pos c14] at H; have c14b0 : decide (x40_2 < (l0_2.length : Int)) = true := decide_eq_true c14; clear c14; replace H := Option.bind_eq_some_iff.mp H; obtain ⟨taP, AaW, H⟩ := H; replace H : (arboretlaw03_size.l1 k2 a1 (wrap64 (x5_2 + taP)) (l0_2.length : Int) (wrap64 (x40_2 + 1)) a0_0 l0_1 l0_2) = some r := H; have A15 := Ak AaW; clear AaW; have H' := Ak H; clear H; have hcz16_0 : wr.cell? ⟨gbad, 0, none⟩ = some (.string a0_0) := (blk_cell BKad.out 0).trans rfl; have hcz16_1 : wr.cell? ⟨gbad, 1, none⟩ = some (.slice A0_1 l0_1.length c0_1) := (blk_cell BKad.out 1).trans rfl; have hcz16_2 : wr.cell? ⟨gbad, 2, none⟩ = some (.slice A0_2 l0_2.length c0_2) := (blk_cell BKad.out 2).trans rfl; have hfz16_0 := blk_frozen BKad.out 0; have hfz16_1 := blk_frozen BKad.out 1; have hfz16_2 := blk_frozen BKad.out 2; have p277 : 0 ≤ (x40_2 : Int) := of_decide_eq_true Zq9; have q277 : x40_2 < (l0_2.length : Int) := of_decide_eq_true Zq9; obtain ⟨aday, Aay_1, cay_1, Aay_2, cay_2, e277, hx277_0, hx277_1, hx277_2, hl277_1, hi277_1, hl277_2, hi277_2⟩ := at_T30 HR0_2.out x40_2 p277 q277
           cases e277
           replace hx277_0 := (HB.out.cell (World.block_lt_of_cell? w _ hx277_0)).trans hx277_0; replace hx277_1 := (HB.out.cell (World.block_lt_of_cell? w _ hx277_1)).trans hx277_1; replace hx277_2 := (HB.out.cell (World.block_lt_of_cell? w _ hx277_2)).trans hx277_2; have HRay_1 := Ak hi277_1; have HCay_1 := Ak hl277_1; clear hi277_1 hl277_1; have HRay_2 := Ak hi277_2; have HCay_2 := Ak hl277_2; clear hi277_2 hl277_2; replace p277 := eq_true p277; replace q277 := eq_true q277
           go_wp2_with (first | (go_at_call 28; (with_reducible refine (ih k2 (by have := HK1.out; have := HK2.out; omega) ((rd_T30 l0_2 x40_2).f0) _ _ ((rd_T30 l0_2 x40_2).f1) _ _ ((rd_T30 l0_2 x40_2).f2) (wrap64 (a1 + 1)) taP _ ?side1 ?side2 ?side3 ?side4 A15.out).mono ?_); (case side1 => repeat (first | exact (Kd.C_below HRay_1.out HB.out) | (with_reducible refine Kd.C_alloc ?_ _) | (with_reducible refine Kd.C_drewN ?_ _) | (with_reducible refine Kd.C_drew ?_))); (case side2 => exact HCay_1.out); (case side3 => repeat (first | exact (Kd.C_below HRay_2.out HB.out) | (with_reducible refine Kd.C_alloc ?_ _) | (with_reducible refine Kd.C_drewN ?_ _) | (with_reducible refine Kd.C_drew ?_))); (case side4 => exact HCay_2.out); rintro e w17 ⟨rfl, hb⟩; have n0_ := Zq50; have n1_ := Ak (below_step Zq17 hb); clear BKad HB; have BKad := n0_; have HB := n1_; clear n0_ n1_; (try clear hb); (try clear hb2); (try clear hk); (try clear hi)))
           repeat (go_quiet (first | (go_at_call 28; (with_reducible refine (ih k2 (by have := HK1.out; have := HK2.out; omega) ((rd_T30 l0_2 x40_2).f0) _ _ ((rd_T30 l0_2 x40_2).f1) _ _ ((rd_T30 l0_2 x40_2).f2) (wrap64 (a1 + 1)) taP _ ?side1 ?side2 ?side3 ?side4 A15.out).mono ?_); (case side1 => repeat (first | exact (Kd.C_below HRay_1.out HB.out) | (with_reducible refine Kd.C_alloc ?_ _) | (with_reducible refine Kd.C_drewN ?_ _) | (with_reducible refine Kd.C_drew ?_))); (case side2 => exact HCay_1.out); (case side3 => repeat (first | exact (Kd.C_below HRay_2.out HB.out) | (with_reducible refine Kd.C_alloc ?_ _) | (with_reducible refine Kd.C_drewN ?_ _) | (with_reducible refine Kd.C_drew ?_))); (case side4 => exact HCay_2.out); rintro e w17 ⟨rfl, hb⟩; have n0_ := Zq50; have n1_ := Ak (below_step Zq17 hb); clear BKad HB; have BKad := n0_; have HB := n1_; clear n0_ n1_; (try clear hb); (try clear hb2); (try clear hk); (try clear hi))); try go_wp2_with (first | (go_at_call 28; (with_reducible refine (ih k2 (by have := HK1.out; have := HK2.out; omega) ((rd_T30 l0_2 x40_2).f0) _ _ ((rd_T30 l0_2 x40_2).f1) _ _ ((rd_T30 l0_2 x40_2).f2) (wrap64 (a1 + 1)) taP _ ?side1 ?side2 ?side3 ?side4 A15.out).mono ?_); (case side1 => repeat (first | exact (Kd.C_below HRay_1.out HB.out) | (with_reducible refine Kd.C_alloc ?_ _) | (with_reducible refine Kd.C_drewN ?_ _) | (with_reducible refine Kd.C_drew ?_))); (case side2 => exact HCay_1.out); (case side3 => repeat (first | exact (Kd.C_below HRay_2.out HB.out) | (with_reducible refine Kd.C_alloc ?_ _) | (with_reducible refine Kd.C_drewN ?_ _) | (with_reducible refine Kd.C_drew ?_))); (case side4 => exact HCay_2.out); rintro e w17 ⟨rfl, hb⟩; have n0_ := Zq50; have n1_ := Ak (below_step Zq17 hb); clear BKad HB; have BKad := n0_; have HB := n1_; clear n0_ n1_; (try clear hb); (try clear hb2); (try clear hk); (try clear hi))))
           go_roundg k2
           case measure => have := HK1.out; have := HK2.out; omega
           case rel => exact ⟨(wrap64 (x5_2 + taP)), (wrap64 (x40_2 + 1)), Zq8, Zq8, H', ⟨by have := HK1.out; have := HK2.out; omega⟩, ⟨Zq23⟩, ⟨Zq17⟩⟩
          ·rw [if_neg c14] at H; exact absurd H (by simp)
         ·rw [if_neg c13] at H; exact absurd H (by simp)
      ·rw [if_neg c10] at H; have c10b0 : decide (x40_2 < (l0_2.length : Int)) = false := decide_eq_false c10; clear c10; obtain rfl := Option.some.inj H
       go_wp2
       repeat (go_quiet (fail); try go_wp2)
       go_ret
       exact ⟨Zq10, Zq17⟩
def arboretref01_Find.l0 : Nat → ByteArray → Int → Int → ByteArray → List (S77) → List (S30) → Option (Int)
 | 0, _, _, _, _, _, _ => none
 | k + 1, x1, x8, x9, xbD, xbe, xbE => if x9 < x8 then (if 0 ≤ x9 then (if x9 < (xbe.length : Int) then (if ((rd_T77 xbe x9).f0).toList = x1.toList then (some x9) else (arboretref01_Find.l0 k x1 x8 (wrap64 (x9 + 1)) xbD xbe xbE)) else (none)) else (none)) else (some (-1))
def arboretref01_Find.f (k : Nat) (a0_0 : ByteArray) (l0_1 : List (S77)) (l0_2 : List (S30)) (a1 : ByteArray) : Option (Int) := arboretref01_Find.l0 k a1 (l0_1.length : Int) 0 a0_0 l0_1 l0_2
set_option maxHeartbeats 8000000 in
set_option maxRecDepth 100000 in
theorem arboretref01_Find.calls (k : Nat) (a0_0 : ByteArray) (A0_1 : Option Addr) (c0_1 : Nat) (l0_1 : List (S77)) (A0_2 : Option Addr) (c0_2 : Nat) (l0_2 : List (S30)) (a1 : ByteArray) (r : Int) (w : World) (hr0_1 : Kd.C k77 w A0_1 l0_1.length l0_1) (hc0_1 : l0_1.length ≤ c0_1) (hr0_2 : Kd.C k30 w A0_2 l0_2.length l0_2) (hc0_2 : l0_2.length ≤ c0_2) (h : arboretref01_Find.f k a0_0 l0_1 l0_2 a1 = some r) :
  Calls Try.prog 32 #[.agg #[.string a0_0, .slice A0_1 l0_1.length c0_1, .slice A0_2 l0_2.length c0_2], .string a1] w fun e w' => e = .returned (.int .i64 r) ∧ Below w.heap.size w w' := by
 have hu30 := Try.underlying30; have HR0_1 := Ak hr0_1; have HC0_1 := Ak hc0_1; clear hr0_1 hc0_1; have HR0_2 := Ak hr0_2; have HC0_2 := Ak hc0_2; clear hr0_2 hc0_2; have HB := Zq54; have H : (arboretref01_Find.l0 k a1 (l0_1.length : Int) 0 a0_0 l0_1 l0_2) = some r := h; clear h; have H' := Ak H; clear H
 go_enter Try.func32, Try.ntmps32
 go_wp2_with (first | ((with_reducible refine gate_dst (N := 2) rfl ?_); refine box_event ?hg (N := 2) ?hd (cs := #[.string a0_0, .slice A0_1 l0_1.length c0_1, .slice A0_2 l0_2.length c0_2]) (t := 30) ?hr ?_; (case hd | hg => rfl); (case hr => first | (go_simp; done) | (go_simp; rfl)); intro gbak hg w3 hbox hb; have n0_ := Zq40; have n1_ := Ak (hbox); have n2_ := Ak ((by rw [hg]; exact (below_size Zq6) : w.heap.size ≤ gbak)); have n3_ := Ak ((by rw [hg]; exact (below_size Zq6) : w.heap.size ≤ gbak)); clear HB; have HB := n0_; have BKak := n1_; have GWak := n2_; have GEak := n3_; clear n0_ n1_ n2_ n3_ hb hbox hg; have hcz4_0 : w3.cell? ⟨gbak, 0, none⟩ = some (.string a0_0) := (blk_cell BKak.out 0).trans rfl; have hcz4_1 : w3.cell? ⟨gbak, 1, none⟩ = some (.slice A0_1 l0_1.length c0_1) := (blk_cell BKak.out 1).trans rfl; have hcz4_2 : w3.cell? ⟨gbak, 2, none⟩ = some (.slice A0_2 l0_2.length c0_2) := (blk_cell BKak.out 2).trans rfl; have hfz4_0 := blk_frozen BKak.out 0; have hfz4_1 := blk_frozen BKak.out 1; have hfz4_2 := blk_frozen BKak.out 2))
 go_loopg [9] k (fun kq v9 w' => ∃ (x9_1 : Int), v9 = .int .i64 x9_1 ∧ Aside0 (arboretref01_Find.l0 kq a1 (l0_1.length : Int) x9_1 a0_0 l0_1 l0_2 = some r) ∧ Aside0 (kq ≤ k) ∧ Aside0 (w'.heap[gbak]? = some (.cells #[.string a0_0, (.slice A0_1 l0_1.length c0_1), (.slice A0_2 l0_2.length c0_2)] 30 (0, 0))) ∧ Aside0 (Below w.heap.size w w'))
 case atStart => exact ⟨(0), Zq8, H', ⟨Nat.le_refl _⟩, ⟨by (with_reducible repeat (first | refine blk_drewN ?_ _ | refine blk_drew ?_ | refine blk_alloc ?_ _)); exact BKak.out⟩, ⟨Zq27⟩⟩
 case round =>
  clear H'
  try clear p2
  try clear c3
  try clear hcz4_0
  try clear hcz4_1
  try clear hcz4_2
  try clear hfz4_0
  try clear hfz4_1
  try clear hfz4_2
  obtain ⟨x9_1, rfl, HA, HK1, BKak, HB⟩ := hrel
  cases gk with
  | zero => exact absurd HA.out (by simp [arboretref01_Find.l0])
  | succ k1 =>
   have H := HA.out; clear HA; simp only [arboretref01_Find.l0] at H
   by_cases c5 : x9_1 < (l0_1.length : Int)
   ·rw [if_pos c5] at H; have c5b0 : decide (x9_1 < (l0_1.length : Int)) = true := decide_eq_true c5; clear c5
    by_cases c6 : 0 ≤ x9_1
    ·rw [if_pos c6] at H; have c6b0 : decide (0 ≤ x9_1) = true := decide_eq_true c6; clear c6
     by_cases c7 : x9_1 < (l0_1.length : Int)
     ·rw [if_pos c7] at H; have c7b0 : decide (x9_1 < (l0_1.length : Int)) = true := decide_eq_true c7; clear c7
      by_cases c8 : ((rd_T77 l0_1 x9_1).f0).toList = a1.toList
      ·rw [if_pos c8] at H; have c8b0 : (((rd_T77 l0_1 x9_1).f0).toList == a1.toList) = true := beq_iff_eq.mpr c8; have c8b1 : (((rd_T77 l0_1 x9_1).f0).toList != a1.toList) = false := bne_eq_false_iff_eq.mpr c8; clear c8; obtain rfl := Option.some.inj H; have hcz9_0 : wr.cell? ⟨gbak, 0, none⟩ = some (.string a0_0) := (blk_cell BKak.out 0).trans rfl; have hcz9_1 : wr.cell? ⟨gbak, 1, none⟩ = some (.slice A0_1 l0_1.length c0_1) := (blk_cell BKak.out 1).trans rfl; have hcz9_2 : wr.cell? ⟨gbak, 2, none⟩ = some (.slice A0_2 l0_2.length c0_2) := (blk_cell BKak.out 2).trans rfl; have hfz9_0 := blk_frozen BKak.out 0; have hfz9_1 := blk_frozen BKak.out 1; have hfz9_2 := blk_frozen BKak.out 2; have p282 : 0 ≤ (x9_1 : Int) := of_decide_eq_true Zq9; have q282 : x9_1 < (l0_1.length : Int) := of_decide_eq_true Zq9; obtain ⟨adaL, AaL_1, caL_1, e282, hx282_0, hx282_1, hl282_1, hi282_1⟩ := at_T77 HR0_1.out x9_1 p282 q282
       cases e282
       replace hx282_0 := (HB.out.cell (World.block_lt_of_cell? w _ hx282_0)).trans hx282_0; replace hx282_1 := (HB.out.cell (World.block_lt_of_cell? w _ hx282_1)).trans hx282_1; have HRaL_1 := Ak hi282_1; have HCaL_1 := Ak hl282_1; clear hi282_1 hl282_1; replace p282 := eq_true p282; replace q282 := eq_true q282
       go_wp2
       go_ret
       exact ⟨Zq10, Zq27⟩
      ·rw [if_neg c8] at H; have c8b0 : (((rd_T77 l0_1 x9_1).f0).toList == a1.toList) = false := beq_eq_false_iff_ne.mpr c8; have c8b1 : (((rd_T77 l0_1 x9_1).f0).toList != a1.toList) = true := bne_iff_ne.mpr c8; have H' := Ak H; clear H; have hcz10_0 : wr.cell? ⟨gbak, 0, none⟩ = some (.string a0_0) := (blk_cell BKak.out 0).trans rfl; have hcz10_1 : wr.cell? ⟨gbak, 1, none⟩ = some (.slice A0_1 l0_1.length c0_1) := (blk_cell BKak.out 1).trans rfl; have hcz10_2 : wr.cell? ⟨gbak, 2, none⟩ = some (.slice A0_2 l0_2.length c0_2) := (blk_cell BKak.out 2).trans rfl; have hfz10_0 := blk_frozen BKak.out 0; have hfz10_1 := blk_frozen BKak.out 1; have hfz10_2 := blk_frozen BKak.out 2; have p282 : 0 ≤ (x9_1 : Int) := of_decide_eq_true Zq9; have q282 : x9_1 < (l0_1.length : Int) := of_decide_eq_true Zq9; obtain ⟨adaL, AaL_1, caL_1, e282, hx282_0, hx282_1, hl282_1, hi282_1⟩ := at_T77 HR0_1.out x9_1 p282 q282
       cases e282
       replace hx282_0 := (HB.out.cell (World.block_lt_of_cell? w _ hx282_0)).trans hx282_0; replace hx282_1 := (HB.out.cell (World.block_lt_of_cell? w _ hx282_1)).trans hx282_1; have HRaL_1 := Ak hi282_1; have HCaL_1 := Ak hl282_1; clear hi282_1 hl282_1; replace p282 := eq_true p282; replace q282 := eq_true q282
       go_wp2
       go_roundg k1
       case measure => have := HK1.out; omega
       case rel => exact ⟨(wrap64 (x9_1 + 1)), Zq8, H', ⟨Zq12⟩, ⟨by (with_reducible repeat (first | refine blk_drewN ?_ _ | refine blk_drew ?_ | refine blk_alloc ?_ _)); exact BKak.out⟩, ⟨Zq27⟩⟩
     ·rw [if_neg c7] at H; exact absurd H (by simp)
    ·rw [if_neg c6] at H; exact absurd H (by simp)
   ·rw [if_neg c5] at H; have c5b0 : decide (x9_1 < (l0_1.length : Int)) = false := decide_eq_false c5; clear c5; obtain rfl := Option.some.inj H
    go_wp2
    go_ret
    exact ⟨Zq10, Zq27⟩
mutual
def arboretref01_Count.l0 : Nat → Int → Int → Int → Int → ByteArray → List (S77) → List (S30) → Option (Int × Int)
 | 0, _, _, _, _, _, _, _ => none
 | k + 1, x4, x5, x14, x15, xbF, xbG, xaX => if x15 < x14 then (if 0 ≤ x15 then (if x15 < (xaX.length : Int) then ((arboretref01_Count.f k ((rd_T30 xaX x15).f0) ((rd_T30 xaX x15).f1) ((rd_T30 xaX x15).f2)).bind fun btaM => (arboretref01_Count.l0 k (wrap64 (x4 + btaM.1)) (wrap64 (x5 + btaM.2)) x14 (wrap64 (x15 + 1)) xbF xbG xaX)) else (none)) else (none)) else (some (x4, x5))
def arboretref01_Count.f : Nat → ByteArray → List (S77) → List (S30) → Option (Int × Int)
 | 0, _, _, _ => none
 | k + 1, a0_0, l0_1, l0_2 => arboretref01_Count.l0 k 1 (l0_1.length : Int) (l0_2.length : Int) 0 a0_0 l0_1 l0_2
end
set_option maxHeartbeats 8000000 in
set_option maxRecDepth 100000 in
theorem arboretref01_Count.calls (k : Nat) : ∀ (a0_0 : ByteArray) (A0_1 : Option Addr) (c0_1 : Nat) (l0_1 : List (S77)) (A0_2 : Option Addr) (c0_2 : Nat) (l0_2 : List (S30)) (r1 : Int) (r2 : Int) (w : World) (hr0_1 : Kd.C k77 w A0_1 l0_1.length l0_1) (hc0_1 : l0_1.length ≤ c0_1) (hr0_2 : Kd.C k30 w A0_2 l0_2.length l0_2) (hc0_2 : l0_2.length ≤ c0_2) (h : arboretref01_Count.f k a0_0 l0_1 l0_2 = some (r1, r2)),
  Calls Try.prog 30 #[.agg #[.string a0_0, .slice A0_1 l0_1.length c0_1, .slice A0_2 l0_2.length c0_2]] w fun e w' => e = .returned (.tuple #[.int .i64 r1, .int .i64 r2]) ∧ Below w.heap.size w w' := by
 induction k using Nat.strongRecOn with
 | _ k ih =>
 intro a0_0 A0_1 c0_1 l0_1 A0_2 c0_2 l0_2 r1 r2 w hr0_1 hc0_1 hr0_2 hc0_2 h
 cases k with
 | zero => exact absurd h (by simp [arboretref01_Count.f])
 | succ k =>
 simp only [arboretref01_Count.f] at h; have hu30 := Try.underlying30; have HR0_1 := Ak hr0_1; have HC0_1 := Ak hc0_1; clear hr0_1 hc0_1; have HR0_2 := Ak hr0_2; have HC0_2 := Ak hc0_2; clear hr0_2 hc0_2; have HB := Zq54; have H : (arboretref01_Count.l0 k 1 (l0_1.length : Int) (l0_2.length : Int) 0 a0_0 l0_1 l0_2) = some (r1, r2) := h; clear h; have H' := Ak H; clear H
 go_enter Try.func30, Try.ntmps30
 go_wp2_with (first | ((with_reducible refine gate_dst (N := 1) rfl ?_); refine box_event ?hg (N := 1) ?hd (cs := #[.string a0_0, .slice A0_1 l0_1.length c0_1, .slice A0_2 l0_2.length c0_2]) (t := 30) ?hr ?_; (case hd | hg => rfl); (case hr => first | (go_simp; done) | (go_simp; rfl)); intro gbaf hg w2 hbox hb; have n0_ := Zq40; have n1_ := Ak (hbox); have n2_ := Zq44; have n3_ := Zq44; clear HB; have HB := n0_; have BKaf := n1_; have GWaf := n2_; have GEaf := n3_; clear n0_ n1_ n2_ n3_ hb hbox hg; have hcz3_0 : w2.cell? ⟨gbaf, 0, none⟩ = some (.string a0_0) := (blk_cell BKaf.out 0).trans rfl; have hcz3_1 : w2.cell? ⟨gbaf, 1, none⟩ = some (.slice A0_1 l0_1.length c0_1) := (blk_cell BKaf.out 1).trans rfl; have hcz3_2 : w2.cell? ⟨gbaf, 2, none⟩ = some (.slice A0_2 l0_2.length c0_2) := (blk_cell BKaf.out 2).trans rfl; have hfz3_0 := blk_frozen BKaf.out 0; have hfz3_1 := blk_frozen BKaf.out 1; have hfz3_2 := blk_frozen BKaf.out 2))
 repeat (go_quiet (first | ((with_reducible refine gate_dst (N := 1) rfl ?_); refine box_event ?hg (N := 1) ?hd (cs := #[.string a0_0, .slice A0_1 l0_1.length c0_1, .slice A0_2 l0_2.length c0_2]) (t := 30) ?hr ?_; (case hd | hg => rfl); (case hr => first | (go_simp; done) | (go_simp; rfl)); intro gbaf hg w2 hbox hb; have n0_ := Zq40; have n1_ := Ak (hbox); have n2_ := Zq44; have n3_ := Zq44; clear HB; have HB := n0_; have BKaf := n1_; have GWaf := n2_; have GEaf := n3_; clear n0_ n1_ n2_ n3_ hb hbox hg; have hcz3_0 : w2.cell? ⟨gbaf, 0, none⟩ = some (.string a0_0) := (blk_cell BKaf.out 0).trans rfl; have hcz3_1 : w2.cell? ⟨gbaf, 1, none⟩ = some (.slice A0_1 l0_1.length c0_1) := (blk_cell BKaf.out 1).trans rfl; have hcz3_2 : w2.cell? ⟨gbaf, 2, none⟩ = some (.slice A0_2 l0_2.length c0_2) := (blk_cell BKaf.out 2).trans rfl; have hfz3_0 := blk_frozen BKaf.out 0; have hfz3_1 := blk_frozen BKaf.out 1; have hfz3_2 := blk_frozen BKaf.out 2)); try go_wp2_with (first | ((with_reducible refine gate_dst (N := 1) rfl ?_); refine box_event ?hg (N := 1) ?hd (cs := #[.string a0_0, .slice A0_1 l0_1.length c0_1, .slice A0_2 l0_2.length c0_2]) (t := 30) ?hr ?_; (case hd | hg => rfl); (case hr => first | (go_simp; done) | (go_simp; rfl)); intro gbaf hg w2 hbox hb; have n0_ := Zq40; have n1_ := Ak (hbox); have n2_ := Zq44; have n3_ := Zq44; clear HB; have HB := n0_; have BKaf := n1_; have GWaf := n2_; have GEaf := n3_; clear n0_ n1_ n2_ n3_ hb hbox hg; have hcz3_0 : w2.cell? ⟨gbaf, 0, none⟩ = some (.string a0_0) := (blk_cell BKaf.out 0).trans rfl; have hcz3_1 : w2.cell? ⟨gbaf, 1, none⟩ = some (.slice A0_1 l0_1.length c0_1) := (blk_cell BKaf.out 1).trans rfl; have hcz3_2 : w2.cell? ⟨gbaf, 2, none⟩ = some (.slice A0_2 l0_2.length c0_2) := (blk_cell BKaf.out 2).trans rfl; have hfz3_0 := blk_frozen BKaf.out 0; have hfz3_1 := blk_frozen BKaf.out 1; have hfz3_2 := blk_frozen BKaf.out 2)))
 go_loopg [4, 5, 15] k (fun kq v4 v5 v15 w' => ∃ (x4_1 : Int) (x5_1 : Int) (x15_1 : Int), v4 = .int .i64 x4_1 ∧ v5 = .int .i64 x5_1 ∧ v15 = .int .i64 x15_1 ∧ Aside0 (arboretref01_Count.l0 kq x4_1 x5_1 (l0_2.length : Int) x15_1 a0_0 l0_1 l0_2 = some (r1, r2)) ∧ Aside0 (kq ≤ k) ∧ Aside0 (w'.heap[gbaf]? = some (.cells #[.string a0_0, (.slice A0_1 l0_1.length c0_1), (.slice A0_2 l0_2.length c0_2)] 30 (0, 0))) ∧ Aside0 (Below w.heap.size w w'))
 case atStart => exact ⟨(1), ((l0_1.length : Int)), (0), Zq8, Zq8, Zq8, H', ⟨Nat.le_refl _⟩, ⟨Zq26⟩, ⟨Zq24⟩⟩
 case round =>
  clear H'
  try clear p2
  try clear c3
  try clear hcz3_0
  try clear hcz3_1
  try clear hcz3_2
  try clear hfz3_0
  try clear hfz3_1
  try clear hfz3_2
  obtain ⟨x4_1, x5_1, x15_1, rfl, rfl, rfl, HA, HK1, BKaf, HB⟩ := hrel
  cases gk with
  | zero => exact absurd HA.out (by simp [arboretref01_Count.l0])
  | succ k1 =>
   have H := HA.out; clear HA; simp only [arboretref01_Count.l0] at H
   by_cases c4 : x15_1 < (l0_2.length : Int)
   ·rw [if_pos c4] at H; have c4b0 : decide (x15_1 < (l0_2.length : Int)) = true := decide_eq_true c4; clear c4
    by_cases c5 : 0 ≤ x15_1
    ·rw [if_pos c5] at H; have c5b0 : decide (0 ≤ x15_1) = true := decide_eq_true c5; clear c5
     by_cases c6 : x15_1 < (l0_2.length : Int)
     ·rw [if_pos c6] at H; have c6b0 : decide (x15_1 < (l0_2.length : Int)) = true := decide_eq_true c6; clear c6; replace H := Option.bind_eq_some_iff.mp H; obtain ⟨⟨taM, taY⟩, A70, H⟩ := H; replace H : (arboretref01_Count.l0 k1 (wrap64 (x4_1 + taM)) (wrap64 (x5_1 + taY)) (l0_2.length : Int) (wrap64 (x15_1 + 1)) a0_0 l0_1 l0_2) = some (r1, r2) := H; have A7 := Ak A70; clear A70; have H' := Ak H; clear H; have hcz8_0 : wr.cell? ⟨gbaf, 0, none⟩ = some (.string a0_0) := (blk_cell BKaf.out 0).trans rfl; have hcz8_1 : wr.cell? ⟨gbaf, 1, none⟩ = some (.slice A0_1 l0_1.length c0_1) := (blk_cell BKaf.out 1).trans rfl; have hcz8_2 : wr.cell? ⟨gbaf, 2, none⟩ = some (.slice A0_2 l0_2.length c0_2) := (blk_cell BKaf.out 2).trans rfl; have hfz8_0 := blk_frozen BKaf.out 0; have hfz8_1 := blk_frozen BKaf.out 1; have hfz8_2 := blk_frozen BKaf.out 2; have p348 : 0 ≤ (x15_1 : Int) := of_decide_eq_true Zq9; have q348 : x15_1 < (l0_2.length : Int) := of_decide_eq_true Zq9; obtain ⟨adaz, Aaz_1, caz_1, Aaz_2, caz_2, e348, hx348_0, hx348_1, hx348_2, hl348_1, hi348_1, hl348_2, hi348_2⟩ := at_T30 HR0_2.out x15_1 p348 q348
      cases e348
      replace hx348_0 := (HB.out.cell (World.block_lt_of_cell? w _ hx348_0)).trans hx348_0; replace hx348_1 := (HB.out.cell (World.block_lt_of_cell? w _ hx348_1)).trans hx348_1; replace hx348_2 := (HB.out.cell (World.block_lt_of_cell? w _ hx348_2)).trans hx348_2; have HRaz_1 := Ak hi348_1; have HCaz_1 := Ak hl348_1; clear hi348_1 hl348_1; have HRaz_2 := Ak hi348_2; have HCaz_2 := Ak hl348_2; clear hi348_2 hl348_2; replace p348 := eq_true p348; replace q348 := eq_true q348
      go_wp2_with (first | (go_at_call 30; (with_reducible refine (ih k1 Zq12 ((rd_T30 l0_2 x15_1).f0) _ _ ((rd_T30 l0_2 x15_1).f1) _ _ ((rd_T30 l0_2 x15_1).f2) taM taY _ ?side1 ?side2 ?side3 ?side4 A7.out).mono ?_); (case side1 => repeat (first | exact (Kd.C_below HRaz_1.out HB.out) | (with_reducible refine Kd.C_alloc ?_ _) | (with_reducible refine Kd.C_drewN ?_ _) | (with_reducible refine Kd.C_drew ?_))); (case side2 => exact HCaz_1.out); (case side3 => repeat (first | exact (Kd.C_below HRaz_2.out HB.out) | (with_reducible refine Kd.C_alloc ?_ _) | (with_reducible refine Kd.C_drewN ?_ _) | (with_reducible refine Kd.C_drew ?_))); (case side4 => exact HCaz_2.out); rintro e w9 ⟨rfl, hb⟩; have n0_ := Zq51; have n1_ := Ak (below_step Zq24 hb); clear BKaf HB; have BKaf := n0_; have HB := n1_; clear n0_ n1_; (try clear hb); (try clear hb2); (try clear hk); (try clear hi)))
      repeat (go_quiet (first | (go_at_call 30; (with_reducible refine (ih k1 Zq12 ((rd_T30 l0_2 x15_1).f0) _ _ ((rd_T30 l0_2 x15_1).f1) _ _ ((rd_T30 l0_2 x15_1).f2) taM taY _ ?side1 ?side2 ?side3 ?side4 A7.out).mono ?_); (case side1 => repeat (first | exact (Kd.C_below HRaz_1.out HB.out) | (with_reducible refine Kd.C_alloc ?_ _) | (with_reducible refine Kd.C_drewN ?_ _) | (with_reducible refine Kd.C_drew ?_))); (case side2 => exact HCaz_1.out); (case side3 => repeat (first | exact (Kd.C_below HRaz_2.out HB.out) | (with_reducible refine Kd.C_alloc ?_ _) | (with_reducible refine Kd.C_drewN ?_ _) | (with_reducible refine Kd.C_drew ?_))); (case side4 => exact HCaz_2.out); rintro e w9 ⟨rfl, hb⟩; have n0_ := Zq51; have n1_ := Ak (below_step Zq24 hb); clear BKaf HB; have BKaf := n0_; have HB := n1_; clear n0_ n1_; (try clear hb); (try clear hb2); (try clear hk); (try clear hi))); try go_wp2_with (first | (go_at_call 30; (with_reducible refine (ih k1 Zq12 ((rd_T30 l0_2 x15_1).f0) _ _ ((rd_T30 l0_2 x15_1).f1) _ _ ((rd_T30 l0_2 x15_1).f2) taM taY _ ?side1 ?side2 ?side3 ?side4 A7.out).mono ?_); (case side1 => repeat (first | exact (Kd.C_below HRaz_1.out HB.out) | (with_reducible refine Kd.C_alloc ?_ _) | (with_reducible refine Kd.C_drewN ?_ _) | (with_reducible refine Kd.C_drew ?_))); (case side2 => exact HCaz_1.out); (case side3 => repeat (first | exact (Kd.C_below HRaz_2.out HB.out) | (with_reducible refine Kd.C_alloc ?_ _) | (with_reducible refine Kd.C_drewN ?_ _) | (with_reducible refine Kd.C_drew ?_))); (case side4 => exact HCaz_2.out); rintro e w9 ⟨rfl, hb⟩; have n0_ := Zq51; have n1_ := Ak (below_step Zq24 hb); clear BKaf HB; have BKaf := n0_; have HB := n1_; clear n0_ n1_; (try clear hb); (try clear hb2); (try clear hk); (try clear hi))))
      go_roundg k1
      case measure => have := HK1.out; omega
      case rel => exact ⟨(wrap64 (x4_1 + taM)), (wrap64 (x5_1 + taY)), (wrap64 (x15_1 + 1)), Zq8, Zq8, Zq8, H', ⟨Zq12⟩, ⟨Zq26⟩, ⟨Zq24⟩⟩
     ·rw [if_neg c6] at H; exact absurd H (by simp)
    ·rw [if_neg c5] at H; exact absurd H (by simp)
   ·rw [if_neg c4] at H; have c4b0 : decide (x15_1 < (l0_2.length : Int)) = false := decide_eq_false c4; clear c4; simp only [Option.some.injEq, Prod.mk.injEq] at H; obtain ⟨rfl, rfl⟩ := H
    go_wp2
    repeat (go_quiet (fail); try go_wp2)
    go_ret2
    exact ⟨Zq10, Zq24⟩
mutual
def tree_Count.l0 : Nat → Int → Int → List (S30) → Int → Int → Option (Int × Int)
 | 0, _, _, _, _, _ => none
 | k + 1, x4, x5, x14, x15, x16 => if x16 < x15 then (if 0 ≤ x16 then (if x16 < (x14.length : Int) then ((tree_Count.f k ((rd_T30 x14 x16).f0) ((rd_T30 x14 x16).f1) ((rd_T30 x14 x16).f2)).bind fun btaN => (tree_Count.l0 k (wrap64 (x4 + btaN.1)) (wrap64 (x5 + btaN.2)) x14 x15 (wrap64 (x16 + 1)))) else (none)) else (none)) else (some (x4, x5))
def tree_Count.f : Nat → ByteArray → List (S77) → List (S30) → Option (Int × Int)
 | 0, _, _, _ => none
 | k + 1, a0_0, l0_1, l0_2 => tree_Count.l0 k 1 (l0_1.length : Int) l0_2 (l0_2.length : Int) 0
end
end Go.Proofs.Yteejaaeglfpcmab.PX

namespace Go.Proofs.Yteejaaeglfpcmab.PX
open Go.RowKit Go.Proofs.YteejaaeglfpcmabW.PrintWords Go.Proofs.YteejaaeglfpcmabW.PrintLast Go.Proofs.YteejaaeglfpcmabW.PrintMore
attribute [local go_sem] max2_int min2_int max_two min_two max_three min_three max_four min_four
set_option maxHeartbeats 8000000 in
set_option maxRecDepth 100000 in
theorem tree_Count.calls (k : Nat) : ∀ (a0_0 : ByteArray) (A0_1 : Option Addr) (c0_1 : Nat) (l0_1 : List (S77)) (A0_2 : Option Addr) (c0_2 : Nat) (l0_2 : List (S30)) (r1 : Int) (r2 : Int) (w : World) (hr0_1 : Kd.C k77 w A0_1 l0_1.length l0_1) (hc0_1 : l0_1.length ≤ c0_1) (hr0_2 : Kd.C k30 w A0_2 l0_2.length l0_2) (hc0_2 : l0_2.length ≤ c0_2) (h : tree_Count.f k a0_0 l0_1 l0_2 = some (r1, r2)),
  Calls Try.prog 29 #[.agg #[.string a0_0, .slice A0_1 l0_1.length c0_1, .slice A0_2 l0_2.length c0_2]] w fun e w' => e = .returned (.tuple #[.int .i64 r1, .int .i64 r2]) ∧ Below w.heap.size w w' := by
 induction k using Nat.strongRecOn with
 | _ k ih =>
 intro a0_0 A0_1 c0_1 l0_1 A0_2 c0_2 l0_2 r1 r2 w hr0_1 hc0_1 hr0_2 hc0_2 h
 cases k with
 | zero => exact absurd h (by simp [tree_Count.f])
 | succ k =>
 simp only [tree_Count.f] at h; have hu30 := Try.underlying30; have HR0_1 := Ak hr0_1; have HC0_1 := Ak hc0_1; clear hr0_1 hc0_1; have HR0_2 := Ak hr0_2; have HC0_2 := Ak hc0_2; clear hr0_2 hc0_2; have HB := Zq54; have H : (tree_Count.l0 k 1 (l0_1.length : Int) l0_2 (l0_2.length : Int) 0) = some (r1, r2) := h; clear h; have H' := Ak H; clear H
 go_enter Try.func29, Try.ntmps29
 go_wp2_with (first | ((with_reducible refine gate_dst (N := 1) rfl ?_); refine box_event ?hg (N := 1) ?hd (cs := #[.string a0_0, .slice A0_1 l0_1.length c0_1, .slice A0_2 l0_2.length c0_2]) (t := 30) ?hr ?_; (case hd | hg => rfl); (case hr => first | (go_simp; done) | (go_simp; rfl)); intro gbae hg w2 hbox hb; have n0_ := Zq40; have n1_ := Ak (hbox); have n2_ := Zq45; have n3_ := Zq45; clear HB; have HB := n0_; have BKae := n1_; have GWae := n2_; have GEae := n3_; clear n0_ n1_ n2_ n3_ hb hbox hg; have hcz3_0 : w2.cell? ⟨gbae, 0, none⟩ = some (.string a0_0) := (blk_cell BKae.out 0).trans rfl; have hcz3_1 : w2.cell? ⟨gbae, 1, none⟩ = some (.slice A0_1 l0_1.length c0_1) := (blk_cell BKae.out 1).trans rfl; have hcz3_2 : w2.cell? ⟨gbae, 2, none⟩ = some (.slice A0_2 l0_2.length c0_2) := (blk_cell BKae.out 2).trans rfl; have hfz3_0 := blk_frozen BKae.out 0; have hfz3_1 := blk_frozen BKae.out 1; have hfz3_2 := blk_frozen BKae.out 2))
 repeat (go_quiet (first | ((with_reducible refine gate_dst (N := 1) rfl ?_); refine box_event ?hg (N := 1) ?hd (cs := #[.string a0_0, .slice A0_1 l0_1.length c0_1, .slice A0_2 l0_2.length c0_2]) (t := 30) ?hr ?_; (case hd | hg => rfl); (case hr => first | (go_simp; done) | (go_simp; rfl)); intro gbae hg w2 hbox hb; have n0_ := Zq40; have n1_ := Ak (hbox); have n2_ := Zq45; have n3_ := Zq45; clear HB; have HB := n0_; have BKae := n1_; have GWae := n2_; have GEae := n3_; clear n0_ n1_ n2_ n3_ hb hbox hg; have hcz3_0 : w2.cell? ⟨gbae, 0, none⟩ = some (.string a0_0) := (blk_cell BKae.out 0).trans rfl; have hcz3_1 : w2.cell? ⟨gbae, 1, none⟩ = some (.slice A0_1 l0_1.length c0_1) := (blk_cell BKae.out 1).trans rfl; have hcz3_2 : w2.cell? ⟨gbae, 2, none⟩ = some (.slice A0_2 l0_2.length c0_2) := (blk_cell BKae.out 2).trans rfl; have hfz3_0 := blk_frozen BKae.out 0; have hfz3_1 := blk_frozen BKae.out 1; have hfz3_2 := blk_frozen BKae.out 2)); try go_wp2_with (first | ((with_reducible refine gate_dst (N := 1) rfl ?_); refine box_event ?hg (N := 1) ?hd (cs := #[.string a0_0, .slice A0_1 l0_1.length c0_1, .slice A0_2 l0_2.length c0_2]) (t := 30) ?hr ?_; (case hd | hg => rfl); (case hr => first | (go_simp; done) | (go_simp; rfl)); intro gbae hg w2 hbox hb; have n0_ := Zq40; have n1_ := Ak (hbox); have n2_ := Zq45; have n3_ := Zq45; clear HB; have HB := n0_; have BKae := n1_; have GWae := n2_; have GEae := n3_; clear n0_ n1_ n2_ n3_ hb hbox hg; have hcz3_0 : w2.cell? ⟨gbae, 0, none⟩ = some (.string a0_0) := (blk_cell BKae.out 0).trans rfl; have hcz3_1 : w2.cell? ⟨gbae, 1, none⟩ = some (.slice A0_1 l0_1.length c0_1) := (blk_cell BKae.out 1).trans rfl; have hcz3_2 : w2.cell? ⟨gbae, 2, none⟩ = some (.slice A0_2 l0_2.length c0_2) := (blk_cell BKae.out 2).trans rfl; have hfz3_0 := blk_frozen BKae.out 0; have hfz3_1 := blk_frozen BKae.out 1; have hfz3_2 := blk_frozen BKae.out 2)))
 go_loopg [4, 5, 16] k (fun kq v4 v5 v16 w' => ∃ (x4_1 : Int) (x5_1 : Int) (x16_1 : Int), v4 = .int .i64 x4_1 ∧ v5 = .int .i64 x5_1 ∧ v16 = .int .i64 x16_1 ∧ Aside0 (tree_Count.l0 kq x4_1 x5_1 l0_2 (l0_2.length : Int) x16_1 = some (r1, r2)) ∧ Aside0 (kq ≤ k) ∧ Aside0 (w'.heap[gbae]? = some (.cells #[.string a0_0, (.slice A0_1 l0_1.length c0_1), (.slice A0_2 l0_2.length c0_2)] 30 (0, 0))) ∧ Aside0 (Below w.heap.size w w'))
 case atStart => exact ⟨(1), ((l0_1.length : Int)), (0), Zq8, Zq8, Zq8, H', ⟨Nat.le_refl _⟩, ⟨Zq15⟩, ⟨Zq16⟩⟩
 case round =>
  clear H'
  try clear c2
  try clear p2
  try clear hcz3_0
  try clear hcz3_1
  try clear hcz3_2
  try clear hfz3_0
  try clear hfz3_1
  try clear hfz3_2
  obtain ⟨x4_1, x5_1, x16_1, rfl, rfl, rfl, HA, HK1, BKae, HB⟩ := hrel
  cases gk with
  | zero => exact absurd HA.out (by simp [tree_Count.l0])
  | succ k1 =>
   have H := HA.out; clear HA; simp only [tree_Count.l0] at H
   by_cases c4 : x16_1 < (l0_2.length : Int)
   ·rw [if_pos c4] at H; have c4b0 : decide (x16_1 < (l0_2.length : Int)) = true := decide_eq_true c4; clear c4
    by_cases c5 : 0 ≤ x16_1
    ·rw [if_pos c5] at H; have c5b0 : decide (0 ≤ x16_1) = true := decide_eq_true c5; clear c5
     by_cases c6 : x16_1 < (l0_2.length : Int)
     ·rw [if_pos c6] at H; have c6b0 : decide (x16_1 < (l0_2.length : Int)) = true := decide_eq_true c6; clear c6; replace H := Option.bind_eq_some_iff.mp H; obtain ⟨⟨taN, taZ⟩, A70, H⟩ := H; replace H : (tree_Count.l0 k1 (wrap64 (x4_1 + taN)) (wrap64 (x5_1 + taZ)) l0_2 (l0_2.length : Int) (wrap64 (x16_1 + 1))) = some (r1, r2) := H; have A7 := Ak A70; clear A70; have H' := Ak H; clear H; have p611 : 0 ≤ (x16_1 : Int) := of_decide_eq_true Zq9; have q611 : x16_1 < (l0_2.length : Int) := of_decide_eq_true Zq9; obtain ⟨adap, Aap_1, cap_1, Aap_2, cap_2, e611, hx611_0, hx611_1, hx611_2, hl611_1, hi611_1, hl611_2, hi611_2⟩ := at_T30 HR0_2.out x16_1 p611 q611
      cases e611
      replace hx611_0 := (HB.out.cell (World.block_lt_of_cell? w _ hx611_0)).trans hx611_0; replace hx611_1 := (HB.out.cell (World.block_lt_of_cell? w _ hx611_1)).trans hx611_1; replace hx611_2 := (HB.out.cell (World.block_lt_of_cell? w _ hx611_2)).trans hx611_2; have HRap_1 := Ak hi611_1; have HCap_1 := Ak hl611_1; clear hi611_1 hl611_1; have HRap_2 := Ak hi611_2; have HCap_2 := Ak hl611_2; clear hi611_2 hl611_2; replace p611 := eq_true p611; replace q611 := eq_true q611
      go_wp2_with (first | ((with_reducible refine gate_dst (N := 7) rfl ?_); refine box_event ?hg (N := 7) ?hd (cs := #[.string (⟨#[]⟩ : ByteArray), .slice none 0 0, .slice none 0 0]) (t := 30) ?hr ?_; (case hd | hg => rfl); (case hr => first | (go_simp; done) | (go_simp; rfl)); intro gbah hg w8 hbox hb; have n0_ := Zq52; have n1_ := Ak (below_step Zq16 hb); have n2_ := Ak (hbox); have n3_ := Zq42; have n4_ := Zq42; have n5_ := Zq60; have n6_ := Zq61; clear BKae HB; have BKae := n0_; have HB := n1_; have BKah := n2_; have GWah := n3_; have GEah := n4_; have NB610_612 := n5_; have NB612_610 := n6_; clear n0_ n1_ n2_ n3_ n4_ n5_ n6_ hb hbox hg; have hnb9 := NB612_610.out; have hnc9 := NB610_612.out; have hcz10_0 : w8.cell? ⟨gbah, 0, none⟩ = some (.string (⟨#[]⟩ : ByteArray)) := (blk_cell BKah.out 0).trans rfl; have hcz10_1 : w8.cell? ⟨gbah, 1, none⟩ = some (.slice none 0 0) := (blk_cell BKah.out 1).trans rfl; have hcz10_2 : w8.cell? ⟨gbah, 2, none⟩ = some (.slice none 0 0) := (blk_cell BKah.out 2).trans rfl; have hfz10_0 := blk_frozen BKah.out 0; have hfz10_1 := blk_frozen BKah.out 1; have hfz10_2 := blk_frozen BKah.out 2) | (go_at_call 29; (with_reducible refine (ih k1 Zq12 ((rd_T30 l0_2 x16_1).f0) _ _ ((rd_T30 l0_2 x16_1).f1) _ _ ((rd_T30 l0_2 x16_1).f2) taN taZ _ ?side1 ?side2 ?side3 ?side4 A7.out).mono ?_); (case side1 => exact Kd.C_below HRap_1.out Zq18); (case side2 => exact HCap_1.out); (case side3 => exact Kd.C_below HRap_2.out Zq18); (case side4 => exact HCap_2.out); rintro e w11 ⟨rfl, hb⟩; have n0_ := Zq53; have n1_ := Zq39; have n2_ := Ak (below_step Zq18 hb); clear BKae BKah HB; have BKae := n0_; have BKah := n1_; have HB := n2_; clear n0_ n1_ n2_; (try clear hb); (try clear hb2); (try clear hk); (try clear hi)))
      repeat (go_quiet (first | ((with_reducible refine gate_dst (N := 7) rfl ?_); refine box_event ?hg (N := 7) ?hd (cs := #[.string (⟨#[]⟩ : ByteArray), .slice none 0 0, .slice none 0 0]) (t := 30) ?hr ?_; (case hd | hg => rfl); (case hr => first | (go_simp; done) | (go_simp; rfl)); intro gbah hg w8 hbox hb; have n0_ := Zq52; have n1_ := Ak (below_step Zq16 hb); have n2_ := Ak (hbox); have n3_ := Zq42; have n4_ := Zq42; have n5_ := Zq60; have n6_ := Zq61; clear BKae HB; have BKae := n0_; have HB := n1_; have BKah := n2_; have GWah := n3_; have GEah := n4_; have NB610_612 := n5_; have NB612_610 := n6_; clear n0_ n1_ n2_ n3_ n4_ n5_ n6_ hb hbox hg; have hnb9 := NB612_610.out; have hnc9 := NB610_612.out; have hcz10_0 : w8.cell? ⟨gbah, 0, none⟩ = some (.string (⟨#[]⟩ : ByteArray)) := (blk_cell BKah.out 0).trans rfl; have hcz10_1 : w8.cell? ⟨gbah, 1, none⟩ = some (.slice none 0 0) := (blk_cell BKah.out 1).trans rfl; have hcz10_2 : w8.cell? ⟨gbah, 2, none⟩ = some (.slice none 0 0) := (blk_cell BKah.out 2).trans rfl; have hfz10_0 := blk_frozen BKah.out 0; have hfz10_1 := blk_frozen BKah.out 1; have hfz10_2 := blk_frozen BKah.out 2) | (go_at_call 29; (with_reducible refine (ih k1 Zq12 ((rd_T30 l0_2 x16_1).f0) _ _ ((rd_T30 l0_2 x16_1).f1) _ _ ((rd_T30 l0_2 x16_1).f2) taN taZ _ ?side1 ?side2 ?side3 ?side4 A7.out).mono ?_); (case side1 => exact Kd.C_below HRap_1.out Zq18); (case side2 => exact HCap_1.out); (case side3 => exact Kd.C_below HRap_2.out Zq18); (case side4 => exact HCap_2.out); rintro e w11 ⟨rfl, hb⟩; have n0_ := Zq53; have n1_ := Zq39; have n2_ := Ak (below_step Zq18 hb); clear BKae BKah HB; have BKae := n0_; have BKah := n1_; have HB := n2_; clear n0_ n1_ n2_; (try clear hb); (try clear hb2); (try clear hk); (try clear hi))); try go_wp2_with (first | ((with_reducible refine gate_dst (N := 7) rfl ?_); refine box_event ?hg (N := 7) ?hd (cs := #[.string (⟨#[]⟩ : ByteArray), .slice none 0 0, .slice none 0 0]) (t := 30) ?hr ?_; (case hd | hg => rfl); (case hr => first | (go_simp; done) | (go_simp; rfl)); intro gbah hg w8 hbox hb; have n0_ := Zq52; have n1_ := Ak (below_step Zq16 hb); have n2_ := Ak (hbox); have n3_ := Zq42; have n4_ := Zq42; have n5_ := Zq60; have n6_ := Zq61; clear BKae HB; have BKae := n0_; have HB := n1_; have BKah := n2_; have GWah := n3_; have GEah := n4_; have NB610_612 := n5_; have NB612_610 := n6_; clear n0_ n1_ n2_ n3_ n4_ n5_ n6_ hb hbox hg; have hnb9 := NB612_610.out; have hnc9 := NB610_612.out; have hcz10_0 : w8.cell? ⟨gbah, 0, none⟩ = some (.string (⟨#[]⟩ : ByteArray)) := (blk_cell BKah.out 0).trans rfl; have hcz10_1 : w8.cell? ⟨gbah, 1, none⟩ = some (.slice none 0 0) := (blk_cell BKah.out 1).trans rfl; have hcz10_2 : w8.cell? ⟨gbah, 2, none⟩ = some (.slice none 0 0) := (blk_cell BKah.out 2).trans rfl; have hfz10_0 := blk_frozen BKah.out 0; have hfz10_1 := blk_frozen BKah.out 1; have hfz10_2 := blk_frozen BKah.out 2) | (go_at_call 29; (with_reducible refine (ih k1 Zq12 ((rd_T30 l0_2 x16_1).f0) _ _ ((rd_T30 l0_2 x16_1).f1) _ _ ((rd_T30 l0_2 x16_1).f2) taN taZ _ ?side1 ?side2 ?side3 ?side4 A7.out).mono ?_); (case side1 => exact Kd.C_below HRap_1.out Zq18); (case side2 => exact HCap_1.out); (case side3 => exact Kd.C_below HRap_2.out Zq18); (case side4 => exact HCap_2.out); rintro e w11 ⟨rfl, hb⟩; have n0_ := Zq53; have n1_ := Zq39; have n2_ := Ak (below_step Zq18 hb); clear BKae BKah HB; have BKae := n0_; have BKah := n1_; have HB := n2_; clear n0_ n1_ n2_; (try clear hb); (try clear hb2); (try clear hk); (try clear hi))))
      go_roundg k1
      case measure => have := HK1.out; omega
      case rel => exact ⟨(wrap64 (x4_1 + taN)), (wrap64 (x5_1 + taZ)), (wrap64 (x16_1 + 1)), Zq8, Zq8, Zq8, H', ⟨Zq12⟩, ⟨Zq15⟩, ⟨Zq18⟩⟩
     ·rw [if_neg c6] at H; exact absurd H (by simp)
    ·rw [if_neg c5] at H; exact absurd H (by simp)
   ·rw [if_neg c4] at H; have c4b0 : decide (x16_1 < (l0_2.length : Int)) = false := decide_eq_false c4; clear c4; simp only [Option.some.injEq, Prod.mk.injEq] at H; obtain ⟨rfl, rfl⟩ := H
    go_wp2
    repeat (go_quiet (fail); try go_wp2)
    go_ret2
    exact ⟨Zq10, Zq16⟩
mutual
def tree_names.l0 : Nat → List ByteArray → List (S77) → Int → Int → ByteArray → List (S77) → List (S30) → Option (List ByteArray × List ByteArray)
 | 0, _, _, _, _, _, _, _ => none
 | k + 1, x4, x11, x12, x13, xbH, xbI, xbf => if x13 < x12 then (if 0 ≤ x13 then (if x13 < (x11.length : Int) then (if x4.length < 8796093022208 then (tree_names.l0 k (x4 ++ [(rd_T77 x11 x13).f0]) x11 x12 (wrap64 (x13 + 1)) xbH xbI xbf) else (none)) else (none)) else (none)) else (tree_names.l1 k x4 ([] : List ByteArray) xbf (xbf.length : Int) 0)
def tree_names.l1 : Nat → List ByteArray → List ByteArray → List (S30) → Int → Int → Option (List ByteArray × List ByteArray)
 | 0, _, _, _, _, _ => none
 | k + 1, x4, x5, x24, x25, x26 => if x26 < x25 then (if 0 ≤ x26 then (if x26 < (x24.length : Int) then (if x5.length < 8796093022208 then (tree_names.l1 k x4 (x5 ++ [(rd_T30 x24 x26).f0]) x24 x25 (wrap64 (x26 + 1))) else (none)) else (none)) else (none)) else (some (x4, x5))
end
def tree_names.f (k : Nat) (a0_0 : ByteArray) (l0_1 : List (S77)) (l0_2 : List (S30)) : Option (List ByteArray × List ByteArray) := tree_names.l0 k ([] : List ByteArray) l0_1 (l0_1.length : Int) 0 a0_0 l0_1 l0_2
set_option maxHeartbeats 8000000 in
set_option maxRecDepth 100000 in
theorem tree_names.calls (k : Nat) (a0_0 : ByteArray) (A0_1 : Option Addr) (c0_1 : Nat) (l0_1 : List (S77)) (A0_2 : Option Addr) (c0_2 : Nat) (l0_2 : List (S30)) (r1 : List ByteArray) (r2 : List ByteArray) (w : World) (hr0_1 : Kd.C k77 w A0_1 l0_1.length l0_1) (hc0_1 : l0_1.length ≤ c0_1) (hr0_2 : Kd.C k30 w A0_2 l0_2.length l0_2) (hc0_2 : l0_2.length ≤ c0_2) (h : tree_names.f k a0_0 l0_1 l0_2 = some (r1, r2)) :
  Calls Try.prog 77 #[.agg #[.string a0_0, .slice A0_1 l0_1.length c0_1, .slice A0_2 l0_2.length c0_2]] w fun e w' => ∃ v0_ v1_ : Value, e = .returned (.tuple #[v0_, v1_]) ∧ Kd.R Kd.string 9 w' w.heap.size (fun k_ => some k_ ≠ (v1_ : Value).ownBlock) v0_ r1 ∧ Kd.R Kd.string 9 w' w.heap.size (fun k_ => some k_ ≠ (v0_ : Value).ownBlock) v1_ r2 ∧ Below w.heap.size w w' := by
 have hu30 := Try.underlying30; have hu77 := Try.underlying77; have HR0_1 := Ak hr0_1; have HC0_1 := Ak hc0_1; clear hr0_1 hc0_1; have HR0_2 := Ak hr0_2; have HC0_2 := Ak hc0_2; clear hr0_2 hc0_2; have HB := Zq54; have H : (tree_names.l0 k ([] : List ByteArray) l0_1 (l0_1.length : Int) 0 a0_0 l0_1 l0_2) = some (r1, r2) := h; clear h; have H' := Ak H; clear H
 go_enter Try.func77, Try.ntmps77
 go_wp2_with (first | ((with_reducible refine gate_dst (N := 1) rfl ?_); refine box_event ?hg (N := 1) ?hd (cs := #[.string a0_0, .slice A0_1 l0_1.length c0_1, .slice A0_2 l0_2.length c0_2]) (t := 30) ?hr ?_; (case hd | hg => rfl); (case hr => first | (go_simp; done) | (go_simp; rfl)); intro gbag hg w2 hbox hb; have n0_ := Zq40; have n1_ := Ak (hbox); have n2_ := Ak ((by rw [hg]; exact (below_size Zq6) : w.heap.size ≤ gbag)); have n3_ := Ak ((by rw [hg]; exact (below_size Zq6) : w.heap.size ≤ gbag)); clear HB; have HB := n0_; have BKag := n1_; have GWag := n2_; have GEag := n3_; clear n0_ n1_ n2_ n3_ hb hbox hg; have hcz3_0 : w2.cell? ⟨gbag, 0, none⟩ = some (.string a0_0) := (blk_cell BKag.out 0).trans rfl; have hcz3_1 : w2.cell? ⟨gbag, 1, none⟩ = some (.slice A0_1 l0_1.length c0_1) := (blk_cell BKag.out 1).trans rfl; have hcz3_2 : w2.cell? ⟨gbag, 2, none⟩ = some (.slice A0_2 l0_2.length c0_2) := (blk_cell BKag.out 2).trans rfl; have hfz3_0 := blk_frozen BKag.out 0; have hfz3_1 := blk_frozen BKag.out 1; have hfz3_2 := blk_frozen BKag.out 2))
 go_loopg [4, 13] k (fun kq v4 v13 w' => ∃ (x4_1 : List ByteArray) (x13_1 : Int), v13 = .int .i64 x13_1 ∧ Aside0 (tree_names.l0 kq x4_1 l0_1 (l0_1.length : Int) x13_1 a0_0 l0_1 l0_2 = some (r1, r2)) ∧ Aside0 (kq ≤ k) ∧ Aside0 (Kd.R Kd.string 9 w' w.heap.size (fun _ => True) v4 x4_1) ∧ Aside0 (w'.heap[gbag]? = some (.cells #[.string a0_0, (.slice A0_1 l0_1.length c0_1), (.slice A0_2 l0_2.length c0_2)] 30 (0, 0))) ∧ Aside0 (Below w.heap.size w w'))
 case atStart => exact ⟨(([] : List ByteArray)), (0), Zq8, H', ⟨Nat.le_refl _⟩, ⟨by first | exact Kd.R_nil _ _ _ _ _ | exact Kd.N_nil _ _ _ _ _ | exact Kd.V_nil _ _ _ _ _ | exact Kd.Q_nil _ _ _ _ _ | exact Kd.S_nil _ _ _ _ _⟩, ⟨Zq19⟩, ⟨Zq20⟩⟩
 case round =>
  clear H'
  try clear p2
  try clear hcz3_0
  try clear hcz3_1
  try clear hcz3_2
  try clear hfz3_0
  try clear hfz3_1
  try clear hfz3_2
  obtain ⟨x4_1, x13_1, rfl, HA, HK1, HO_4, BKag, HB⟩ := hrel
  cases gk with
  | zero => exact absurd HA.out (by simp [tree_names.l0])
  | succ k1 =>
   have H := HA.out; clear HA; simp only [tree_names.l0] at H
   by_cases c4 : x13_1 < (l0_1.length : Int)
   ·rw [if_pos c4] at H; have c4b0 : decide (x13_1 < (l0_1.length : Int)) = true := decide_eq_true c4; clear c4
    by_cases c5 : 0 ≤ x13_1
    ·rw [if_pos c5] at H; have c5b0 : decide (0 ≤ x13_1) = true := decide_eq_true c5; clear c5
     by_cases c6 : x13_1 < (l0_1.length : Int)
     ·rw [if_pos c6] at H; have c6b0 : decide (x13_1 < (l0_1.length : Int)) = true := decide_eq_true c6; clear c6
      by_cases c7 : x4_1.length < 8796093022208
      ·rw [if_pos c7] at H; have LMc7 := Ak c7; clear c7
       obtain ⟨yaH, hyaH⟩ : ∃ y_ : List ByteArray, y_ = (x4_1 ++ [(rd_T77 l0_1 x13_1).f0]) := ⟨_, rfl⟩
       replace H : (tree_names.l0 k1 yaH l0_1 (l0_1.length : Int) (wrap64 (x13_1 + 1)) a0_0 l0_1 l0_2) = some (r1, r2) := by first | (rw [hyaH]; with_reducible exact H) | (have H2_ := (Option.bind_some _ _).symm.trans H; rw [hyaH]; with_reducible exact H2_) | (have H2_ := (Option.bind_some _ _).symm.trans H; with_reducible exact H2_) | with_reducible exact H | (rw [hyaH]; exact H) | exact H
       have NyaH := Ak hyaH; clear hyaH; have H' := Ak H; clear H; have p616 : 0 ≤ (x13_1 : Int) := of_decide_eq_true Zq9; have q616 : x13_1 < (l0_1.length : Int) := of_decide_eq_true Zq9; obtain ⟨adaF, AaF_1, caF_1, e616, hx616_0, hx616_1, hl616_1, hi616_1⟩ := at_T77 HR0_1.out x13_1 p616 q616
       cases e616
       replace hx616_0 := (HB.out.cell (World.block_lt_of_cell? w _ hx616_0)).trans hx616_0; replace hx616_1 := (HB.out.cell (World.block_lt_of_cell? w _ hx616_1)).trans hx616_1; have HRaF_1 := Ak hi616_1; have HCaF_1 := Ak hl616_1; clear hi616_1 hl616_1; replace p616 := eq_true p616; replace q616 := eq_true q616
       go_wp2_with (first | ((with_reducible refine gate_dst (N := 7) rfl ?_); refine box_event ?hg (N := 7) ?hd (cs := #[.string (⟨#[]⟩ : ByteArray), .slice none 0 0]) (t := 77) ?hr ?_; (case hd | hg => rfl); (case hr => first | (go_simp; done) | (go_simp; rfl)); intro gbax hg w8 hbox hb; have n0_ := Zq59; have n1_ := Ak (blk_below (g := gbag) (o := .cells #[.string a0_0, .slice (some adaF) l0_1.length c0_1, .slice A0_2 l0_2.length c0_2] 30 (0, 0)) Zq19 hb); have n2_ := Ak (below_step Zq20 hb); have n3_ := Ak (hbox); have n4_ := Ak ((by rw [hg]; exact (below_size Zq20) : w.heap.size ≤ gbax)); have n5_ := Ak ((by rw [hg]; exact (below_size Zq20) : w.heap.size ≤ gbax)); have n6_ := Ak ((by rw [hg]; exact Nat.ne_of_lt Zq57 : gbag ≠ gbax)); have n7_ := Ak ((by rw [hg]; exact Nat.ne_of_gt Zq57 : gbax ≠ gbag)); clear HO_4 BKag HB; have HO_4 := n0_; have BKag := n1_; have HB := n2_; have BKax := n3_; have GWax := n4_; have GEax := n5_; have NB615_617 := n6_; have NB617_615 := n7_; clear n0_ n1_ n2_ n3_ n4_ n5_ n6_ n7_ hb hbox hg; have hnb9 := NB617_615.out; have hnc9 := NB615_617.out; have hcz10_0 : w8.cell? ⟨gbax, 0, none⟩ = some (.string (⟨#[]⟩ : ByteArray)) := (blk_cell BKax.out 0).trans rfl; have hcz10_1 : w8.cell? ⟨gbax, 1, none⟩ = some (.slice none 0 0) := (blk_cell BKax.out 1).trans rfl; have hfz10_0 := blk_frozen BKax.out 0; have hfz10_1 := blk_frozen BKax.out 1) | ((with_reducible refine gate_builtin (b := .append) (xs := #[.tmp 17, .tmp 20]) rfl ?_); at_builtin; refine Kd.R_append Kd.string (w0 := w) w.heap.size rfl (.tmp 17) (.tmp 20) 123 9 (.string ⟨#[]⟩) 16 rfl Try.underlying123 info9 rfl (by decide) Zq3 u4 x4_1 ((rd_T77 l0_1 x13_1).f0) [.string ((rd_T77 l0_1 x13_1).f0)] (fun _ => True) (fun _ => False) rfl (by first | (go_simp; done) | (go_simp; rfl)) ?aP (fun _ hk => hk.elim) ?aF ?aO ?aB ?aS ?aL ?_; (case aP => exact rfl); (case aB => exact Zq31); (case aF => exact (fun _ _ => trivial)); (case aO => exact (by (with_reducible repeat (first | apply Kd.R_alloc | apply Kd.R_drewN | apply Kd.R_drew)); exact Kd.R_mono (Kd.R_far (p := ⟨gbax, 1, none⟩) (Kd.R_far (p := ⟨gbax, 0, none⟩) (Kd.R_types HO_4.out BKax.out (by decide)) (fun _ hk => hk.2) (.string ((rd_T77 l0_1 x13_1).f0))) (fun _ hk => hk.2) (.slice AaF_1 ((rd_T77 l0_1 x13_1).f1).length caF_1)) (fun _ hk => trivial))); (case aS => exact (below_size Zq31)); (case aL => have := LMc7.out; omega); intro v619 w11 ho hb hg hat; rw [← NyaH.out] at ho; have n0_ := Ak (blk_grown (g := gbag) (o := .cells #[.string a0_0, .slice (some adaF) l0_1.length c0_1, .slice A0_2 l0_2.length c0_2] 30 (0, 0)) (by (with_reducible repeat (first | refine blk_drewN ?_ _ | refine blk_drew ?_ | refine blk_alloc ?_ _)); refine blk_far ?_ NB615_617.out _; (with_reducible repeat (first | refine blk_drewN ?_ _ | refine blk_drew ?_ | refine blk_alloc ?_ _)); refine blk_far ?_ NB615_617.out _; (with_reducible repeat (first | refine blk_drewN ?_ _ | refine blk_drew ?_ | refine blk_alloc ?_ _)); exact BKag.out) hg (Kd.R_ne HO_4.out BKag.out (by decide))); have n1_ := Ak (blk_grown (g := gbax) (o := .cells #[.string ((rd_T77 l0_1 x13_1).f0), .slice AaF_1 ((rd_T77 l0_1 x13_1).f1).length caF_1] 77 (0, 0)) (by (with_reducible repeat (first | refine blk_drewN ?_ _ | refine blk_drew ?_ | refine blk_alloc ?_ _)); refine blk_put (cs := #[.string ((rd_T77 l0_1 x13_1).f0), .slice none 0 0]) ?_ 1 _ rfl; (with_reducible repeat (first | refine blk_drewN ?_ _ | refine blk_drew ?_ | refine blk_alloc ?_ _)); refine blk_put (cs := #[.string (⟨#[]⟩ : ByteArray), .slice none 0 0]) ?_ 0 _ rfl; (with_reducible repeat (first | refine blk_drewN ?_ _ | refine blk_drew ?_ | refine blk_alloc ?_ _)); exact BKax.out) hg (Kd.R_ne HO_4.out BKax.out (by decide))); have n2_ := Ak (hb); have n3_ := Ak (ho); clear BKag BKax HB HO_4; have BKag := n0_; have BKax := n1_; have HB := n2_; have HObJ := n3_; clear n0_ n1_ n2_ n3_ ho hb hg hat))
       go_roundg k1
       case measure => have := HK1.out; omega
       case rel => exact ⟨(yaH), (wrap64 (x13_1 + 1)), Zq8, H', ⟨Zq12⟩, ⟨by (with_reducible repeat (first | apply Kd.R_alloc | apply Kd.R_drewN | apply Kd.R_drew)); exact HObJ.out⟩, ⟨Zq19⟩, ⟨Zq31⟩⟩
      ·rw [if_neg c7] at H; exact absurd H (by simp)
     ·rw [if_neg c6] at H; exact absurd H (by simp)
    ·rw [if_neg c5] at H; exact absurd H (by simp)
   ·rw [if_neg c4] at H; have c4b0 : decide (x13_1 < (l0_1.length : Int)) = false := decide_eq_false c4; clear c4; have H' := Ak H; clear H; have hcz12_0 : wr.cell? ⟨gbag, 0, none⟩ = some (.string a0_0) := (blk_cell BKag.out 0).trans rfl; have hcz12_1 : wr.cell? ⟨gbag, 1, none⟩ = some (.slice A0_1 l0_1.length c0_1) := (blk_cell BKag.out 1).trans rfl; have hcz12_2 : wr.cell? ⟨gbag, 2, none⟩ = some (.slice A0_2 l0_2.length c0_2) := (blk_cell BKag.out 2).trans rfl; have hfz12_0 := blk_frozen BKag.out 0; have hfz12_1 := blk_frozen BKag.out 1; have hfz12_2 := blk_frozen BKag.out 2
    go_wp2
    go_loopg [5, 26] k1 (fun kq v5 v26 w' => ∃ (x5_2 : List ByteArray) (x26_2 : Int), v26 = .int .i64 x26_2 ∧ Aside0 (tree_names.l1 kq x4_1 x5_2 l0_2 (l0_2.length : Int) x26_2 = some (r1, r2)) ∧ Aside0 (kq ≤ k1) ∧ Aside0 (Kd.R Kd.string 9 w' w.heap.size (fun k_ => some k_ ≠ (v5 : Value).ownBlock) u4 x4_1) ∧ Aside0 (Kd.R Kd.string 9 w' w.heap.size (fun k_ => some k_ ≠ (u4 : Value).ownBlock) v5 x5_2) ∧ Aside0 (w'.heap[gbag]? = some (.cells #[.string a0_0, (.slice A0_1 l0_1.length c0_1), (.slice A0_2 l0_2.length c0_2)] 30 (0, 0))) ∧ Aside0 (Below w.heap.size w w'))
    case atStart => exact ⟨(([] : List ByteArray)), (0), Zq8, H', ⟨Nat.le_refl _⟩, ⟨by (with_reducible repeat (first | apply Kd.R_alloc | apply Kd.R_drewN | apply Kd.R_drew)); exact Kd.R_mono HO_4.out (fun _ hk => (by simp [Value.ownBlock]))⟩, ⟨by first | exact Kd.R_nil _ _ _ _ _ | exact Kd.N_nil _ _ _ _ _ | exact Kd.V_nil _ _ _ _ _ | exact Kd.Q_nil _ _ _ _ _ | exact Kd.S_nil _ _ _ _ _⟩, ⟨Zq19⟩, ⟨Zq20⟩⟩
    case round =>
     clear H'
     try clear p2
     try clear c4
     try clear c4b0
     try clear c5
     try clear c5b0
     try clear c6
     try clear c6b0
     try clear p6
     try clear q6
     try clear hx6
     try clear c7
     try clear c9
     try clear hcz10_0
     try clear hcz10_1
     try clear hcz12_0
     try clear hcz12_1
     try clear hcz12_2
     try clear hcz3_0
     try clear hcz3_1
     try clear hcz3_2
     try clear hfz10_0
     try clear hfz10_1
     try clear hfz12_0
     try clear hfz12_1
     try clear hfz12_2
     try clear hfz3_0
     try clear hfz3_1
     try clear hfz3_2
     try clear hx616_0
     try clear hx616_1
     try clear p2
     try clear p616
     try clear q616
     obtain ⟨x5_2, x26_2, rfl, HA, HK2, HO_4, HO_5, BKag, HB⟩ := hrel
     cases gk with
     | zero => exact absurd HA.out (by simp [tree_names.l1])
     | succ k2 =>
      have H := HA.out; clear HA; simp only [tree_names.l1] at H
      by_cases c13 : x26_2 < (l0_2.length : Int)
      ·rw [if_pos c13] at H; have c13b0 : decide (x26_2 < (l0_2.length : Int)) = true := decide_eq_true c13; clear c13
       by_cases c14 : 0 ≤ x26_2
       ·rw [if_pos c14] at H; have c14b0 : decide (0 ≤ x26_2) = true := decide_eq_true c14; clear c14
        by_cases c15 : x26_2 < (l0_2.length : Int)
        ·rw [if_pos c15] at H; have c15b0 : decide (x26_2 < (l0_2.length : Int)) = true := decide_eq_true c15; clear c15
         by_cases c16 : x5_2.length < 8796093022208
         ·rw [if_pos c16] at H; have LMc16 := Ak c16; clear c16
          obtain ⟨yaI, hyaI⟩ : ∃ y_ : List ByteArray, y_ = (x5_2 ++ [(rd_T30 l0_2 x26_2).f0]) := ⟨_, rfl⟩
          replace H : (tree_names.l1 k2 x4_1 yaI l0_2 (l0_2.length : Int) (wrap64 (x26_2 + 1))) = some (r1, r2) := by first | (rw [hyaI]; with_reducible exact H) | (have H2_ := (Option.bind_some _ _).symm.trans H; rw [hyaI]; with_reducible exact H2_) | (have H2_ := (Option.bind_some _ _).symm.trans H; with_reducible exact H2_) | with_reducible exact H | (rw [hyaI]; exact H) | exact H
          have NyaI := Ak hyaI; clear hyaI; have H' := Ak H; clear H; have p621 : 0 ≤ (x26_2 : Int) := of_decide_eq_true Zq9; have q621 : x26_2 < (l0_2.length : Int) := of_decide_eq_true Zq9; obtain ⟨adaq, Aaq_1, caq_1, Aaq_2, caq_2, e621, hx621_0, hx621_1, hx621_2, hl621_1, hi621_1, hl621_2, hi621_2⟩ := at_T30 HR0_2.out x26_2 p621 q621
          cases e621
          replace hx621_0 := (HB.out.cell (World.block_lt_of_cell? w _ hx621_0)).trans hx621_0; replace hx621_1 := (HB.out.cell (World.block_lt_of_cell? w _ hx621_1)).trans hx621_1; replace hx621_2 := (HB.out.cell (World.block_lt_of_cell? w _ hx621_2)).trans hx621_2; have HRaq_1 := Ak hi621_1; have HCaq_1 := Ak hl621_1; clear hi621_1 hl621_1; have HRaq_2 := Ak hi621_2; have HCaq_2 := Ak hl621_2; clear hi621_2 hl621_2; replace p621 := eq_true p621; replace q621 := eq_true q621
          go_wp2_with (first | ((with_reducible refine gate_dst (N := 9) rfl ?_); refine box_event ?hg (N := 9) ?hd (cs := #[.string (⟨#[]⟩ : ByteArray), .slice none 0 0, .slice none 0 0]) (t := 30) ?hr ?_; (case hd | hg => rfl); (case hr => first | (go_simp; done) | (go_simp; rfl)); intro gban hg w17 hbox hb; have n0_ := Zq59; have n1_ := Ak (Kd.R_below (by (with_reducible repeat (first | apply Kd.R_alloc | apply Kd.R_drewN | apply Kd.R_drew)); exact HO_5.out) hb); have n2_ := Ak (blk_below (g := gbag) (o := .cells #[.string a0_0, .slice A0_1 l0_1.length c0_1, .slice (some adaq) l0_2.length c0_2] 30 (0, 0)) Zq19 hb); have n3_ := Ak (below_step Zq20 hb); have n4_ := Ak (hbox); have n5_ := Ak ((by rw [hg]; exact (below_size Zq20) : w.heap.size ≤ gban)); have n6_ := Ak ((by rw [hg]; exact (below_size Zq20) : w.heap.size ≤ gban)); have n7_ := Ak ((by rw [hg]; exact Nat.ne_of_lt Zq58 : gbag ≠ gban)); have n8_ := Ak ((by rw [hg]; exact Nat.ne_of_gt Zq58 : gban ≠ gbag)); clear HO_4 HO_5 BKag HB; have HO_4 := n0_; have HO_5 := n1_; have BKag := n2_; have HB := n3_; have BKan := n4_; have GWan := n5_; have GEan := n6_; have NB615_622 := n7_; have NB622_615 := n8_; clear n0_ n1_ n2_ n3_ n4_ n5_ n6_ n7_ n8_ hb hbox hg; have hnb18 := NB622_615.out; have hnc18 := NB615_622.out; have hcz19_0 : w17.cell? ⟨gban, 0, none⟩ = some (.string (⟨#[]⟩ : ByteArray)) := (blk_cell BKan.out 0).trans rfl; have hcz19_1 : w17.cell? ⟨gban, 1, none⟩ = some (.slice none 0 0) := (blk_cell BKan.out 1).trans rfl; have hcz19_2 : w17.cell? ⟨gban, 2, none⟩ = some (.slice none 0 0) := (blk_cell BKan.out 2).trans rfl; have hfz19_0 := blk_frozen BKan.out 0; have hfz19_1 := blk_frozen BKan.out 1; have hfz19_2 := blk_frozen BKan.out 2) | ((with_reducible refine gate_builtin (b := .append) (xs := #[.tmp 30, .tmp 33]) rfl ?_); at_builtin; refine Kd.R_append Kd.string (w0 := w) w.heap.size rfl (.tmp 30) (.tmp 33) 123 9 (.string ⟨#[]⟩) 16 rfl Try.underlying123 info9 rfl (by decide) Zq3 u5 x5_2 ((rd_T30 l0_2 x26_2).f0) [.string ((rd_T30 l0_2 x26_2).f0)] (fun k_ => some k_ ≠ (u4 : Value).ownBlock) (fun _ => False) rfl (by first | (go_simp; done) | (go_simp; rfl)) ?aP (fun _ hk => hk.elim) ?aF ?aO ?aB ?aS ?aL ?_; (case aP => exact rfl); (case aB => exact Zq32); (case aF => exact (fun k_ hk => Kd.fresh' (Kd.R_lt (by (with_reducible repeat (first | apply Kd.R_alloc | apply Kd.R_drewN | apply Kd.R_drew)); exact (Kd.R_mono (Kd.R_far (p := ⟨gban, 2, none⟩) (Kd.R_far (p := ⟨gban, 1, none⟩) (Kd.R_far (p := ⟨gban, 0, none⟩) (Kd.R_types HO_4.out BKan.out (by decide)) (fun _ hk => hk.2) (.string ((rd_T30 l0_2 x26_2).f0))) (fun _ hk => hk.2) (.slice Aaq_1 ((rd_T30 l0_2 x26_2).f1).length caq_1)) (fun _ hk => hk.2) (.slice Aaq_2 ((rd_T30 l0_2 x26_2).f2).length caq_2)) (fun _ h_ => h_.1)))) k_ hk)); (case aO => exact (by (with_reducible repeat (first | apply Kd.R_alloc | apply Kd.R_drewN | apply Kd.R_drew)); exact Kd.R_mono (Kd.R_far (p := ⟨gban, 2, none⟩) (Kd.R_far (p := ⟨gban, 1, none⟩) (Kd.R_far (p := ⟨gban, 0, none⟩) (Kd.R_types HO_5.out BKan.out (by decide)) (fun _ hk => hk.2) (.string ((rd_T30 l0_2 x26_2).f0))) (fun _ hk => hk.2) (.slice Aaq_1 ((rd_T30 l0_2 x26_2).f1).length caq_1)) (fun _ hk => hk.2) (.slice Aaq_2 ((rd_T30 l0_2 x26_2).f2).length caq_2)) (fun _ hk => hk.1))); (case aS => exact (below_size Zq32)); (case aL => have := LMc16.out; omega); intro v624 w20 ho hb hg hat; rw [← NyaI.out] at ho; have n0_ := Ak (Kd.R_after (ok := (fun _ => True)) (by (with_reducible repeat (first | apply Kd.R_alloc | apply Kd.R_drewN | apply Kd.R_drew)); exact Kd.R_mono (Kd.R_far (p := ⟨gban, 2, none⟩) (Kd.R_far (p := ⟨gban, 1, none⟩) (Kd.R_far (p := ⟨gban, 0, none⟩) (Kd.R_types HO_4.out BKan.out (by decide)) (fun _ hk => hk.2) (.string ((rd_T30 l0_2 x26_2).f0))) (fun _ hk => hk.2) (.slice Aaq_1 ((rd_T30 l0_2 x26_2).f1).length caq_1)) (fun _ hk => hk.2) (.slice Aaq_2 ((rd_T30 l0_2 x26_2).f2).length caq_2)) (fun _ hk => ⟨trivial, hk.1⟩)) hg hat); have n1_ := Ak (blk_grown (g := gbag) (o := .cells #[.string a0_0, .slice A0_1 l0_1.length c0_1, .slice (some adaq) l0_2.length c0_2] 30 (0, 0)) (by (with_reducible repeat (first | refine blk_drewN ?_ _ | refine blk_drew ?_ | refine blk_alloc ?_ _)); refine blk_far ?_ NB615_622.out _; (with_reducible repeat (first | refine blk_drewN ?_ _ | refine blk_drew ?_ | refine blk_alloc ?_ _)); refine blk_far ?_ NB615_622.out _; (with_reducible repeat (first | refine blk_drewN ?_ _ | refine blk_drew ?_ | refine blk_alloc ?_ _)); refine blk_far ?_ NB615_622.out _; (with_reducible repeat (first | refine blk_drewN ?_ _ | refine blk_drew ?_ | refine blk_alloc ?_ _)); exact BKag.out) hg (Kd.R_ne HO_5.out BKag.out (by decide))); have n2_ := Ak (blk_grown (g := gban) (o := .cells #[.string ((rd_T30 l0_2 x26_2).f0), .slice Aaq_1 ((rd_T30 l0_2 x26_2).f1).length caq_1, .slice Aaq_2 ((rd_T30 l0_2 x26_2).f2).length caq_2] 30 (0, 0)) (by (with_reducible repeat (first | refine blk_drewN ?_ _ | refine blk_drew ?_ | refine blk_alloc ?_ _)); refine blk_put (cs := #[.string ((rd_T30 l0_2 x26_2).f0), .slice Aaq_1 ((rd_T30 l0_2 x26_2).f1).length caq_1, .slice none 0 0]) ?_ 2 _ rfl; (with_reducible repeat (first | refine blk_drewN ?_ _ | refine blk_drew ?_ | refine blk_alloc ?_ _)); refine blk_put (cs := #[.string ((rd_T30 l0_2 x26_2).f0), .slice none 0 0, .slice none 0 0]) ?_ 1 _ rfl; (with_reducible repeat (first | refine blk_drewN ?_ _ | refine blk_drew ?_ | refine blk_alloc ?_ _)); refine blk_put (cs := #[.string (⟨#[]⟩ : ByteArray), .slice none 0 0, .slice none 0 0]) ?_ 0 _ rfl; (with_reducible repeat (first | refine blk_drewN ?_ _ | refine blk_drew ?_ | refine blk_alloc ?_ _)); exact BKan.out) hg (Kd.R_ne HO_5.out BKan.out (by decide))); have n3_ := Ak (hb); have n4_ := Ak (ho); clear HO_4 BKag BKan HB HO_5; have HO_4 := n0_; have BKag := n1_; have BKan := n2_; have HB := n3_; have HObK := n4_; clear n0_ n1_ n2_ n3_ n4_ ho hb hg hat))
          go_roundg k2
          case measure => have := HK1.out; have := HK2.out; omega
          case rel => exact ⟨(yaI), (wrap64 (x26_2 + 1)), Zq8, H', ⟨by have := HK1.out; have := HK2.out; omega⟩, ⟨by (with_reducible repeat (first | apply Kd.R_alloc | apply Kd.R_drewN | apply Kd.R_drew)); exact Kd.R_mono HO_4.out (fun _ hk => hk.2)⟩, ⟨by (with_reducible repeat (first | apply Kd.R_alloc | apply Kd.R_drewN | apply Kd.R_drew)); exact HObK.out⟩, ⟨Zq19⟩, ⟨Zq32⟩⟩
         ·rw [if_neg c16] at H; exact absurd H (by simp)
        ·rw [if_neg c15] at H; exact absurd H (by simp)
       ·rw [if_neg c14] at H; exact absurd H (by simp)
      ·rw [if_neg c13] at H; have c13b0 : decide (x26_2 < (l0_2.length : Int)) = false := decide_eq_false c13; clear c13; simp only [Option.some.injEq, Prod.mk.injEq] at H; obtain ⟨rfl, rfl⟩ := H
       go_wp2
       go_ret2
       exact ⟨_, _, Zq10, by (with_reducible repeat (first | apply Kd.R_alloc | apply Kd.R_drewN | apply Kd.R_drew)); exact HO_4.out, by (with_reducible repeat (first | apply Kd.R_alloc | apply Kd.R_drewN | apply Kd.R_drew)); exact HO_5.out, Zq20⟩
set_option maxRecDepth 100000 in
theorem same_none (w : World) : Calls Try.prog 63 #[.slice none 0 0, .slice none 0 0, .func (.func 64) #[] #[]] w fun e w' => e = .returned (.bool true) ∧ Drawn0 w w' := by
 go_enter Try.func63, Try.ntmps63
 go_wp2
 go_loopg [17] 0 (fun kq v17 w' => v17 = .int .i64 0 ∧ Drawn0 w w')
 case atStart => exact ⟨rfl, Drawn0.refl _⟩
 case round =>
  obtain ⟨rfl, hd⟩ := hrel
  go_wp2
  go_ret
  exact ⟨rfl, by repeat (first | exact hd | apply Drawn0.step)⟩
set_option maxRecDepth 100000 in
theorem same_none2 (w : World) : Calls Try.prog 66 #[.slice none 0 0, .slice none 0 0, .func (.func 38) #[] #[]] w fun e w' => e = .returned (.bool true) ∧ Drawn0 w w' := by
 go_enter Try.func66, Try.ntmps66
 go_wp2
 go_loopg [17] 0 (fun kq v17 w' => v17 = .int .i64 0 ∧ Drawn0 w w')
 case atStart => exact ⟨rfl, Drawn0.refl _⟩
 case round =>
  obtain ⟨rfl, hd⟩ := hrel
  go_wp2
  go_ret
  exact ⟨rfl, by repeat (first | exact hd | apply Drawn0.step)⟩
set_option maxRecDepth 100000 in
theorem samenode_none (w : World) : Calls Try.prog 38 #[.agg #[.string ⟨#[]⟩, .slice none 0 0, .slice none 0 0], .agg #[.string ⟨#[]⟩, .slice none 0 0, .slice none 0 0]] w fun e w' => e = .returned (.bool true) ∧ Below w.heap.size w w' := by
 have hu30 := Try.underlying30
 go_enter Try.func38, Try.ntmps38
 go_wp2_with (first | (go_at_call 63; refine (same_none _).mono ?_; rintro e w' ⟨rfl, ⟨nd, rfl⟩⟩) | (go_at_call 66; refine (same_none2 _).mono ?_; rintro e w' ⟨rfl, ⟨nd, rfl⟩⟩))
 go_ret
 exact ⟨rfl, by repeat (first | exact Below.refl _ _ | apply below_alloc | apply pw_below_drewN | apply below_drew1)⟩
set_option maxRecDepth 100000 in
theorem check_a (w : World) : Calls Try.prog 55 #[.agg #[.string ⟨#[97]⟩, .slice none 0 0, .slice none 0 0], .int .i64 1] w fun e w' => e = .returned (.int .i64 5) ∧ Below w.heap.size w w' := by
 have hu30 := Try.underlying30
 have q := fun W => tree_names.calls 4 ⟨#[97]⟩ none 0 [] none 0 [] [] [] W (Kd.C_nil _ _) (Nat.le_refl 0) (Kd.C_nil _ _) (Nat.le_refl 0) Zq2
 go_enter Try.func55, Try.ntmps55
 have hbk := Ak (blk_new w (.cells #[.string ⟨#[97]⟩, .slice none 0 0, .slice none 0 0] 30 (0, 0)))
 go_wp2_with (go_at_call 77; refine (q _).mono ?_; rintro e w' ⟨v0, v1, rfl, h0, h1, hb⟩; have hk := blk_below hbk.out hb; have HBB := Ak hb; clear h0 h1 hb; have hc0 : w'.cell? ⟨w.heap.size, 0, none⟩ = some (.string ⟨#[97]⟩) := (blk_cell hk 0).trans rfl; have hz0 := blk_frozen hk 0; clear hk)
 go_ret
 exact ⟨rfl, below_step (below_alloc (Below.refl _ _) _) HBB.out⟩
set_option maxRecDepth 100000 in
theorem Check_a (w : World) : Calls Try.prog 27 #[.agg #[.int .u32 0, .slice none 0 0, .string ⟨#[97]⟩, .slice none 0 0, .slice none 0 0]] w fun e w' => e = .returned (.int .i64 5) ∧ Below w.heap.size w w' := by
 have hu30 := Try.underlying30; have hu35 := Try.underlying35
 have q := fun W => check_a W
 go_enter Try.func27, Try.ntmps27
 go_wp2_with (go_at_call 55; refine (q _).mono ?_; rintro e w' ⟨rfl, hb⟩; have HBB := Ak hb; clear hb)
 go_ret
 exact ⟨rfl, below_step (below_alloc (Below.refl _ _) _) HBB.out⟩
def arboretlaw03_awake.f : Option Bool := some true
set_option maxRecDepth 100000 in
theorem arboretlaw03_awake.calls (r : Bool) (w : World) (h : arboretlaw03_awake.f = some r) : Calls Try.prog 26 #[] w fun e w' => e = .returned (.bool r) ∧ Below w.heap.size w w' := by
 obtain rfl := Option.some.inj h; have hu30 := Try.underlying30; have hu35 := Try.underlying35
 have q := fun W => Check_a W
 have q2 := fun W => samenode_none W
 go_enter Try.func26, Try.ntmps26
 go_wp2_with (first | (go_at_call 27; refine (q _).mono ?_; rintro e w' ⟨rfl, hb⟩; have HB1 := Ak hb; clear hb) | (go_at_call 38; refine (q2 _).mono ?_; rintro e w'' ⟨rfl, hb⟩; have HB2 := Ak hb; clear hb))
 go_ret
 exact ⟨rfl, below_step HB1.out HB2.out⟩
def kidIx (s : List UInt8) : List S30 → Nat → Int
 | [], _ => -1
 | p :: r, i => if p.f0.toList = s then (i : Int) else kidIx s r (i + 1)
set_option maxRecDepth 100000 in
theorem kid_lit (nm s : ByteArray) (A1 A2 : Option Addr) (n1 c1 n2 c2 : Nat) (g : Nat) (w : World) (hg : w.cell? ⟨g, 0, none⟩ = some (.string s)) : Calls Try.prog 59 #[.agg #[.string nm, .slice A1 n1 c1, .slice A2 n2 c2], .pointer (some ⟨g, 0, none⟩)] w fun e w' => e = .returned (.bool (nm.toList == s.toList)) ∧ Below w.heap.size w w' := by
 have hu30 := Try.underlying30
 go_enter Try.func59, Try.ntmps59
 have hg2 : (w.alloc (.cells #[.string nm, .slice A1 n1 c1, .slice A2 n2 c2] 30)).cell? ⟨g, 0, none⟩ = some (.string s) := pw_cell_below (below_alloc (Below.refl _ _) _) hg
 go_wp2
 go_ret
 exact ⟨rfl, below_alloc (Below.refl _ _) _⟩
set_option maxRecDepth 100000 in
set_option maxHeartbeats 2000000 in
theorem index_kid (l : List S30) (A : Option Addr) (c : Nat) (s : ByteArray) (g : Nat) (w : World) (hr : Kd.C k30 w A l.length l) (hc : l.length ≤ c) (hg : w.cell? ⟨g, 0, none⟩ = some (.string s)) :
  Calls Try.prog 58 #[.slice A l.length c, .func (.func 59) #[] #[.pointer (some ⟨g, 0, none⟩)]] w fun e w' => e = .returned (.int .i64 (kidIx s.toList l 0)) ∧ Below w.heap.size w w' := by
 have hu30 := Try.underlying30; have hm : l.length ≤ 9223372036854775807 := hr.2.1; have HR := Ak hr; have HG := Ak hg; have HM := Ak hm; clear hr hg hm
 go_enter Try.func58, Try.ntmps58
 go_wp2
 go_loopg [8] (l.length + 1) (fun kq v8 w' => ∃ i : Nat, v8 = .int .i64 (i : Int) ∧ Aside0 (i + kq = l.length + 1) ∧ Aside0 (kidIx s.toList l 0 = kidIx s.toList (l.drop i) i) ∧ Aside0 (Below w.heap.size w w'))
 case atStart => exact ⟨0, rfl, ⟨Zq3⟩, ⟨by rw [List.drop_zero]⟩, ⟨Below.refl _ _⟩⟩
 case round =>
  obtain ⟨i, rfl, HI, HX, HB⟩ := hrel
  by_cases ci : (i : Int) < (l.length : Int)
  ·have cib : decide ((i : Int) < (l.length : Int)) = true := decide_eq_true ci
   have cil : i < l.length := by omega
   obtain ⟨ad, A1, c1, A2, c2, e1, hx0, hx1, hx2, _⟩ := at_T30 HR.out (i : Int) (Int.natCast_nonneg i) ci; subst e1; simp only [Int.toNat_natCast] at hx0 hx1 hx2; replace hx0 := (HB.out.cell (World.block_lt_of_cell? w _ hx0)).trans hx0; replace hx1 := (HB.out.cell (World.block_lt_of_cell? w _ hx1)).trans hx1; replace hx2 := (HB.out.cell (World.block_lt_of_cell? w _ hx2)).trans hx2
   have hgr := fun W (hb : Below w.heap.size w W) => (hb.cell (World.block_lt_of_cell? w _ HG.out)).trans HG.out
   have hk : kidIx s.toList (l.drop i) i = if (rd_T30 l (i : Int)).f0.toList = s.toList then (i : Int) else kidIx s.toList (l.drop (i + 1)) (i + 1) := by
    rw [List.drop_eq_getElem_cons cil]; simp only [kidIx, rd_T30, Int.toNat_natCast, List.getD_eq_getElem?_getD, List.getElem?_eq_getElem cil, Option.getD_some]
   cases gk with
   | zero => have := HI.out; omega
   | succ k1 =>
    by_cases hn : (rd_T30 l (i : Int)).f0.toList = s.toList
    ·rw [if_pos hn] at hk
     have hnb : ((rd_T30 l (i : Int)).f0.toList == s.toList) = true := by rw [beq_iff_eq]; exact hn
     have HK := Ak (HX.out.trans hk); clear hk hn HX
     go_wp2_with (go_at_call 59; refine (kid_lit _ s A1 A2 _ c1 _ c2 g _ (hgr _ (by repeat (first | exact HB.out | apply below_drew1 | apply pw_below_drewN)))).mono ?_; rintro e w2 ⟨rfl, hb⟩; have HB2 := Ak hb; clear hb)
     go_ret
     exact ⟨by rw [HK.out]; rfl, below_step (by repeat (first | exact HB.out | apply below_drew1 | apply pw_below_drewN)) HB2.out⟩
    ·rw [if_neg hn] at hk
     have hnb : ((rd_T30 l (i : Int)).f0.toList == s.toList) = false := by rw [beq_eq_false_iff_ne]; exact hn
     have HK := Ak (HX.out.trans hk); have hw := i64_w ((i : Int) + 1)
     have hw2 : Go.RowKit.wrap64 ((i : Int) + 1) = ((i + 1 : Nat) : Int) := by have := HM.out; unfold Go.RowKit.wrap64; omega
     clear hk hn HX
     go_wp2_with (go_at_call 59; refine (kid_lit _ s A1 A2 _ c1 _ c2 g _ (hgr _ (by repeat (first | exact HB.out | apply below_drew1 | apply pw_below_drewN)))).mono ?_; rintro e w2 ⟨rfl, hb⟩; have HB2 := Ak hb; clear hb)
     go_roundg k1
     case measure => omega
     case rel => exact ⟨i + 1, Zq8, ⟨by have := HI.out; omega⟩, HK, ⟨below_step (by repeat (first | exact HB.out | apply below_drew1 | apply pw_below_drewN)) HB2.out⟩⟩
  ·have cib : decide ((i : Int) < (l.length : Int)) = false := decide_eq_false ci; have hi := HI.out; have hX := HX.out; rw [List.drop_of_length_le Zq3] at hX
   go_wp2
   go_ret
   exact ⟨rfl, by repeat (first | exact HB.out | apply below_drew1 | apply pw_below_drewN)⟩
def tree_Kid.f (a0_0 : ByteArray) (l0_1 : List S77) (l0_2 : List S30) (a1 : ByteArray) : Option Int := some (kidIx a1.toList l0_2 0)
set_option maxRecDepth 100000 in
theorem tree_Kid.calls (a0_0 : ByteArray) (A0_1 : Option Addr) (c0_1 : Nat) (l0_1 : List S77) (A0_2 : Option Addr) (c0_2 : Nat) (l0_2 : List S30) (a1 : ByteArray) (r : Int) (w : World) (hr0_1 : Kd.C k77 w A0_1 l0_1.length l0_1) (hc0_1 : l0_1.length ≤ c0_1) (hr0_2 : Kd.C k30 w A0_2 l0_2.length l0_2) (hc0_2 : l0_2.length ≤ c0_2) (h : tree_Kid.f a0_0 l0_1 l0_2 a1 = some r) :
  Calls Try.prog 33 #[.agg #[.string a0_0, .slice A0_1 l0_1.length c0_1, .slice A0_2 l0_2.length c0_2], .string a1] w fun e w' => e = .returned (.int .i64 r) ∧ Below w.heap.size w w' := by
 have hr : kidIx a1.toList l0_2 0 = r := by
  unfold tree_Kid.f at h; injection h
 subst hr; have hu30 := Try.underlying30; have HR := Ak hr0_2; clear hr0_1 hc0_1 hr0_2 h
 obtain ⟨W1, hW1⟩ : ∃ W1, W1 = w.alloc (.cells #[.string a0_0, .slice A0_1 l0_1.length c0_1, .slice A0_2 l0_2.length c0_2] 30) := ⟨_, rfl⟩
 have hs1 : W1.heap.size = w.heap.size + 1 := by rw [hW1]; exact Array.size_push ..
 have hb1 : Below w.heap.size w W1 := by rw [hW1]; exact below_alloc (Below.refl _ _) _
 have hc2 : (W1.alloc (.cells #[.string a1] 9)).cell? ⟨W1.heap.size, 0, none⟩ = some (.string a1) := (blk_cell (blk_new W1 (.cells #[.string a1] 9 (0, 0))) 0).trans rfl; rw [hs1] at hc2; have hb2 : Below w.heap.size w (W1.alloc (.cells #[.string a1] 9)) := below_alloc hb1 _; have q := index_kid l0_2 A0_2 c0_2 a1 (w.heap.size + 1) (W1.alloc (.cells #[.string a1] 9)) (Kd.C_below HR.out hb2) hc0_2 hc2; rw [hW1] at q hb2; have HB2 := Ak hb2; clear hW1 hs1 hb1 hc2 hb2 HR
 go_enter Try.func33, Try.ntmps33
 go_wp2_with (go_at_call 58; refine q.mono ?_; rintro e w2 ⟨rfl, hb⟩; have HB3 := Ak hb; clear hb)
 go_ret
 exact ⟨rfl, below_step HB2.out HB3.out⟩
def arboretref01_Kid.l0 : Nat → ByteArray → Int → Int → ByteArray → List (S77) → List (S30) → Option (Int)
 | 0, _, _, _, _, _, _ => none
 | k + 1, x1, x8, x9, xbL, xbM, xbg => if x9 < x8 then (if 0 ≤ x9 then (if x9 < (xbg.length : Int) then (if ((rd_T30 xbg x9).f0).toList = x1.toList then (some x9) else (arboretref01_Kid.l0 k x1 x8 (wrap64 (x9 + 1)) xbL xbM xbg)) else (none)) else (none)) else (some (-1))
def arboretref01_Kid.f (k : Nat) (a0_0 : ByteArray) (l0_1 : List (S77)) (l0_2 : List (S30)) (a1 : ByteArray) : Option (Int) := arboretref01_Kid.l0 k a1 (l0_2.length : Int) 0 a0_0 l0_1 l0_2
set_option maxHeartbeats 8000000 in
set_option maxRecDepth 100000 in
theorem arboretref01_Kid.calls (k : Nat) (a0_0 : ByteArray) (A0_1 : Option Addr) (c0_1 : Nat) (l0_1 : List (S77)) (A0_2 : Option Addr) (c0_2 : Nat) (l0_2 : List (S30)) (a1 : ByteArray) (r : Int) (w : World) (hr0_1 : Kd.C k77 w A0_1 l0_1.length l0_1) (hc0_1 : l0_1.length ≤ c0_1) (hr0_2 : Kd.C k30 w A0_2 l0_2.length l0_2) (hc0_2 : l0_2.length ≤ c0_2) (h : arboretref01_Kid.f k a0_0 l0_1 l0_2 a1 = some r) :
  Calls Try.prog 34 #[.agg #[.string a0_0, .slice A0_1 l0_1.length c0_1, .slice A0_2 l0_2.length c0_2], .string a1] w fun e w' => e = .returned (.int .i64 r) ∧ Below w.heap.size w w' := by
 have hu30 := Try.underlying30; have HR0_1 := Ak hr0_1; have HC0_1 := Ak hc0_1; clear hr0_1 hc0_1; have HR0_2 := Ak hr0_2; have HC0_2 := Ak hc0_2; clear hr0_2 hc0_2; have HB := Zq54; have H : (arboretref01_Kid.l0 k a1 (l0_2.length : Int) 0 a0_0 l0_1 l0_2) = some r := h; clear h; have H' := Ak H; clear H
 go_enter Try.func34, Try.ntmps34
 go_wp2_with (first | ((with_reducible refine gate_dst (N := 2) rfl ?_); refine box_event ?hg (N := 2) ?hd (cs := #[.string a0_0, .slice A0_1 l0_1.length c0_1, .slice A0_2 l0_2.length c0_2]) (t := 30) ?hr ?_; (case hd | hg => rfl); (case hr => first | (go_simp; done) | (go_simp; rfl)); intro gbal hg w3 hbox hb; have n0_ := Zq40; have n1_ := Ak (hbox); have n2_ := Ak ((by rw [hg]; exact (below_size Zq6) : w.heap.size ≤ gbal)); have n3_ := Ak ((by rw [hg]; exact (below_size Zq6) : w.heap.size ≤ gbal)); clear HB; have HB := n0_; have BKal := n1_; have GWal := n2_; have GEal := n3_; clear n0_ n1_ n2_ n3_ hb hbox hg; have hcz4_0 : w3.cell? ⟨gbal, 0, none⟩ = some (.string a0_0) := (blk_cell BKal.out 0).trans rfl; have hcz4_1 : w3.cell? ⟨gbal, 1, none⟩ = some (.slice A0_1 l0_1.length c0_1) := (blk_cell BKal.out 1).trans rfl; have hcz4_2 : w3.cell? ⟨gbal, 2, none⟩ = some (.slice A0_2 l0_2.length c0_2) := (blk_cell BKal.out 2).trans rfl; have hfz4_0 := blk_frozen BKal.out 0; have hfz4_1 := blk_frozen BKal.out 1; have hfz4_2 := blk_frozen BKal.out 2))
 go_loopg [9] k (fun kq v9 w' => ∃ (x9_1 : Int), v9 = .int .i64 x9_1 ∧ Aside0 (arboretref01_Kid.l0 kq a1 (l0_2.length : Int) x9_1 a0_0 l0_1 l0_2 = some r) ∧ Aside0 (kq ≤ k) ∧ Aside0 (w'.heap[gbal]? = some (.cells #[.string a0_0, (.slice A0_1 l0_1.length c0_1), (.slice A0_2 l0_2.length c0_2)] 30 (0, 0))) ∧ Aside0 (Below w.heap.size w w'))
 case atStart => exact ⟨(0), Zq8, H', ⟨Nat.le_refl _⟩, ⟨by (with_reducible repeat (first | refine blk_drewN ?_ _ | refine blk_drew ?_ | refine blk_alloc ?_ _)); exact BKal.out⟩, ⟨Zq28⟩⟩
 case round =>
  clear H'
  try clear p2
  try clear c3
  try clear hcz4_0
  try clear hcz4_1
  try clear hcz4_2
  try clear hfz4_0
  try clear hfz4_1
  try clear hfz4_2
  obtain ⟨x9_1, rfl, HA, HK1, BKal, HB⟩ := hrel
  cases gk with
  | zero => exact absurd HA.out (by simp [arboretref01_Kid.l0])
  | succ k1 =>
   have H := HA.out; clear HA; simp only [arboretref01_Kid.l0] at H
   by_cases c5 : x9_1 < (l0_2.length : Int)
   ·rw [if_pos c5] at H; have c5b0 : decide (x9_1 < (l0_2.length : Int)) = true := decide_eq_true c5; clear c5
    by_cases c6 : 0 ≤ x9_1
    ·rw [if_pos c6] at H; have c6b0 : decide (0 ≤ x9_1) = true := decide_eq_true c6; clear c6
     by_cases c7 : x9_1 < (l0_2.length : Int)
     ·rw [if_pos c7] at H; have c7b0 : decide (x9_1 < (l0_2.length : Int)) = true := decide_eq_true c7; clear c7
      by_cases c8 : ((rd_T30 l0_2 x9_1).f0).toList = a1.toList
      ·rw [if_pos c8] at H; have c8b0 : (((rd_T30 l0_2 x9_1).f0).toList == a1.toList) = true := beq_iff_eq.mpr c8; have c8b1 : (((rd_T30 l0_2 x9_1).f0).toList != a1.toList) = false := bne_eq_false_iff_eq.mpr c8; clear c8; obtain rfl := Option.some.inj H; have hcz9_0 : wr.cell? ⟨gbal, 0, none⟩ = some (.string a0_0) := (blk_cell BKal.out 0).trans rfl; have hcz9_1 : wr.cell? ⟨gbal, 1, none⟩ = some (.slice A0_1 l0_1.length c0_1) := (blk_cell BKal.out 1).trans rfl; have hcz9_2 : wr.cell? ⟨gbal, 2, none⟩ = some (.slice A0_2 l0_2.length c0_2) := (blk_cell BKal.out 2).trans rfl; have hfz9_0 := blk_frozen BKal.out 0; have hfz9_1 := blk_frozen BKal.out 1; have hfz9_2 := blk_frozen BKal.out 2; have p776 : 0 ≤ (x9_1 : Int) := of_decide_eq_true Zq9; have q776 : x9_1 < (l0_2.length : Int) := of_decide_eq_true Zq9; obtain ⟨adaB, AaB_1, caB_1, AaB_2, caB_2, e776, hx776_0, hx776_1, hx776_2, hl776_1, hi776_1, hl776_2, hi776_2⟩ := at_T30 HR0_2.out x9_1 p776 q776
       cases e776
       replace hx776_0 := (HB.out.cell (World.block_lt_of_cell? w _ hx776_0)).trans hx776_0; replace hx776_1 := (HB.out.cell (World.block_lt_of_cell? w _ hx776_1)).trans hx776_1; replace hx776_2 := (HB.out.cell (World.block_lt_of_cell? w _ hx776_2)).trans hx776_2; have HRaB_1 := Ak hi776_1; have HCaB_1 := Ak hl776_1; clear hi776_1 hl776_1; have HRaB_2 := Ak hi776_2; have HCaB_2 := Ak hl776_2; clear hi776_2 hl776_2; replace p776 := eq_true p776; replace q776 := eq_true q776
       go_wp2
       go_ret
       exact ⟨Zq10, Zq28⟩
      ·rw [if_neg c8] at H; have c8b0 : (((rd_T30 l0_2 x9_1).f0).toList == a1.toList) = false := beq_eq_false_iff_ne.mpr c8; have c8b1 : (((rd_T30 l0_2 x9_1).f0).toList != a1.toList) = true := bne_iff_ne.mpr c8; have H' := Ak H; clear H; have hcz10_0 : wr.cell? ⟨gbal, 0, none⟩ = some (.string a0_0) := (blk_cell BKal.out 0).trans rfl; have hcz10_1 : wr.cell? ⟨gbal, 1, none⟩ = some (.slice A0_1 l0_1.length c0_1) := (blk_cell BKal.out 1).trans rfl; have hcz10_2 : wr.cell? ⟨gbal, 2, none⟩ = some (.slice A0_2 l0_2.length c0_2) := (blk_cell BKal.out 2).trans rfl; have hfz10_0 := blk_frozen BKal.out 0; have hfz10_1 := blk_frozen BKal.out 1; have hfz10_2 := blk_frozen BKal.out 2; have p776 : 0 ≤ (x9_1 : Int) := of_decide_eq_true Zq9; have q776 : x9_1 < (l0_2.length : Int) := of_decide_eq_true Zq9; obtain ⟨adaB, AaB_1, caB_1, AaB_2, caB_2, e776, hx776_0, hx776_1, hx776_2, hl776_1, hi776_1, hl776_2, hi776_2⟩ := at_T30 HR0_2.out x9_1 p776 q776
       cases e776
       replace hx776_0 := (HB.out.cell (World.block_lt_of_cell? w _ hx776_0)).trans hx776_0; replace hx776_1 := (HB.out.cell (World.block_lt_of_cell? w _ hx776_1)).trans hx776_1; replace hx776_2 := (HB.out.cell (World.block_lt_of_cell? w _ hx776_2)).trans hx776_2; have HRaB_1 := Ak hi776_1; have HCaB_1 := Ak hl776_1; clear hi776_1 hl776_1; have HRaB_2 := Ak hi776_2; have HCaB_2 := Ak hl776_2; clear hi776_2 hl776_2; replace p776 := eq_true p776; replace q776 := eq_true q776
       go_wp2
       go_roundg k1
       case measure => have := HK1.out; omega
       case rel => exact ⟨(wrap64 (x9_1 + 1)), Zq8, H', ⟨Zq12⟩, ⟨by (with_reducible repeat (first | refine blk_drewN ?_ _ | refine blk_drew ?_ | refine blk_alloc ?_ _)); exact BKal.out⟩, ⟨Zq28⟩⟩
     ·rw [if_neg c7] at H; exact absurd H (by simp)
    ·rw [if_neg c6] at H; exact absurd H (by simp)
   ·rw [if_neg c5] at H; have c5b0 : decide (x9_1 < (l0_2.length : Int)) = false := decide_eq_false c5; clear c5; obtain rfl := Option.some.inj H
    go_wp2
    go_ret
    exact ⟨Zq10, Zq28⟩
def arboretlaw03_TreeFinds.j0 : Nat → ByteArray → Bool → ByteArray → List (S77) → List (S30) → Option (Bool)
 | 0, _, _, _, _, _ => none
 | k + 1, x1, x18, xaQ, xaJ, xaR => if x18 = true then ((arboretlaw03_awake.f).bind fun taS => (some taS)) else ((tree_Count.f k xaQ xaJ xaR).bind fun btaw => ((arboretref01_Count.f k xaQ xaJ xaR).bind fun btar => ((tree_Find.f k xaQ xaJ xaR x1).bind fun btai => ((arboretref01_Find.f k xaQ xaJ xaR x1).bind fun tab => (if btaw.1 = btar.1 then (if btaw.2 = btar.2 then (if (btai.2 != (decide (tab ≥ 0))) = true then (some false) else ((tree_Kid.f xaQ xaJ xaR x1).bind fun tav => ((arboretref01_Kid.f k xaQ xaJ xaR x1).bind fun tau => (if tav = tau then (if tab < 0 then (if (btai.1.length : Int) = 0 then (some true) else (if tab ≥ 0 then (if 0 ≤ tab then (if tab < (xaJ.length : Int) then (some ((strOfNums btai.1).toList == (strOfNums ((rd_T77 xaJ tab).f1)).toList)) else (none)) else (none)) else (some false))) else (if tab ≥ 0 then (if 0 ≤ tab then (if tab < (xaJ.length : Int) then (some ((strOfNums btai.1).toList == (strOfNums ((rd_T77 xaJ tab).f1)).toList)) else (none)) else (none)) else (some false))) else (some false))))) else (some false)) else (some false))))))
def arboretlaw03_TreeFinds.f (k : Nat) (a0_0 : ByteArray) (l0_1 : List (S77)) (l0_2 : List (S30)) (a1 : ByteArray) : Option (Bool) := (arboretlaw03_awake.f).bind fun taT => (if taT = true then ((arboretlaw03_size.f k a0_0 l0_1 l0_2 0).bind fun taG => (arboretlaw03_TreeFinds.j0 k a1 (decide (taG > 100000)) a0_0 l0_1 l0_2)) else (arboretlaw03_TreeFinds.j0 k a1 true a0_0 l0_1 l0_2))
def arboretlaw03_TreeFinds.T7 : Bool × List (List Nat × List Nat) := (true, [([], []), ([], []), ([0, 1], [0, 1]), ([2], [2]), ([3], [3]), ([3], [3]), ([4, 5, 3], [3, 4, 5]), ([3, 6], [3, 6]), ([7, 3], [7]), ([8], [8]), ([8], [8]), ([10, 8], [8, 10]), ([9, 11, 8], [8, 9, 11]), ([8, 12], [8, 12]), ([13, 8], [13]), ([14], [14]), ([14], [14]), ([15, 16, 14, 14], [14, 15, 16]), ([14], [14]), ([14], [14]), ([18, 19, 17, 14], [14, 18, 19]), ([17, 20, 14], [14, 17, 20]), ([14, 21], [14, 21])])
def arboretlaw03_TreeFinds.B7 : List Nat := [0, 0, 3, 7, 15, 15, 63, 127, 255, 511, 511, 1535, 4095, 8191, 16383, 32767, 32767, 131071, 32767, 32767, 1048575, 2097151, 4194303]
theorem arboretlaw03_TreeFinds.tab7 : rtab .any (opsOf Try.f10 7) = arboretlaw03_TreeFinds.T7 := by kernel_rfl
theorem arboretlaw03_TreeFinds.bits7 : waitsOk arboretlaw03_TreeFinds.T7.2 arboretlaw03_TreeFinds.B7 = true := by kernel_rfl
def arboretlaw03_TreeFinds.T9 : Bool × List (List Nat × List Nat) := (true, [([], []), ([0], [0]), ([1], [1]), ([2], [2]), ([3, 2], [2, 3]), ([4, 2], [2, 4]), ([2, 5], [2, 5]), ([6, 2], [6]), ([7], [7]), ([8, 7], [7, 8]), ([9, 7, 7], [7, 9]), ([10], [10]), ([11, 10], [10, 11]), ([10], [10]), ([13, 10], [10, 13]), ([10], [10]), ([14, 15, 10], [10, 14, 15]), ([16, 10], [10, 16]), ([17, 10], [10, 17]), ([18, 10], [10, 18]), ([12, 19, 10], [10, 12, 19]), ([10, 20, 7], [7, 10, 20]), ([7, 21], [7, 21]), ([22, 10, 0, 1, 2, 3, 4, 5, 6, 7, 8, 9, 10, 11, 12, 13, 14, 15, 16, 17, 18, 19, 20, 21, 22], [22])])
def arboretlaw03_TreeFinds.B9 : List Nat := [0, 1, 3, 7, 15, 31, 63, 127, 255, 511, 1023, 2047, 4095, 2047, 10239, 2047, 59391, 124927, 255999, 518143, 1048575, 2097151, 4194303, 8388607]
theorem arboretlaw03_TreeFinds.tab9 : rtab .any (opsOf Try.f10 9) = arboretlaw03_TreeFinds.T9 := by kernel_rfl
theorem arboretlaw03_TreeFinds.bits9 : waitsOk arboretlaw03_TreeFinds.T9.2 arboretlaw03_TreeFinds.B9 = true := by kernel_rfl
end Go.Proofs.Yteejaaeglfpcmab.PX
