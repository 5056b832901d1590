/- EncodeWrites: texts of this session's, and what the kit's print laid for this seat, as far as the law's row uses them (Dict, Shelf, PEx0, PEx0, PEx0, PEx0, PEx0). -/
import Derived.Shelf.Small.Strs
import Derived.Shelf.Strings.Search1
import Derived.Shelf.Strings.Search2
import Derived.Shelf.Strings.Cut
import Derived.Shelf.LaysM
import Derived.Shelf.Strings.Shaped
import Derived.Shelf.Sort.Plain
import Derived.Shelf.Slices.CompactS
import Derived.Shelf.Slices.In.SortNone
import Derived.Shelf.Bytes.SlIndexSmall
import Derived.Ground.SlbNamesProg
import Derived.Shelf.Bytes.SlCountOne
import Derived.Shelf.Bytes.SlIndexAt
import Derived.Shelf.Bytes.SlEqualAll
import Derived.Shelf.Bytes.Small
import Derived.Shelf.Bytes.IndexByte
import Derived.Test.YtkopmkinlanhoaaGreatProg
import Derived.WalkSpells
import Derived.Sort.OwnSorted
import Derived.Maps.Own
import Derived.Maps.OwnSet
import Derived.Maps.Views
import Derived.Lib.EndianBits
import Derived.StillTailTactics
import Derived.Test.YtkopmkinlanhoaaGreatRows
import Derived.ChangeArms
import Derived.DataReads
import Derived.Deep.Slices
import Derived.Lib.PathFns
import Derived.Lib.IndexBytes
import Derived.Lib.RowBridge
import Derived.ProofKit
import Derived.OpenShut
import Derived.ShutString
import Derived.ChangeOld
import Derived.JoinedCond
import Derived.Deep.CondSized
import Derived.Test.YtkopmkinlanhoaaGreatZEncodeWrites0
set_option linter.unusedVariables false
set_option linter.unusedSimpArgs false
namespace Go.Proofs
variable {p : Prop}
theorem AK (h : p) : @YtkopmkinlanhoaaGreatW.PrintWords.Aside0 p := ⟨h⟩
theorem Sx : (∀ (a : Act) (v : Value) (d : Tmp), a.put (some d) v = { tmps := a.tmps.setIfInBounds d v, defers := a.defers }) ∧ (∀ (a : Act) (v : Value), a.put none v = a) ∧ (∀ (l : List Value) (i : Nat) (a : Value), l.toArray.setIfInBounds i a = (l.set i a).toArray) ∧ (∀ {x : Value} {xs : List Value} {i : Nat} {a : Value}, (x :: xs).set (i + 1) a = x :: xs.set i a) ∧ (∀ {x : Value} {xs : List Value} {a : Value}, (x :: xs).set 0 a = a :: xs) ∧ (∀ n : Int, IntKind.i64.wrap n = Go.RowKit.wrap64 n) ∧ (∀ n : Int, IntKind.i32.wrap n = Go.RowKit.wrap32 n) := ⟨fun _ _ _ => rfl, fun _ _ => rfl, List.setIfInBounds_toArray, List.set_cons_succ, List.set_cons_zero, YtkopmkinlanhoaaGreatW.PrintLast.i64_w, YtkopmkinlanhoaaGreatW.PrintLast.i32_w⟩
section
open Go.RowKit YtkopmkinlanhoaaGreatW.PrintWords
variable {w : World} {g k : Nat} {t : TypeId} {cs : Array Value} {va vb vc vd ve vf vg vh vi vj vk vl vm vn vo vp : Value}
theorem Zk2 (h : w.heap[g]? = some (.cells #[va, vb] t (0, 0))) : w.cell? ⟨g, 0, none⟩ = some va ∧ w.cell? ⟨g, 1, none⟩ = some vb ∧ w.frozen? ⟨g, 0, none⟩ = false ∧ w.frozen? ⟨g, 1, none⟩ = false := ⟨blk_cell h 0, blk_cell h 1, blk_frozen h 0, blk_frozen h 1⟩
theorem Zk3 (h : w.heap[g]? = some (.cells #[va, vb, vc] t (0, 0))) : w.cell? ⟨g, 0, none⟩ = some va ∧ w.cell? ⟨g, 1, none⟩ = some vb ∧ w.cell? ⟨g, 2, none⟩ = some vc ∧ w.frozen? ⟨g, 0, none⟩ = false ∧ w.frozen? ⟨g, 1, none⟩ = false ∧ w.frozen? ⟨g, 2, none⟩ = false := ⟨blk_cell h 0, blk_cell h 1, blk_cell h 2, blk_frozen h 0, blk_frozen h 1, blk_frozen h 2⟩
theorem Zk5 (h : w.heap[g]? = some (.cells #[va, vb, vc, vd, ve] t (0, 0))) : w.cell? ⟨g, 0, none⟩ = some va ∧ w.cell? ⟨g, 1, none⟩ = some vb ∧ w.cell? ⟨g, 2, none⟩ = some vc ∧ w.cell? ⟨g, 3, none⟩ = some vd ∧ w.cell? ⟨g, 4, none⟩ = some ve ∧ w.frozen? ⟨g, 0, none⟩ = false ∧ w.frozen? ⟨g, 1, none⟩ = false ∧ w.frozen? ⟨g, 2, none⟩ = false ∧ w.frozen? ⟨g, 3, none⟩ = false ∧ w.frozen? ⟨g, 4, none⟩ = false := ⟨blk_cell h 0, blk_cell h 1, blk_cell h 2, blk_cell h 3, blk_cell h 4, blk_frozen h 0, blk_frozen h 1, blk_frozen h 2, blk_frozen h 3, blk_frozen h 4⟩
theorem Zf2 {i0 i1 : Nat} (h : w.heap[g]? = some (.cells cs t (0, 0))) (n : g ≠ k) : ((w.setCell ⟨k, i0, none⟩ va).setCell ⟨k, i1, none⟩ vb).heap[g]? = some (.cells cs t (0, 0)) := blk_far (blk_far h n _) n _
theorem Zp2 {x0 x1 : Value} (h : w.heap[g]? = some (.cells #[x0, x1] t (0, 0))) : ((w.setCell ⟨g, 0, none⟩ va).setCell ⟨g, 1, none⟩ vb).heap[g]? = some (.cells #[va, vb] t (0, 0)) := blk_put (blk_put h 0 _ rfl) 1 _ rfl
theorem Zf3 {i0 i1 i2 : Nat} (h : w.heap[g]? = some (.cells cs t (0, 0))) (n : g ≠ k) : (((w.setCell ⟨k, i0, none⟩ va).setCell ⟨k, i1, none⟩ vb).setCell ⟨k, i2, none⟩ vc).heap[g]? = some (.cells cs t (0, 0)) := blk_far (blk_far (blk_far h n _) n _) n _
theorem Zp3 {x0 x1 x2 : Value} (h : w.heap[g]? = some (.cells #[x0, x1, x2] t (0, 0))) : (((w.setCell ⟨g, 0, none⟩ va).setCell ⟨g, 1, none⟩ vb).setCell ⟨g, 2, none⟩ vc).heap[g]? = some (.cells #[va, vb, vc] t (0, 0)) := blk_put (blk_put (blk_put h 0 _ rfl) 1 _ rfl) 2 _ rfl
end
theorem Zc0 {α : Type} [BEq α] [LawfulBEq α] {a b : α} (h : a = b) : (a == b) = true ∧ (a != b) = false := ⟨beq_iff_eq.mpr h, bne_eq_false_iff_eq.mpr h⟩
theorem Zd0 {α : Type} [BEq α] [LawfulBEq α] {a b : α} (h : ¬ a = b) : (a == b) = false ∧ (a != b) = true := ⟨beq_eq_false_iff_ne.mpr h, bne_iff_ne.mpr h⟩
theorem Zn2 {p0 p1 : Prop} (h0 : p0) (h1 : p1) : p0 ∧ p1 := ⟨h0, h1⟩
theorem Zn3 {p0 p1 p2 : Prop} (h0 : p0) (h1 : p1) (h2 : p2) : p0 ∧ p1 ∧ p2 := ⟨h0, h1, h2⟩
theorem Zn4 {p0 p1 p2 p3 : Prop} (h0 : p0) (h1 : p1) (h2 : p2) (h3 : p3) : p0 ∧ p1 ∧ p2 ∧ p3 := ⟨h0, h1, h2, h3⟩
theorem Zn5 {p0 p1 p2 p3 p4 : Prop} (h0 : p0) (h1 : p1) (h2 : p2) (h3 : p3) (h4 : p4) : p0 ∧ p1 ∧ p2 ∧ p3 ∧ p4 := ⟨h0, h1, h2, h3, h4⟩
theorem Zn7 {p0 p1 p2 p3 p4 p5 p6 : Prop} (h0 : p0) (h1 : p1) (h2 : p2) (h3 : p3) (h4 : p4) (h5 : p5) (h6 : p6) : p0 ∧ p1 ∧ p2 ∧ p3 ∧ p4 ∧ p5 ∧ p6 := ⟨h0, h1, h2, h3, h4, h5, h6⟩
theorem Zn8 {p0 p1 p2 p3 p4 p5 p6 p7 : Prop} (h0 : p0) (h1 : p1) (h2 : p2) (h3 : p3) (h4 : p4) (h5 : p5) (h6 : p6) (h7 : p7) : p0 ∧ p1 ∧ p2 ∧ p3 ∧ p4 ∧ p5 ∧ p6 ∧ p7 := ⟨h0, h1, h2, h3, h4, h5, h6, h7⟩
theorem Zn9 {p0 p1 p2 p3 p4 p5 p6 p7 p8 : Prop} (h0 : p0) (h1 : p1) (h2 : p2) (h3 : p3) (h4 : p4) (h5 : p5) (h6 : p6) (h7 : p7) (h8 : p8) : p0 ∧ p1 ∧ p2 ∧ p3 ∧ p4 ∧ p5 ∧ p6 ∧ p7 ∧ p8 := ⟨h0, h1, h2, h3, h4, h5, h6, h7, h8⟩
theorem Zq1 (h : p := by omega) : p := h
theorem Zq2 (h : p := by decide) : p := h
theorem Zq3 (h : p := by kernel_rfl) : p := h
theorem Zq4 (h : p := by first | rfl | (simp; done) | (simp [*]; done)) : p := h
theorem Zq5 (h : p := by first | (with_reducible assumption) | assumption) : p := h
theorem Zq6 (h : p := by repeat (first | (with_reducible first | exact HB.out | apply below_alloc | apply pw_below_drewN | apply below_drew1) | exact HB.out)) : p := h
theorem Zq7 (h : p := by simp) : p := h
theorem Zq8 (h : p := by repeat (first | exact Drawn0.refl _ | apply Drawn0.step)) : p := h
theorem Zq9 (h : p := by rfl) : p := h
theorem Zq10 (h : p := by (try simp only [List.map_toArray, List.map_cons, List.map_nil]); first | done | rfl | (simp only [List.length_drop, List.length_take]; rfl)) : p := h
theorem Zq11 (h : p := by first | rfl | (simp [errW_none, errW_some] <;> rfl) | (simp [*, errW_none, errW_some] <;> rfl)) : p := h
theorem Zq12 (h : p := by simp; omega) : p := h
theorem Zq13 (h : p := by repeat (first | (with_reducible first | exact HB.out | apply below_alloc | apply pw_below_drewN | apply below_drew1 | refine below_set ?_ GEab.out) | exact HB.out)) : p := h
theorem Zq14 (h : p := by have := HK1.out; omega) : p := h
theorem Zq15 (h : p := by (with_reducible repeat (first | refine blk_drewN ?_ _ | refine blk_drew ?_ | refine blk_alloc ?_ _)); exact BKab.out) : p := h
theorem Zq16 (h : p := by repeat (first | exact HB.out | apply below_alloc | apply pw_below_drewN | apply below_drew1)) : p := h
theorem Zq17 (h : p := by repeat (first | exact HB.out | apply pw_below_drewN)) : p := h
theorem Zq18 (h : p := by repeat (first | exact B0.out | refine blk_drewN ?_ _)) : p := h
theorem Zq19 (h : p := by repeat (first | (with_reducible first | exact HB.out | apply below_alloc | apply pw_below_drewN | apply below_drew1 | refine below_set ?_ GEac.out) | exact HB.out)) : p := h
theorem Zq20 (h : p := by (with_reducible repeat (first | refine blk_drewN ?_ _ | refine blk_drew ?_ | refine blk_alloc ?_ _)); exact BKae.out) : p := h
theorem Zq21 (h : p := by repeat (first | (with_reducible first | exact HB.out | apply below_alloc | apply pw_below_drewN | apply below_drew1 | refine below_set ?_ GEae.out) | exact HB.out)) : p := h
theorem Zq22 (h : p := by repeat (first | (with_reducible first | exact HB.out | apply below_alloc | apply pw_below_drewN | apply below_drew1 | refine below_set ?_ GEan.out) | exact HB.out)) : p := h
theorem Zq23 (h : p := by (with_reducible repeat (first | refine blk_drewN ?_ _ | refine blk_drew ?_ | refine blk_alloc ?_ _)); exact BKac.out) : p := h
theorem Zq24 (h : p := by first | omega | exact Nat.le_refl _) : p := h
theorem Zq25 (h : p := by first | rfl | (simp; done)) : p := h
theorem Zq26 (h : p := by (with_reducible repeat (first | refine blk_drewN ?_ _ | refine blk_drew ?_ | refine blk_alloc ?_ _)); exact BKah.out) : p := h
theorem Zq27 (h : p := by repeat (first | (with_reducible first | exact HB.out | apply below_alloc | apply pw_below_drewN | apply below_drew1 | refine below_set ?_ GEah.out) | exact HB.out)) : p := h
theorem Zq28 (h : p := by repeat (first | exact HM.out.kept | refine Kept.drewN ?_ _)) : p := h
theorem Zq29 (h : p := by repeat (first | (with_reducible first | exact HB.out | apply below_alloc | apply pw_below_drewN | apply below_drew1 | refine below_set ?_ GEam.out) | exact HB.out)) : p := h
theorem Zq30 (h : p := by have := HK1.out; have := HK2.out; omega) : p := h
theorem Zq31 (h : p := by (with_reducible repeat (first | refine blk_drewN ?_ _ | refine blk_drew ?_ | refine blk_alloc ?_ _)); exact BKai.out) : p := h
theorem Zq32 (h : p := by repeat (first | (with_reducible first | exact HB.out | apply below_alloc | apply pw_below_drewN | apply below_drew1 | refine below_set ?_ GEah.out | refine below_set ?_ GEay.out) | exact HB.out)) : p := h
theorem Zq33 (h : p := by simp only [List.map_toArray, List.map_cons, List.map_nil]; rfl) : p := h
theorem Zq34 (h : p := by have := HJ4.out; have := HK2.out; have := HK3.out; have := HK4.out; have := HK5.out; omega) : p := h
theorem Zq35 (h : p := by (with_reducible repeat (first | refine blk_drewN ?_ _ | refine blk_drew ?_ | refine blk_alloc ?_ _)); exact BKan.out) : p := h
theorem Zq36 (h : p := by repeat (first | (with_reducible first | exact HB.out | apply below_alloc | apply pw_below_drewN | apply below_drew1 | refine below_set ?_ GEai.out) | exact HB.out)) : p := h
theorem Zq37 (h : p := by repeat (first | (with_reducible first | exact HB.out | apply below_alloc | apply pw_below_drewN | apply below_drew1 | refine below_set ?_ GEae.out | refine below_set ?_ GEaD.out) | exact HB.out)) : p := h
theorem Zq38 (h : p := by (with_reducible repeat (first | apply Kd.R_alloc | apply Kd.R_drewN | apply Kd.R_drew)); exact R0.out) : p := h
theorem Zq39 (h : p := by (with_reducible repeat (first | refine blk_alloc ?_ _ | refine blk_drewN ?_ _)); refine blk_put (cs := #[.int .u32 0, .slice none 0 0, .string ⟨#[]⟩, .slice none 0 0, .slice none 0 0]) ?_ 4 _ rfl; (with_reducible repeat (first | refine blk_alloc ?_ _ | refine blk_drewN ?_ _)); refine blk_put (cs := #[.int .u32 0, .slice none 0 0, .string ⟨#[]⟩, .slice none 0 0, .slice none 0 0]) ?_ 3 _ rfl; (with_reducible repeat (first | refine blk_alloc ?_ _ | refine blk_drewN ?_ _)); refine blk_put (cs := #[.int .u32 0, .slice none 0 0, .string ⟨#[]⟩, .slice none 0 0, .slice none 0 0]) ?_ 2 _ rfl; (with_reducible repeat (first | refine blk_alloc ?_ _ | refine blk_drewN ?_ _)); refine blk_put (cs := #[.int .u32 0, .slice none 0 0, .string ⟨#[]⟩, .slice none 0 0, .slice none 0 0]) ?_ 1 _ rfl; (with_reducible repeat (first | refine blk_alloc ?_ _ | refine blk_drewN ?_ _)); refine blk_put (cs := #[.int .u32 0, .slice none 0 0, .string ⟨#[]⟩, .slice none 0 0, .slice none 0 0]) ?_ 0 _ rfl; (with_reducible repeat (first | refine blk_alloc ?_ _ | refine blk_drewN ?_ _)); exact HK.out) : p := h
theorem Zq40 (h : p := by (with_reducible repeat (first | refine blk_drewN ?_ _ | refine blk_drew ?_ | refine blk_alloc ?_ _)); exact BKam.out) : p := h
theorem Zq41 (h : p := by have h2 := HM2.out; rw [HN.out] at h2; exact h2) : p := h
theorem Zq42 (h : p := by repeat (first | (with_reducible first | exact HB.out | apply below_alloc | apply pw_below_drewN | apply below_drew1 | refine below_set ?_ GEaq.out) | exact HB.out)) : p := h
theorem Zq43 (h : p := by (with_reducible repeat (first | apply Kd.R_alloc | apply Kd.R_drewN | apply Kd.R_drew)); exact R1.out) : p := h
theorem Zq44 (h : p := by refine blk_put (cs := #[.string ⟨#[]⟩, .slice none 0 0]) ?_ 1 _ rfl; refine blk_put (cs := #[.string ⟨#[]⟩, .slice none 0 0]) ?_ 0 _ rfl; repeat (first | exact BK.out | refine blk_drewN ?_ _)) : p := h
theorem Zq45 (h : p := by repeat (first | exact HM.out | refine RdM.drewN ?_ _)) : p := h
theorem Zq46 (h : p := by repeat (first | exact Below.refl _ _ | refine pw_below_drewN ?_ _)) : p := h
theorem Zq47 (h : p := by (with_reducible repeat (first | refine blk_drewN ?_ _ | refine blk_drew ?_ | refine blk_alloc ?_ _)); exact BKaq.out) : p := h
theorem Zq48 (h : p := by first | exact Kd.R_nil _ _ _ _ _ | exact Kd.N_nil _ _ _ _ _ | exact Kd.V_nil _ _ _ _ _ | exact Kd.Q_nil _ _ _ _ _ | exact Kd.S_nil _ _ _ _ _) : p := h
theorem Zq49 (h : p := by repeat (first | (with_reducible first | exact HB.out | apply below_alloc | apply pw_below_drewN | apply below_drew1 | refine below_set ?_ GEaE.out) | exact HB.out)) : p := h
theorem Zq50 (h : p := by (with_reducible repeat (first | apply Kd.R_alloc | apply Kd.R_drewN | apply Kd.R_drew)); exact HO_5.out) : p := h
theorem Zq51 (h : p := by repeat (first | exact HBr.out | apply below_alloc | apply pw_below_drewN | apply below_drew1)) : p := h
theorem Zq52 (h : p := by repeat (first | (with_reducible first | exact HB.out | apply below_alloc | apply pw_below_drewN | apply below_drew1 | refine below_set ?_ GEaJ.out) | exact HB.out)) : p := h
theorem Zq53 (h : p := by (with_reducible repeat (first | apply Kd.R_alloc | apply Kd.R_drewN | apply Kd.R_drew)); exact HO_6.out) : p := h
theorem Zq54 (h : p := by repeat (first | (with_reducible first | exact HB.out | apply below_alloc | apply pw_below_drewN | apply below_drew1 | refine below_set ?_ GEai.out | refine below_set ?_ GEaO.out) | exact HB.out)) : p := h
theorem Zq55 (h : p := by repeat (first | (with_reducible first | exact HB.out | apply below_alloc | apply pw_below_drewN | apply below_drew1 | refine below_set ?_ GEai.out | refine below_set ?_ GEax.out) | exact HB.out)) : p := h
theorem Zq56 (h : p := by refine blk_put (cs := #[.string ⟨#[]⟩, .slice none 0 0, .slice none 0 0]) ?_ 2 _ rfl; refine blk_put (cs := #[.string ⟨#[]⟩, .slice none 0 0, .slice none 0 0]) ?_ 1 _ rfl; refine blk_put (cs := #[.string ⟨#[]⟩, .slice none 0 0, .slice none 0 0]) ?_ 0 _ rfl; exact BZ.out) : p := h
theorem Zq57 (h : p := by repeat (first | exact below_step Zq51 HB4.out | apply below_drew1 | apply pw_below_drewN)) : p := h
theorem Zq58 (h : p := by exact Aside0.mk (blk_below (g := gbac) (o := .cells #[.int .u32 a0_0, .slice A0_1 l0_1.length c0_1, .string a0_2, .slice A0_3 l0_3.length c0_3, .slice A0_4 l0_4.length c0_4] 29 (0, 0)) Zq23 hb)) : p := h
theorem Zq59 (h : p := by exact below_alloc (Below.refl _ _) _) : p := h
theorem Zq60 (h : p := by exact Aside0.mk (blk_kept BK.out hm.kept (fun e => Nat.ne_of_gt HG.out e))) : p := h
theorem Zq61 (h : p := by exact Aside0.mk (below_step Zq6 hb)) : p := h
theorem Zq62 (h : p := by exact Aside0.mk (RdM.mk hm.st (((Kept.refl W (fun k => k = g)).drewN _).then_ hm.kept (fun _ h => .inl h)))) : p := h
theorem Zq63 (h : p := by exact Aside0.mk (blk_kept (blk_new w4 (.cells #[.string x.f0, .slice A1 x.f1.length c1, .slice A2 x.f2.length c2] 27 (0, 0))) hm.kept (fun e => Nat.ne_of_gt (blk_lt HS.out.blk) e))) : p := h
theorem Zq64 (h : p := by exact Aside0.mk (below_step HBb.out HS.out.bel)) : p := h
theorem Zq65 (h : p := by exact Aside0.mk (blk_below HKb.out HS.out.bel)) : p := h
theorem Zq66 (h : p := by exact Aside0.mk (blk_below HHb.out HS.out.bel)) : p := h
theorem Zq67 (h : p := by exact Aside0.mk ((by rw [hg]; exact (below_size Zq6) : w.heap.size ≤ gbab))) : p := h
theorem Zq68 (h : p := by exact Aside0.mk ((by rw [hg]; exact (below_size Zq6) : w.heap.size ≤ gbac))) : p := h
theorem Zq69 (h : p := by exact Aside0.mk (blk_below (g := gbab) (o := .cells #[.string a0_0, .slice A0_1 l0_1.length c0_1, .slice (some adak) l0_2.length c0_2] 27 (0, 0)) Zq15 hb)) : p := h
theorem Zq70 (h : p := by exact Aside0.mk (Below.refl w.heap.size w)) : p := h
theorem Zq71 (h : p := by exact blk_lt (g := gbah) (o := .cells #[.string a0_0, .slice A0_1 l0_1.length c0_1, .slice (some adau) l0_2.length c0_2] 27 (0, 0)) Zq26) : p := h
theorem Zq72 (h : p := by exact Aside0.mk (fun W2 (hk : Kept W W2 (fun k => k = g)) => (HD.out W2 hk).look s HZ.out)) : p := h
theorem Zq73 (h : p := by exact Aside0.mk (blk_below (g := gbay) (o := .cells #[.string ((rd_T27 l0_2 x16_1).f0), .slice Aau_1 ((rd_T27 l0_2 x16_1).f1).length cau_1, .slice Aau_2 ((rd_T27 l0_2 x16_1).f2).length cau_2] 27 (0, 0)) (Zp3 BKay.out) hb)) : p := h
theorem Zq74 (h : p := by exact Kd.C_below HR0_3.out HB.out) : p := h
theorem Zq75 (h : p := by exact Kd.C_below HR0_4.out HB.out) : p := h
theorem Zq76 (h : p := by exact Aside0.mk (Kd.R_grown (ok := fun k_ => some k_ ≠ v0.ownBlock) Zq43 hg2 (fun _ h => h))) : p := h
theorem Zq77 (h : p := by exact Aside0.mk (blk_below HK.out hb)) : p := h
theorem Zq78 (h : p := by exact blk_lt (g := gbae) (o := .cells #[.string a0_0, .slice (some adbb) l0_1.length c0_1, .slice A0_2 l0_2.length c0_2] 27 (0, 0)) Zq20) : p := h
theorem Zq79 (h : p := by exact blk_lt (g := gbae) (o := .cells #[.string a0_0, .slice A0_1 l0_1.length c0_1, .slice (some adaf) l0_2.length c0_2] 27 (0, 0)) Zq20) : p := h
theorem Zq80 (h : p := by exact Aside0.mk (blk_below (g := gban) (o := .cells #[.int .u32 a0_0, .slice A0_1 l0_1.length c0_1, .string a0_2, .slice A0_3 l0_3.length c0_3, .slice A0_4 l0_4.length c0_4] 29 (0, 0)) Zq35 hb)) : p := h
theorem Zq81 (h : p := by exact Aside0.mk (below_step Zq19 hb)) : p := h
theorem Zq82 (h : p := by exact Aside0.mk ((by rw [hg]; exact (below_size Zq27) : w.heap.size ≤ gbay))) : p := h
theorem Zq83 (h : p := by exact Aside0.mk ((by rw [hg]; exact (below_size Zq6) : w.heap.size ≤ gbam))) : p := h
theorem Zq84 (h : p := by exact Aside0.mk ((by rw [hg]; exact (below_size Zq6) : w.heap.size ≤ gbaq))) : p := h
theorem Zq85 (h : p := by exact Aside0.mk ((by rw [hg]; exact (below_size Zq6) : w.heap.size ≤ gbah))) : p := h
theorem Zq86 (h : p := by exact Aside0.mk (blk_below (g := gbah) (o := .cells #[.string a0_0, .slice A0_1 l0_1.length c0_1, .slice (some adau) l0_2.length c0_2] 27 (0, 0)) (Zf3 BKah.out NB265_267.out) hb)) : p := h
theorem Zq87 (h : p := by exact Aside0.mk ((by rw [hg]; exact (below_size Zq6) : w.heap.size ≤ gbaJ))) : p := h
theorem Zq88 (h : p := by exact Aside0.mk (below_grown_own (W1 := W1) Zq16 hg2 (own_from R0.out))) : p := h
theorem Zq89 (h : p := by exact Aside0.mk (below_grown_own (W1 := W1) Zq16 hg3 (own_from R1.out))) : p := h
theorem Zq90 (h : p := by exact Aside0.mk (blk_below (g := gbam) (o := .cells #[.string a0_0, .slice A0_1 l0_1.length c0_1, .slice (some adaB) l0_2.length c0_2] 27 (0, 0)) Zq40 hb)) : p := h
theorem Zq91 (h : p := by exact Aside0.mk (blk_below (g := gbaq) (o := .cells #[.string a0_0, .slice A0_1 l0_1.length c0_1, .slice (some adaC) l0_2.length c0_2] 27 (0, 0)) Zq47 hb)) : p := h
theorem Zq92 (h : p := by exact Aside0.mk (blk_below (g := gbah) (o := .cells #[.string a0_0, .slice A0_1 l0_1.length c0_1, .slice (some adau) l0_2.length c0_2] 27 (0, 0)) Zq26 hb)) : p := h
theorem Zq93 (h : p := by exact Aside0.mk (blk_below (blk_new w (.cells #[.int .u32 0, .slice none 0 0, .string ⟨#[]⟩, .slice none 0 0, .slice none 0 0] 29 (0, 0))) hb)) : p := h
theorem Zq94 (h : p := by exact Aside0.mk (HN.out.moved NC.out hm)) : p := h
theorem Zq95 (h : p := by exact Aside0.mk (blk_below (g := gbaD) (o := .cells #[.string ((rd_T27 l0_2 x30_2).f0), .slice Aaf_1 ((rd_T27 l0_2 x30_2).f1).length caf_1, .slice Aaf_2 ((rd_T27 l0_2 x30_2).f2).length caf_2] 27 (0, 0)) (Zp3 BKaD.out) hb)) : p := h
theorem Zq96 (h : p := by exact Aside0.mk ((by rw [hg]; exact (below_size Zq21) : w.heap.size ≤ gbaP))) : p := h
theorem Zq97 (h : p := by exact Aside0.mk ((by rw [hg]; exact (below_size Zq21) : w.heap.size ≤ gbaD))) : p := h
theorem Zq98 (h : p := by exact Aside0.mk ((by rw [hg]; exact (below_size Zq6) : w.heap.size ≤ gbaE))) : p := h
theorem Zq99 (h : p := by exact Aside0.mk ((by rw [hg]; exact (below_size Zq6) : w.heap.size ≤ gban))) : p := h
theorem Zq100 (h : p := by exact Nat.ne_of_lt (blk_lt HS.out.blk)) : p := h
theorem Zq101 (h : p := by exact Aside0.mk (blk_new w1 (.cells #[.int .u32 h.c0, .int .u32 h.c1, .int .u32 h.c2, .int .u32 h.c3, .int .u32 h.c4, .int .u32 h.c5, .int .u32 h.c6, .int .u32 h.c7, .int .u32 h.c8, .int .u32 h.c9] 78 (0, 0)))) : p := h
theorem Zq102 (h : p := by exact Aside0.mk (below_step HB0.out hb)) : p := h
theorem Zq103 (h : p := by exact Aside0.mk (below_step HB1.out hb)) : p := h
theorem Zq104 (h : p := by exact Aside0.mk (HK.out.trans n2_)) : p := h
theorem Zq105 (h : p := by exact Aside0.mk (n2_.2 _ _ _ BX.out Zq2 Zq2)) : p := h
theorem Zq106 (h : p := by exact Aside0.mk (blk_below (g := gbae) (o := .cells #[.string a0_0, .slice A0_1 l0_1.length c0_1, .slice (some adaf) l0_2.length c0_2] 27 (0, 0)) (Zf3 BKae.out NB279_283.out) hb)) : p := h
theorem Zq107 (h : p := by exact Kd.C_below HRak_1.out HB.out) : p := h
theorem Zq108 (h : p := by exact Kd.C_below HRak_2.out HB.out) : p := h
theorem Zq109 (h : p := by exact Aside0.mk (below_step Zq13 hb)) : p := h
theorem Zq110 (h : p := by exact Aside0.mk (blk_below (g := gbae) (o := .cells #[.string a0_0, .slice (some adbb) l0_1.length c0_1, .slice A0_2 l0_2.length c0_2] 27 (0, 0)) Zq20 hb)) : p := h
theorem Zq111 (h : p := by exact Aside0.mk (blk_below (g := gbae) (o := .cells #[.string a0_0, .slice A0_1 l0_1.length c0_1, .slice (some adaf) l0_2.length c0_2] 27 (0, 0)) Zq20 hb)) : p := h
theorem Zq112 (h : p := by exact blk_lt (g := gbai) (o := .cells #[.string a0_0, .slice (some adaj) l0_1.length c0_1, .slice A0_2 l0_2.length c0_2] 27 (0, 0)) Zq31) : p := h
theorem Zq113 (h : p := by exact blk_lt (g := gbai) (o := .cells #[.string a0_0, .slice A0_1 l0_1.length c0_1, .slice (some adar) l0_2.length c0_2] 27 (0, 0)) Zq31) : p := h
theorem Zq114 (h : p := by exact Aside0.mk (Kd.R_below (by (with_reducible repeat (first | apply Kd.R_alloc | apply Kd.R_drewN | apply Kd.R_drew)); exact HO_4.out) hb)) : p := h
theorem Zq115 (h : p := by exact Aside0.mk (Kd.R_lower (base' := w.heap.size + 1) hvr (Nat.le_trans (blk_lt HK.out) (below_alloc (Below.refl w1.heap.size w1) _).size))) : p := h
theorem Zq116 (h : p := by exact Aside0.mk (Kd.R_lower (base' := w.heap.size) ho6 (below_size Zq6))) : p := h
theorem Zq117 (h : p := by exact Aside0.mk (R_keptg (Kd.R_below HR1.out Zq59) hm.kept Zq12)) : p := h
theorem Zq118 (h : p := by exact Aside0.mk (R_keptg (Kd.R_below HR2.out Zq59) hm.kept Zq12)) : p := h
theorem Zq119 (h : p := by exact Aside0.mk ((by rw [hg]; exact Nat.ne_of_lt Zq71 : gbah ≠ gbay))) : p := h
theorem Zq120 (h : p := by exact Aside0.mk ((by rw [hg]; exact Nat.ne_of_gt Zq71 : gbay ≠ gbah))) : p := h
end Go.Proofs

namespace Go.Proofs
open Go.Shelf
def Tryz.lays137_ren : Go.Shelf.Ren := ⟨fun | 137 => 72 | 217 => 78 | 266 => 97 | n => n, fun | 9 => 9 | 5 => 5 | 3 => 3 | n => n, fun | n => n⟩
theorem Tryz.lays137 : Go.Proofs.Lays.n137 Tryz.prog Tryz.lays137_ren := {
  mixed := by kernel_rfl
  f137 := Tryz.func72.trans (congrArg some (by kernel_rfl))
  f217 := Tryz.func78.trans (congrArg some (by kernel_rfl))
  f266 := Tryz.func97.trans (congrArg some (by kernel_rfl))
  t3 := Tryz.underlying3
  a3 := Tryz.isAgg3
  z3 := Tryz.sizeOf3
  v3 := Tryz.zeroValue3
  t5 := Tryz.underlying5
  a5 := Tryz.isAgg5
  z5 := Tryz.sizeOf5
  v5 := Tryz.zeroValue5
  t9 := Tryz.underlying9
  a9 := Tryz.isAgg9
  z9 := Tryz.sizeOf9
  v9 := Tryz.zeroValue9 }
open Go.RowKit in
theorem Tryz.strings_IndexByte (s : ByteArray) (c : Int) (w : World) :
    Calls Tryz.prog 72 #[.string s, .int .u8 c] w fun e w' => e = .returned (.int .i64 (Lib.indexByte s.data.toList c.toNat.toUInt8)) ∧ w' = w := Any.strings_IndexByte Tryz.lays137 s c w
def Tryz.lays219_ren : Go.Shelf.Ren := ⟨fun | 219 => 77 | 217 => 78 | 225 => 94 | 224 => 95 | 267 => 96 | 266 => 97 | 314 => 107 | n => n, fun | 9 => 9 | 3 => 3 | 4 => 4 | 5 => 5 | 46 => 121 | 146 => 141 | 51 => 22 | n => n, fun | 1 => 0 | n => n⟩
theorem Tryz.lays219 : Go.Proofs.Lays.n219 Tryz.prog Tryz.lays219_ren := {
  mixed := by kernel_rfl
  f217 := Tryz.func78.trans (congrArg some (by kernel_rfl))
  f219 := Tryz.func77.trans (congrArg some (by kernel_rfl))
  f224 := Tryz.func95.trans (congrArg some (by kernel_rfl))
  f225 := Tryz.func94.trans (congrArg some (by kernel_rfl))
  f266 := Tryz.func97.trans (congrArg some (by kernel_rfl))
  f267 := Tryz.func96.trans (congrArg some (by kernel_rfl))
  f314 := Tryz.func107.trans (congrArg some (by kernel_rfl))
  t3 := Tryz.underlying3
  a3 := Tryz.isAgg3
  z3 := Tryz.sizeOf3
  v3 := Tryz.zeroValue3
  t4 := Tryz.underlying4
  a4 := Tryz.isAgg4
  z4 := Tryz.sizeOf4
  v4 := Tryz.zeroValue4
  t5 := Tryz.underlying5
  a5 := Tryz.isAgg5
  z5 := Tryz.sizeOf5
  v5 := Tryz.zeroValue5
  t9 := Tryz.underlying9
  a9 := Tryz.isAgg9
  z9 := Tryz.sizeOf9
  v9 := Tryz.zeroValue9
  t46 := Tryz.underlying121
  a46 := Tryz.isAgg121
  z46 := Tryz.sizeOf121
  v46 := Tryz.zeroValue121
  t51 := Tryz.underlying22
  a51 := Tryz.isAgg22
  z51 := Tryz.sizeOf22
  v51 := Tryz.zeroValue22
  t146 := Tryz.underlying141
  a146 := Tryz.isAgg141
  z146 := Tryz.sizeOf141
  v146 := Tryz.zeroValue141
  g1 := by kernel_rfl }
open Go.RowKit Go.Lib in
theorem Tryz.stringslite_Index_one (s : ByteArray) (c : UInt8) (w : World) :
    Calls Tryz.prog 77 #[.string s, .string ⟨#[c]⟩] w fun e w' => e = .returned (.int .i64 (Lib.indexByte s.data.toList c)) ∧ w' = w := Any.stringslite_Index_one Tryz.lays219 s c w
def Tryz.lays190_ren : Go.Shelf.Ren := ⟨fun | 190 => 63 | 125 => 74 | 258 => 73 | 128 => 88 | 129 => 89 | 302 => 79 | 303 => 80 | 304 => 81 | 305 => 82 | 306 => 83 | 307 => 84 | 308 => 85 | 309 => 86 | 310 => 87 | 333 => 98 | 329 => 99 | 330 => 100 | 334 => 101 | 335 => 102 | 336 => 103 | 344 => 108 | n => n, fun | 31 => 59 | 9 => 9 | 3 => 3 | 46 => 121 | 0 => 0 | 51 => 22 | 53 => 49 | 4 => 4 | 183 => 127 | 182 => 126 | 131 => 40 | 5 => 5 | 218 => 135 | 222 => 139 | 228 => 143 | 229 => 57 | n => n, fun | n => n⟩
theorem Tryz.lays190 : Go.Proofs.Lays.n190 Tryz.prog Tryz.lays190_ren := {
  mixed := by kernel_rfl
  f125 := Tryz.func74.trans (congrArg some (by kernel_rfl))
  f128 := Tryz.func88.trans (congrArg some (by kernel_rfl))
  f129 := Tryz.func89.trans (congrArg some (by kernel_rfl))
  f190 := Tryz.func63.trans (congrArg some (by kernel_rfl))
  f258 := Tryz.func73.trans (congrArg some (by kernel_rfl))
  f302 := Tryz.func79.trans (congrArg some (by kernel_rfl))
  f303 := Tryz.func80.trans (congrArg some (by kernel_rfl))
  f304 := Tryz.func81.trans (congrArg some (by kernel_rfl))
  f305 := Tryz.func82.trans (congrArg some (by kernel_rfl))
  f306 := Tryz.func83.trans (congrArg some (by kernel_rfl))
  f307 := Tryz.func84.trans (congrArg some (by kernel_rfl))
  f308 := Tryz.func85.trans (congrArg some (by kernel_rfl))
  f309 := Tryz.func86.trans (congrArg some (by kernel_rfl))
  f310 := Tryz.func87.trans (congrArg some (by kernel_rfl))
  f329 := Tryz.func99.trans (congrArg some (by kernel_rfl))
  f330 := Tryz.func100.trans (congrArg some (by kernel_rfl))
  f333 := Tryz.func98.trans (congrArg some (by kernel_rfl))
  f334 := Tryz.func101.trans (congrArg some (by kernel_rfl))
  f335 := Tryz.func102.trans (congrArg some (by kernel_rfl))
  f336 := Tryz.func103.trans (congrArg some (by kernel_rfl))
  f344 := Tryz.func108.trans (congrArg some (by kernel_rfl))
  t0 := Tryz.underlying0
  a0 := Tryz.isAgg0
  z0 := Tryz.sizeOf0
  v0 := Tryz.zeroValue0
  t3 := Tryz.underlying3
  a3 := Tryz.isAgg3
  z3 := Tryz.sizeOf3
  v3 := Tryz.zeroValue3
  t4 := Tryz.underlying4
  a4 := Tryz.isAgg4
  z4 := Tryz.sizeOf4
  v4 := Tryz.zeroValue4
  t5 := Tryz.underlying5
  a5 := Tryz.isAgg5
  z5 := Tryz.sizeOf5
  v5 := Tryz.zeroValue5
  t9 := Tryz.underlying9
  a9 := Tryz.isAgg9
  z9 := Tryz.sizeOf9
  v9 := Tryz.zeroValue9
  t31 := Tryz.underlying59
  a31 := Tryz.isAgg59
  z31 := Tryz.sizeOf59
  v31 := Tryz.zeroValue59
  t46 := Tryz.underlying121
  a46 := Tryz.isAgg121
  z46 := Tryz.sizeOf121
  v46 := Tryz.zeroValue121
  t51 := Tryz.underlying22
  a51 := Tryz.isAgg22
  z51 := Tryz.sizeOf22
  v51 := Tryz.zeroValue22
  t53 := Tryz.underlying49
  a53 := Tryz.isAgg49
  z53 := Tryz.sizeOf49
  v53 := Tryz.zeroValue49
  t131 := Tryz.underlying40
  a131 := Tryz.isAgg40
  z131 := Tryz.sizeOf40
  v131 := Tryz.zeroValue40
  t182 := Tryz.underlying126
  a182 := Tryz.isAgg126
  z182 := Tryz.sizeOf126
  v182 := Tryz.zeroValue126
  t183 := Tryz.underlying127
  a183 := Tryz.isAgg127
  z183 := Tryz.sizeOf127
  v183 := Tryz.zeroValue127
  t218 := Tryz.underlying135
  a218 := Tryz.isAgg135
  z218 := Tryz.sizeOf135
  v218 := Tryz.zeroValue135
  t222 := Tryz.underlying139
  a222 := Tryz.isAgg139
  z222 := Tryz.sizeOf139
  v222 := Tryz.zeroValue139
  t228 := Tryz.underlying143
  a228 := Tryz.isAgg143
  z228 := Tryz.sizeOf143
  v228 := Tryz.zeroValue143
  t229 := Tryz.underlying57
  a229 := Tryz.isAgg57
  z229 := Tryz.sizeOf57
  v229 := Tryz.zeroValue57 }
open Go.Sort Go.RowKit in
theorem Tryz.slices_Sort_string (blk off cap : Nat) (ss : List (List UInt8)) (w : World) (hH : Holds encStr w blk off ss.toArray) (hblk : blk < w.heap.size) (hsz : ss.length < 4611686018427387904) :
    Calls Tryz.prog 63 #[.slice (some ⟨blk, off, none⟩) ss.length cap] w fun e w' =>
      e = .returned (.tuple #[]) ∧ ∃ n os, w' = grow (putRow encStr (Sort.ahead w n) blk off (ss.mergeSort fun x y => decide (x ≤ y)).toArray) os := Any.slices_Sort_string Tryz.lays190 blk off cap ss w hH hblk hsz
def Tryz.lays194_ren : Go.Shelf.Ren := ⟨fun | 194 => 64 | n => n, fun | 31 => 59 | 9 => 9 | 3 => 3 | 4 => 4 | 0 => 0 | n => n, fun | n => n⟩
theorem Tryz.lays194 : Go.Proofs.Lays.n194 Tryz.prog Tryz.lays194_ren := {
  mixed := by kernel_rfl
  f194 := Tryz.func64.trans (congrArg some (by kernel_rfl))
  t0 := Tryz.underlying0
  a0 := Tryz.isAgg0
  z0 := Tryz.sizeOf0
  v0 := Tryz.zeroValue0
  t3 := Tryz.underlying3
  a3 := Tryz.isAgg3
  z3 := Tryz.sizeOf3
  v3 := Tryz.zeroValue3
  t4 := Tryz.underlying4
  a4 := Tryz.isAgg4
  z4 := Tryz.sizeOf4
  v4 := Tryz.zeroValue4
  t9 := Tryz.underlying9
  a9 := Tryz.isAgg9
  z9 := Tryz.sizeOf9
  v9 := Tryz.zeroValue9
  t31 := Tryz.underlying59
  a31 := Tryz.isAgg59
  z31 := Tryz.sizeOf59
  v31 := Tryz.zeroValue59 }
open Go.RowKit Go.Lib Go.Sort in
theorem Tryz.slices_Compact_string (blk off cap : Nat) (zs : List (List UInt8)) (w : World) (hH : Holds encStr w blk off zs.toArray) (hsz : zs.length ≤ 9223372036854775807) (hcap : zs.length ≤ cap) :
    Calls Tryz.prog 64 #[.slice (some ⟨blk, off, none⟩) zs.length cap] w fun e w' => e = .returned (.slice (some ⟨blk, off, none⟩) (Lib.compact zs).length cap) ∧ ∃ q, w' = putRow encStr (Sort.ahead w q) blk off (Lib.compact zs ++ List.replicate (zs.length - (Lib.compact zs).length) []).toArray := Any.slices_Compact_string Tryz.lays194 blk off cap zs w hH hsz hcap
open Go.RowKit Go.Lib Go.Sort in
theorem Tryz.slices_Compact_string_empty (a : Option Addr) (cap : Nat) (w : World) :
    Calls Tryz.prog 64 #[.slice a 0 cap] w fun e w' => e = .returned (.slice a 0 cap) ∧ w' = w := Any.slices_Compact_string_empty Tryz.lays194 a cap w
open Go.RowKit Go.Sort in
theorem Tryz.slices_Sort_string_none (p : Option Addr) (cap : Nat) (w : World) :
    Calls Tryz.prog 63 #[.slice p 0 cap] w fun e w' => e = .returned (.tuple #[]) ∧ w' = w := Any.slices_Sort_string_none Tryz.lays190 p cap w
def Tryz.laysSlB13_ren : Go.Shelf.Ren := ⟨fun | 13 => 76 | 24 => 91 | 25 => 92 | 12 => 93 | 31 => 104 | 19 => 75 | 20 => 26 | 21 => 105 | 22 => 95 | 23 => 106 | 29 => 90 | 30 => 109 | n => n, fun | 22 => 32 | 3 => 3 | 4 => 4 | 0 => 0 | 5 => 5 | 9 => 9 | 33 => 121 | 40 => 141 | 39 => 22 | n => n, fun | 0 => 0 | n => n⟩
theorem Tryz.laysSlB13 : Go.Proofs.SlLaysB.n13 Tryz.prog Tryz.laysSlB13_ren := {
  mixed := by kernel_rfl
  f13 := Tryz.func76.trans (congrArg some (by kernel_rfl))
  f25 := Tryz.func92.trans (congrArg some (by kernel_rfl))
  t0 := Tryz.underlying0
  a0 := Tryz.isAgg0
  z0 := Tryz.sizeOf0
  v0 := Tryz.zeroValue0
  t3 := Tryz.underlying3
  a3 := Tryz.isAgg3
  z3 := Tryz.sizeOf3
  v3 := Tryz.zeroValue3
  t4 := Tryz.underlying4
  a4 := Tryz.isAgg4
  z4 := Tryz.sizeOf4
  v4 := Tryz.zeroValue4
  t5 := Tryz.underlying5
  a5 := Tryz.isAgg5
  z5 := Tryz.sizeOf5
  v5 := Tryz.zeroValue5
  t22 := Tryz.underlying32
  a22 := Tryz.isAgg32
  z22 := Tryz.sizeOf32
  v22 := Tryz.zeroValue32 }
open Go.RowKit Go.Lib in
theorem Tryz.bytes_Count_one_at (a : Addr) (n c b2 o2 d : Nat) (xs : List Int) (cv : Int) (w : World) (hx : xs.length = n) (hc : ∀ i, i < n → w.cell? (a.add i) = some (.int .u8 (xs.getD i 0))) (hc2 : w.cell? ⟨b2, o2, none⟩ = some (.int .u8 cv)) :
    Calls Tryz.prog 76 #[.slice (some a) n c, .slice (some ⟨b2, o2, none⟩) 1 d] w fun e w' => e = .returned (.int .i64 (Lib.countByte (Lib.bytesOf xs) cv.toNat.toUInt8)) ∧ w' = w := Any.bytes_Count_one_at Tryz.laysSlB13 a n c b2 o2 d xs cv w hx hc hc2
def Tryz.lays187_ren : Go.Shelf.Ren := ⟨fun | 187 => 75 | 255 => 90 | n => n, fun | 37 => 32 | 5 => 5 | 3 => 3 | n => n, fun | n => n⟩
theorem Tryz.lays187 : Go.Proofs.Lays.n187 Tryz.prog Tryz.lays187_ren := {
  mixed := by kernel_rfl
  f187 := Tryz.func75.trans (congrArg some (by kernel_rfl))
  f255 := Tryz.func90.trans (congrArg some (by kernel_rfl))
  t3 := Tryz.underlying3
  a3 := Tryz.isAgg3
  z3 := Tryz.sizeOf3
  v3 := Tryz.zeroValue3
  t5 := Tryz.underlying5
  a5 := Tryz.isAgg5
  z5 := Tryz.sizeOf5
  v5 := Tryz.zeroValue5
  t37 := Tryz.underlying32
  a37 := Tryz.isAgg32
  z37 := Tryz.sizeOf32
  v37 := Tryz.zeroValue32 }
theorem Tryz.bytes_IndexByte (b o n c : Nat) (xs : List Int) (cv : Int) (w : World) (hx : xs.length = n) (hc : ∀ i, i < n → w.cell? ⟨b, o + i, none⟩ = some (.int .u8 (xs.getD i 0))) :
    Calls Tryz.prog 75 #[.slice (some ⟨b, o, none⟩) n c, .int .u8 cv] w fun e w' => e = .returned (.int .i64 (Lib.indexByte (Lib.bytesOf xs) cv.toNat.toUInt8)) ∧ w' = w := Any.bytes_IndexByte Tryz.lays187 b o n c xs cv w hx hc
end Go.Proofs

namespace Go.Proofs.YtkopmkinlanhoaaGreat.PE
open Go.RowKit Go.Proofs.YtkopmkinlanhoaaGreatW.PrintWords Go.Proofs.YtkopmkinlanhoaaGreatW.PrintLast Go.Proofs.YtkopmkinlanhoaaGreatW.PrintMore
attribute [local go_sem] max2_int min2_int max_two min_two max_three min_three max_four min_four
def errW : Option Int → Value
 | none => .nilIface
 | some c => .iface 0 (.int .i64 c)
theorem errW_none : errW none = .nilIface := rfl
theorem errW_some (c : Int) : errW (some c) = .iface 0 (.int .i64 c) := rfl
theorem info5 : (Tryz.prog.info? 5).map (fun i => (i.zero, i.size, i.bytes)) = some (some (.int .u8 0), 1, 1) := by kernel_rfl
theorem info9 : (Tryz.prog.info? 9).map (fun i => (i.zero, i.size, i.bytes)) = some (some (.string ⟨#[]⟩), 1, 16) := by kernel_rfl
theorem info51 : (Tryz.prog.info? 51).map (fun i => (i.zero, i.size, i.bytes)) = some (some (.agg #[(.int .u64 0), (.int .u64 0)]), 2, 16) := by kernel_rfl
structure S51 where
 f0 : Int
 f1 : Int
def z51 : S51 := ⟨(0 : Int), (0 : Int)⟩
def k51 : Kd S51 := Kd.iso (Kd.pair (Kd.int .u64) (Kd.int .u64)) (fun x : S51 => (x.f0, x.f1))
theorem k51_open {w : World} {x : S51} {cs : List Value} (h : k51.K w x cs) : cs = [.int .u64 x.f0, .int .u64 x.f1] := by
 obtain ⟨_, _, rfl, rfl, rfl⟩ := h; exact rfl
theorem k51_mkM (w : World) (base : Nat) (ok : Nat → Prop) (x : S51)  : k51.M w base ok x [.int .u64 x.f0, .int .u64 x.f1] := ⟨[.int .u64 x.f0], [.int .u64 x.f1], rfl, rfl, rfl⟩
def rd_T51 (xs : List S51) (i : Int) : S51 := xs.getD i.toNat z51
theorem at_T51 {w : World} {A : Option Addr} {n : Nat} {xs : List S51} (h : Kd.C k51 w A n xs) (i : Int) (h0 : 0 ≤ i) (h1 : i < n) : ∃ ad , A = some ad ∧ w.cell? (ad.add (i.toNat * 2)) = some (.int .u64 (rd_T51 xs i).f0) ∧ w.cell? ⟨(ad.add (i.toNat * 2)).block, (ad.add (i.toNat * 2)).off + 1, none⟩ = some (.int .u64 (rd_T51 xs i).f1) := by
 obtain ⟨ad, c, e, _, hK, hc0⟩ := Kd.C_get h z51 i h0 h1; have hc : ∀ j u, c[j]? = some u → w.cell? (ad.add (i.toNat * 2 + j)) = some u := hc0; obtain rfl := k51_open hK; exact ⟨ad, e, hc 0 _ rfl, by rw [← add_field _ _ 1 Zq1]; exact hc 1 _ rfl⟩
def rd_L6 (xs : List (List Int)) (i : Int) : (List Int) := xs.getD i.toNat ([] : List Int)
theorem at_L6 {w : World} {A : Option Addr} {n : Nat} {xs : List (List Int)} (h : Kd.C (Kd.slice 5 (Kd.int .u8)) w A n xs) (i : Int) (h0 : 0 ≤ i) (h1 : i < n) : ∃ ad A0 c0, A = some ad ∧ w.cell? (ad.add i.toNat) = some (.slice A0 (rd_L6 xs i).length c0) ∧ (rd_L6 xs i).length ≤ c0 ∧ (Kd.int .u8).C w A0 (rd_L6 xs i).length (rd_L6 xs i) := by
 obtain ⟨ad, c, e, _, hK, hc0⟩ := Kd.C_get h ([] : List Int) i h0 h1; have hc : ∀ j u, c[j]? = some u → w.cell? (ad.add (i.toNat * 1 + j)) = some u := hc0; obtain ⟨A0, c0, rfl, l0, g0⟩ := hK; exact ⟨ad, A0, c0, e, by have hq := hc 0 _ rfl; rwa [Nat.mul_one, Nat.add_zero] at hq, l0, g0⟩
structure S68 where
 f0 : ByteArray
 f1 : (List Int)
def z68 : S68 := ⟨(⟨#[]⟩ : ByteArray), ([] : List Int)⟩
def k68 : Kd S68 := Kd.iso (Kd.pair Kd.string (Kd.slice 5 (Kd.int .u8))) (fun x : S68 => (x.f0, x.f1))
theorem k68_open {w : World} {x : S68} {cs : List Value} (h : k68.K w x cs) : ∃ A1 c1, cs = [.string x.f0, .slice A1 x.f1.length c1] ∧ x.f1.length ≤ c1 ∧ (Kd.int .u8).C w A1 x.f1.length x.f1 := by
 obtain ⟨_, _, rfl, rfl, ⟨A1, c1, rfl, l1, g1⟩⟩ := h; exact ⟨A1, c1, rfl, l1, g1⟩
theorem k68_mkM (w : World) (base : Nat) (ok : Nat → Prop) (x : S68) {v1 : Value} (g1 : (Kd.int .u8).R 5 w base ok v1 x.f1) : k68.M w base ok x [.string x.f0, v1] := ⟨[.string x.f0], [v1], rfl, rfl, ⟨v1, rfl, g1⟩⟩
def rd_T68 (xs : List S68) (i : Int) : S68 := xs.getD i.toNat z68
theorem at_T68 {w : World} {A : Option Addr} {n : Nat} {xs : List S68} (h : Kd.C k68 w A n xs) (i : Int) (h0 : 0 ≤ i) (h1 : i < n) : ∃ ad A1 c1, A = some ad ∧ w.cell? (ad.add (i.toNat * 2)) = some (.string (rd_T68 xs i).f0) ∧ w.cell? ⟨(ad.add (i.toNat * 2)).block, (ad.add (i.toNat * 2)).off + 1, none⟩ = some (.slice A1 (rd_T68 xs i).f1.length c1) ∧ (rd_T68 xs i).f1.length ≤ c1 ∧ (Kd.int .u8).C w A1 (rd_T68 xs i).f1.length (rd_T68 xs i).f1 := by
 obtain ⟨ad, c, e, _, hK, hc0⟩ := Kd.C_get h z68 i h0 h1; have hc : ∀ j u, c[j]? = some u → w.cell? (ad.add (i.toNat * 2 + j)) = some u := hc0; obtain ⟨A1, c1, rfl, l1, g1⟩ := k68_open hK; exact ⟨ad, A1, c1, e, hc 0 _ rfl, by rw [← add_field _ _ 1 Zq1]; exact hc 1 _ rfl, l1, g1⟩
structure S27 where
 f0 : ByteArray
 f1 : (List S68)
 f2 : (List S27)
def z27 : S27 := ⟨(⟨#[]⟩ : ByteArray), ([] : List S68), ([] : List S27)⟩
def F27 (d : Kd S27) : Kd S27 := Kd.iso (Kd.pair Kd.string (Kd.pair (Kd.slice 68 k68) (Kd.slice 27 d))) (fun x : S27 => (x.f0, x.f1, x.f2))
theorem mono27 : Kd.Mono F27 := Kd.mono_iso _ (Kd.mono_pair (Kd.mono_const _) (Kd.mono_pair (Kd.mono_const _) (Kd.mono_slice 27 Kd.mono_id)))
theorem sub27 : Kd.Sub F27 [5, 27, 68] := Kd.sub_iso _ (Kd.sub_pair (Kd.sub_const _ Zq2) (Kd.sub_pair (Kd.sub_const _ Zq2) (Kd.sub_slice 27 Zq2 Kd.sub_id)))
theorem sz27 : ∀ n, (Kd.upto F27 3 [5, 27, 68] n).sz = 3 := Kd.upto_sz (fun _ => rfl)
def k27 : Kd S27 := Kd.fix F27 3 [5, 27, 68] sz27 (Kd.upto_E sub27)
theorem k27_open {w : World} {x : S27} {cs : List Value} (h : k27.K w x cs) : ∃ A1 c1 A2 c2, cs = [.string x.f0, .slice A1 x.f1.length c1, .slice A2 x.f2.length c2] ∧ x.f1.length ≤ c1 ∧ k68.C w A1 x.f1.length x.f1 ∧ x.f2.length ≤ c2 ∧ k27.C w A2 x.f2.length x.f2 := by
 obtain ⟨n, h⟩ := h
 cases n with
 | zero => exact h.elim
 | succ n =>
  obtain ⟨_, _, rfl, rfl, ⟨_, _, rfl, ⟨A1, c1, rfl, l1, g1⟩, ⟨A2, c2, rfl, l2, g2⟩⟩⟩ := h; exact ⟨A1, c1, A2, c2, rfl, l1, g1, l2, Kd.fix_C g2⟩
theorem k27_mk (w : World) (x : S27) {A1 : Option Addr} {c1 : Nat} (l1 : x.f1.length ≤ c1) (g1 : k68.C w A1 x.f1.length x.f1) {A2 : Option Addr} {c2 : Nat} (l2 : x.f2.length ≤ c2) (g2 : k27.C w A2 x.f2.length x.f2) : k27.K w x [.string x.f0, .slice A1 x.f1.length c1, .slice A2 x.f2.length c2] := by
 obtain ⟨n2, q2⟩ := Kd.fix_C_back mono27 g2; have r2 := Kd.upto_C_le mono27 sz27 (show n2 ≤ n2 by omega) q2; exact ⟨n2 + 1, ⟨[.string x.f0], [.slice A1 x.f1.length c1, .slice A2 x.f2.length c2], rfl, rfl, ⟨[.slice A1 x.f1.length c1], [.slice A2 x.f2.length c2], rfl, ⟨A1, c1, rfl, l1, g1⟩, ⟨A2, c2, rfl, l2, r2⟩⟩⟩⟩
theorem k27_mkM (w : World) (base : Nat) (ok : Nat → Prop) (x : S27) {v1 : Value} (g1 : k68.R 68 w base ok v1 x.f1) {v2 : Value} (g2 : k27.R 27 w base ok v2 x.f2) : k27.M w base ok x [.string x.f0, v1, v2] := by
 obtain ⟨n2, q2⟩ := Kd.fix_R_back mono27 g2; have r2 := Kd.upto_R_le mono27 sz27 (show n2 ≤ n2 by omega) q2; exact ⟨n2 + 1, ⟨[.string x.f0], [v1, v2], rfl, rfl, ⟨[v1], [v2], rfl, ⟨v1, rfl, g1⟩, ⟨v2, rfl, r2⟩⟩⟩⟩
def rd_T27 (xs : List S27) (i : Int) : S27 := xs.getD i.toNat z27
theorem at_T27 {w : World} {A : Option Addr} {n : Nat} {xs : List S27} (h : Kd.C k27 w A n xs) (i : Int) (h0 : 0 ≤ i) (h1 : i < n) : ∃ ad A1 c1 A2 c2, A = some ad ∧ w.cell? (ad.add (i.toNat * 3)) = some (.string (rd_T27 xs i).f0) ∧ w.cell? ⟨(ad.add (i.toNat * 3)).block, (ad.add (i.toNat * 3)).off + 1, none⟩ = some (.slice A1 (rd_T27 xs i).f1.length c1) ∧ w.cell? ⟨(ad.add (i.toNat * 3)).block, (ad.add (i.toNat * 3)).off + 2, none⟩ = some (.slice A2 (rd_T27 xs i).f2.length c2) ∧ (rd_T27 xs i).f1.length ≤ c1 ∧ k68.C w A1 (rd_T27 xs i).f1.length (rd_T27 xs i).f1 ∧ (rd_T27 xs i).f2.length ≤ c2 ∧ k27.C w A2 (rd_T27 xs i).f2.length (rd_T27 xs i).f2 := by
 obtain ⟨ad, c, e, _, hK, hc0⟩ := Kd.C_get h z27 i h0 h1; have hc : ∀ j u, c[j]? = some u → w.cell? (ad.add (i.toNat * 3 + j)) = some u := hc0; obtain ⟨A1, c1, A2, c2, rfl, l1, g1, l2, g2⟩ := k27_open hK; exact ⟨ad, A1, c1, A2, c2, e, hc 0 _ rfl, by rw [← add_field _ _ 1 Zq1]; exact hc 1 _ rfl, by rw [← add_field _ _ 2 Zq1]; exact hc 2 _ rfl, l1, g1, l2, g2⟩
structure S29 where
 f0 : Int
 f1 : (List S51)
 f2 : S27
def z29 : S29 := ⟨(0 : Int), ([] : List S51), z27⟩
def k29 : Kd S29 := Kd.iso (Kd.pair (Kd.int .u32) (Kd.pair (Kd.slice 51 k51) k27)) (fun x : S29 => (x.f0, x.f1, x.f2))
theorem k29_open {w : World} {x : S29} {cs : List Value} (h : k29.K w x cs) : ∃ A1 c1 A3 c3 A4 c4, cs = [.int .u32 x.f0, .slice A1 x.f1.length c1, .string x.f2.f0, .slice A3 x.f2.f1.length c3, .slice A4 x.f2.f2.length c4] ∧ x.f1.length ≤ c1 ∧ k51.C w A1 x.f1.length x.f1 ∧ x.f2.f1.length ≤ c3 ∧ k68.C w A3 x.f2.f1.length x.f2.f1 ∧ x.f2.f2.length ≤ c4 ∧ k27.C w A4 x.f2.f2.length x.f2.f2 := by
 obtain ⟨_, _, rfl, rfl, ⟨_, _, rfl, ⟨A1, c1, rfl, l1, g1⟩, s2⟩⟩ := h; obtain ⟨A3, c3, A4, c4, rfl, l3, g3, l4, g4⟩ := k27_open s2; exact ⟨A1, c1, A3, c3, A4, c4, rfl, l1, g1, l3, g3, l4, g4⟩
def words_Pad.f (a0 : Int) : Option (Int) := if a0 < 0 then (some 0) else (some (Int.tmod (wrap64 (4 - (Int.tmod a0 4))) 4))
set_option maxHeartbeats 8000000 in
set_option maxRecDepth 100000 in
theorem words_Pad.calls (a0 : Int) (r : Int) (w : World) (h : words_Pad.f a0 = some r) :
  Calls Tryz.prog 49 #[.int .i64 a0] w fun e w' => e = .returned (.int .i64 r) ∧ Drawn0 w w' := by
 have H : (if a0 < 0 then (some 0) else (some (Int.tmod (wrap64 (4 - (Int.tmod a0 4))) 4))) = some r := h; clear h
 by_cases c2 : a0 < 0
 ·rw [if_pos c2] at H; have c2b0 : decide (a0 < 0) = true := decide_eq_true c2; clear c2; obtain rfl := Option.some.inj H; go_enter Tryz.func49, Tryz.ntmps49; go_wp2; go_ret; exact ⟨Zq4, Zq8⟩
 ·rw [if_neg c2] at H; have c2b0 : decide (a0 < 0) = false := decide_eq_false c2; clear c2; obtain rfl := Option.some.inj H; go_enter Tryz.func49, Tryz.ntmps49; go_wp2; go_ret; exact ⟨Zq4, Zq8⟩
mutual
def arboretlaw03_size.l0 : Nat → Int → Int → Int → Int → ByteArray → List (S68) → List (S27) → Option (Int)
 | 0, _, _, _, _, _, _, _ => none
 | k + 1, x1, x5, x14, x15, xbT, xbA, xbp => if x15 < x14 then (if 0 ≤ x15 then (if x15 < (xbA.length : Int) then (arboretlaw03_size.l0 k x1 (wrap64 ((wrap64 ((wrap64 (x5 + 1)) + (((rd_T68 xbA x15).f0).size : Int))) + (((rd_T68 xbA x15).f1).length : Int))) x14 (wrap64 (x15 + 1)) xbT xbA xbp) else (none)) else (none)) else (arboretlaw03_size.l1 k x1 x5 (xbp.length : Int) 0 xbT xbA xbp)
def arboretlaw03_size.l1 : Nat → Int → Int → Int → Int → ByteArray → List (S68) → List (S27) → Option (Int)
 | 0, _, _, _, _, _, _, _ => none
 | k + 1, x1, x5, x39, x40, xbT, xbA, xbp => if x40 < x39 then (if x1 > 20 then (some 1048576) else (if x5 > 100000 then (some 1048576) else (if 0 ≤ x40 then (if x40 < (xbp.length : Int) then ((arboretlaw03_size.f k ((rd_T27 xbp x40).f0) ((rd_T27 xbp x40).f1) ((rd_T27 xbp x40).f2) (wrap64 (x1 + 1))).bind fun tbB => (arboretlaw03_size.l1 k x1 (wrap64 (x5 + tbB)) x39 (wrap64 (x40 + 1)) xbT xbA xbp)) else (none)) else (none)))) else (some x5)
def arboretlaw03_size.f : Nat → ByteArray → List (S68) → List (S27) → Int → Option (Int)
 | 0, _, _, _, _ => none
 | k + 1, a0_0, l0_1, l0_2, a1 => arboretlaw03_size.l0 k a1 (wrap64 (1 + (a0_0.size : Int))) (l0_1.length : Int) 0 a0_0 l0_1 l0_2
end
set_option maxHeartbeats 8000000 in
set_option maxRecDepth 100000 in
theorem arboretlaw03_size.calls (k : Nat) : ∀ (a0_0 : ByteArray) (A0_1 : Option Addr) (c0_1 : Nat) (l0_1 : List (S68)) (A0_2 : Option Addr) (c0_2 : Nat) (l0_2 : List (S27)) (a1 : Int) (r : Int) (w : World) (hr0_1 : Kd.C k68 w A0_1 l0_1.length l0_1) (hc0_1 : l0_1.length ≤ c0_1) (hr0_2 : Kd.C k27 w A0_2 l0_2.length l0_2) (hc0_2 : l0_2.length ≤ c0_2) (h : arboretlaw03_size.f k a0_0 l0_1 l0_2 a1 = some r),
  Calls Tryz.prog 10 #[.agg #[.string a0_0, .slice A0_1 l0_1.length c0_1, .slice A0_2 l0_2.length c0_2], .int .i64 a1] w fun e w' => e = .returned (.int .i64 r) ∧ Below w.heap.size w w' := by
 induction k using Nat.strongRecOn with
 | _ k ih =>
 intro a0_0 A0_1 c0_1 l0_1 A0_2 c0_2 l0_2 a1 r w hr0_1 hc0_1 hr0_2 hc0_2 h
 cases k with
 | zero => exact absurd h (by simp [arboretlaw03_size.f])
 | succ k =>
 simp only [arboretlaw03_size.f] at h; have hu27 := Tryz.underlying27; have HR0_1 := AK hr0_1; have HC0_1 := AK hc0_1; clear hr0_1 hc0_1; have HR0_2 := AK hr0_2; have HC0_2 := AK hc0_2; clear hr0_2 hc0_2; have HB := Zq70; have H : (arboretlaw03_size.l0 k a1 (wrap64 (1 + (a0_0.size : Int))) (l0_1.length : Int) 0 a0_0 l0_1 l0_2) = some r := h; clear h; have H' := AK H; clear H; go_enter Tryz.func10, Tryz.ntmps10; go_wp2_with (first | ((with_reducible refine gate_dst (N := 2) rfl ?_); refine box_event ?hg (N := 2) ?hd (cs := #[.string a0_0, .slice A0_1 l0_1.length c0_1, .slice A0_2 l0_2.length c0_2]) (t := 27) ?hr ?_; (case hd | hg => rfl); (case hr => first | (go_simp; done) | (go_simp; rfl)); intro gbam hg w3 hbox hb; have n_ := Zn4 Zq61 (AK (hbox)) Zq83 Zq83; clear HB; obtain ⟨HB, BKam, GWam, GEam⟩ := n_; clear hb hbox hg; obtain ⟨hcz4_0, hcz4_1, hcz4_2, hfz4_0, hfz4_1, hfz4_2⟩ := Zk3 BKam.out))
 repeat (go_quiet (first | ((with_reducible refine gate_dst (N := 2) rfl ?_); refine box_event ?hg (N := 2) ?hd (cs := #[.string a0_0, .slice A0_1 l0_1.length c0_1, .slice A0_2 l0_2.length c0_2]) (t := 27) ?hr ?_; (case hd | hg => rfl); (case hr => first | (go_simp; done) | (go_simp; rfl)); intro gbam hg w3 hbox hb; have n_ := Zn4 Zq61 (AK (hbox)) Zq83 Zq83; clear HB; obtain ⟨HB, BKam, GWam, GEam⟩ := n_; clear hb hbox hg; obtain ⟨hcz4_0, hcz4_1, hcz4_2, hfz4_0, hfz4_1, hfz4_2⟩ := Zk3 BKam.out)); try go_wp2_with (first | ((with_reducible refine gate_dst (N := 2) rfl ?_); refine box_event ?hg (N := 2) ?hd (cs := #[.string a0_0, .slice A0_1 l0_1.length c0_1, .slice A0_2 l0_2.length c0_2]) (t := 27) ?hr ?_; (case hd | hg => rfl); (case hr => first | (go_simp; done) | (go_simp; rfl)); intro gbam hg w3 hbox hb; have n_ := Zn4 Zq61 (AK (hbox)) Zq83 Zq83; clear HB; obtain ⟨HB, BKam, GWam, GEam⟩ := n_; clear hb hbox hg; obtain ⟨hcz4_0, hcz4_1, hcz4_2, hfz4_0, hfz4_1, hfz4_2⟩ := Zk3 BKam.out)))
 go_loopg [5, 15] k (fun kq v5 v15 w' => ∃ (x5_1 : Int) (x15_1 : Int), v5 = .int .i64 x5_1 ∧ v15 = .int .i64 x15_1 ∧ Aside0 (arboretlaw03_size.l0 kq a1 x5_1 (l0_1.length : Int) x15_1 a0_0 l0_1 l0_2 = some r) ∧ Aside0 (kq ≤ k) ∧ Aside0 (w'.heap[gbam]? = some (.cells #[.string a0_0, (.slice A0_1 l0_1.length c0_1), (.slice A0_2 l0_2.length c0_2)] 27 (0, 0))) ∧ Aside0 (Below w.heap.size w w'))
 case atStart => exact ⟨(wrap64 (1 + (a0_0.size : Int))), (0), Zq4, Zq4, H', ⟨Nat.le_refl _⟩, ⟨Zq40⟩, ⟨Zq29⟩⟩
 case round =>
  clear H'; (try clear hcz4_0); (try clear hcz4_1); (try clear hcz4_2); (try clear hfz4_0); (try clear hfz4_1); (try clear hfz4_2); obtain ⟨x5_1, x15_1, rfl, rfl, HA, HK1, BKam, HB⟩ := hrel
  cases gk with
  | zero => exact absurd HA.out (by simp [arboretlaw03_size.l0])
  | succ k1 =>
   have H := HA.out; clear HA; simp only [arboretlaw03_size.l0] at H
   by_cases c5 : x15_1 < (l0_1.length : Int)
   ·rw [if_pos c5] at H; have c5b0 : decide (x15_1 < (l0_1.length : Int)) = true := decide_eq_true c5; clear c5
    by_cases c6 : 0 ≤ x15_1
    ·rw [if_pos c6] at H; have c6b0 : decide (0 ≤ x15_1) = true := decide_eq_true c6; clear c6
     by_cases c7 : x15_1 < (l0_1.length : Int)
     ·rw [if_pos c7] at H; have c7b0 : decide (x15_1 < (l0_1.length : Int)) = true := decide_eq_true c7; clear c7; have H' := AK H; clear H; obtain ⟨hcz8_0, hcz8_1, hcz8_2, hfz8_0, hfz8_1, hfz8_2⟩ := Zk3 BKam.out; have p344 : 0 ≤ (x15_1 : Int) := of_decide_eq_true Zq5; have q344 : x15_1 < (l0_1.length : Int) := of_decide_eq_true Zq5; obtain ⟨adbL, AbL_1, cbL_1, e344, hx344_0, hx344_1, hl344_1, hi344_1⟩ := at_T68 HR0_1.out x15_1 p344 q344; cases e344; replace hx344_0 := (HB.out.cell (World.block_lt_of_cell? w _ hx344_0)).trans hx344_0; replace hx344_1 := (HB.out.cell (World.block_lt_of_cell? w _ hx344_1)).trans hx344_1; have HRbL_1 := AK hi344_1; have HCbL_1 := AK hl344_1; clear hi344_1 hl344_1; replace p344 := eq_true p344; replace q344 := eq_true q344; have p345 : 0 ≤ (x15_1 : Int) := of_decide_eq_true Zq5; have q345 : x15_1 < (l0_1.length : Int) := of_decide_eq_true Zq5; obtain ⟨adbM, AbM_1, cbM_1, e345, hx345_0, hx345_1, hl345_1, hi345_1⟩ := at_T68 HR0_1.out x15_1 p345 q345
      obtain rfl : adbL = adbM := (by injection e345)
      replace hx345_0 := (HB.out.cell (World.block_lt_of_cell? w _ hx345_0)).trans hx345_0; replace hx345_1 := (HB.out.cell (World.block_lt_of_cell? w _ hx345_1)).trans hx345_1; have HRbM_1 := AK hi345_1; have HCbM_1 := AK hl345_1; clear hi345_1 hl345_1; replace p345 := eq_true p345; replace q345 := eq_true q345; have ea_ := Option.some.inj (hx344_1.symm.trans hx345_1); injection ea_ with ea_ en_ ec_; subst ea_; subst ec_; clear en_; go_wp2
      repeat (go_quiet (fail); try go_wp2)
      go_roundg k1
      case measure => have := HK1.out; omega
      case rel => exact ⟨(wrap64 ((wrap64 ((wrap64 (x5_1 + 1)) + (((rd_T68 l0_1 x15_1).f0).size : Int))) + (((rd_T68 l0_1 x15_1).f1).length : Int))), (wrap64 (x15_1 + 1)), Zq4, Zq4, H', ⟨Zq14⟩, ⟨Zq40⟩, ⟨Zq29⟩⟩
     ·rw [if_neg c7] at H; exact absurd H Zq7
    ·rw [if_neg c6] at H; exact absurd H Zq7
   ·rw [if_neg c5] at H; have c5b0 : decide (x15_1 < (l0_1.length : Int)) = false := decide_eq_false c5; clear c5; have H' := AK H; clear H; obtain ⟨hcz9_0, hcz9_1, hcz9_2, hfz9_0, hfz9_1, hfz9_2⟩ := Zk3 BKam.out; go_wp2
    repeat (go_quiet (fail); try go_wp2)
    go_loopg [5, 40] k1 (fun kq v5 v40 w' => ∃ (x5_2 : Int) (x40_2 : Int), v5 = .int .i64 x5_2 ∧ v40 = .int .i64 x40_2 ∧ Aside0 (arboretlaw03_size.l1 kq a1 x5_2 (l0_2.length : Int) x40_2 a0_0 l0_1 l0_2 = some r) ∧ Aside0 (kq ≤ k1) ∧ Aside0 (w'.heap[gbam]? = some (.cells #[.string a0_0, (.slice A0_1 l0_1.length c0_1), (.slice A0_2 l0_2.length c0_2)] 27 (0, 0))) ∧ Aside0 (Below w.heap.size w w'))
    case atStart => exact ⟨(x5_1), (0), Zq4, Zq4, H', ⟨Nat.le_refl _⟩, ⟨Zq40⟩, ⟨Zq29⟩⟩
    case round =>
     clear H'; (try clear c5b0); (try clear c6); (try clear c6b0); (try clear c7); (try clear c7b0); (try clear hcz4_0); (try clear hcz4_1); (try clear hcz4_2); (try clear hcz8_0); (try clear hcz8_1); (try clear hcz8_2); (try clear hcz9_0); (try clear hcz9_1); (try clear hcz9_2); (try clear hfz4_0); (try clear hfz4_1); (try clear hfz4_2); (try clear hfz8_0); (try clear hfz8_1); (try clear hfz8_2); (try clear hfz9_0); (try clear hfz9_1); (try clear hfz9_2); (try clear hx344_0); (try clear hx344_1); (try clear hx345_0); (try clear hx345_1); (try clear p344); (try clear p345); (try clear q344); (try clear q345); obtain ⟨x5_2, x40_2, rfl, rfl, HA, HK2, BKam, HB⟩ := hrel
     cases gk with
     | zero => exact absurd HA.out (by simp [arboretlaw03_size.l1])
     | succ k2 =>
      have H := HA.out; clear HA; simp only [arboretlaw03_size.l1] at H
      by_cases c10 : x40_2 < (l0_2.length : Int)
      ·rw [if_pos c10] at H; have c10b0 : decide (x40_2 < (l0_2.length : Int)) = true := decide_eq_true c10; clear c10
       by_cases c11 : a1 > 20
       ·rw [if_pos c11] at H; have c11b0 : decide (20 < a1) = true := decide_eq_true c11; clear c11; obtain rfl := Option.some.inj H; go_wp2
        repeat (go_quiet (fail); try go_wp2)
        go_ret; exact ⟨Zq11, Zq29⟩
       ·rw [if_neg c11] at H; have c11b0 : decide (20 < a1) = false := decide_eq_false c11; clear c11
        by_cases c12 : x5_2 > 100000
        ·rw [if_pos c12] at H; have c12b0 : decide (100000 < x5_2) = true := decide_eq_true c12; clear c12; obtain rfl := Option.some.inj H; go_wp2
         repeat (go_quiet (fail); try go_wp2)
         go_ret; exact ⟨Zq11, Zq29⟩
        ·rw [if_neg c12] at H; have c12b0 : decide (100000 < x5_2) = false := decide_eq_false c12; clear c12
         by_cases c13 : 0 ≤ x40_2
         ·rw [if_pos c13] at H; have c13b0 : decide (0 ≤ x40_2) = true := decide_eq_true c13; clear c13
          by_cases c14 : x40_2 < (l0_2.length : Int)
          ·rw [if_pos c14] at H; have c14b0 : decide (x40_2 < (l0_2.length : Int)) = true := decide_eq_true c14; clear c14; replace H := Option.bind_eq_some_iff.mp H; obtain ⟨tbB, AbN, H⟩ := H; replace H : (arboretlaw03_size.l1 k2 a1 (wrap64 (x5_2 + tbB)) (l0_2.length : Int) (wrap64 (x40_2 + 1)) a0_0 l0_1 l0_2) = some r := H; have A15 := AK AbN; clear AbN; have H' := AK H; clear H; obtain ⟨hcz16_0, hcz16_1, hcz16_2, hfz16_0, hfz16_1, hfz16_2⟩ := Zk3 BKam.out; have p346 : 0 ≤ (x40_2 : Int) := of_decide_eq_true Zq5; have q346 : x40_2 < (l0_2.length : Int) := of_decide_eq_true Zq5; obtain ⟨adaB, AaB_1, caB_1, AaB_2, caB_2, e346, hx346_0, hx346_1, hx346_2, hl346_1, hi346_1, hl346_2, hi346_2⟩ := at_T27 HR0_2.out x40_2 p346 q346; cases e346; replace hx346_0 := (HB.out.cell (World.block_lt_of_cell? w _ hx346_0)).trans hx346_0; replace hx346_1 := (HB.out.cell (World.block_lt_of_cell? w _ hx346_1)).trans hx346_1; replace hx346_2 := (HB.out.cell (World.block_lt_of_cell? w _ hx346_2)).trans hx346_2; have HRaB_1 := AK hi346_1; have HCaB_1 := AK hl346_1; clear hi346_1 hl346_1; have HRaB_2 := AK hi346_2; have HCaB_2 := AK hl346_2; clear hi346_2 hl346_2; replace p346 := eq_true p346; replace q346 := eq_true q346; go_wp2_with (first | (go_at_call 10; (with_reducible refine (ih k2 Zq30 ((rd_T27 l0_2 x40_2).f0) _ _ ((rd_T27 l0_2 x40_2).f1) _ _ ((rd_T27 l0_2 x40_2).f2) (wrap64 (a1 + 1)) tbB _ ?side1 ?side2 ?side3 ?side4 A15.out).mono ?_); (case side1 => repeat (first | exact (Kd.C_below HRaB_1.out HB.out) | (with_reducible refine Kd.C_alloc ?_ _) | (with_reducible refine Kd.C_drewN ?_ _) | (with_reducible refine Kd.C_drew ?_))); (case side2 => exact HCaB_1.out); (case side3 => repeat (first | exact (Kd.C_below HRaB_2.out HB.out) | (with_reducible refine Kd.C_alloc ?_ _) | (with_reducible refine Kd.C_drewN ?_ _) | (with_reducible refine Kd.C_drew ?_))); (case side4 => exact HCaB_2.out); rintro e w17 ⟨rfl, hb⟩; have n_ := Zn2 Zq90 (AK (below_step Zq29 hb)); clear BKam HB; obtain ⟨BKam, HB⟩ := n_; (try clear hb)))
           repeat (go_quiet (first | (go_at_call 10; (with_reducible refine (ih k2 Zq30 ((rd_T27 l0_2 x40_2).f0) _ _ ((rd_T27 l0_2 x40_2).f1) _ _ ((rd_T27 l0_2 x40_2).f2) (wrap64 (a1 + 1)) tbB _ ?side1 ?side2 ?side3 ?side4 A15.out).mono ?_); (case side1 => repeat (first | exact (Kd.C_below HRaB_1.out HB.out) | (with_reducible refine Kd.C_alloc ?_ _) | (with_reducible refine Kd.C_drewN ?_ _) | (with_reducible refine Kd.C_drew ?_))); (case side2 => exact HCaB_1.out); (case side3 => repeat (first | exact (Kd.C_below HRaB_2.out HB.out) | (with_reducible refine Kd.C_alloc ?_ _) | (with_reducible refine Kd.C_drewN ?_ _) | (with_reducible refine Kd.C_drew ?_))); (case side4 => exact HCaB_2.out); rintro e w17 ⟨rfl, hb⟩; have n_ := Zn2 Zq90 (AK (below_step Zq29 hb)); clear BKam HB; obtain ⟨BKam, HB⟩ := n_; (try clear hb))); try go_wp2_with (first | (go_at_call 10; (with_reducible refine (ih k2 Zq30 ((rd_T27 l0_2 x40_2).f0) _ _ ((rd_T27 l0_2 x40_2).f1) _ _ ((rd_T27 l0_2 x40_2).f2) (wrap64 (a1 + 1)) tbB _ ?side1 ?side2 ?side3 ?side4 A15.out).mono ?_); (case side1 => repeat (first | exact (Kd.C_below HRaB_1.out HB.out) | (with_reducible refine Kd.C_alloc ?_ _) | (with_reducible refine Kd.C_drewN ?_ _) | (with_reducible refine Kd.C_drew ?_))); (case side2 => exact HCaB_1.out); (case side3 => repeat (first | exact (Kd.C_below HRaB_2.out HB.out) | (with_reducible refine Kd.C_alloc ?_ _) | (with_reducible refine Kd.C_drewN ?_ _) | (with_reducible refine Kd.C_drew ?_))); (case side4 => exact HCaB_2.out); rintro e w17 ⟨rfl, hb⟩; have n_ := Zn2 Zq90 (AK (below_step Zq29 hb)); clear BKam HB; obtain ⟨BKam, HB⟩ := n_; (try clear hb))))
           go_roundg k2
           case measure => have := HK1.out; have := HK2.out; omega
           case rel => exact ⟨(wrap64 (x5_2 + tbB)), (wrap64 (x40_2 + 1)), Zq4, Zq4, H', ⟨Zq30⟩, ⟨Zq40⟩, ⟨Zq29⟩⟩
          ·rw [if_neg c14] at H; exact absurd H Zq7
         ·rw [if_neg c13] at H; exact absurd H Zq7
      ·rw [if_neg c10] at H; have c10b0 : decide (x40_2 < (l0_2.length : Int)) = false := decide_eq_false c10; clear c10; obtain rfl := Option.some.inj H; go_wp2
       repeat (go_quiet (fail); try go_wp2)
       go_ret; exact ⟨Zq11, Zq29⟩
def arboretlaw03_Few.f (k : Nat) (a0_0 : Int) (l0_1 : List (S51)) (a0_2 : ByteArray) (l0_3 : List (S68)) (l0_4 : List (S27)) : Option (Bool) := (arboretlaw03_size.f k a0_2 l0_3 l0_4 0).bind fun tbe => (if tbe ≤ 100000 then (some (decide ((l0_1.length : Int) ≤ 200))) else (some false))
set_option maxHeartbeats 8000000 in
set_option maxRecDepth 100000 in
theorem arboretlaw03_Few.calls (k : Nat) (a0_0 : Int) (A0_1 : Option Addr) (c0_1 : Nat) (l0_1 : List (S51)) (a0_2 : ByteArray) (A0_3 : Option Addr) (c0_3 : Nat) (l0_3 : List (S68)) (A0_4 : Option Addr) (c0_4 : Nat) (l0_4 : List (S27)) (r : Bool) (w : World) (hr0_1 : Kd.C k51 w A0_1 l0_1.length l0_1) (hc0_1 : l0_1.length ≤ c0_1) (hr0_3 : Kd.C k68 w A0_3 l0_3.length l0_3) (hc0_3 : l0_3.length ≤ c0_3) (hr0_4 : Kd.C k27 w A0_4 l0_4.length l0_4) (hc0_4 : l0_4.length ≤ c0_4) (h : arboretlaw03_Few.f k a0_0 l0_1 a0_2 l0_3 l0_4 = some r) :
  Calls Tryz.prog 5 #[.agg #[.int .u32 a0_0, .slice A0_1 l0_1.length c0_1, .string a0_2, .slice A0_3 l0_3.length c0_3, .slice A0_4 l0_4.length c0_4]] w fun e w' => e = .returned (.bool r) ∧ Below w.heap.size w w' := by
 have hu29 := Tryz.underlying29; have hu27 := Tryz.underlying27; have HR0_1 := AK hr0_1; have HC0_1 := AK hc0_1; clear hr0_1 hc0_1; have HR0_3 := AK hr0_3; have HC0_3 := AK hc0_3; clear hr0_3 hc0_3; have HR0_4 := AK hr0_4; have HC0_4 := AK hc0_4; clear hr0_4 hc0_4; have HB := Zq70; have H : ((arboretlaw03_size.f k a0_2 l0_3 l0_4 0).bind fun tbe => (if tbe ≤ 100000 then (some (decide ((l0_1.length : Int) ≤ 200))) else (some false))) = some r := h; clear h; replace H := Option.bind_eq_some_iff.mp H; obtain ⟨tbe, A20, H⟩ := H; replace H : (if tbe ≤ 100000 then (some (decide ((l0_1.length : Int) ≤ 200))) else (some false)) = some r := H; have A2 := AK A20; clear A20
 by_cases c3 : tbe ≤ 100000
 ·rw [if_pos c3] at H; have c3b0 : decide (tbe ≤ 100000) = true := decide_eq_true c3; clear c3; obtain rfl := Option.some.inj H; go_enter Tryz.func5, Tryz.ntmps5; (go_wp2_with (first | ((with_reducible refine gate_dst (N := 1) rfl ?_); (try (refine gate_guard Zq9 ?_; dsimp only)); refine box_event ?hg (N := 1) ?hd (cs := #[.int .u32 a0_0, .slice A0_1 l0_1.length c0_1, .string a0_2, .slice A0_3 l0_3.length c0_3, .slice A0_4 l0_4.length c0_4]) (t := 29) ?hr ?_; (case hd | hg => rfl); (case hr => first | (go_simp; done) | (go_simp; rfl)); intro gbaE hg w4 hbox hb; have n_ := Zn4 Zq61 (AK (hbox)) Zq98 Zq98; clear HB; obtain ⟨HB, BKaE, GWaE, GEaE⟩ := n_; clear hb hbox hg; obtain ⟨hcz5_0, hcz5_1, hcz5_2, hcz5_3, hcz5_4, hfz5_0, hfz5_1, hfz5_2, hfz5_3, hfz5_4⟩ := Zk5 BKaE.out) | ((with_reducible refine gate_callee (f := 10) rfl ?_); refine goesL_ (some 5) rfl rfl Tryz.func10 Zq3 rfl #[.agg #[.string a0_2, .slice A0_3 l0_3.length c0_3, .slice A0_4 l0_4.length c0_4], .int .i64 0] rfl Zq10 ?_; (with_reducible refine (arboretlaw03_size.calls k a0_2 _ _ l0_3 _ _ l0_4 0 tbe _ ?side1 ?side2 ?side3 ?side4 A2.out).mono ?_); (case side1 => repeat (first | exact Zq74 | (with_reducible refine Kd.C_alloc ?_ _) | (with_reducible refine Kd.C_drewN ?_ _) | (with_reducible refine Kd.C_drew ?_))); (case side2 => exact HC0_3.out); (case side3 => repeat (first | exact Zq75 | (with_reducible refine Kd.C_alloc ?_ _) | (with_reducible refine Kd.C_drewN ?_ _) | (with_reducible refine Kd.C_drew ?_))); (case side4 => exact HC0_4.out); rintro e w6 ⟨rfl, hb⟩; refine ⟨_, rfl, ?_⟩; have n_ := Zn2 (AK (blk_below (g := gbaE) (o := .cells #[.int .u32 a0_0, .slice A0_1 l0_1.length c0_1, .string a0_2, .slice A0_3 l0_3.length c0_3, .slice A0_4 l0_4.length c0_4] 29 (0, 0)) (by (with_reducible repeat (first | refine blk_drewN ?_ _ | refine blk_drew ?_ | refine blk_alloc ?_ _)); exact BKaE.out) hb)) (AK (below_step Zq49 hb)); clear BKaE HB; obtain ⟨BKaE, HB⟩ := n_; (try clear hb); obtain ⟨hcz7_0, hcz7_1, hcz7_2, hcz7_3, hcz7_4, hfz7_0, hfz7_1, hfz7_2, hfz7_3, hfz7_4⟩ := Zk5 BKaE.out))); go_ret; exact ⟨Zq11, Zq49⟩
 ·rw [if_neg c3] at H; have c3b0 : decide (tbe ≤ 100000) = false := decide_eq_false c3; clear c3; obtain rfl := Option.some.inj H; go_enter Tryz.func5, Tryz.ntmps5; (go_wp2_with (first | ((with_reducible refine gate_dst (N := 1) rfl ?_); (try (refine gate_guard Zq9 ?_; dsimp only)); refine box_event ?hg (N := 1) ?hd (cs := #[.int .u32 a0_0, .slice A0_1 l0_1.length c0_1, .string a0_2, .slice A0_3 l0_3.length c0_3, .slice A0_4 l0_4.length c0_4]) (t := 29) ?hr ?_; (case hd | hg => rfl); (case hr => first | (go_simp; done) | (go_simp; rfl)); intro gbaE hg w8 hbox hb; have n_ := Zn4 Zq61 (AK (hbox)) Zq98 Zq98; clear HB; obtain ⟨HB, BKaE, GWaE, GEaE⟩ := n_; clear hb hbox hg; obtain ⟨hcz9_0, hcz9_1, hcz9_2, hcz9_3, hcz9_4, hfz9_0, hfz9_1, hfz9_2, hfz9_3, hfz9_4⟩ := Zk5 BKaE.out) | ((with_reducible refine gate_callee (f := 10) rfl ?_); refine goesL_ (some 5) rfl rfl Tryz.func10 Zq3 rfl #[.agg #[.string a0_2, .slice A0_3 l0_3.length c0_3, .slice A0_4 l0_4.length c0_4], .int .i64 0] rfl Zq10 ?_; (with_reducible refine (arboretlaw03_size.calls k a0_2 _ _ l0_3 _ _ l0_4 0 tbe _ ?side1 ?side2 ?side3 ?side4 A2.out).mono ?_); (case side1 => repeat (first | exact Zq74 | (with_reducible refine Kd.C_alloc ?_ _) | (with_reducible refine Kd.C_drewN ?_ _) | (with_reducible refine Kd.C_drew ?_))); (case side2 => exact HC0_3.out); (case side3 => repeat (first | exact Zq75 | (with_reducible refine Kd.C_alloc ?_ _) | (with_reducible refine Kd.C_drewN ?_ _) | (with_reducible refine Kd.C_drew ?_))); (case side4 => exact HC0_4.out); rintro e w10 ⟨rfl, hb⟩; refine ⟨_, rfl, ?_⟩; have n_ := Zn2 (AK (blk_below (g := gbaE) (o := .cells #[.int .u32 a0_0, .slice A0_1 l0_1.length c0_1, .string a0_2, .slice A0_3 l0_3.length c0_3, .slice A0_4 l0_4.length c0_4] 29 (0, 0)) (by (with_reducible repeat (first | refine blk_drewN ?_ _ | refine blk_drew ?_ | refine blk_alloc ?_ _)); exact BKaE.out) hb)) (AK (below_step Zq49 hb)); clear BKaE HB; obtain ⟨BKaE, HB⟩ := n_; (try clear hb)))); go_ret; exact ⟨Zq11, Zq49⟩
def arboretref01_Cut.l0 : Nat → ByteArray → Int → Int → Option (Int)
 | 0, _, _, _ => none
 | k + 1, x0, x5, x6 => if x6 < x5 then (if 0 ≤ x6 then (if x6 < (x0.size : Int) then (if (bt x0 x6) = 64 then (some x6) else (arboretref01_Cut.l0 k x0 x5 (wrap64 (x6 + 1)))) else (none)) else (none)) else (some (-1))
def arboretref01_Cut.f (k : Nat) (a0 : ByteArray) : Option (Int) := arboretref01_Cut.l0 k a0 (a0.size : Int) 0
set_option maxHeartbeats 8000000 in
set_option maxRecDepth 100000 in
theorem arboretref01_Cut.calls (k : Nat) (a0 : ByteArray) (r : Int) (w : World) (h : arboretref01_Cut.f k a0 = some r) :
  Calls Tryz.prog 51 #[.string a0] w fun e w' => e = .returned (.int .i64 r) ∧ Drawn0 w w' := by
 have H : (arboretref01_Cut.l0 k a0 (a0.size : Int) 0) = some r := h; clear h; have H' := AK H; clear H; go_enter Tryz.func51, Tryz.ntmps51; go_wp2
 go_loopg [6] k (fun kq v6 w' => ∃ (x6_1 : Int), v6 = .int .i64 x6_1 ∧ Aside0 (arboretref01_Cut.l0 kq a0 (a0.size : Int) x6_1 = some r) ∧ Aside0 (kq ≤ k) ∧ Drawn0 w w')
 case atStart => exact ⟨(0), Zq4, H', ⟨Nat.le_refl _⟩, Zq8⟩
 case round =>
  clear H'; obtain ⟨x6_1, rfl, HA, HK1, ⟨m1, rfl⟩⟩ := hrel
  cases gk with
  | zero => exact absurd HA.out (by simp [arboretref01_Cut.l0])
  | succ k1 =>
   have H := HA.out; clear HA; simp only [arboretref01_Cut.l0] at H
   by_cases c2 : x6_1 < (a0.size : Int)
   ·rw [if_pos c2] at H; have c2b0 : decide (x6_1 < (a0.size : Int)) = true := decide_eq_true c2; clear c2
    by_cases c3 : 0 ≤ x6_1
    ·rw [if_pos c3] at H; have c3b0 : decide (0 ≤ x6_1) = true := decide_eq_true c3; clear c3
     by_cases c4 : x6_1 < (a0.size : Int)
     ·rw [if_pos c4] at H; have c4b0 : decide (x6_1 < (a0.size : Int)) = true := decide_eq_true c4; clear c4
      by_cases c6 : (bt a0 x6_1) = 64
      ·rw [if_pos c6] at H; obtain ⟨c6b0, c6b1⟩ := Zc0 c6; clear c6; obtain rfl := Option.some.inj H; have p5 : 0 ≤ (x6_1 : Int) := of_decide_eq_true Zq5; have q5 : x6_1 < (a0.size : Int) := of_decide_eq_true Zq5; have hx5 := bt_at a0 x6_1; replace p5 := eq_true p5; replace q5 := eq_true q5; go_wp2; go_ret; exact ⟨Zq4, Zq8⟩
      ·rw [if_neg c6] at H; obtain ⟨c6b0, c6b1⟩ := Zd0 c6; have H' := AK H; clear H; have p5 : 0 ≤ (x6_1 : Int) := of_decide_eq_true Zq5; have q5 : x6_1 < (a0.size : Int) := of_decide_eq_true Zq5; have hx5 := bt_at a0 x6_1; replace p5 := eq_true p5; replace q5 := eq_true q5; go_wp2
       go_roundg k1
       case measure => have := HK1.out; omega
       case rel => exact ⟨(wrap64 (x6_1 + 1)), Zq4, H', ⟨Zq14⟩, Zq8⟩
     ·rw [if_neg c4] at H; exact absurd H Zq7
    ·rw [if_neg c3] at H; exact absurd H Zq7
   ·rw [if_neg c2] at H; have c2b0 : decide (x6_1 < (a0.size : Int)) = false := decide_eq_false c2; clear c2; obtain rfl := Option.some.inj H; go_wp2; go_ret; exact ⟨Zq4, Zq8⟩
def arboretref01_stands.f (a0 : Int) : Option (Bool) := if a0 ≥ 48 then (if a0 ≤ 57 then (some true) else (if a0 ≥ 97 then (if a0 ≤ 122 then (some true) else (if a0 ≥ 65 then (if a0 ≤ 90 then (some true) else (if a0 = 44 then (some true) else (if a0 = 46 then (some true) else (if a0 = 95 then (some true) else (if a0 = 43 then (some true) else (some (a0 == 45))))))) else (if a0 = 44 then (some true) else (if a0 = 46 then (some true) else (if a0 = 95 then (some true) else (if a0 = 43 then (some true) else (some (a0 == 45)))))))) else (if a0 ≥ 65 then (if a0 ≤ 90 then (some true) else (if a0 = 44 then (some true) else (if a0 = 46 then (some true) else (if a0 = 95 then (some true) else (if a0 = 43 then (some true) else (some (a0 == 45))))))) else (if a0 = 44 then (some true) else (if a0 = 46 then (some true) else (if a0 = 95 then (some true) else (if a0 = 43 then (some true) else (some (a0 == 45))))))))) else (if a0 ≥ 97 then (if a0 ≤ 122 then (some true) else (if a0 ≥ 65 then (if a0 ≤ 90 then (some true) else (if a0 = 44 then (some true) else (if a0 = 46 then (some true) else (if a0 = 95 then (some true) else (if a0 = 43 then (some true) else (some (a0 == 45))))))) else (if a0 = 44 then (some true) else (if a0 = 46 then (some true) else (if a0 = 95 then (some true) else (if a0 = 43 then (some true) else (some (a0 == 45)))))))) else (if a0 ≥ 65 then (if a0 ≤ 90 then (some true) else (if a0 = 44 then (some true) else (if a0 = 46 then (some true) else (if a0 = 95 then (some true) else (if a0 = 43 then (some true) else (some (a0 == 45))))))) else (if a0 = 44 then (some true) else (if a0 = 46 then (some true) else (if a0 = 95 then (some true) else (if a0 = 43 then (some true) else (some (a0 == 45))))))))
set_option maxHeartbeats 8000000 in
set_option maxRecDepth 100000 in
theorem arboretref01_stands.calls (a0 : Int) (r : Bool) (w : World) (h : arboretref01_stands.f a0 = some r) :
  Calls Tryz.prog 52 #[.int .u8 a0] w fun e w' => e = .returned (.bool r) ∧ Drawn0 w w' := by
 have H : (if a0 ≥ 48 then (if a0 ≤ 57 then (some true) else (if a0 ≥ 97 then (if a0 ≤ 122 then (some true) else (if a0 ≥ 65 then (if a0 ≤ 90 then (some true) else (if a0 = 44 then (some true) else (if a0 = 46 then (some true) else (if a0 = 95 then (some true) else (if a0 = 43 then (some true) else (some (a0 == 45))))))) else (if a0 = 44 then (some true) else (if a0 = 46 then (some true) else (if a0 = 95 then (some true) else (if a0 = 43 then (some true) else (some (a0 == 45)))))))) else (if a0 ≥ 65 then (if a0 ≤ 90 then (some true) else (if a0 = 44 then (some true) else (if a0 = 46 then (some true) else (if a0 = 95 then (some true) else (if a0 = 43 then (some true) else (some (a0 == 45))))))) else (if a0 = 44 then (some true) else (if a0 = 46 then (some true) else (if a0 = 95 then (some true) else (if a0 = 43 then (some true) else (some (a0 == 45))))))))) else (if a0 ≥ 97 then (if a0 ≤ 122 then (some true) else (if a0 ≥ 65 then (if a0 ≤ 90 then (some true) else (if a0 = 44 then (some true) else (if a0 = 46 then (some true) else (if a0 = 95 then (some true) else (if a0 = 43 then (some true) else (some (a0 == 45))))))) else (if a0 = 44 then (some true) else (if a0 = 46 then (some true) else (if a0 = 95 then (some true) else (if a0 = 43 then (some true) else (some (a0 == 45)))))))) else (if a0 ≥ 65 then (if a0 ≤ 90 then (some true) else (if a0 = 44 then (some true) else (if a0 = 46 then (some true) else (if a0 = 95 then (some true) else (if a0 = 43 then (some true) else (some (a0 == 45))))))) else (if a0 = 44 then (some true) else (if a0 = 46 then (some true) else (if a0 = 95 then (some true) else (if a0 = 43 then (some true) else (some (a0 == 45))))))))) = some r := h; clear h
 by_cases c2 : a0 ≥ 48
 ·rw [if_pos c2] at H; have c2b0 : decide (48 ≤ a0) = true := decide_eq_true c2; clear c2
  by_cases c3 : a0 ≤ 57
  ·rw [if_pos c3] at H; have c3b0 : decide (a0 ≤ 57) = true := decide_eq_true c3; clear c3; obtain rfl := Option.some.inj H; go_enter Tryz.func52, Tryz.ntmps52; go_wp2; go_ret; exact ⟨Zq4, Zq8⟩
  ·rw [if_neg c3] at H; have c3b0 : decide (a0 ≤ 57) = false := decide_eq_false c3; clear c3
   by_cases c4 : a0 ≥ 97
   ·rw [if_pos c4] at H; have c4b0 : decide (97 ≤ a0) = true := decide_eq_true c4; clear c4
    by_cases c5 : a0 ≤ 122
    ·rw [if_pos c5] at H; have c5b0 : decide (a0 ≤ 122) = true := decide_eq_true c5; clear c5; obtain rfl := Option.some.inj H; go_enter Tryz.func52, Tryz.ntmps52; go_wp2; go_ret; exact ⟨Zq4, Zq8⟩
    ·rw [if_neg c5] at H; have c5b0 : decide (a0 ≤ 122) = false := decide_eq_false c5; clear c5
     by_cases c6 : a0 ≥ 65
     ·rw [if_pos c6] at H; have c6b0 : decide (65 ≤ a0) = true := decide_eq_true c6; clear c6
      by_cases c7 : a0 ≤ 90
      ·rw [if_pos c7] at H; have c7b0 : decide (a0 ≤ 90) = true := decide_eq_true c7; clear c7; obtain rfl := Option.some.inj H; go_enter Tryz.func52, Tryz.ntmps52; go_wp2; go_ret; exact ⟨Zq4, Zq8⟩
      ·rw [if_neg c7] at H; have c7b0 : decide (a0 ≤ 90) = false := decide_eq_false c7; clear c7
       by_cases c8 : a0 = 44
       ·rw [if_pos c8] at H; obtain ⟨c8b0, c8b1⟩ := Zc0 c8; clear c8; obtain rfl := Option.some.inj H; go_enter Tryz.func52, Tryz.ntmps52; go_wp2; go_ret; exact ⟨Zq4, Zq8⟩
       ·rw [if_neg c8] at H; obtain ⟨c8b0, c8b1⟩ := Zd0 c8
        by_cases c9 : a0 = 46
        ·rw [if_pos c9] at H; obtain ⟨c9b0, c9b1⟩ := Zc0 c9; clear c9; obtain rfl := Option.some.inj H; go_enter Tryz.func52, Tryz.ntmps52; go_wp2; go_ret; exact ⟨Zq4, Zq8⟩
        ·rw [if_neg c9] at H; obtain ⟨c9b0, c9b1⟩ := Zd0 c9
         by_cases c10 : a0 = 95
         ·rw [if_pos c10] at H; obtain ⟨c10b0, c10b1⟩ := Zc0 c10; clear c10; obtain rfl := Option.some.inj H; go_enter Tryz.func52, Tryz.ntmps52; go_wp2; go_ret; exact ⟨Zq4, Zq8⟩
         ·rw [if_neg c10] at H; obtain ⟨c10b0, c10b1⟩ := Zd0 c10
          by_cases c11 : a0 = 43
          ·rw [if_pos c11] at H; obtain ⟨c11b0, c11b1⟩ := Zc0 c11; clear c11; obtain rfl := Option.some.inj H; go_enter Tryz.func52, Tryz.ntmps52; go_wp2; go_ret; exact ⟨Zq4, Zq8⟩
          ·rw [if_neg c11] at H; obtain ⟨c11b0, c11b1⟩ := Zd0 c11; obtain rfl := Option.some.inj H; go_enter Tryz.func52, Tryz.ntmps52; go_wp2; go_ret; exact ⟨Zq4, Zq8⟩
     ·rw [if_neg c6] at H; have c6b0 : decide (65 ≤ a0) = false := decide_eq_false c6; clear c6
      by_cases c12 : a0 = 44
      ·rw [if_pos c12] at H; obtain ⟨c12b0, c12b1⟩ := Zc0 c12; clear c12; obtain rfl := Option.some.inj H; go_enter Tryz.func52, Tryz.ntmps52; go_wp2; go_ret; exact ⟨Zq4, Zq8⟩
      ·rw [if_neg c12] at H; obtain ⟨c12b0, c12b1⟩ := Zd0 c12
       by_cases c13 : a0 = 46
       ·rw [if_pos c13] at H; obtain ⟨c13b0, c13b1⟩ := Zc0 c13; clear c13; obtain rfl := Option.some.inj H; go_enter Tryz.func52, Tryz.ntmps52; go_wp2; go_ret; exact ⟨Zq4, Zq8⟩
       ·rw [if_neg c13] at H; obtain ⟨c13b0, c13b1⟩ := Zd0 c13
        by_cases c14 : a0 = 95
        ·rw [if_pos c14] at H; obtain ⟨c14b0, c14b1⟩ := Zc0 c14; clear c14; obtain rfl := Option.some.inj H; go_enter Tryz.func52, Tryz.ntmps52; go_wp2; go_ret; exact ⟨Zq4, Zq8⟩
        ·rw [if_neg c14] at H; obtain ⟨c14b0, c14b1⟩ := Zd0 c14
         by_cases c15 : a0 = 43
         ·rw [if_pos c15] at H; obtain ⟨c15b0, c15b1⟩ := Zc0 c15; clear c15; obtain rfl := Option.some.inj H; go_enter Tryz.func52, Tryz.ntmps52; go_wp2; go_ret; exact ⟨Zq4, Zq8⟩
         ·rw [if_neg c15] at H; obtain ⟨c15b0, c15b1⟩ := Zd0 c15; obtain rfl := Option.some.inj H; go_enter Tryz.func52, Tryz.ntmps52; go_wp2; go_ret; exact ⟨Zq4, Zq8⟩
   ·rw [if_neg c4] at H; have c4b0 : decide (97 ≤ a0) = false := decide_eq_false c4; clear c4
    by_cases c16 : a0 ≥ 65
    ·rw [if_pos c16] at H; have c16b0 : decide (65 ≤ a0) = true := decide_eq_true c16; clear c16
     by_cases c17 : a0 ≤ 90
     ·rw [if_pos c17] at H; have c17b0 : decide (a0 ≤ 90) = true := decide_eq_true c17; clear c17; obtain rfl := Option.some.inj H; go_enter Tryz.func52, Tryz.ntmps52; go_wp2; go_ret; exact ⟨Zq4, Zq8⟩
     ·rw [if_neg c17] at H; have c17b0 : decide (a0 ≤ 90) = false := decide_eq_false c17; clear c17
      by_cases c18 : a0 = 44
      ·rw [if_pos c18] at H; obtain ⟨c18b0, c18b1⟩ := Zc0 c18; clear c18; obtain rfl := Option.some.inj H; go_enter Tryz.func52, Tryz.ntmps52; go_wp2; go_ret; exact ⟨Zq4, Zq8⟩
      ·rw [if_neg c18] at H; obtain ⟨c18b0, c18b1⟩ := Zd0 c18
       by_cases c19 : a0 = 46
       ·rw [if_pos c19] at H; obtain ⟨c19b0, c19b1⟩ := Zc0 c19; clear c19; obtain rfl := Option.some.inj H; go_enter Tryz.func52, Tryz.ntmps52; go_wp2; go_ret; exact ⟨Zq4, Zq8⟩
       ·rw [if_neg c19] at H; obtain ⟨c19b0, c19b1⟩ := Zd0 c19
        by_cases c20 : a0 = 95
        ·rw [if_pos c20] at H; obtain ⟨c20b0, c20b1⟩ := Zc0 c20; clear c20; obtain rfl := Option.some.inj H; go_enter Tryz.func52, Tryz.ntmps52; go_wp2; go_ret; exact ⟨Zq4, Zq8⟩
        ·rw [if_neg c20] at H; obtain ⟨c20b0, c20b1⟩ := Zd0 c20
         by_cases c21 : a0 = 43
         ·rw [if_pos c21] at H; obtain ⟨c21b0, c21b1⟩ := Zc0 c21; clear c21; obtain rfl := Option.some.inj H; go_enter Tryz.func52, Tryz.ntmps52; go_wp2; go_ret; exact ⟨Zq4, Zq8⟩
         ·rw [if_neg c21] at H; obtain ⟨c21b0, c21b1⟩ := Zd0 c21; obtain rfl := Option.some.inj H; go_enter Tryz.func52, Tryz.ntmps52; go_wp2; go_ret; exact ⟨Zq4, Zq8⟩
    ·rw [if_neg c16] at H; have c16b0 : decide (65 ≤ a0) = false := decide_eq_false c16; clear c16
     by_cases c22 : a0 = 44
     ·rw [if_pos c22] at H; obtain ⟨c22b0, c22b1⟩ := Zc0 c22; clear c22; obtain rfl := Option.some.inj H; go_enter Tryz.func52, Tryz.ntmps52; go_wp2; go_ret; exact ⟨Zq4, Zq8⟩
     ·rw [if_neg c22] at H; obtain ⟨c22b0, c22b1⟩ := Zd0 c22
      by_cases c23 : a0 = 46
      ·rw [if_pos c23] at H; obtain ⟨c23b0, c23b1⟩ := Zc0 c23; clear c23; obtain rfl := Option.some.inj H; go_enter Tryz.func52, Tryz.ntmps52; go_wp2; go_ret; exact ⟨Zq4, Zq8⟩
      ·rw [if_neg c23] at H; obtain ⟨c23b0, c23b1⟩ := Zd0 c23
       by_cases c24 : a0 = 95
       ·rw [if_pos c24] at H; obtain ⟨c24b0, c24b1⟩ := Zc0 c24; clear c24; obtain rfl := Option.some.inj H; go_enter Tryz.func52, Tryz.ntmps52; go_wp2; go_ret; exact ⟨Zq4, Zq8⟩
       ·rw [if_neg c24] at H; obtain ⟨c24b0, c24b1⟩ := Zd0 c24
        by_cases c25 : a0 = 43
        ·rw [if_pos c25] at H; obtain ⟨c25b0, c25b1⟩ := Zc0 c25; clear c25; obtain rfl := Option.some.inj H; go_enter Tryz.func52, Tryz.ntmps52; go_wp2; go_ret; exact ⟨Zq4, Zq8⟩
        ·rw [if_neg c25] at H; obtain ⟨c25b0, c25b1⟩ := Zd0 c25; obtain rfl := Option.some.inj H; go_enter Tryz.func52, Tryz.ntmps52; go_wp2; go_ret; exact ⟨Zq4, Zq8⟩
 ·rw [if_neg c2] at H; have c2b0 : decide (48 ≤ a0) = false := decide_eq_false c2; clear c2
  by_cases c26 : a0 ≥ 97
  ·rw [if_pos c26] at H; have c26b0 : decide (97 ≤ a0) = true := decide_eq_true c26; clear c26
   by_cases c27 : a0 ≤ 122
   ·rw [if_pos c27] at H; have c27b0 : decide (a0 ≤ 122) = true := decide_eq_true c27; clear c27; obtain rfl := Option.some.inj H; go_enter Tryz.func52, Tryz.ntmps52; go_wp2; go_ret; exact ⟨Zq4, Zq8⟩
   ·rw [if_neg c27] at H; have c27b0 : decide (a0 ≤ 122) = false := decide_eq_false c27; clear c27
    by_cases c28 : a0 ≥ 65
    ·rw [if_pos c28] at H; have c28b0 : decide (65 ≤ a0) = true := decide_eq_true c28; clear c28
     by_cases c29 : a0 ≤ 90
     ·rw [if_pos c29] at H; have c29b0 : decide (a0 ≤ 90) = true := decide_eq_true c29; clear c29; obtain rfl := Option.some.inj H; go_enter Tryz.func52, Tryz.ntmps52; go_wp2; go_ret; exact ⟨Zq4, Zq8⟩
     ·rw [if_neg c29] at H; have c29b0 : decide (a0 ≤ 90) = false := decide_eq_false c29; clear c29
      by_cases c30 : a0 = 44
      ·rw [if_pos c30] at H; obtain ⟨c30b0, c30b1⟩ := Zc0 c30; clear c30; obtain rfl := Option.some.inj H; go_enter Tryz.func52, Tryz.ntmps52; go_wp2; go_ret; exact ⟨Zq4, Zq8⟩
      ·rw [if_neg c30] at H; obtain ⟨c30b0, c30b1⟩ := Zd0 c30
       by_cases c31 : a0 = 46
       ·rw [if_pos c31] at H; obtain ⟨c31b0, c31b1⟩ := Zc0 c31; clear c31; obtain rfl := Option.some.inj H; go_enter Tryz.func52, Tryz.ntmps52; go_wp2; go_ret; exact ⟨Zq4, Zq8⟩
       ·rw [if_neg c31] at H; obtain ⟨c31b0, c31b1⟩ := Zd0 c31
        by_cases c32 : a0 = 95
        ·rw [if_pos c32] at H; obtain ⟨c32b0, c32b1⟩ := Zc0 c32; clear c32; obtain rfl := Option.some.inj H; go_enter Tryz.func52, Tryz.ntmps52; go_wp2; go_ret; exact ⟨Zq4, Zq8⟩
        ·rw [if_neg c32] at H; obtain ⟨c32b0, c32b1⟩ := Zd0 c32
         by_cases c33 : a0 = 43
         ·rw [if_pos c33] at H; obtain ⟨c33b0, c33b1⟩ := Zc0 c33; clear c33; obtain rfl := Option.some.inj H; go_enter Tryz.func52, Tryz.ntmps52; go_wp2; go_ret; exact ⟨Zq4, Zq8⟩
         ·rw [if_neg c33] at H; obtain ⟨c33b0, c33b1⟩ := Zd0 c33; obtain rfl := Option.some.inj H; go_enter Tryz.func52, Tryz.ntmps52; go_wp2; go_ret; exact ⟨Zq4, Zq8⟩
    ·rw [if_neg c28] at H; have c28b0 : decide (65 ≤ a0) = false := decide_eq_false c28; clear c28
     by_cases c34 : a0 = 44
     ·rw [if_pos c34] at H; obtain ⟨c34b0, c34b1⟩ := Zc0 c34; clear c34; obtain rfl := Option.some.inj H; go_enter Tryz.func52, Tryz.ntmps52; go_wp2; go_ret; exact ⟨Zq4, Zq8⟩
     ·rw [if_neg c34] at H; obtain ⟨c34b0, c34b1⟩ := Zd0 c34
      by_cases c35 : a0 = 46
      ·rw [if_pos c35] at H; obtain ⟨c35b0, c35b1⟩ := Zc0 c35; clear c35; obtain rfl := Option.some.inj H; go_enter Tryz.func52, Tryz.ntmps52; go_wp2; go_ret; exact ⟨Zq4, Zq8⟩
      ·rw [if_neg c35] at H; obtain ⟨c35b0, c35b1⟩ := Zd0 c35
       by_cases c36 : a0 = 95
       ·rw [if_pos c36] at H; obtain ⟨c36b0, c36b1⟩ := Zc0 c36; clear c36; obtain rfl := Option.some.inj H; go_enter Tryz.func52, Tryz.ntmps52; go_wp2; go_ret; exact ⟨Zq4, Zq8⟩
       ·rw [if_neg c36] at H; obtain ⟨c36b0, c36b1⟩ := Zd0 c36
        by_cases c37 : a0 = 43
        ·rw [if_pos c37] at H; obtain ⟨c37b0, c37b1⟩ := Zc0 c37; clear c37; obtain rfl := Option.some.inj H; go_enter Tryz.func52, Tryz.ntmps52; go_wp2; go_ret; exact ⟨Zq4, Zq8⟩
        ·rw [if_neg c37] at H; obtain ⟨c37b0, c37b1⟩ := Zd0 c37; obtain rfl := Option.some.inj H; go_enter Tryz.func52, Tryz.ntmps52; go_wp2; go_ret; exact ⟨Zq4, Zq8⟩
  ·rw [if_neg c26] at H; have c26b0 : decide (97 ≤ a0) = false := decide_eq_false c26; clear c26
   by_cases c38 : a0 ≥ 65
   ·rw [if_pos c38] at H; have c38b0 : decide (65 ≤ a0) = true := decide_eq_true c38; clear c38
    by_cases c39 : a0 ≤ 90
    ·rw [if_pos c39] at H; have c39b0 : decide (a0 ≤ 90) = true := decide_eq_true c39; clear c39; obtain rfl := Option.some.inj H; go_enter Tryz.func52, Tryz.ntmps52; go_wp2; go_ret; exact ⟨Zq4, Zq8⟩
    ·rw [if_neg c39] at H; have c39b0 : decide (a0 ≤ 90) = false := decide_eq_false c39; clear c39
     by_cases c40 : a0 = 44
     ·rw [if_pos c40] at H; obtain ⟨c40b0, c40b1⟩ := Zc0 c40; clear c40; obtain rfl := Option.some.inj H; go_enter Tryz.func52, Tryz.ntmps52; go_wp2; go_ret; exact ⟨Zq4, Zq8⟩
     ·rw [if_neg c40] at H; obtain ⟨c40b0, c40b1⟩ := Zd0 c40
      by_cases c41 : a0 = 46
      ·rw [if_pos c41] at H; obtain ⟨c41b0, c41b1⟩ := Zc0 c41; clear c41; obtain rfl := Option.some.inj H; go_enter Tryz.func52, Tryz.ntmps52; go_wp2; go_ret; exact ⟨Zq4, Zq8⟩
      ·rw [if_neg c41] at H; obtain ⟨c41b0, c41b1⟩ := Zd0 c41
       by_cases c42 : a0 = 95
       ·rw [if_pos c42] at H; obtain ⟨c42b0, c42b1⟩ := Zc0 c42; clear c42; obtain rfl := Option.some.inj H; go_enter Tryz.func52, Tryz.ntmps52; go_wp2; go_ret; exact ⟨Zq4, Zq8⟩
       ·rw [if_neg c42] at H; obtain ⟨c42b0, c42b1⟩ := Zd0 c42
        by_cases c43 : a0 = 43
        ·rw [if_pos c43] at H; obtain ⟨c43b0, c43b1⟩ := Zc0 c43; clear c43; obtain rfl := Option.some.inj H; go_enter Tryz.func52, Tryz.ntmps52; go_wp2; go_ret; exact ⟨Zq4, Zq8⟩
        ·rw [if_neg c43] at H; obtain ⟨c43b0, c43b1⟩ := Zd0 c43; obtain rfl := Option.some.inj H; go_enter Tryz.func52, Tryz.ntmps52; go_wp2; go_ret; exact ⟨Zq4, Zq8⟩
   ·rw [if_neg c38] at H; have c38b0 : decide (65 ≤ a0) = false := decide_eq_false c38; clear c38
    by_cases c44 : a0 = 44
    ·rw [if_pos c44] at H; obtain ⟨c44b0, c44b1⟩ := Zc0 c44; clear c44; obtain rfl := Option.some.inj H; go_enter Tryz.func52, Tryz.ntmps52; go_wp2; go_ret; exact ⟨Zq4, Zq8⟩
    ·rw [if_neg c44] at H; obtain ⟨c44b0, c44b1⟩ := Zd0 c44
     by_cases c45 : a0 = 46
     ·rw [if_pos c45] at H; obtain ⟨c45b0, c45b1⟩ := Zc0 c45; clear c45; obtain rfl := Option.some.inj H; go_enter Tryz.func52, Tryz.ntmps52; go_wp2; go_ret; exact ⟨Zq4, Zq8⟩
     ·rw [if_neg c45] at H; obtain ⟨c45b0, c45b1⟩ := Zd0 c45
      by_cases c46 : a0 = 95
      ·rw [if_pos c46] at H; obtain ⟨c46b0, c46b1⟩ := Zc0 c46; clear c46; obtain rfl := Option.some.inj H; go_enter Tryz.func52, Tryz.ntmps52; go_wp2; go_ret; exact ⟨Zq4, Zq8⟩
      ·rw [if_neg c46] at H; obtain ⟨c46b0, c46b1⟩ := Zd0 c46
       by_cases c47 : a0 = 43
       ·rw [if_pos c47] at H; obtain ⟨c47b0, c47b1⟩ := Zc0 c47; clear c47; obtain rfl := Option.some.inj H; go_enter Tryz.func52, Tryz.ntmps52; go_wp2; go_ret; exact ⟨Zq4, Zq8⟩
       ·rw [if_neg c47] at H; obtain ⟨c47b0, c47b1⟩ := Zd0 c47; obtain rfl := Option.some.inj H; go_enter Tryz.func52, Tryz.ntmps52; go_wp2; go_ret; exact ⟨Zq4, Zq8⟩
mutual
def arboretref01_Node.j0 : Nat → ByteArray → Int → ByteArray → Option (Bool)
 | 0, _, _, _ => none
 | k + 1, x0, x3, x4 => arboretref01_Node.l0 k x0 x3 x4 (x0.size : Int) 0
def arboretref01_Node.l0 : Nat → ByteArray → Int → ByteArray → Int → Int → Option (Bool)
 | 0, _, _, _, _, _ => none
 | k + 1, x0, x3, x4, x29, x30 => if x30 < x29 then (if x30 = x3 then (arboretref01_Node.l0 k x0 x3 x4 x29 (wrap64 (x30 + 1))) else (if 0 ≤ x30 then (if x30 < (x0.size : Int) then ((arboretref01_stands.f (bt x0 x30)).bind fun tbU => (if tbU = true then (arboretref01_Node.l0 k x0 x3 x4 x29 (wrap64 (x30 + 1))) else (some false))) else (none)) else (none))) else (if (x4.size : Int) ≥ 1 then (if (x4.size : Int) ≤ 31 then (if 0 < (x4.size : Int) then (if (bt x4 0) = 95 then (some true) else (if (bt x4 0) ≥ 97 then (if (bt x4 0) ≤ 122 then (some true) else (if (bt x4 0) ≥ 65 then (some (decide ((bt x4 0) ≤ 90))) else (some false))) else (if (bt x4 0) ≥ 65 then (some (decide ((bt x4 0) ≤ 90))) else (some false)))) else (none)) else (some false)) else (some false))
end
def arboretref01_Node.f (k : Nat) (a0 : ByteArray) : Option (Bool) := (arboretref01_Cut.f k a0).bind fun tad => (if tad ≥ 0 then (if 0 ≤ tad then (if tad ≤ (a0.size : Int) then (if (wrap64 ((wrap64 ((a0.size : Int) - tad)) - 1)) < 1 then (some false) else (if (wrap64 ((wrap64 ((a0.size : Int) - tad)) - 1)) > 31 then (some false) else (arboretref01_Node.j0 k a0 tad (a0.extract 0 (tad : Int).toNat)))) else (none)) else (none)) else (arboretref01_Node.j0 k a0 tad a0))
end Go.Proofs.YtkopmkinlanhoaaGreat.PE

namespace Go.Proofs.YtkopmkinlanhoaaGreat.PE
open Go.RowKit Go.Proofs.YtkopmkinlanhoaaGreatW.PrintWords Go.Proofs.YtkopmkinlanhoaaGreatW.PrintLast Go.Proofs.YtkopmkinlanhoaaGreatW.PrintMore
attribute [local go_sem] max2_int min2_int max_two min_two max_three min_three max_four min_four
set_option maxHeartbeats 8000000 in
set_option maxRecDepth 100000 in
theorem arboretref01_Node.calls (k : Nat) (a0 : ByteArray) (r : Bool) (w : World) (h : arboretref01_Node.f k a0 = some r) :
  Calls Tryz.prog 34 #[.string a0] w fun e w' => e = .returned (.bool r) ∧ Drawn0 w w' := by
 have H : ((arboretref01_Cut.f k a0).bind fun tad => (if tad ≥ 0 then (if 0 ≤ tad then (if tad ≤ (a0.size : Int) then (if (wrap64 ((wrap64 ((a0.size : Int) - tad)) - 1)) < 1 then (some false) else (if (wrap64 ((wrap64 ((a0.size : Int) - tad)) - 1)) > 31 then (some false) else (arboretref01_Node.j0 k a0 tad (a0.extract 0 (tad : Int).toNat)))) else (none)) else (none)) else (arboretref01_Node.j0 k a0 tad a0))) = some r := h; clear h; replace H := Option.bind_eq_some_iff.mp H; obtain ⟨tad, A20, H⟩ := H; replace H : (if tad ≥ 0 then (if 0 ≤ tad then (if tad ≤ (a0.size : Int) then (if (wrap64 ((wrap64 ((a0.size : Int) - tad)) - 1)) < 1 then (some false) else (if (wrap64 ((wrap64 ((a0.size : Int) - tad)) - 1)) > 31 then (some false) else (arboretref01_Node.j0 k a0 tad (a0.extract 0 (tad : Int).toNat)))) else (none)) else (none)) else (arboretref01_Node.j0 k a0 tad a0)) = some r := H; have A2 := AK A20; clear A20; have HC3 := AK H; clear H; go_enter Tryz.func34, Tryz.ntmps34
 go_upto_if 10 with (first | ((with_reducible refine gate_callee (f := 51) rfl ?_); refine goesL_ (some 7) rfl rfl Tryz.func51 Zq3 rfl #[.string a0] rfl Zq10 ?_; (with_reducible refine (arboretref01_Cut.calls k a0 tad _ A2.out).mono ?_); rintro e w' ⟨rfl, ⟨nd, rfl⟩⟩; refine ⟨_, rfl, ?_⟩))
 (try simp only [Act.put, List.setIfInBounds_toArray, List.set_cons_zero, List.set_cons_succ])
 go_cut [4] (fun v4 wc => ∃ (kq : Nat) (x4_2 : ByteArray), v4 = .string x4_2 ∧ Aside0 (arboretref01_Node.j0 kq a0 tad x4_2 = some r) ∧ Aside0 (kq ≤ k) ∧ Drawn0 w wc)
 case first =>
  have H := HC3.out; clear HC3
  by_cases c4 : tad ≥ 0
  ·rw [if_pos c4] at H; have c4b0 : decide (0 ≤ tad) = true := decide_eq_true c4; clear c4; (first | rw [c4b0] | (simp only [i64_w, i32_w]; rw [c4b0]) | skip)
   by_cases c5 : 0 ≤ tad
   ·rw [if_pos c5] at H; have c5b0 := eq_true c5; have c5b1 : decide (0 ≤ tad) = true := decide_eq_true c5; clear c5
    by_cases c6 : tad ≤ (a0.size : Int)
    ·rw [if_pos c6] at H; have c6b0 := eq_true c6; have c6b1 : decide (tad ≤ (a0.size : Int)) = true := decide_eq_true c6; clear c6
     by_cases c7 : (wrap64 ((wrap64 ((a0.size : Int) - tad)) - 1)) < 1
     ·rw [if_pos c7] at H; have c7b0 : decide ((wrap64 ((wrap64 ((a0.size : Int) - tad)) - 1)) < 1) = true := decide_eq_true c7; clear c7; obtain rfl := Option.some.inj H; go_wp2; go_ret; exact ⟨Zq4, Zq8⟩
     ·rw [if_neg c7] at H; have c7b0 : decide ((wrap64 ((wrap64 ((a0.size : Int) - tad)) - 1)) < 1) = false := decide_eq_false c7; clear c7
      by_cases c8 : (wrap64 ((wrap64 ((a0.size : Int) - tad)) - 1)) > 31
      ·rw [if_pos c8] at H; have c8b0 : decide (31 < (wrap64 ((wrap64 ((a0.size : Int) - tad)) - 1))) = true := decide_eq_true c8; clear c8; obtain rfl := Option.some.inj H; go_wp2; go_ret; exact ⟨Zq4, Zq8⟩
      ·rw [if_neg c8] at H; have c8b0 : decide (31 < (wrap64 ((wrap64 ((a0.size : Int) - tad)) - 1))) = false := decide_eq_false c8; clear c8; have H' := AK H; clear H; go_wp2
       go_meet
       case rel => exact ⟨_, (a0.extract 0 (tad : Int).toNat), Zq4, H', ⟨Zq24⟩, Zq8⟩
    ·rw [if_neg c6] at H; exact absurd H Zq7
   ·rw [if_neg c5] at H; exact absurd H Zq7
  ·rw [if_neg c4] at H; have c4b0 : decide (0 ≤ tad) = false := decide_eq_false c4; clear c4; (first | rw [c4b0] | (simp only [i64_w, i32_w]; rw [c4b0]) | skip); have H' := AK H; clear H; go_wp2
   go_meet
   case rel => exact ⟨_, (a0), Zq4, H', ⟨Zq24⟩, Zq8⟩
 case rest =>
  clear HC3; (try clear c4b0); (try clear c5); (try clear c5b0); (try clear c5b1); (try clear c6); (try clear c6b0); (try clear c6b1); (try clear c7b0); (try clear c8b0); obtain ⟨kq, x4_2, rfl, HA, HJ2, ⟨mc2, rfl⟩⟩ := hcut
  cases kq with
  | zero => exact absurd HA.out (by simp [arboretref01_Node.j0])
  | succ kj2 =>
   have H := HA.out; clear HA; simp only [arboretref01_Node.j0] at H; have H' := AK H; clear H; go_wp2
   go_loopg [30] kj2 (fun kq v30 w' => ∃ (x30_2 : Int), v30 = .int .i64 x30_2 ∧ Aside0 (arboretref01_Node.l0 kq a0 tad x4_2 (a0.size : Int) x30_2 = some r) ∧ Aside0 (kq ≤ kj2) ∧ Drawn0 w w')
   case atStart => exact ⟨(0), Zq4, H', ⟨Nat.le_refl _⟩, Zq8⟩
   case round =>
    clear H'; (try clear c4b0); (try clear c5); (try clear c5b0); (try clear c5b1); (try clear c6); (try clear c6b0); (try clear c6b1); (try clear c7b0); (try clear c8b0); obtain ⟨x30_2, rfl, HA, HK2, ⟨m2, rfl⟩⟩ := hrel
    cases gk with
    | zero => exact absurd HA.out (by simp [arboretref01_Node.l0])
    | succ k2 =>
     have H := HA.out; clear HA; simp only [arboretref01_Node.l0] at H
     by_cases c9 : x30_2 < (a0.size : Int)
     ·rw [if_pos c9] at H; have c9b0 : decide (x30_2 < (a0.size : Int)) = true := decide_eq_true c9; clear c9
      by_cases c10 : x30_2 = tad
      ·rw [if_pos c10] at H; obtain ⟨c10b0, c10b1⟩ := Zc0 c10; clear c10; have H' := AK H; clear H; go_wp2
       go_roundg k2
       case measure => have := HJ2.out; have := HK2.out; omega
       case rel => exact ⟨(wrap64 (x30_2 + 1)), Zq4, H', ⟨by have := HJ2.out; have := HK2.out; omega⟩, Zq8⟩
      ·rw [if_neg c10] at H; obtain ⟨c10b0, c10b1⟩ := Zd0 c10
       by_cases c11 : 0 ≤ x30_2
       ·rw [if_pos c11] at H; have c11b0 : decide (0 ≤ x30_2) = true := decide_eq_true c11; clear c11
        by_cases c12 : x30_2 < (a0.size : Int)
        ·rw [if_pos c12] at H; have c12b0 : decide (x30_2 < (a0.size : Int)) = true := decide_eq_true c12; clear c12; replace H := Option.bind_eq_some_iff.mp H; obtain ⟨tbU, AbO, H⟩ := H; replace H : (if tbU = true then (arboretref01_Node.l0 k2 a0 tad x4_2 (a0.size : Int) (wrap64 (x30_2 + 1))) else (some false)) = some r := H; have A14 := AK AbO; clear AbO
         by_cases c15 : tbU = true
         ·subst c15
          have H1 : (arboretref01_Node.l0 k2 a0 tad x4_2 (a0.size : Int) (wrap64 (x30_2 + 1))) = some r := by rw [if_pos rfl] at H; exact H
          clear H; have H := H1; clear H1; have H' := AK H; clear H; have p13 : 0 ≤ (x30_2 : Int) := of_decide_eq_true Zq5; have q13 : x30_2 < (a0.size : Int) := of_decide_eq_true Zq5; have hx13 := bt_at a0 x30_2; replace p13 := eq_true p13; replace q13 := eq_true q13; go_wp2_with (first | (go_at_call 52; (with_reducible refine (arboretref01_stands.calls (bt a0 x30_2) true _ A14.out).mono ?_); rintro e w' ⟨rfl, ⟨nd, rfl⟩⟩))
          go_roundg k2
          case measure => have := HJ2.out; have := HK2.out; omega
          case rel => exact ⟨(wrap64 (x30_2 + 1)), Zq4, H', ⟨by have := HJ2.out; have := HK2.out; omega⟩, Zq8⟩
         ·replace c15 := Bool.eq_false_iff.mpr c15; subst c15
          have H1 : (some false) = some r := by rw [if_neg (show ¬ (false = true) by decide)] at H; exact H
          clear H; have H := H1; clear H1; obtain rfl := Option.some.inj H; have p13 : 0 ≤ (x30_2 : Int) := of_decide_eq_true Zq5; have q13 : x30_2 < (a0.size : Int) := of_decide_eq_true Zq5; have hx13 := bt_at a0 x30_2; replace p13 := eq_true p13; replace q13 := eq_true q13; (go_wp2_with (first | (go_at_call 52; (with_reducible refine (arboretref01_stands.calls (bt a0 x30_2) false _ A14.out).mono ?_); rintro e w' ⟨rfl, ⟨nd, rfl⟩⟩))); go_ret; exact ⟨Zq4, Zq8⟩
        ·rw [if_neg c12] at H; exact absurd H Zq7
       ·rw [if_neg c11] at H; exact absurd H Zq7
     ·rw [if_neg c9] at H; have c9b0 : decide (x30_2 < (a0.size : Int)) = false := decide_eq_false c9; clear c9
      by_cases c16 : (x4_2.size : Int) ≥ 1
      ·rw [if_pos c16] at H; have c16b0 : decide (1 ≤ (x4_2.size : Int)) = true := decide_eq_true c16; have c16b1 : decide (1 ≤ x4_2.size) = true := decide_eq_true Zq1; clear c16
       by_cases c17 : (x4_2.size : Int) ≤ 31
       ·rw [if_pos c17] at H; have c17b0 : decide ((x4_2.size : Int) ≤ 31) = true := decide_eq_true c17; have c17b1 : decide (x4_2.size ≤ 31) = true := decide_eq_true Zq1; clear c17
        by_cases c18 : 0 < (x4_2.size : Int)
        ·rw [if_pos c18] at H; have c18b0 : decide (0 < (x4_2.size : Int)) = true := decide_eq_true c18; have c18b1 : decide (0 < x4_2.size) = true := decide_eq_true Zq1; clear c18
         by_cases c20 : (bt x4_2 0) = 95
         ·rw [if_pos c20] at H; obtain ⟨c20b0, c20b1⟩ := Zc0 c20; clear c20; obtain rfl := Option.some.inj H; have p19 : 0 ≤ (0 : Int) := Zq1
          have q19 : 0 < x4_2.size := (by have : (0 : Int) < (x4_2.size : Int) := of_decide_eq_true Zq5; omega)
          have hx19 : ∀ h : 0 < x4_2.size, ((x4_2[0]'h).toNat : Int) = bt x4_2 0 := bt_at x4_2 0; clear p19; have qi19 : (0 < (x4_2.size : Int)) = True := eq_true (of_decide_eq_true Zq5); replace q19 := eq_true q19; go_wp2; go_ret; exact ⟨Zq4, Zq8⟩
         ·rw [if_neg c20] at H; obtain ⟨c20b0, c20b1⟩ := Zd0 c20
          by_cases c22 : (bt x4_2 0) ≥ 97
          ·rw [if_pos c22] at H; have c22b0 : decide (97 ≤ (bt x4_2 0)) = true := decide_eq_true c22; clear c22
           by_cases c24 : (bt x4_2 0) ≤ 122
           ·rw [if_pos c24] at H; have c24b0 : decide ((bt x4_2 0) ≤ 122) = true := decide_eq_true c24; clear c24; obtain rfl := Option.some.inj H; have p19 : 0 ≤ (0 : Int) := Zq1
            have q19 : 0 < x4_2.size := (by have : (0 : Int) < (x4_2.size : Int) := of_decide_eq_true Zq5; omega)
            have hx19 : ∀ h : 0 < x4_2.size, ((x4_2[0]'h).toNat : Int) = bt x4_2 0 := bt_at x4_2 0; clear p19; have qi19 : (0 < (x4_2.size : Int)) = True := eq_true (of_decide_eq_true Zq5); replace q19 := eq_true q19; have p21 : 0 ≤ (0 : Int) := Zq1
            have q21 : 0 < x4_2.size := (by have : (0 : Int) < (x4_2.size : Int) := of_decide_eq_true Zq5; omega)
            have hx21 : ∀ h : 0 < x4_2.size, ((x4_2[0]'h).toNat : Int) = bt x4_2 0 := bt_at x4_2 0; clear p21; have qi21 : (0 < (x4_2.size : Int)) = True := eq_true (of_decide_eq_true Zq5); replace q21 := eq_true q21; have p23 : 0 ≤ (0 : Int) := Zq1
            have q23 : 0 < x4_2.size := (by have : (0 : Int) < (x4_2.size : Int) := of_decide_eq_true Zq5; omega)
            have hx23 : ∀ h : 0 < x4_2.size, ((x4_2[0]'h).toNat : Int) = bt x4_2 0 := bt_at x4_2 0; clear p23; have qi23 : (0 < (x4_2.size : Int)) = True := eq_true (of_decide_eq_true Zq5); replace q23 := eq_true q23; go_wp2; go_ret; exact ⟨Zq4, Zq8⟩
           ·rw [if_neg c24] at H; have c24b0 : decide ((bt x4_2 0) ≤ 122) = false := decide_eq_false c24; clear c24
            by_cases c26 : (bt x4_2 0) ≥ 65
            ·rw [if_pos c26] at H; have c26b0 : decide (65 ≤ (bt x4_2 0)) = true := decide_eq_true c26; clear c26; obtain rfl := Option.some.inj H; have p19 : 0 ≤ (0 : Int) := Zq1
             have q19 : 0 < x4_2.size := (by have : (0 : Int) < (x4_2.size : Int) := of_decide_eq_true Zq5; omega)
             have hx19 : ∀ h : 0 < x4_2.size, ((x4_2[0]'h).toNat : Int) = bt x4_2 0 := bt_at x4_2 0; clear p19; have qi19 : (0 < (x4_2.size : Int)) = True := eq_true (of_decide_eq_true Zq5); replace q19 := eq_true q19; have p21 : 0 ≤ (0 : Int) := Zq1
             have q21 : 0 < x4_2.size := (by have : (0 : Int) < (x4_2.size : Int) := of_decide_eq_true Zq5; omega)
             have hx21 : ∀ h : 0 < x4_2.size, ((x4_2[0]'h).toNat : Int) = bt x4_2 0 := bt_at x4_2 0; clear p21; have qi21 : (0 < (x4_2.size : Int)) = True := eq_true (of_decide_eq_true Zq5); replace q21 := eq_true q21; have p23 : 0 ≤ (0 : Int) := Zq1
             have q23 : 0 < x4_2.size := (by have : (0 : Int) < (x4_2.size : Int) := of_decide_eq_true Zq5; omega)
             have hx23 : ∀ h : 0 < x4_2.size, ((x4_2[0]'h).toNat : Int) = bt x4_2 0 := bt_at x4_2 0; clear p23; have qi23 : (0 < (x4_2.size : Int)) = True := eq_true (of_decide_eq_true Zq5); replace q23 := eq_true q23; have p25 : 0 ≤ (0 : Int) := Zq1
             have q25 : 0 < x4_2.size := (by have : (0 : Int) < (x4_2.size : Int) := of_decide_eq_true Zq5; omega)
             have hx25 : ∀ h : 0 < x4_2.size, ((x4_2[0]'h).toNat : Int) = bt x4_2 0 := bt_at x4_2 0; clear p25; have qi25 : (0 < (x4_2.size : Int)) = True := eq_true (of_decide_eq_true Zq5); replace q25 := eq_true q25; have p27 : 0 ≤ (0 : Int) := Zq1
             have q27 : 0 < x4_2.size := (by have : (0 : Int) < (x4_2.size : Int) := of_decide_eq_true Zq5; omega)
             have hx27 : ∀ h : 0 < x4_2.size, ((x4_2[0]'h).toNat : Int) = bt x4_2 0 := bt_at x4_2 0; clear p27; have qi27 : (0 < (x4_2.size : Int)) = True := eq_true (of_decide_eq_true Zq5); replace q27 := eq_true q27; go_wp2; go_ret; exact ⟨Zq4, Zq8⟩
            ·rw [if_neg c26] at H; have c26b0 : decide (65 ≤ (bt x4_2 0)) = false := decide_eq_false c26; clear c26; obtain rfl := Option.some.inj H; have p19 : 0 ≤ (0 : Int) := Zq1
             have q19 : 0 < x4_2.size := (by have : (0 : Int) < (x4_2.size : Int) := of_decide_eq_true Zq5; omega)
             have hx19 : ∀ h : 0 < x4_2.size, ((x4_2[0]'h).toNat : Int) = bt x4_2 0 := bt_at x4_2 0; clear p19; have qi19 : (0 < (x4_2.size : Int)) = True := eq_true (of_decide_eq_true Zq5); replace q19 := eq_true q19; have p21 : 0 ≤ (0 : Int) := Zq1
             have q21 : 0 < x4_2.size := (by have : (0 : Int) < (x4_2.size : Int) := of_decide_eq_true Zq5; omega)
             have hx21 : ∀ h : 0 < x4_2.size, ((x4_2[0]'h).toNat : Int) = bt x4_2 0 := bt_at x4_2 0; clear p21; have qi21 : (0 < (x4_2.size : Int)) = True := eq_true (of_decide_eq_true Zq5); replace q21 := eq_true q21; have p23 : 0 ≤ (0 : Int) := Zq1
             have q23 : 0 < x4_2.size := (by have : (0 : Int) < (x4_2.size : Int) := of_decide_eq_true Zq5; omega)
             have hx23 : ∀ h : 0 < x4_2.size, ((x4_2[0]'h).toNat : Int) = bt x4_2 0 := bt_at x4_2 0; clear p23; have qi23 : (0 < (x4_2.size : Int)) = True := eq_true (of_decide_eq_true Zq5); replace q23 := eq_true q23; have p25 : 0 ≤ (0 : Int) := Zq1
             have q25 : 0 < x4_2.size := (by have : (0 : Int) < (x4_2.size : Int) := of_decide_eq_true Zq5; omega)
             have hx25 : ∀ h : 0 < x4_2.size, ((x4_2[0]'h).toNat : Int) = bt x4_2 0 := bt_at x4_2 0; clear p25; have qi25 : (0 < (x4_2.size : Int)) = True := eq_true (of_decide_eq_true Zq5); replace q25 := eq_true q25; go_wp2; go_ret; exact ⟨Zq4, Zq8⟩
          ·rw [if_neg c22] at H; have c22b0 : decide (97 ≤ (bt x4_2 0)) = false := decide_eq_false c22; clear c22
           by_cases c29 : (bt x4_2 0) ≥ 65
           ·rw [if_pos c29] at H; have c29b0 : decide (65 ≤ (bt x4_2 0)) = true := decide_eq_true c29; clear c29; obtain rfl := Option.some.inj H; have p19 : 0 ≤ (0 : Int) := Zq1
            have q19 : 0 < x4_2.size := (by have : (0 : Int) < (x4_2.size : Int) := of_decide_eq_true Zq5; omega)
            have hx19 : ∀ h : 0 < x4_2.size, ((x4_2[0]'h).toNat : Int) = bt x4_2 0 := bt_at x4_2 0; clear p19; have qi19 : (0 < (x4_2.size : Int)) = True := eq_true (of_decide_eq_true Zq5); replace q19 := eq_true q19; have p21 : 0 ≤ (0 : Int) := Zq1
            have q21 : 0 < x4_2.size := (by have : (0 : Int) < (x4_2.size : Int) := of_decide_eq_true Zq5; omega)
            have hx21 : ∀ h : 0 < x4_2.size, ((x4_2[0]'h).toNat : Int) = bt x4_2 0 := bt_at x4_2 0; clear p21; have qi21 : (0 < (x4_2.size : Int)) = True := eq_true (of_decide_eq_true Zq5); replace q21 := eq_true q21; have p28 : 0 ≤ (0 : Int) := Zq1
            have q28 : 0 < x4_2.size := (by have : (0 : Int) < (x4_2.size : Int) := of_decide_eq_true Zq5; omega)
            have hx28 : ∀ h : 0 < x4_2.size, ((x4_2[0]'h).toNat : Int) = bt x4_2 0 := bt_at x4_2 0; clear p28; have qi28 : (0 < (x4_2.size : Int)) = True := eq_true (of_decide_eq_true Zq5); replace q28 := eq_true q28; have p30 : 0 ≤ (0 : Int) := Zq1
            have q30 : 0 < x4_2.size := (by have : (0 : Int) < (x4_2.size : Int) := of_decide_eq_true Zq5; omega)
            have hx30 : ∀ h : 0 < x4_2.size, ((x4_2[0]'h).toNat : Int) = bt x4_2 0 := bt_at x4_2 0; clear p30; have qi30 : (0 < (x4_2.size : Int)) = True := eq_true (of_decide_eq_true Zq5); replace q30 := eq_true q30; go_wp2; go_ret; exact ⟨Zq4, Zq8⟩
           ·rw [if_neg c29] at H; have c29b0 : decide (65 ≤ (bt x4_2 0)) = false := decide_eq_false c29; clear c29; obtain rfl := Option.some.inj H; have p19 : 0 ≤ (0 : Int) := Zq1
            have q19 : 0 < x4_2.size := (by have : (0 : Int) < (x4_2.size : Int) := of_decide_eq_true Zq5; omega)
            have hx19 : ∀ h : 0 < x4_2.size, ((x4_2[0]'h).toNat : Int) = bt x4_2 0 := bt_at x4_2 0; clear p19; have qi19 : (0 < (x4_2.size : Int)) = True := eq_true (of_decide_eq_true Zq5); replace q19 := eq_true q19; have p21 : 0 ≤ (0 : Int) := Zq1
            have q21 : 0 < x4_2.size := (by have : (0 : Int) < (x4_2.size : Int) := of_decide_eq_true Zq5; omega)
            have hx21 : ∀ h : 0 < x4_2.size, ((x4_2[0]'h).toNat : Int) = bt x4_2 0 := bt_at x4_2 0; clear p21; have qi21 : (0 < (x4_2.size : Int)) = True := eq_true (of_decide_eq_true Zq5); replace q21 := eq_true q21; have p28 : 0 ≤ (0 : Int) := Zq1
            have q28 : 0 < x4_2.size := (by have : (0 : Int) < (x4_2.size : Int) := of_decide_eq_true Zq5; omega)
            have hx28 : ∀ h : 0 < x4_2.size, ((x4_2[0]'h).toNat : Int) = bt x4_2 0 := bt_at x4_2 0; clear p28; have qi28 : (0 < (x4_2.size : Int)) = True := eq_true (of_decide_eq_true Zq5); replace q28 := eq_true q28; go_wp2; go_ret; exact ⟨Zq4, Zq8⟩
        ·rw [if_neg c18] at H; exact absurd H Zq7
       ·rw [if_neg c17] at H; have c17b0 : decide ((x4_2.size : Int) ≤ 31) = false := decide_eq_false c17; have c17b1 : decide (x4_2.size ≤ 31) = false := decide_eq_false Zq1; clear c17; obtain rfl := Option.some.inj H; go_wp2; go_ret; exact ⟨Zq4, Zq8⟩
      ·rw [if_neg c16] at H; have c16b0 : decide (1 ≤ (x4_2.size : Int)) = false := decide_eq_false c16; have c16b1 : decide (1 ≤ x4_2.size) = false := decide_eq_false Zq1; clear c16; obtain rfl := Option.some.inj H; go_wp2; go_ret; exact ⟨Zq4, Zq8⟩
def arboretref01_Prop.l0 : Nat → ByteArray → Int → Int → Option (Bool)
 | 0, _, _, _ => none
 | k + 1, x0, x5, x6 => if x6 < x5 then (if 0 ≤ x6 then (if x6 < (x0.size : Int) then ((arboretref01_stands.f (bt x0 x6)).bind fun tbV => (if tbV = true then (arboretref01_Prop.l0 k x0 x5 (wrap64 (x6 + 1))) else (if (bt x0 x6) = 63 then (arboretref01_Prop.l0 k x0 x5 (wrap64 (x6 + 1))) else (if (bt x0 x6) = 35 then (arboretref01_Prop.l0 k x0 x5 (wrap64 (x6 + 1))) else (some false))))) else (none)) else (none)) else (if (x0.size : Int) ≥ 1 then (some (decide ((x0.size : Int) ≤ 31))) else (some false))
def arboretref01_Prop.f (k : Nat) (a0 : ByteArray) : Option (Bool) := arboretref01_Prop.l0 k a0 (a0.size : Int) 0
set_option maxHeartbeats 8000000 in
set_option maxRecDepth 100000 in
theorem arboretref01_Prop.calls (k : Nat) (a0 : ByteArray) (r : Bool) (w : World) (h : arboretref01_Prop.f k a0 = some r) :
  Calls Tryz.prog 35 #[.string a0] w fun e w' => e = .returned (.bool r) ∧ Drawn0 w w' := by
 have H : (arboretref01_Prop.l0 k a0 (a0.size : Int) 0) = some r := h; clear h; have H' := AK H; clear H; go_enter Tryz.func35, Tryz.ntmps35; go_wp2
 go_loopg [6] k (fun kq v6 w' => ∃ (x6_1 : Int), v6 = .int .i64 x6_1 ∧ Aside0 (arboretref01_Prop.l0 kq a0 (a0.size : Int) x6_1 = some r) ∧ Aside0 (kq ≤ k) ∧ Drawn0 w w')
 case atStart => exact ⟨(0), Zq4, H', ⟨Nat.le_refl _⟩, Zq8⟩
 case round =>
  clear H'; obtain ⟨x6_1, rfl, HA, HK1, ⟨m1, rfl⟩⟩ := hrel
  cases gk with
  | zero => exact absurd HA.out (by simp [arboretref01_Prop.l0])
  | succ k1 =>
   have H := HA.out; clear HA; simp only [arboretref01_Prop.l0] at H
   by_cases c2 : x6_1 < (a0.size : Int)
   ·rw [if_pos c2] at H; have c2b0 : decide (x6_1 < (a0.size : Int)) = true := decide_eq_true c2; clear c2
    by_cases c3 : 0 ≤ x6_1
    ·rw [if_pos c3] at H; have c3b0 : decide (0 ≤ x6_1) = true := decide_eq_true c3; clear c3
     by_cases c4 : x6_1 < (a0.size : Int)
     ·rw [if_pos c4] at H; have c4b0 : decide (x6_1 < (a0.size : Int)) = true := decide_eq_true c4; clear c4; replace H := Option.bind_eq_some_iff.mp H; obtain ⟨tbV, A60, H⟩ := H; replace H : (if tbV = true then (arboretref01_Prop.l0 k1 a0 (a0.size : Int) (wrap64 (x6_1 + 1))) else (if (bt a0 x6_1) = 63 then (arboretref01_Prop.l0 k1 a0 (a0.size : Int) (wrap64 (x6_1 + 1))) else (if (bt a0 x6_1) = 35 then (arboretref01_Prop.l0 k1 a0 (a0.size : Int) (wrap64 (x6_1 + 1))) else (some false)))) = some r := H; have A6 := AK A60; clear A60
      by_cases c7 : tbV = true
      ·subst c7
       have H1 : (arboretref01_Prop.l0 k1 a0 (a0.size : Int) (wrap64 (x6_1 + 1))) = some r := by rw [if_pos rfl] at H; exact H
       clear H; have H := H1; clear H1; have H' := AK H; clear H; have p5 : 0 ≤ (x6_1 : Int) := of_decide_eq_true Zq5; have q5 : x6_1 < (a0.size : Int) := of_decide_eq_true Zq5; have hx5 := bt_at a0 x6_1; replace p5 := eq_true p5; replace q5 := eq_true q5; go_wp2_with (first | ((with_reducible refine gate_callee (f := 52) rfl ?_); refine goesL_ (some 12) rfl rfl Tryz.func52 Zq3 rfl #[.int .u8 (bt a0 x6_1)] rfl Zq10 ?_; (with_reducible refine (arboretref01_stands.calls (bt a0 x6_1) true _ A6.out).mono ?_); rintro e w' ⟨rfl, ⟨nd, rfl⟩⟩; refine ⟨_, rfl, ?_⟩))
       go_roundg k1
       case measure => have := HK1.out; omega
       case rel => exact ⟨(wrap64 (x6_1 + 1)), Zq4, H', ⟨Zq14⟩, Zq8⟩
      ·replace c7 := Bool.eq_false_iff.mpr c7; subst c7
       have H1 : (if (bt a0 x6_1) = 63 then (arboretref01_Prop.l0 k1 a0 (a0.size : Int) (wrap64 (x6_1 + 1))) else (if (bt a0 x6_1) = 35 then (arboretref01_Prop.l0 k1 a0 (a0.size : Int) (wrap64 (x6_1 + 1))) else (some false))) = some r := by rw [if_neg (show ¬ (false = true) by decide)] at H; exact H
       clear H; have H := H1; clear H1
       by_cases c9 : (bt a0 x6_1) = 63
       ·rw [if_pos c9] at H; obtain ⟨c9b0, c9b1⟩ := Zc0 c9; clear c9; have H' := AK H; clear H; have p5 : 0 ≤ (x6_1 : Int) := of_decide_eq_true Zq5; have q5 : x6_1 < (a0.size : Int) := of_decide_eq_true Zq5; have hx5 := bt_at a0 x6_1; replace p5 := eq_true p5; replace q5 := eq_true q5; go_wp2_with (first | ((with_reducible refine gate_callee (f := 52) rfl ?_); refine goesL_ (some 12) rfl rfl Tryz.func52 Zq3 rfl #[.int .u8 (bt a0 x6_1)] rfl Zq10 ?_; (with_reducible refine (arboretref01_stands.calls (bt a0 x6_1) false _ A6.out).mono ?_); rintro e w' ⟨rfl, ⟨nd, rfl⟩⟩; refine ⟨_, rfl, ?_⟩; have p8 : 0 ≤ (x6_1 : Int) := of_decide_eq_true Zq5; have q8 : x6_1 < (a0.size : Int) := of_decide_eq_true Zq5; have hx8 := bt_at a0 x6_1; replace p8 := eq_true p8; replace q8 := eq_true q8))
        go_roundg k1
        case measure => have := HK1.out; omega
        case rel => exact ⟨(wrap64 (x6_1 + 1)), Zq4, H', ⟨Zq14⟩, Zq8⟩
       ·rw [if_neg c9] at H; obtain ⟨c9b0, c9b1⟩ := Zd0 c9
        by_cases c11 : (bt a0 x6_1) = 35
        ·rw [if_pos c11] at H; obtain ⟨c11b0, c11b1⟩ := Zc0 c11; clear c11; have H' := AK H; clear H; have p5 : 0 ≤ (x6_1 : Int) := of_decide_eq_true Zq5; have q5 : x6_1 < (a0.size : Int) := of_decide_eq_true Zq5; have hx5 := bt_at a0 x6_1; replace p5 := eq_true p5; replace q5 := eq_true q5; go_wp2_with (first | ((with_reducible refine gate_callee (f := 52) rfl ?_); refine goesL_ (some 12) rfl rfl Tryz.func52 Zq3 rfl #[.int .u8 (bt a0 x6_1)] rfl Zq10 ?_; (with_reducible refine (arboretref01_stands.calls (bt a0 x6_1) false _ A6.out).mono ?_); rintro e w' ⟨rfl, ⟨nd, rfl⟩⟩; refine ⟨_, rfl, ?_⟩; have p8 : 0 ≤ (x6_1 : Int) := of_decide_eq_true Zq5; have q8 : x6_1 < (a0.size : Int) := of_decide_eq_true Zq5; have hx8 := bt_at a0 x6_1; replace p8 := eq_true p8; replace q8 := eq_true q8; have p10 : 0 ≤ (x6_1 : Int) := of_decide_eq_true Zq5; have q10 : x6_1 < (a0.size : Int) := of_decide_eq_true Zq5; have hx10 := bt_at a0 x6_1; replace p10 := eq_true p10; replace q10 := eq_true q10))
         go_roundg k1
         case measure => have := HK1.out; omega
         case rel => exact ⟨(wrap64 (x6_1 + 1)), Zq4, H', ⟨Zq14⟩, Zq8⟩
        ·rw [if_neg c11] at H; obtain ⟨c11b0, c11b1⟩ := Zd0 c11; obtain rfl := Option.some.inj H; have p5 : 0 ≤ (x6_1 : Int) := of_decide_eq_true Zq5; have q5 : x6_1 < (a0.size : Int) := of_decide_eq_true Zq5; have hx5 := bt_at a0 x6_1; replace p5 := eq_true p5; replace q5 := eq_true q5; (go_wp2_with (first | ((with_reducible refine gate_callee (f := 52) rfl ?_); refine goesL_ (some 12) rfl rfl Tryz.func52 Zq3 rfl #[.int .u8 (bt a0 x6_1)] rfl Zq10 ?_; (with_reducible refine (arboretref01_stands.calls (bt a0 x6_1) false _ A6.out).mono ?_); rintro e w' ⟨rfl, ⟨nd, rfl⟩⟩; refine ⟨_, rfl, ?_⟩; have p8 : 0 ≤ (x6_1 : Int) := of_decide_eq_true Zq5; have q8 : x6_1 < (a0.size : Int) := of_decide_eq_true Zq5; have hx8 := bt_at a0 x6_1; replace p8 := eq_true p8; replace q8 := eq_true q8; have p10 : 0 ≤ (x6_1 : Int) := of_decide_eq_true Zq5; have q10 : x6_1 < (a0.size : Int) := of_decide_eq_true Zq5; have hx10 := bt_at a0 x6_1; replace p10 := eq_true p10; replace q10 := eq_true q10))); go_ret; exact ⟨Zq4, Zq8⟩
     ·rw [if_neg c4] at H; exact absurd H Zq7
    ·rw [if_neg c3] at H; exact absurd H Zq7
   ·rw [if_neg c2] at H; have c2b0 : decide (x6_1 < (a0.size : Int)) = false := decide_eq_false c2; clear c2
    by_cases c12 : (a0.size : Int) ≥ 1
    ·rw [if_pos c12] at H; have c12b0 : decide (1 ≤ (a0.size : Int)) = true := decide_eq_true c12; have c12b1 : decide (1 ≤ a0.size) = true := decide_eq_true Zq1; clear c12; obtain rfl := Option.some.inj H; go_wp2; go_ret; exact ⟨Zq4, Zq8⟩
    ·rw [if_neg c12] at H; have c12b0 : decide (1 ≤ (a0.size : Int)) = false := decide_eq_false c12; have c12b1 : decide (1 ≤ a0.size) = false := decide_eq_false Zq1; clear c12; obtain rfl := Option.some.inj H; go_wp2; go_ret; exact ⟨Zq4, Zq8⟩
mutual
def arboretref01_wrong.j0 : Nat → Int → Bool → ByteArray → List (S68) → List (S27) → Option (Int)
 | 0, _, _, _, _, _ => none
 | k + 1, x1, x30, xaK, xaw, xao => if x30 = true then (some 5) else (arboretref01_wrong.l0 k x1 (xaw.length : Int) 0 xaK xaw xao)
def arboretref01_wrong.l0 : Nat → Int → Int → Int → ByteArray → List (S68) → List (S27) → Option (Int)
 | 0, _, _, _, _, _, _ => none
 | k + 1, x1, x33, x34, xaK, xaw, xao => if x34 < x33 then (if 0 ≤ x34 then (if x34 < (xaw.length : Int) then ((arboretref01_Prop.f k ((rd_T68 xaw x34).f0)).bind fun tbW => (if tbW = true then (arboretref01_wrong.l0 k x1 x33 (wrap64 (x34 + 1)) xaK xaw xao) else (some 5))) else (none)) else (none)) else (arboretref01_wrong.l1 k x1 (xaw.length : Int) 0 xaK xaw xao)
def arboretref01_wrong.l1 : Nat → Int → Int → Int → ByteArray → List (S68) → List (S27) → Option (Int)
 | 0, _, _, _, _, _, _ => none
 | k + 1, x1, x48, x49, xaK, xaw, xao => if x49 < x48 then (arboretref01_wrong.l2 k x1 x49 x48 x49 x49 0 xaK xaw xao) else (arboretref01_wrong.l3 k x1 (xao.length : Int) 0 xaK xaw xao)
def arboretref01_wrong.l2 : Nat → Int → Int → Int → Int → Int → Int → ByteArray → List (S68) → List (S27) → Option (Int)
 | 0, _, _, _, _, _, _, _, _, _ => none
 | k + 1, x1, x6, x48, x49, x52, x53, xaK, xaw, xao => if x53 < x52 then (if 0 ≤ x53 then (if x53 < (xaw.length : Int) then (if 0 ≤ x6 then (if x6 < (xaw.length : Int) then (if ((rd_T68 xaw x53).f0).toList = ((rd_T68 xaw x6).f0).toList then (some 9) else (arboretref01_wrong.l2 k x1 x6 x48 x49 x52 (wrap64 (x53 + 1)) xaK xaw xao)) else (none)) else (none)) else (none)) else (none)) else (arboretref01_wrong.l1 k x1 x48 (wrap64 (x49 + 1)) xaK xaw xao)
def arboretref01_wrong.l3 : Nat → Int → Int → Int → ByteArray → List (S68) → List (S27) → Option (Int)
 | 0, _, _, _, _, _, _ => none
 | k + 1, x1, x73, x74, xaK, xaw, xao => if x74 < x73 then (arboretref01_wrong.l4 k x1 x74 x73 x74 x74 0 xaK xaw xao) else (arboretref01_wrong.l5 k x1 (xao.length : Int) 0 xaK xaw xao)
def arboretref01_wrong.l4 : Nat → Int → Int → Int → Int → Int → Int → ByteArray → List (S68) → List (S27) → Option (Int)
 | 0, _, _, _, _, _, _, _, _, _ => none
 | k + 1, x1, x8, x73, x74, x77, x78, xaK, xaw, xao => if x78 < x77 then (if 0 ≤ x78 then (if x78 < (xao.length : Int) then (if 0 ≤ x8 then (if x8 < (xao.length : Int) then (if ((rd_T27 xao x78).f0).toList = ((rd_T27 xao x8).f0).toList then (some 9) else (arboretref01_wrong.l4 k x1 x8 x73 x74 x77 (wrap64 (x78 + 1)) xaK xaw xao)) else (none)) else (none)) else (none)) else (none)) else (arboretref01_wrong.l3 k x1 x73 (wrap64 (x74 + 1)) xaK xaw xao)
def arboretref01_wrong.l5 : Nat → Int → Int → Int → ByteArray → List (S68) → List (S27) → Option (Int)
 | 0, _, _, _, _, _, _ => none
 | k + 1, x1, x98, x99, xaK, xaw, xao => if x99 < x98 then (if 0 ≤ x99 then (if x99 < (xao.length : Int) then ((arboretref01_wrong.f k ((rd_T27 xao x99).f0) ((rd_T27 xao x99).f1) ((rd_T27 xao x99).f2) (wrap64 (x1 + 1))).bind fun taT => (if taT = 0 then (arboretref01_wrong.l5 k x1 x98 (wrap64 (x99 + 1)) xaK xaw xao) else (some taT))) else (none)) else (none)) else (some 0)
def arboretref01_wrong.f : Nat → ByteArray → List (S68) → List (S27) → Int → Option (Int)
 | 0, _, _, _, _ => none
 | k + 1, a0_0, l0_1, l0_2, a1 => if a1 > 16 then (some 6) else (if a1 = 1 then (if a0_0.toList = ([] : List UInt8) then (if a1 > 1 then ((arboretref01_Node.f k a0_0).bind fun tbq => (arboretref01_wrong.j0 k a1 (!tbq) a0_0 l0_1 l0_2)) else (arboretref01_wrong.j0 k a1 false a0_0 l0_1 l0_2)) else (arboretref01_wrong.j0 k a1 true a0_0 l0_1 l0_2)) else (if a1 > 1 then ((arboretref01_Node.f k a0_0).bind fun tbr => (arboretref01_wrong.j0 k a1 (!tbr) a0_0 l0_1 l0_2)) else (arboretref01_wrong.j0 k a1 false a0_0 l0_1 l0_2)))
end
end Go.Proofs.YtkopmkinlanhoaaGreat.PE

namespace Go.Proofs.YtkopmkinlanhoaaGreat.PE
open Go.RowKit Go.Proofs.YtkopmkinlanhoaaGreatW.PrintWords Go.Proofs.YtkopmkinlanhoaaGreatW.PrintLast Go.Proofs.YtkopmkinlanhoaaGreatW.PrintMore
attribute [local go_sem] max2_int min2_int max_two min_two max_three min_three max_four min_four
set_option maxHeartbeats 8000000 in
set_option maxRecDepth 100000 in
theorem arboretref01_wrong.calls (k : Nat) : ∀ (a0_0 : ByteArray) (A0_1 : Option Addr) (c0_1 : Nat) (l0_1 : List (S68)) (A0_2 : Option Addr) (c0_2 : Nat) (l0_2 : List (S27)) (a1 : Int) (r : Int) (w : World) (hr0_1 : Kd.C k68 w A0_1 l0_1.length l0_1) (hc0_1 : l0_1.length ≤ c0_1) (hr0_2 : Kd.C k27 w A0_2 l0_2.length l0_2) (hc0_2 : l0_2.length ≤ c0_2) (h : arboretref01_wrong.f k a0_0 l0_1 l0_2 a1 = some r),
  Calls Tryz.prog 19 #[.agg #[.string a0_0, .slice A0_1 l0_1.length c0_1, .slice A0_2 l0_2.length c0_2], .int .i64 a1] w fun e w' => e = .returned (.int .i64 r) ∧ Below w.heap.size w w' := by
 induction k using Nat.strongRecOn with
 | _ k ih =>
 intro a0_0 A0_1 c0_1 l0_1 A0_2 c0_2 l0_2 a1 r w hr0_1 hc0_1 hr0_2 hc0_2 h
 cases k with
 | zero => exact absurd h (by simp [arboretref01_wrong.f])
 | succ k =>
 simp only [arboretref01_wrong.f] at h; have hu27 := Tryz.underlying27; have HR0_1 := AK hr0_1; have HC0_1 := AK hc0_1; clear hr0_1 hc0_1; have HR0_2 := AK hr0_2; have HC0_2 := AK hc0_2; clear hr0_2 hc0_2; have HB := Zq70; have H : (if a1 > 16 then (some 6) else (if a1 = 1 then (if a0_0.toList = ([] : List UInt8) then (if a1 > 1 then ((arboretref01_Node.f k a0_0).bind fun tbq => (arboretref01_wrong.j0 k a1 (!tbq) a0_0 l0_1 l0_2)) else (arboretref01_wrong.j0 k a1 false a0_0 l0_1 l0_2)) else (arboretref01_wrong.j0 k a1 true a0_0 l0_1 l0_2)) else (if a1 > 1 then ((arboretref01_Node.f k a0_0).bind fun tbr => (arboretref01_wrong.j0 k a1 (!tbr) a0_0 l0_1 l0_2)) else (arboretref01_wrong.j0 k a1 false a0_0 l0_1 l0_2)))) = some r := h; clear h
 by_cases c3 : a1 > 16
 ·rw [if_pos c3] at H; have c3b0 : decide (16 < a1) = true := decide_eq_true c3; clear c3; obtain rfl := Option.some.inj H; go_enter Tryz.func19, Tryz.ntmps19; go_wp2_with (first | ((with_reducible refine gate_dst (N := 2) rfl ?_); refine box_event ?hg (N := 2) ?hd (cs := #[.string a0_0, .slice A0_1 l0_1.length c0_1, .slice A0_2 l0_2.length c0_2]) (t := 27) ?hr ?_; (case hd | hg => rfl); (case hr => first | (go_simp; done) | (go_simp; rfl)); intro gbab hg w4 hbox hb; have n_ := Zn4 Zq61 (AK (hbox)) Zq67 Zq67; clear HB; obtain ⟨HB, BKab, GWab, GEab⟩ := n_; clear hb hbox hg))
  repeat (go_quiet (first | ((with_reducible refine gate_dst (N := 2) rfl ?_); refine box_event ?hg (N := 2) ?hd (cs := #[.string a0_0, .slice A0_1 l0_1.length c0_1, .slice A0_2 l0_2.length c0_2]) (t := 27) ?hr ?_; (case hd | hg => rfl); (case hr => first | (go_simp; done) | (go_simp; rfl)); intro gbab hg w4 hbox hb; have n_ := Zn4 Zq61 (AK (hbox)) Zq67 Zq67; clear HB; obtain ⟨HB, BKab, GWab, GEab⟩ := n_; clear hb hbox hg)); try go_wp2_with (first | ((with_reducible refine gate_dst (N := 2) rfl ?_); refine box_event ?hg (N := 2) ?hd (cs := #[.string a0_0, .slice A0_1 l0_1.length c0_1, .slice A0_2 l0_2.length c0_2]) (t := 27) ?hr ?_; (case hd | hg => rfl); (case hr => first | (go_simp; done) | (go_simp; rfl)); intro gbab hg w4 hbox hb; have n_ := Zn4 Zq61 (AK (hbox)) Zq67 Zq67; clear HB; obtain ⟨HB, BKab, GWab, GEab⟩ := n_; clear hb hbox hg)))
  go_ret; exact ⟨Zq11, Zq13⟩
 ·rw [if_neg c3] at H; have c3b0 : decide (16 < a1) = false := decide_eq_false c3; clear c3; have HC5 := AK H; clear H; go_enter Tryz.func19, Tryz.ntmps19
  go_upto_region 3 with (first | ((with_reducible refine gate_dst (N := 2) rfl ?_); refine box_event ?hg (N := 2) ?hd (cs := #[.string a0_0, .slice A0_1 l0_1.length c0_1, .slice A0_2 l0_2.length c0_2]) (t := 27) ?hr ?_; (case hd | hg => rfl); (case hr => first | (go_simp; done) | (go_simp; rfl)); intro gbab hg w6 hbox hb; have n_ := Zn4 Zq61 (AK (hbox)) Zq67 Zq67; clear HB; obtain ⟨HB, BKab, GWab, GEab⟩ := n_; clear hb hbox hg))
  repeat (go_quiet (first | ((with_reducible refine gate_dst (N := 2) rfl ?_); refine box_event ?hg (N := 2) ?hd (cs := #[.string a0_0, .slice A0_1 l0_1.length c0_1, .slice A0_2 l0_2.length c0_2]) (t := 27) ?hr ?_; (case hd | hg => rfl); (case hr => first | (go_simp; done) | (go_simp; rfl)); intro gbab hg w6 hbox hb; have n_ := Zn4 Zq61 (AK (hbox)) Zq67 Zq67; clear HB; obtain ⟨HB, BKab, GWab, GEab⟩ := n_; clear hb hbox hg)); go_upto_region 3 with (first | ((with_reducible refine gate_dst (N := 2) rfl ?_); refine box_event ?hg (N := 2) ?hd (cs := #[.string a0_0, .slice A0_1 l0_1.length c0_1, .slice A0_2 l0_2.length c0_2]) (t := 27) ?hr ?_; (case hd | hg => rfl); (case hr => first | (go_simp; done) | (go_simp; rfl)); intro gbab hg w6 hbox hb; have n_ := Zn4 Zq61 (AK (hbox)) Zq67 Zq67; clear HB; obtain ⟨HB, BKab, GWab, GEab⟩ := n_; clear hb hbox hg)))
  (try simp only [Act.put, List.setIfInBounds_toArray, List.set_cons_zero, List.set_cons_succ])
  go_cut [30] (fun v30 wc => ∃ (kq : Nat) (x30_4 : Bool), v30 = .bool x30_4 ∧ Aside0 (arboretref01_wrong.j0 kq a1 x30_4 a0_0 l0_1 l0_2 = some r) ∧ Aside0 (kq ≤ k) ∧ Aside0 (wc.heap[gbab]? = some (.cells #[.string a0_0, (.slice A0_1 l0_1.length c0_1), (.slice A0_2 l0_2.length c0_2)] 27 (0, 0))) ∧ Aside0 (Below w.heap.size w wc))
  case first =>
   have H := HC5.out; clear HC5
   by_cases c7 : a1 = 1
   ·rw [if_pos c7] at H; obtain ⟨c7b0, c7b1⟩ := Zc0 c7; clear c7; (first | rw [c7b0] | (simp only [i64_w, i32_w]; rw [c7b0]) | skip)
    by_cases c8 : a0_0.toList = ([] : List UInt8)
    ·rw [if_pos c8] at H; obtain ⟨c8b0, c8b1⟩ := Zc0 c8; clear c8
     by_cases c9 : a1 > 1
     ·rw [if_pos c9] at H; have c9b0 : decide (1 < a1) = true := decide_eq_true c9; clear c9; replace H := Option.bind_eq_some_iff.mp H; obtain ⟨tbq, Abu, H⟩ := H; replace H : (arboretref01_wrong.j0 k a1 (!tbq) a0_0 l0_1 l0_2) = some r := H; have A10 := AK Abu; clear Abu; have H' := AK H; clear H; obtain ⟨hcz11_0, hcz11_1, hcz11_2, hfz11_0, hfz11_1, hfz11_2⟩ := Zk3 BKab.out; go_wp2_with (first | (go_at_call 34; (with_reducible refine (arboretref01_Node.calls k a0_0 tbq _ A10.out).mono ?_); rintro e w' ⟨rfl, ⟨nd, rfl⟩⟩; (try first | exact ⟨rfl, _, World.drewN_drewN _ _ _⟩ | exact ⟨rfl, _, Eq.trans (World.drewN_drewN _ _ _) (congrArg (World.drewN _) (Nat.add_assoc _ _ _))⟩)))
      repeat (go_quiet (first | (go_at_call 34; (with_reducible refine (arboretref01_Node.calls k a0_0 tbq _ A10.out).mono ?_); rintro e w' ⟨rfl, ⟨nd, rfl⟩⟩; (try first | exact ⟨rfl, _, World.drewN_drewN _ _ _⟩ | exact ⟨rfl, _, Eq.trans (World.drewN_drewN _ _ _) (congrArg (World.drewN _) (Nat.add_assoc _ _ _))⟩))); try go_wp2_with (first | (go_at_call 34; (with_reducible refine (arboretref01_Node.calls k a0_0 tbq _ A10.out).mono ?_); rintro e w' ⟨rfl, ⟨nd, rfl⟩⟩; (try first | exact ⟨rfl, _, World.drewN_drewN _ _ _⟩ | exact ⟨rfl, _, Eq.trans (World.drewN_drewN _ _ _) (congrArg (World.drewN _) (Nat.add_assoc _ _ _))⟩))))
      go_meet
      case rel => exact ⟨_, (!tbq), Zq4, H', ⟨Zq24⟩, ⟨Zq15⟩, ⟨Zq13⟩⟩
     ·rw [if_neg c9] at H; have c9b0 : decide (1 < a1) = false := decide_eq_false c9; clear c9; have H' := AK H; clear H; obtain ⟨hcz12_0, hcz12_1, hcz12_2, hfz12_0, hfz12_1, hfz12_2⟩ := Zk3 BKab.out; go_wp2
      repeat (go_quiet (fail); try go_wp2)
      go_meet
      case rel => exact ⟨_, (false), Zq4, H', ⟨Zq24⟩, ⟨Zq15⟩, ⟨Zq13⟩⟩
    ·rw [if_neg c8] at H; obtain ⟨c8b0, c8b1⟩ := Zd0 c8; have H' := AK H; clear H; obtain ⟨hcz13_0, hcz13_1, hcz13_2, hfz13_0, hfz13_1, hfz13_2⟩ := Zk3 BKab.out; go_wp2
     repeat (go_quiet (fail); try go_wp2)
     go_meet
     case rel => exact ⟨_, (true), Zq4, H', ⟨Zq24⟩, ⟨Zq15⟩, ⟨Zq13⟩⟩
   ·rw [if_neg c7] at H; obtain ⟨c7b0, c7b1⟩ := Zd0 c7; (first | rw [c7b0] | (simp only [i64_w, i32_w]; rw [c7b0]) | skip)
    by_cases c14 : a1 > 1
    ·rw [if_pos c14] at H; have c14b0 : decide (1 < a1) = true := decide_eq_true c14; clear c14; replace H := Option.bind_eq_some_iff.mp H; obtain ⟨tbr, AbN, H⟩ := H; replace H : (arboretref01_wrong.j0 k a1 (!tbr) a0_0 l0_1 l0_2) = some r := H; have A15 := AK AbN; clear AbN; have H' := AK H; clear H; obtain ⟨hcz16_0, hcz16_1, hcz16_2, hfz16_0, hfz16_1, hfz16_2⟩ := Zk3 BKab.out; go_wp2_with (first | (go_at_call 34; (with_reducible refine (arboretref01_Node.calls k a0_0 tbr _ A15.out).mono ?_); rintro e w' ⟨rfl, ⟨nd, rfl⟩⟩; (try first | exact ⟨rfl, _, World.drewN_drewN _ _ _⟩ | exact ⟨rfl, _, Eq.trans (World.drewN_drewN _ _ _) (congrArg (World.drewN _) (Nat.add_assoc _ _ _))⟩)))
     repeat (go_quiet (first | (go_at_call 34; (with_reducible refine (arboretref01_Node.calls k a0_0 tbr _ A15.out).mono ?_); rintro e w' ⟨rfl, ⟨nd, rfl⟩⟩; (try first | exact ⟨rfl, _, World.drewN_drewN _ _ _⟩ | exact ⟨rfl, _, Eq.trans (World.drewN_drewN _ _ _) (congrArg (World.drewN _) (Nat.add_assoc _ _ _))⟩))); try go_wp2_with (first | (go_at_call 34; (with_reducible refine (arboretref01_Node.calls k a0_0 tbr _ A15.out).mono ?_); rintro e w' ⟨rfl, ⟨nd, rfl⟩⟩; (try first | exact ⟨rfl, _, World.drewN_drewN _ _ _⟩ | exact ⟨rfl, _, Eq.trans (World.drewN_drewN _ _ _) (congrArg (World.drewN _) (Nat.add_assoc _ _ _))⟩))))
     go_meet
     case rel => exact ⟨_, (!tbr), Zq4, H', ⟨Zq24⟩, ⟨Zq15⟩, ⟨Zq13⟩⟩
    ·rw [if_neg c14] at H; have c14b0 : decide (1 < a1) = false := decide_eq_false c14; clear c14; have H' := AK H; clear H; go_wp2
     repeat (go_quiet (fail); try go_wp2)
     go_meet
     case rel => exact ⟨_, (false), Zq4, H', ⟨Zq24⟩, ⟨Zq15⟩, ⟨Zq13⟩⟩
  case rest =>
   clear HC5; (try clear c3b0); (try clear c7); (try clear c7b0); (try clear c7b1); (try clear c8); (try clear c8b0); (try clear c8b1); (try clear c9b0); (try clear c14b0); (try clear hcz11_0); (try clear hcz11_1); (try clear hcz11_2); (try clear hcz12_0); (try clear hcz12_1); (try clear hcz12_2); (try clear hcz13_0); (try clear hcz13_1); (try clear hcz13_2); (try clear hcz16_0); (try clear hcz16_1); (try clear hcz16_2); (try clear hfz11_0); (try clear hfz11_1); (try clear hfz11_2); (try clear hfz12_0); (try clear hfz12_1); (try clear hfz12_2); (try clear hfz13_0); (try clear hfz13_1); (try clear hfz13_2); (try clear hfz16_0); (try clear hfz16_1); (try clear hfz16_2); obtain ⟨kq, x30_4, rfl, HA, HJ4, BKab, HB⟩ := hcut
   cases kq with
   | zero => exact absurd HA.out (by simp [arboretref01_wrong.j0])
   | succ kj4 =>
    have H := HA.out; clear HA; simp only [arboretref01_wrong.j0] at H
    by_cases c17 : x30_4 = true
    ·subst c17
     have H1 : (some 5) = some r := by rw [if_pos rfl] at H; exact H
     clear H; have H := H1; clear H1; obtain rfl := Option.some.inj H; go_wp2
     repeat (go_quiet (fail); try go_wp2)
     go_ret; exact ⟨Zq11, Zq13⟩
    ·replace c17 := Bool.eq_false_iff.mpr c17; subst c17
     have H1 : (arboretref01_wrong.l0 kj4 a1 (l0_1.length : Int) 0 a0_0 l0_1 l0_2) = some r := by rw [if_neg (show ¬ (false = true) by decide)] at H; exact H
     clear H; have H := H1; clear H1; have H' := AK H; clear H; obtain ⟨hcz18_0, hcz18_1, hcz18_2, hfz18_0, hfz18_1, hfz18_2⟩ := Zk3 BKab.out; go_wp2
     repeat (go_quiet (fail); try go_wp2)
     go_loopg [34] kj4 (fun kq v34 w' => ∃ (x34_2 : Int), v34 = .int .i64 x34_2 ∧ Aside0 (arboretref01_wrong.l0 kq a1 (l0_1.length : Int) x34_2 a0_0 l0_1 l0_2 = some r) ∧ Aside0 (kq ≤ kj4) ∧ Aside0 (w'.heap[gbab]? = some (.cells #[.string a0_0, (.slice A0_1 l0_1.length c0_1), (.slice A0_2 l0_2.length c0_2)] 27 (0, 0))) ∧ Aside0 (Below w.heap.size w w'))
     case atStart => exact ⟨(0), Zq4, H', ⟨Nat.le_refl _⟩, ⟨Zq15⟩, ⟨Zq13⟩⟩
     case round =>
      clear H'; (try clear c3b0); (try clear c7); (try clear c7b0); (try clear c7b1); (try clear c8); (try clear c8b0); (try clear c8b1); (try clear c9b0); (try clear c14b0); (try clear c17); (try clear hcz11_0); (try clear hcz11_1); (try clear hcz11_2); (try clear hcz12_0); (try clear hcz12_1); (try clear hcz12_2); (try clear hcz13_0); (try clear hcz13_1); (try clear hcz13_2); (try clear hcz16_0); (try clear hcz16_1); (try clear hcz16_2); (try clear hcz18_0); (try clear hcz18_1); (try clear hcz18_2); (try clear hfz11_0); (try clear hfz11_1); (try clear hfz11_2); (try clear hfz12_0); (try clear hfz12_1); (try clear hfz12_2); (try clear hfz13_0); (try clear hfz13_1); (try clear hfz13_2); (try clear hfz16_0); (try clear hfz16_1); (try clear hfz16_2); (try clear hfz18_0); (try clear hfz18_1); (try clear hfz18_2); obtain ⟨x34_2, rfl, HA, HK2, BKab, HB⟩ := hrel
      cases gk with
      | zero => exact absurd HA.out (by simp [arboretref01_wrong.l0])
      | succ k2 =>
       have H := HA.out; clear HA; simp only [arboretref01_wrong.l0] at H
       by_cases c19 : x34_2 < (l0_1.length : Int)
       ·rw [if_pos c19] at H; have c19b0 : decide (x34_2 < (l0_1.length : Int)) = true := decide_eq_true c19; clear c19
        by_cases c20 : 0 ≤ x34_2
        ·rw [if_pos c20] at H; have c20b0 : decide (0 ≤ x34_2) = true := decide_eq_true c20; clear c20
         by_cases c21 : x34_2 < (l0_1.length : Int)
         ·rw [if_pos c21] at H; have c21b0 : decide (x34_2 < (l0_1.length : Int)) = true := decide_eq_true c21; clear c21; replace H := Option.bind_eq_some_iff.mp H; obtain ⟨tbW, Aci, H⟩ := H; replace H : (if tbW = true then (arboretref01_wrong.l0 k2 a1 (l0_1.length : Int) (wrap64 (x34_2 + 1)) a0_0 l0_1 l0_2) else (some 5)) = some r := H; have A22 := AK Aci; clear Aci
          by_cases c23 : tbW = true
          ·subst c23
           have H1 : (arboretref01_wrong.l0 k2 a1 (l0_1.length : Int) (wrap64 (x34_2 + 1)) a0_0 l0_1 l0_2) = some r := by rw [if_pos rfl] at H; exact H
           clear H; have H := H1; clear H1; have H' := AK H; clear H; obtain ⟨hcz24_0, hcz24_1, hcz24_2, hfz24_0, hfz24_1, hfz24_2⟩ := Zk3 BKab.out; have p356 : 0 ≤ (x34_2 : Int) := of_decide_eq_true Zq5; have q356 : x34_2 < (l0_1.length : Int) := of_decide_eq_true Zq5; obtain ⟨adbs, Abs_1, cbs_1, e356, hx356_0, hx356_1, hl356_1, hi356_1⟩ := at_T68 HR0_1.out x34_2 p356 q356; cases e356; replace hx356_0 := (HB.out.cell (World.block_lt_of_cell? w _ hx356_0)).trans hx356_0; replace hx356_1 := (HB.out.cell (World.block_lt_of_cell? w _ hx356_1)).trans hx356_1; have HRbs_1 := AK hi356_1; have HCbs_1 := AK hl356_1; clear hi356_1 hl356_1; replace p356 := eq_true p356; replace q356 := eq_true q356; go_wp2_with (first | (go_at_call 35; (with_reducible refine (arboretref01_Prop.calls k2 ((rd_T68 l0_1 x34_2).f0) true _ A22.out).mono ?_); rintro e w' ⟨rfl, ⟨nd, rfl⟩⟩; (try first | exact ⟨rfl, _, World.drewN_drewN _ _ _⟩ | exact ⟨rfl, _, Eq.trans (World.drewN_drewN _ _ _) (congrArg (World.drewN _) (Nat.add_assoc _ _ _))⟩)))
           repeat (go_quiet (first | (go_at_call 35; (with_reducible refine (arboretref01_Prop.calls k2 ((rd_T68 l0_1 x34_2).f0) true _ A22.out).mono ?_); rintro e w' ⟨rfl, ⟨nd, rfl⟩⟩; (try first | exact ⟨rfl, _, World.drewN_drewN _ _ _⟩ | exact ⟨rfl, _, Eq.trans (World.drewN_drewN _ _ _) (congrArg (World.drewN _) (Nat.add_assoc _ _ _))⟩))); try go_wp2_with (first | (go_at_call 35; (with_reducible refine (arboretref01_Prop.calls k2 ((rd_T68 l0_1 x34_2).f0) true _ A22.out).mono ?_); rintro e w' ⟨rfl, ⟨nd, rfl⟩⟩; (try first | exact ⟨rfl, _, World.drewN_drewN _ _ _⟩ | exact ⟨rfl, _, Eq.trans (World.drewN_drewN _ _ _) (congrArg (World.drewN _) (Nat.add_assoc _ _ _))⟩))))
           go_roundg k2
           case measure => have := HJ4.out; have := HK2.out; omega
           case rel => exact ⟨(wrap64 (x34_2 + 1)), Zq4, H', ⟨by have := HJ4.out; have := HK2.out; omega⟩, ⟨Zq15⟩, ⟨Zq13⟩⟩
          ·replace c23 := Bool.eq_false_iff.mpr c23; subst c23
           have H1 : (some 5) = some r := by rw [if_neg (show ¬ (false = true) by decide)] at H; exact H
           clear H; have H := H1; clear H1; obtain rfl := Option.some.inj H; obtain ⟨hcz25_0, hcz25_1, hcz25_2, hfz25_0, hfz25_1, hfz25_2⟩ := Zk3 BKab.out; have p356 : 0 ≤ (x34_2 : Int) := of_decide_eq_true Zq5; have q356 : x34_2 < (l0_1.length : Int) := of_decide_eq_true Zq5; obtain ⟨adbs, Abs_1, cbs_1, e356, hx356_0, hx356_1, hl356_1, hi356_1⟩ := at_T68 HR0_1.out x34_2 p356 q356; cases e356; replace hx356_0 := (HB.out.cell (World.block_lt_of_cell? w _ hx356_0)).trans hx356_0; replace hx356_1 := (HB.out.cell (World.block_lt_of_cell? w _ hx356_1)).trans hx356_1; have HRbs_1 := AK hi356_1; have HCbs_1 := AK hl356_1; clear hi356_1 hl356_1; replace p356 := eq_true p356; replace q356 := eq_true q356; go_wp2_with (first | (go_at_call 35; (with_reducible refine (arboretref01_Prop.calls k2 ((rd_T68 l0_1 x34_2).f0) false _ A22.out).mono ?_); rintro e w' ⟨rfl, ⟨nd, rfl⟩⟩; (try first | exact ⟨rfl, _, World.drewN_drewN _ _ _⟩ | exact ⟨rfl, _, Eq.trans (World.drewN_drewN _ _ _) (congrArg (World.drewN _) (Nat.add_assoc _ _ _))⟩)))
           repeat (go_quiet (first | (go_at_call 35; (with_reducible refine (arboretref01_Prop.calls k2 ((rd_T68 l0_1 x34_2).f0) false _ A22.out).mono ?_); rintro e w' ⟨rfl, ⟨nd, rfl⟩⟩; (try first | exact ⟨rfl, _, World.drewN_drewN _ _ _⟩ | exact ⟨rfl, _, Eq.trans (World.drewN_drewN _ _ _) (congrArg (World.drewN _) (Nat.add_assoc _ _ _))⟩))); try go_wp2_with (first | (go_at_call 35; (with_reducible refine (arboretref01_Prop.calls k2 ((rd_T68 l0_1 x34_2).f0) false _ A22.out).mono ?_); rintro e w' ⟨rfl, ⟨nd, rfl⟩⟩; (try first | exact ⟨rfl, _, World.drewN_drewN _ _ _⟩ | exact ⟨rfl, _, Eq.trans (World.drewN_drewN _ _ _) (congrArg (World.drewN _) (Nat.add_assoc _ _ _))⟩))))
           go_ret; exact ⟨Zq11, Zq13⟩
         ·rw [if_neg c21] at H; exact absurd H Zq7
        ·rw [if_neg c20] at H; exact absurd H Zq7
       ·rw [if_neg c19] at H; have c19b0 : decide (x34_2 < (l0_1.length : Int)) = false := decide_eq_false c19; clear c19; have H' := AK H; clear H; obtain ⟨hcz26_0, hcz26_1, hcz26_2, hfz26_0, hfz26_1, hfz26_2⟩ := Zk3 BKab.out; go_wp2
        repeat (go_quiet (fail); try go_wp2)
        go_loopg [49] k2 (fun kq v49 w' => ∃ (x49_3 : Int), v49 = .int .i64 x49_3 ∧ Aside0 (arboretref01_wrong.l1 kq a1 (l0_1.length : Int) x49_3 a0_0 l0_1 l0_2 = some r) ∧ Aside0 (kq ≤ k2) ∧ Aside0 (w'.heap[gbab]? = some (.cells #[.string a0_0, (.slice A0_1 l0_1.length c0_1), (.slice A0_2 l0_2.length c0_2)] 27 (0, 0))) ∧ Aside0 (Below w.heap.size w w'))
        case atStart => exact ⟨(0), Zq4, H', ⟨Nat.le_refl _⟩, ⟨Zq15⟩, ⟨Zq13⟩⟩
        case round =>
         clear H'; (try clear c3b0); (try clear c7); (try clear c7b0); (try clear c7b1); (try clear c8); (try clear c8b0); (try clear c8b1); (try clear c9b0); (try clear c14b0); (try clear c17); (try clear c19b0); (try clear c20); (try clear c20b0); (try clear c21); (try clear c21b0); (try clear c23); (try clear hcz11_0); (try clear hcz11_1); (try clear hcz11_2); (try clear hcz12_0); (try clear hcz12_1); (try clear hcz12_2); (try clear hcz13_0); (try clear hcz13_1); (try clear hcz13_2); (try clear hcz16_0); (try clear hcz16_1); (try clear hcz16_2); (try clear hcz18_0); (try clear hcz18_1); (try clear hcz18_2); (try clear hcz24_0); (try clear hcz24_1); (try clear hcz24_2); (try clear hcz25_0); (try clear hcz25_1); (try clear hcz25_2); (try clear hcz26_0); (try clear hcz26_1); (try clear hcz26_2); (try clear hfz11_0); (try clear hfz11_1); (try clear hfz11_2); (try clear hfz12_0); (try clear hfz12_1); (try clear hfz12_2); (try clear hfz13_0); (try clear hfz13_1); (try clear hfz13_2); (try clear hfz16_0); (try clear hfz16_1); (try clear hfz16_2); (try clear hfz18_0); (try clear hfz18_1); (try clear hfz18_2); (try clear hfz24_0); (try clear hfz24_1); (try clear hfz24_2); (try clear hfz25_0); (try clear hfz25_1); (try clear hfz25_2); (try clear hfz26_0); (try clear hfz26_1); (try clear hfz26_2); (try clear hx356_0); (try clear hx356_1); (try clear p356); (try clear q356); obtain ⟨x49_3, rfl, HA, HK3, BKab, HB⟩ := hrel
         cases gk with
         | zero => exact absurd HA.out (by simp [arboretref01_wrong.l1])
         | succ k3 =>
          have H := HA.out; clear HA; simp only [arboretref01_wrong.l1] at H
          by_cases c27 : x49_3 < (l0_1.length : Int)
          ·rw [if_pos c27] at H; have c27b0 : decide (x49_3 < (l0_1.length : Int)) = true := decide_eq_true c27; clear c27; have H' := AK H; clear H; go_wp2
           repeat (go_quiet (fail); try go_wp2)
           go_loopg [53] k3 (fun kq v53 w' => ∃ (x53_4 : Int), v53 = .int .i64 x53_4 ∧ Aside0 (arboretref01_wrong.l2 kq a1 x49_3 (l0_1.length : Int) x49_3 x49_3 x53_4 a0_0 l0_1 l0_2 = some r) ∧ Aside0 (kq ≤ k3) ∧ Aside0 (w'.heap[gbab]? = some (.cells #[.string a0_0, (.slice A0_1 l0_1.length c0_1), (.slice A0_2 l0_2.length c0_2)] 27 (0, 0))) ∧ Aside0 (Below w.heap.size w w'))
           case atStart => exact ⟨(0), Zq4, H', ⟨Nat.le_refl _⟩, ⟨Zq15⟩, ⟨Zq13⟩⟩
           case round =>
            clear H'; (try clear c3b0); (try clear c7); (try clear c7b0); (try clear c7b1); (try clear c8); (try clear c8b0); (try clear c8b1); (try clear c9b0); (try clear c14b0); (try clear c17); (try clear c19b0); (try clear c20); (try clear c20b0); (try clear c21); (try clear c21b0); (try clear c23); (try clear c27b0); (try clear hcz11_0); (try clear hcz11_1); (try clear hcz11_2); (try clear hcz12_0); (try clear hcz12_1); (try clear hcz12_2); (try clear hcz13_0); (try clear hcz13_1); (try clear hcz13_2); (try clear hcz16_0); (try clear hcz16_1); (try clear hcz16_2); (try clear hcz18_0); (try clear hcz18_1); (try clear hcz18_2); (try clear hcz24_0); (try clear hcz24_1); (try clear hcz24_2); (try clear hcz25_0); (try clear hcz25_1); (try clear hcz25_2); (try clear hcz26_0); (try clear hcz26_1); (try clear hcz26_2); (try clear hfz11_0); (try clear hfz11_1); (try clear hfz11_2); (try clear hfz12_0); (try clear hfz12_1); (try clear hfz12_2); (try clear hfz13_0); (try clear hfz13_1); (try clear hfz13_2); (try clear hfz16_0); (try clear hfz16_1); (try clear hfz16_2); (try clear hfz18_0); (try clear hfz18_1); (try clear hfz18_2); (try clear hfz24_0); (try clear hfz24_1); (try clear hfz24_2); (try clear hfz25_0); (try clear hfz25_1); (try clear hfz25_2); (try clear hfz26_0); (try clear hfz26_1); (try clear hfz26_2); (try clear hx356_0); (try clear hx356_1); (try clear p356); (try clear q356); obtain ⟨x53_4, rfl, HA, HK4, BKab, HB⟩ := hrel
            cases gk with
            | zero => exact absurd HA.out (by simp [arboretref01_wrong.l2])
            | succ k4 =>
             have H := HA.out; clear HA; simp only [arboretref01_wrong.l2] at H
             by_cases c28 : x53_4 < x49_3
             ·rw [if_pos c28] at H; have c28b0 : decide (x53_4 < x49_3) = true := decide_eq_true c28; clear c28
              by_cases c29 : 0 ≤ x53_4
              ·rw [if_pos c29] at H; have c29b0 : decide (0 ≤ x53_4) = true := decide_eq_true c29; clear c29
               by_cases c30 : x53_4 < (l0_1.length : Int)
               ·rw [if_pos c30] at H; have c30b0 : decide (x53_4 < (l0_1.length : Int)) = true := decide_eq_true c30; clear c30
                by_cases c31 : 0 ≤ x49_3
                ·rw [if_pos c31] at H; have c31b0 : decide (0 ≤ x49_3) = true := decide_eq_true c31; clear c31
                 by_cases c32 : x49_3 < (l0_1.length : Int)
                 ·rw [if_pos c32] at H; have c32b0 : decide (x49_3 < (l0_1.length : Int)) = true := decide_eq_true c32; clear c32
                  by_cases c33 : ((rd_T68 l0_1 x53_4).f0).toList = ((rd_T68 l0_1 x49_3).f0).toList
                  ·rw [if_pos c33] at H; obtain ⟨c33b0, c33b1⟩ := Zc0 c33; clear c33; obtain rfl := Option.some.inj H; obtain ⟨hcz34_0, hcz34_1, hcz34_2, hfz34_0, hfz34_1, hfz34_2⟩ := Zk3 BKab.out; have p358 : 0 ≤ (x53_4 : Int) := of_decide_eq_true Zq5; have q358 : x53_4 < (l0_1.length : Int) := of_decide_eq_true Zq5; obtain ⟨adaX, AaX_1, caX_1, e358, hx358_0, hx358_1, hl358_1, hi358_1⟩ := at_T68 HR0_1.out x53_4 p358 q358; cases e358; replace hx358_0 := (HB.out.cell (World.block_lt_of_cell? w _ hx358_0)).trans hx358_0; replace hx358_1 := (HB.out.cell (World.block_lt_of_cell? w _ hx358_1)).trans hx358_1; have HRaX_1 := AK hi358_1; have HCaX_1 := AK hl358_1; clear hi358_1 hl358_1; replace p358 := eq_true p358; replace q358 := eq_true q358; have p359 : 0 ≤ (x49_3 : Int) := of_decide_eq_true Zq5; have q359 : x49_3 < (l0_1.length : Int) := of_decide_eq_true Zq5; obtain ⟨adaY, AaY_1, caY_1, e359, hx359_0, hx359_1, hl359_1, hi359_1⟩ := at_T68 HR0_1.out x49_3 p359 q359
                   obtain rfl : adaX = adaY := (by injection e359)
                   replace hx359_0 := (HB.out.cell (World.block_lt_of_cell? w _ hx359_0)).trans hx359_0; replace hx359_1 := (HB.out.cell (World.block_lt_of_cell? w _ hx359_1)).trans hx359_1; have HRaY_1 := AK hi359_1; have HCaY_1 := AK hl359_1; clear hi359_1 hl359_1; replace p359 := eq_true p359; replace q359 := eq_true q359; go_wp2
                   repeat (go_quiet (fail); try go_wp2)
                   go_ret; exact ⟨Zq11, Zq13⟩
                  ·rw [if_neg c33] at H; obtain ⟨c33b0, c33b1⟩ := Zd0 c33; have H' := AK H; clear H; obtain ⟨hcz35_0, hcz35_1, hcz35_2, hfz35_0, hfz35_1, hfz35_2⟩ := Zk3 BKab.out; have p358 : 0 ≤ (x53_4 : Int) := of_decide_eq_true Zq5; have q358 : x53_4 < (l0_1.length : Int) := of_decide_eq_true Zq5; obtain ⟨adaX, AaX_1, caX_1, e358, hx358_0, hx358_1, hl358_1, hi358_1⟩ := at_T68 HR0_1.out x53_4 p358 q358; cases e358; replace hx358_0 := (HB.out.cell (World.block_lt_of_cell? w _ hx358_0)).trans hx358_0; replace hx358_1 := (HB.out.cell (World.block_lt_of_cell? w _ hx358_1)).trans hx358_1; have HRaX_1 := AK hi358_1; have HCaX_1 := AK hl358_1; clear hi358_1 hl358_1; replace p358 := eq_true p358; replace q358 := eq_true q358; have p359 : 0 ≤ (x49_3 : Int) := of_decide_eq_true Zq5; have q359 : x49_3 < (l0_1.length : Int) := of_decide_eq_true Zq5; obtain ⟨adaY, AaY_1, caY_1, e359, hx359_0, hx359_1, hl359_1, hi359_1⟩ := at_T68 HR0_1.out x49_3 p359 q359
                   obtain rfl : adaX = adaY := (by injection e359)
                   replace hx359_0 := (HB.out.cell (World.block_lt_of_cell? w _ hx359_0)).trans hx359_0; replace hx359_1 := (HB.out.cell (World.block_lt_of_cell? w _ hx359_1)).trans hx359_1; have HRaY_1 := AK hi359_1; have HCaY_1 := AK hl359_1; clear hi359_1 hl359_1; replace p359 := eq_true p359; replace q359 := eq_true q359; go_wp2
                   repeat (go_quiet (fail); try go_wp2)
                   go_roundg k4
                   case measure => have := HJ4.out; have := HK2.out; have := HK3.out; have := HK4.out; omega
                   case rel => exact ⟨(wrap64 (x53_4 + 1)), Zq4, H', ⟨by have := HJ4.out; have := HK2.out; have := HK3.out; have := HK4.out; omega⟩, ⟨Zq15⟩, ⟨Zq13⟩⟩
                 ·rw [if_neg c32] at H; exact absurd H Zq7
                ·rw [if_neg c31] at H; exact absurd H Zq7
               ·rw [if_neg c30] at H; exact absurd H Zq7
              ·rw [if_neg c29] at H; exact absurd H Zq7
             ·rw [if_neg c28] at H; have c28b0 : decide (x53_4 < x49_3) = false := decide_eq_false c28; clear c28; have H' := AK H; clear H; go_wp2
              repeat (go_quiet (fail); try go_wp2)
              go_roundg k4
              case measure => have := HJ4.out; have := HK2.out; have := HK3.out; have := HK4.out; omega
              case rel => exact ⟨(wrap64 (x49_3 + 1)), Zq4, H', ⟨by have := HJ4.out; have := HK2.out; have := HK3.out; have := HK4.out; omega⟩, ⟨Zq15⟩, ⟨Zq13⟩⟩
          ·rw [if_neg c27] at H; have c27b0 : decide (x49_3 < (l0_1.length : Int)) = false := decide_eq_false c27; clear c27; have H' := AK H; clear H; obtain ⟨hcz36_0, hcz36_1, hcz36_2, hfz36_0, hfz36_1, hfz36_2⟩ := Zk3 BKab.out; go_wp2
           repeat (go_quiet (fail); try go_wp2)
           go_loopg [74] k3 (fun kq v74 w' => ∃ (x74_4 : Int), v74 = .int .i64 x74_4 ∧ Aside0 (arboretref01_wrong.l3 kq a1 (l0_2.length : Int) x74_4 a0_0 l0_1 l0_2 = some r) ∧ Aside0 (kq ≤ k3) ∧ Aside0 (w'.heap[gbab]? = some (.cells #[.string a0_0, (.slice A0_1 l0_1.length c0_1), (.slice A0_2 l0_2.length c0_2)] 27 (0, 0))) ∧ Aside0 (Below w.heap.size w w'))
           case atStart => exact ⟨(0), Zq4, H', ⟨Nat.le_refl _⟩, ⟨Zq15⟩, ⟨Zq13⟩⟩
           case round =>
            clear H'; (try clear c3b0); (try clear c7); (try clear c7b0); (try clear c7b1); (try clear c8); (try clear c8b0); (try clear c8b1); (try clear c9b0); (try clear c14b0); (try clear c17); (try clear c19b0); (try clear c20); (try clear c20b0); (try clear c21); (try clear c21b0); (try clear c23); (try clear c27b0); (try clear c28b0); (try clear c29); (try clear c29b0); (try clear c30); (try clear c30b0); (try clear c31); (try clear c31b0); (try clear c32); (try clear c32b0); (try clear c33); (try clear c33b0); (try clear c33b1); (try clear hcz11_0); (try clear hcz11_1); (try clear hcz11_2); (try clear hcz12_0); (try clear hcz12_1); (try clear hcz12_2); (try clear hcz13_0); (try clear hcz13_1); (try clear hcz13_2); (try clear hcz16_0); (try clear hcz16_1); (try clear hcz16_2); (try clear hcz18_0); (try clear hcz18_1); (try clear hcz18_2); (try clear hcz24_0); (try clear hcz24_1); (try clear hcz24_2); (try clear hcz25_0); (try clear hcz25_1); (try clear hcz25_2); (try clear hcz26_0); (try clear hcz26_1); (try clear hcz26_2); (try clear hcz34_0); (try clear hcz34_1); (try clear hcz34_2); (try clear hcz35_0); (try clear hcz35_1); (try clear hcz35_2); (try clear hcz36_0); (try clear hcz36_1); (try clear hcz36_2); (try clear hfz11_0); (try clear hfz11_1); (try clear hfz11_2); (try clear hfz12_0); (try clear hfz12_1); (try clear hfz12_2); (try clear hfz13_0); (try clear hfz13_1); (try clear hfz13_2); (try clear hfz16_0); (try clear hfz16_1); (try clear hfz16_2); (try clear hfz18_0); (try clear hfz18_1); (try clear hfz18_2); (try clear hfz24_0); (try clear hfz24_1); (try clear hfz24_2); (try clear hfz25_0); (try clear hfz25_1); (try clear hfz25_2); (try clear hfz26_0); (try clear hfz26_1); (try clear hfz26_2); (try clear hfz34_0); (try clear hfz34_1); (try clear hfz34_2); (try clear hfz35_0); (try clear hfz35_1); (try clear hfz35_2); (try clear hfz36_0); (try clear hfz36_1); (try clear hfz36_2); (try clear hx356_0); (try clear hx356_1); (try clear hx358_0); (try clear hx358_1); (try clear hx359_0); (try clear hx359_1); (try clear p356); (try clear p358); (try clear p359); (try clear q356); (try clear q358); (try clear q359); obtain ⟨x74_4, rfl, HA, HK4, BKab, HB⟩ := hrel
            cases gk with
            | zero => exact absurd HA.out (by simp [arboretref01_wrong.l3])
            | succ k4 =>
             have H := HA.out; clear HA; simp only [arboretref01_wrong.l3] at H
             by_cases c37 : x74_4 < (l0_2.length : Int)
             ·rw [if_pos c37] at H; have c37b0 : decide (x74_4 < (l0_2.length : Int)) = true := decide_eq_true c37; clear c37; have H' := AK H; clear H; go_wp2
              repeat (go_quiet (fail); try go_wp2)
              go_loopg [78] k4 (fun kq v78 w' => ∃ (x78_5 : Int), v78 = .int .i64 x78_5 ∧ Aside0 (arboretref01_wrong.l4 kq a1 x74_4 (l0_2.length : Int) x74_4 x74_4 x78_5 a0_0 l0_1 l0_2 = some r) ∧ Aside0 (kq ≤ k4) ∧ Aside0 (w'.heap[gbab]? = some (.cells #[.string a0_0, (.slice A0_1 l0_1.length c0_1), (.slice A0_2 l0_2.length c0_2)] 27 (0, 0))) ∧ Aside0 (Below w.heap.size w w'))
              case atStart => exact ⟨(0), Zq4, H', ⟨Nat.le_refl _⟩, ⟨Zq15⟩, ⟨Zq13⟩⟩
              case round =>
               clear H'; (try clear c3b0); (try clear c7); (try clear c7b0); (try clear c7b1); (try clear c8); (try clear c8b0); (try clear c8b1); (try clear c9b0); (try clear c14b0); (try clear c17); (try clear c19b0); (try clear c20); (try clear c20b0); (try clear c21); (try clear c21b0); (try clear c23); (try clear c27b0); (try clear c28b0); (try clear c29); (try clear c29b0); (try clear c30); (try clear c30b0); (try clear c31); (try clear c31b0); (try clear c32); (try clear c32b0); (try clear c33); (try clear c33b0); (try clear c33b1); (try clear c37b0); (try clear hcz11_0); (try clear hcz11_1); (try clear hcz11_2); (try clear hcz12_0); (try clear hcz12_1); (try clear hcz12_2); (try clear hcz13_0); (try clear hcz13_1); (try clear hcz13_2); (try clear hcz16_0); (try clear hcz16_1); (try clear hcz16_2); (try clear hcz18_0); (try clear hcz18_1); (try clear hcz18_2); (try clear hcz24_0); (try clear hcz24_1); (try clear hcz24_2); (try clear hcz25_0); (try clear hcz25_1); (try clear hcz25_2); (try clear hcz26_0); (try clear hcz26_1); (try clear hcz26_2); (try clear hcz34_0); (try clear hcz34_1); (try clear hcz34_2); (try clear hcz35_0); (try clear hcz35_1); (try clear hcz35_2); (try clear hcz36_0); (try clear hcz36_1); (try clear hcz36_2); (try clear hfz11_0); (try clear hfz11_1); (try clear hfz11_2); (try clear hfz12_0); (try clear hfz12_1); (try clear hfz12_2); (try clear hfz13_0); (try clear hfz13_1); (try clear hfz13_2); (try clear hfz16_0); (try clear hfz16_1); (try clear hfz16_2); (try clear hfz18_0); (try clear hfz18_1); (try clear hfz18_2); (try clear hfz24_0); (try clear hfz24_1); (try clear hfz24_2); (try clear hfz25_0); (try clear hfz25_1); (try clear hfz25_2); (try clear hfz26_0); (try clear hfz26_1); (try clear hfz26_2); (try clear hfz34_0); (try clear hfz34_1); (try clear hfz34_2); (try clear hfz35_0); (try clear hfz35_1); (try clear hfz35_2); (try clear hfz36_0); (try clear hfz36_1); (try clear hfz36_2); (try clear hx356_0); (try clear hx356_1); (try clear hx358_0); (try clear hx358_1); (try clear hx359_0); (try clear hx359_1); (try clear p356); (try clear p358); (try clear p359); (try clear q356); (try clear q358); (try clear q359); obtain ⟨x78_5, rfl, HA, HK5, BKab, HB⟩ := hrel
               cases gk with
               | zero => exact absurd HA.out (by simp [arboretref01_wrong.l4])
               | succ k5 =>
                have H := HA.out; clear HA; simp only [arboretref01_wrong.l4] at H
                by_cases c38 : x78_5 < x74_4
                ·rw [if_pos c38] at H; have c38b0 : decide (x78_5 < x74_4) = true := decide_eq_true c38; clear c38
                 by_cases c39 : 0 ≤ x78_5
                 ·rw [if_pos c39] at H; have c39b0 : decide (0 ≤ x78_5) = true := decide_eq_true c39; clear c39
                  by_cases c40 : x78_5 < (l0_2.length : Int)
                  ·rw [if_pos c40] at H; have c40b0 : decide (x78_5 < (l0_2.length : Int)) = true := decide_eq_true c40; clear c40
                   by_cases c41 : 0 ≤ x74_4
                   ·rw [if_pos c41] at H; have c41b0 : decide (0 ≤ x74_4) = true := decide_eq_true c41; clear c41
                    by_cases c42 : x74_4 < (l0_2.length : Int)
                    ·rw [if_pos c42] at H; have c42b0 : decide (x74_4 < (l0_2.length : Int)) = true := decide_eq_true c42; clear c42
                     by_cases c43 : ((rd_T27 l0_2 x78_5).f0).toList = ((rd_T27 l0_2 x74_4).f0).toList
                     ·rw [if_pos c43] at H; obtain ⟨c43b0, c43b1⟩ := Zc0 c43; clear c43; obtain rfl := Option.some.inj H; obtain ⟨hcz44_0, hcz44_1, hcz44_2, hfz44_0, hfz44_1, hfz44_2⟩ := Zk3 BKab.out; have p360 : 0 ≤ (x78_5 : Int) := of_decide_eq_true Zq5; have q360 : x78_5 < (l0_2.length : Int) := of_decide_eq_true Zq5; obtain ⟨adaH, AaH_1, caH_1, AaH_2, caH_2, e360, hx360_0, hx360_1, hx360_2, hl360_1, hi360_1, hl360_2, hi360_2⟩ := at_T27 HR0_2.out x78_5 p360 q360; cases e360; replace hx360_0 := (HB.out.cell (World.block_lt_of_cell? w _ hx360_0)).trans hx360_0; replace hx360_1 := (HB.out.cell (World.block_lt_of_cell? w _ hx360_1)).trans hx360_1; replace hx360_2 := (HB.out.cell (World.block_lt_of_cell? w _ hx360_2)).trans hx360_2; have HRaH_1 := AK hi360_1; have HCaH_1 := AK hl360_1; clear hi360_1 hl360_1; have HRaH_2 := AK hi360_2; have HCaH_2 := AK hl360_2; clear hi360_2 hl360_2; replace p360 := eq_true p360; replace q360 := eq_true q360; have p361 : 0 ≤ (x74_4 : Int) := of_decide_eq_true Zq5; have q361 : x74_4 < (l0_2.length : Int) := of_decide_eq_true Zq5; obtain ⟨adaI, AaI_1, caI_1, AaI_2, caI_2, e361, hx361_0, hx361_1, hx361_2, hl361_1, hi361_1, hl361_2, hi361_2⟩ := at_T27 HR0_2.out x74_4 p361 q361
                      obtain rfl : adaH = adaI := (by injection e361)
                      replace hx361_0 := (HB.out.cell (World.block_lt_of_cell? w _ hx361_0)).trans hx361_0; replace hx361_1 := (HB.out.cell (World.block_lt_of_cell? w _ hx361_1)).trans hx361_1; replace hx361_2 := (HB.out.cell (World.block_lt_of_cell? w _ hx361_2)).trans hx361_2; have HRaI_1 := AK hi361_1; have HCaI_1 := AK hl361_1; clear hi361_1 hl361_1; have HRaI_2 := AK hi361_2; have HCaI_2 := AK hl361_2; clear hi361_2 hl361_2; replace p361 := eq_true p361; replace q361 := eq_true q361; go_wp2
                      repeat (go_quiet (fail); try go_wp2)
                      go_ret; exact ⟨Zq11, Zq13⟩
                     ·rw [if_neg c43] at H; obtain ⟨c43b0, c43b1⟩ := Zd0 c43; have H' := AK H; clear H; obtain ⟨hcz45_0, hcz45_1, hcz45_2, hfz45_0, hfz45_1, hfz45_2⟩ := Zk3 BKab.out; have p360 : 0 ≤ (x78_5 : Int) := of_decide_eq_true Zq5; have q360 : x78_5 < (l0_2.length : Int) := of_decide_eq_true Zq5; obtain ⟨adaH, AaH_1, caH_1, AaH_2, caH_2, e360, hx360_0, hx360_1, hx360_2, hl360_1, hi360_1, hl360_2, hi360_2⟩ := at_T27 HR0_2.out x78_5 p360 q360; cases e360; replace hx360_0 := (HB.out.cell (World.block_lt_of_cell? w _ hx360_0)).trans hx360_0; replace hx360_1 := (HB.out.cell (World.block_lt_of_cell? w _ hx360_1)).trans hx360_1; replace hx360_2 := (HB.out.cell (World.block_lt_of_cell? w _ hx360_2)).trans hx360_2; have HRaH_1 := AK hi360_1; have HCaH_1 := AK hl360_1; clear hi360_1 hl360_1; have HRaH_2 := AK hi360_2; have HCaH_2 := AK hl360_2; clear hi360_2 hl360_2; replace p360 := eq_true p360; replace q360 := eq_true q360; have p361 : 0 ≤ (x74_4 : Int) := of_decide_eq_true Zq5; have q361 : x74_4 < (l0_2.length : Int) := of_decide_eq_true Zq5; obtain ⟨adaI, AaI_1, caI_1, AaI_2, caI_2, e361, hx361_0, hx361_1, hx361_2, hl361_1, hi361_1, hl361_2, hi361_2⟩ := at_T27 HR0_2.out x74_4 p361 q361
                      obtain rfl : adaH = adaI := (by injection e361)
                      replace hx361_0 := (HB.out.cell (World.block_lt_of_cell? w _ hx361_0)).trans hx361_0; replace hx361_1 := (HB.out.cell (World.block_lt_of_cell? w _ hx361_1)).trans hx361_1; replace hx361_2 := (HB.out.cell (World.block_lt_of_cell? w _ hx361_2)).trans hx361_2; have HRaI_1 := AK hi361_1; have HCaI_1 := AK hl361_1; clear hi361_1 hl361_1; have HRaI_2 := AK hi361_2; have HCaI_2 := AK hl361_2; clear hi361_2 hl361_2; replace p361 := eq_true p361; replace q361 := eq_true q361; go_wp2
                      repeat (go_quiet (fail); try go_wp2)
                      go_roundg k5
                      case measure => have := HJ4.out; have := HK2.out; have := HK3.out; have := HK4.out; have := HK5.out; omega
                      case rel => exact ⟨(wrap64 (x78_5 + 1)), Zq4, H', ⟨Zq34⟩, ⟨Zq15⟩, ⟨Zq13⟩⟩
                    ·rw [if_neg c42] at H; exact absurd H Zq7
                   ·rw [if_neg c41] at H; exact absurd H Zq7
                  ·rw [if_neg c40] at H; exact absurd H Zq7
                 ·rw [if_neg c39] at H; exact absurd H Zq7
                ·rw [if_neg c38] at H; have c38b0 : decide (x78_5 < x74_4) = false := decide_eq_false c38; clear c38; have H' := AK H; clear H; go_wp2
                 repeat (go_quiet (fail); try go_wp2)
                 go_roundg k5
                 case measure => have := HJ4.out; have := HK2.out; have := HK3.out; have := HK4.out; have := HK5.out; omega
                 case rel => exact ⟨(wrap64 (x74_4 + 1)), Zq4, H', ⟨Zq34⟩, ⟨Zq15⟩, ⟨Zq13⟩⟩
             ·rw [if_neg c37] at H; have c37b0 : decide (x74_4 < (l0_2.length : Int)) = false := decide_eq_false c37; clear c37; have H' := AK H; clear H; obtain ⟨hcz46_0, hcz46_1, hcz46_2, hfz46_0, hfz46_1, hfz46_2⟩ := Zk3 BKab.out; go_wp2
              repeat (go_quiet (fail); try go_wp2)
              go_loopg [99] k4 (fun kq v99 w' => ∃ (x99_5 : Int), v99 = .int .i64 x99_5 ∧ Aside0 (arboretref01_wrong.l5 kq a1 (l0_2.length : Int) x99_5 a0_0 l0_1 l0_2 = some r) ∧ Aside0 (kq ≤ k4) ∧ Aside0 (w'.heap[gbab]? = some (.cells #[.string a0_0, (.slice A0_1 l0_1.length c0_1), (.slice A0_2 l0_2.length c0_2)] 27 (0, 0))) ∧ Aside0 (Below w.heap.size w w'))
              case atStart => exact ⟨(0), Zq4, H', ⟨Nat.le_refl _⟩, ⟨Zq15⟩, ⟨Zq13⟩⟩
              case round =>
               clear H'; (try clear c3b0); (try clear c7); (try clear c7b0); (try clear c7b1); (try clear c8); (try clear c8b0); (try clear c8b1); (try clear c9b0); (try clear c14b0); (try clear c17); (try clear c19b0); (try clear c20); (try clear c20b0); (try clear c21); (try clear c21b0); (try clear c23); (try clear c27b0); (try clear c28b0); (try clear c29); (try clear c29b0); (try clear c30); (try clear c30b0); (try clear c31); (try clear c31b0); (try clear c32); (try clear c32b0); (try clear c33); (try clear c33b0); (try clear c33b1); (try clear c37b0); (try clear c38b0); (try clear c39); (try clear c39b0); (try clear c40); (try clear c40b0); (try clear c41); (try clear c41b0); (try clear c42); (try clear c42b0); (try clear c43); (try clear c43b0); (try clear c43b1); (try clear hcz11_0); (try clear hcz11_1); (try clear hcz11_2); (try clear hcz12_0); (try clear hcz12_1); (try clear hcz12_2); (try clear hcz13_0); (try clear hcz13_1); (try clear hcz13_2); (try clear hcz16_0); (try clear hcz16_1); (try clear hcz16_2); (try clear hcz18_0); (try clear hcz18_1); (try clear hcz18_2); (try clear hcz24_0); (try clear hcz24_1); (try clear hcz24_2); (try clear hcz25_0); (try clear hcz25_1); (try clear hcz25_2); (try clear hcz26_0); (try clear hcz26_1); (try clear hcz26_2); (try clear hcz34_0); (try clear hcz34_1); (try clear hcz34_2); (try clear hcz35_0); (try clear hcz35_1); (try clear hcz35_2); (try clear hcz36_0); (try clear hcz36_1); (try clear hcz36_2); (try clear hcz44_0); (try clear hcz44_1); (try clear hcz44_2); (try clear hcz45_0); (try clear hcz45_1); (try clear hcz45_2); (try clear hcz46_0); (try clear hcz46_1); (try clear hcz46_2); (try clear hfz11_0); (try clear hfz11_1); (try clear hfz11_2); (try clear hfz12_0); (try clear hfz12_1); (try clear hfz12_2); (try clear hfz13_0); (try clear hfz13_1); (try clear hfz13_2); (try clear hfz16_0); (try clear hfz16_1); (try clear hfz16_2); (try clear hfz18_0); (try clear hfz18_1); (try clear hfz18_2); (try clear hfz24_0); (try clear hfz24_1); (try clear hfz24_2); (try clear hfz25_0); (try clear hfz25_1); (try clear hfz25_2); (try clear hfz26_0); (try clear hfz26_1); (try clear hfz26_2); (try clear hfz34_0); (try clear hfz34_1); (try clear hfz34_2); (try clear hfz35_0); (try clear hfz35_1); (try clear hfz35_2); (try clear hfz36_0); (try clear hfz36_1); (try clear hfz36_2); (try clear hfz44_0); (try clear hfz44_1); (try clear hfz44_2); (try clear hfz45_0); (try clear hfz45_1); (try clear hfz45_2); (try clear hfz46_0); (try clear hfz46_1); (try clear hfz46_2); (try clear hx356_0); (try clear hx356_1); (try clear hx358_0); (try clear hx358_1); (try clear hx359_0); (try clear hx359_1); (try clear hx360_0); (try clear hx360_1); (try clear hx360_2); (try clear hx361_0); (try clear hx361_1); (try clear hx361_2); (try clear p356); (try clear p358); (try clear p359); (try clear p360); (try clear p361); (try clear q356); (try clear q358); (try clear q359); (try clear q360); (try clear q361); obtain ⟨x99_5, rfl, HA, HK5, BKab, HB⟩ := hrel
               cases gk with
               | zero => exact absurd HA.out (by simp [arboretref01_wrong.l5])
               | succ k5 =>
                have H := HA.out; clear HA; simp only [arboretref01_wrong.l5] at H
                by_cases c47 : x99_5 < (l0_2.length : Int)
                ·rw [if_pos c47] at H; have c47b0 : decide (x99_5 < (l0_2.length : Int)) = true := decide_eq_true c47; clear c47
                 by_cases c48 : 0 ≤ x99_5
                 ·rw [if_pos c48] at H; have c48b0 : decide (0 ≤ x99_5) = true := decide_eq_true c48; clear c48
                  by_cases c49 : x99_5 < (l0_2.length : Int)
                  ·rw [if_pos c49] at H; have c49b0 : decide (x99_5 < (l0_2.length : Int)) = true := decide_eq_true c49; clear c49; replace H := Option.bind_eq_some_iff.mp H; obtain ⟨taT, Acj, H⟩ := H; replace H : (if taT = 0 then (arboretref01_wrong.l5 k5 a1 (l0_2.length : Int) (wrap64 (x99_5 + 1)) a0_0 l0_1 l0_2) else (some taT)) = some r := H; have A50 := AK Acj; clear Acj
                   by_cases c51 : taT = 0
                   ·rw [if_pos c51] at H; obtain ⟨c51b0, c51b1⟩ := Zc0 c51; clear c51; have H' := AK H; clear H; obtain ⟨hcz52_0, hcz52_1, hcz52_2, hfz52_0, hfz52_1, hfz52_2⟩ := Zk3 BKab.out; have p362 : 0 ≤ (x99_5 : Int) := of_decide_eq_true Zq5; have q362 : x99_5 < (l0_2.length : Int) := of_decide_eq_true Zq5; obtain ⟨adak, Aak_1, cak_1, Aak_2, cak_2, e362, hx362_0, hx362_1, hx362_2, hl362_1, hi362_1, hl362_2, hi362_2⟩ := at_T27 HR0_2.out x99_5 p362 q362; cases e362; replace hx362_0 := (HB.out.cell (World.block_lt_of_cell? w _ hx362_0)).trans hx362_0; replace hx362_1 := (HB.out.cell (World.block_lt_of_cell? w _ hx362_1)).trans hx362_1; replace hx362_2 := (HB.out.cell (World.block_lt_of_cell? w _ hx362_2)).trans hx362_2; have HRak_1 := AK hi362_1; have HCak_1 := AK hl362_1; clear hi362_1 hl362_1; have HRak_2 := AK hi362_2; have HCak_2 := AK hl362_2; clear hi362_2 hl362_2; replace p362 := eq_true p362; replace q362 := eq_true q362; go_wp2_with (first | (go_at_call 19; (with_reducible refine (ih k5 Zq34 ((rd_T27 l0_2 x99_5).f0) _ _ ((rd_T27 l0_2 x99_5).f1) _ _ ((rd_T27 l0_2 x99_5).f2) (wrap64 (a1 + 1)) taT _ ?side1 ?side2 ?side3 ?side4 A50.out).mono ?_); (case side1 => repeat (first | exact Zq107 | (with_reducible refine Kd.C_alloc ?_ _) | (with_reducible refine Kd.C_drewN ?_ _) | (with_reducible refine Kd.C_drew ?_))); (case side2 => exact HCak_1.out); (case side3 => repeat (first | exact Zq108 | (with_reducible refine Kd.C_alloc ?_ _) | (with_reducible refine Kd.C_drewN ?_ _) | (with_reducible refine Kd.C_drew ?_))); (case side4 => exact HCak_2.out); rintro e w53 ⟨rfl, hb⟩; have n_ := Zn2 Zq69 Zq109; clear BKab HB; obtain ⟨BKab, HB⟩ := n_; (try clear hb)))
                    repeat (go_quiet (first | (go_at_call 19; (with_reducible refine (ih k5 Zq34 ((rd_T27 l0_2 x99_5).f0) _ _ ((rd_T27 l0_2 x99_5).f1) _ _ ((rd_T27 l0_2 x99_5).f2) (wrap64 (a1 + 1)) taT _ ?side1 ?side2 ?side3 ?side4 A50.out).mono ?_); (case side1 => repeat (first | exact Zq107 | (with_reducible refine Kd.C_alloc ?_ _) | (with_reducible refine Kd.C_drewN ?_ _) | (with_reducible refine Kd.C_drew ?_))); (case side2 => exact HCak_1.out); (case side3 => repeat (first | exact Zq108 | (with_reducible refine Kd.C_alloc ?_ _) | (with_reducible refine Kd.C_drewN ?_ _) | (with_reducible refine Kd.C_drew ?_))); (case side4 => exact HCak_2.out); rintro e w53 ⟨rfl, hb⟩; have n_ := Zn2 Zq69 Zq109; clear BKab HB; obtain ⟨BKab, HB⟩ := n_; (try clear hb))); try go_wp2_with (first | (go_at_call 19; (with_reducible refine (ih k5 Zq34 ((rd_T27 l0_2 x99_5).f0) _ _ ((rd_T27 l0_2 x99_5).f1) _ _ ((rd_T27 l0_2 x99_5).f2) (wrap64 (a1 + 1)) taT _ ?side1 ?side2 ?side3 ?side4 A50.out).mono ?_); (case side1 => repeat (first | exact Zq107 | (with_reducible refine Kd.C_alloc ?_ _) | (with_reducible refine Kd.C_drewN ?_ _) | (with_reducible refine Kd.C_drew ?_))); (case side2 => exact HCak_1.out); (case side3 => repeat (first | exact Zq108 | (with_reducible refine Kd.C_alloc ?_ _) | (with_reducible refine Kd.C_drewN ?_ _) | (with_reducible refine Kd.C_drew ?_))); (case side4 => exact HCak_2.out); rintro e w53 ⟨rfl, hb⟩; have n_ := Zn2 Zq69 Zq109; clear BKab HB; obtain ⟨BKab, HB⟩ := n_; (try clear hb))))
                    go_roundg k5
                    case measure => have := HJ4.out; have := HK2.out; have := HK3.out; have := HK4.out; have := HK5.out; omega
                    case rel => exact ⟨(wrap64 (x99_5 + 1)), Zq4, H', ⟨Zq34⟩, ⟨Zq15⟩, ⟨Zq13⟩⟩
                   ·rw [if_neg c51] at H; obtain ⟨c51b0, c51b1⟩ := Zd0 c51; obtain rfl := Option.some.inj H; obtain ⟨hcz54_0, hcz54_1, hcz54_2, hfz54_0, hfz54_1, hfz54_2⟩ := Zk3 BKab.out; have p362 : 0 ≤ (x99_5 : Int) := of_decide_eq_true Zq5; have q362 : x99_5 < (l0_2.length : Int) := of_decide_eq_true Zq5; obtain ⟨adak, Aak_1, cak_1, Aak_2, cak_2, e362, hx362_0, hx362_1, hx362_2, hl362_1, hi362_1, hl362_2, hi362_2⟩ := at_T27 HR0_2.out x99_5 p362 q362; cases e362; replace hx362_0 := (HB.out.cell (World.block_lt_of_cell? w _ hx362_0)).trans hx362_0; replace hx362_1 := (HB.out.cell (World.block_lt_of_cell? w _ hx362_1)).trans hx362_1; replace hx362_2 := (HB.out.cell (World.block_lt_of_cell? w _ hx362_2)).trans hx362_2; have HRak_1 := AK hi362_1; have HCak_1 := AK hl362_1; clear hi362_1 hl362_1; have HRak_2 := AK hi362_2; have HCak_2 := AK hl362_2; clear hi362_2 hl362_2; replace p362 := eq_true p362; replace q362 := eq_true q362; go_wp2_with (first | (go_at_call 19; (with_reducible refine (ih k5 Zq34 ((rd_T27 l0_2 x99_5).f0) _ _ ((rd_T27 l0_2 x99_5).f1) _ _ ((rd_T27 l0_2 x99_5).f2) (wrap64 (a1 + 1)) taT _ ?side1 ?side2 ?side3 ?side4 A50.out).mono ?_); (case side1 => repeat (first | exact Zq107 | (with_reducible refine Kd.C_alloc ?_ _) | (with_reducible refine Kd.C_drewN ?_ _) | (with_reducible refine Kd.C_drew ?_))); (case side2 => exact HCak_1.out); (case side3 => repeat (first | exact Zq108 | (with_reducible refine Kd.C_alloc ?_ _) | (with_reducible refine Kd.C_drewN ?_ _) | (with_reducible refine Kd.C_drew ?_))); (case side4 => exact HCak_2.out); rintro e w55 ⟨rfl, hb⟩; have n_ := Zn2 Zq69 Zq109; clear BKab HB; obtain ⟨BKab, HB⟩ := n_; (try clear hb)))
                    repeat (go_quiet (first | (go_at_call 19; (with_reducible refine (ih k5 Zq34 ((rd_T27 l0_2 x99_5).f0) _ _ ((rd_T27 l0_2 x99_5).f1) _ _ ((rd_T27 l0_2 x99_5).f2) (wrap64 (a1 + 1)) taT _ ?side1 ?side2 ?side3 ?side4 A50.out).mono ?_); (case side1 => repeat (first | exact Zq107 | (with_reducible refine Kd.C_alloc ?_ _) | (with_reducible refine Kd.C_drewN ?_ _) | (with_reducible refine Kd.C_drew ?_))); (case side2 => exact HCak_1.out); (case side3 => repeat (first | exact Zq108 | (with_reducible refine Kd.C_alloc ?_ _) | (with_reducible refine Kd.C_drewN ?_ _) | (with_reducible refine Kd.C_drew ?_))); (case side4 => exact HCak_2.out); rintro e w55 ⟨rfl, hb⟩; have n_ := Zn2 Zq69 Zq109; clear BKab HB; obtain ⟨BKab, HB⟩ := n_; (try clear hb))); try go_wp2_with (first | (go_at_call 19; (with_reducible refine (ih k5 Zq34 ((rd_T27 l0_2 x99_5).f0) _ _ ((rd_T27 l0_2 x99_5).f1) _ _ ((rd_T27 l0_2 x99_5).f2) (wrap64 (a1 + 1)) taT _ ?side1 ?side2 ?side3 ?side4 A50.out).mono ?_); (case side1 => repeat (first | exact Zq107 | (with_reducible refine Kd.C_alloc ?_ _) | (with_reducible refine Kd.C_drewN ?_ _) | (with_reducible refine Kd.C_drew ?_))); (case side2 => exact HCak_1.out); (case side3 => repeat (first | exact Zq108 | (with_reducible refine Kd.C_alloc ?_ _) | (with_reducible refine Kd.C_drewN ?_ _) | (with_reducible refine Kd.C_drew ?_))); (case side4 => exact HCak_2.out); rintro e w55 ⟨rfl, hb⟩; have n_ := Zn2 Zq69 Zq109; clear BKab HB; obtain ⟨BKab, HB⟩ := n_; (try clear hb))))
                    go_ret; exact ⟨Zq11, Zq13⟩
                  ·rw [if_neg c49] at H; exact absurd H Zq7
                 ·rw [if_neg c48] at H; exact absurd H Zq7
                ·rw [if_neg c47] at H; have c47b0 : decide (x99_5 < (l0_2.length : Int)) = false := decide_eq_false c47; clear c47; obtain rfl := Option.some.inj H; go_wp2
                 repeat (go_quiet (fail); try go_wp2)
                 go_ret; exact ⟨Zq11, Zq13⟩
mutual
def arboretref01_Count.l0 : Nat → Int → Int → Int → Int → ByteArray → List (S68) → List (S27) → Option (Int × Int)
 | 0, _, _, _, _, _, _, _ => none
 | k + 1, x4, x5, x14, x15, xcw, xcx, xbP => if x15 < x14 then (if 0 ≤ x15 then (if x15 < (xbP.length : Int) then ((arboretref01_Count.f k ((rd_T27 xbP x15).f0) ((rd_T27 xbP x15).f1) ((rd_T27 xbP x15).f2)).bind fun btbv => (arboretref01_Count.l0 k (wrap64 (x4 + btbv.1)) (wrap64 (x5 + btbv.2)) x14 (wrap64 (x15 + 1)) xcw xcx xbP)) else (none)) else (none)) else (some (x4, x5))
def arboretref01_Count.f : Nat → ByteArray → List (S68) → List (S27) → Option (Int × Int)
 | 0, _, _, _ => none
 | k + 1, a0_0, l0_1, l0_2 => arboretref01_Count.l0 k 1 (l0_1.length : Int) (l0_2.length : Int) 0 a0_0 l0_1 l0_2
end
end Go.Proofs.YtkopmkinlanhoaaGreat.PE

namespace Go.Proofs.YtkopmkinlanhoaaGreat.PE
open Go.RowKit Go.Proofs.YtkopmkinlanhoaaGreatW.PrintWords Go.Proofs.YtkopmkinlanhoaaGreatW.PrintLast Go.Proofs.YtkopmkinlanhoaaGreatW.PrintMore
attribute [local go_sem] max2_int min2_int max_two min_two max_three min_three max_four min_four
set_option maxHeartbeats 8000000 in
set_option maxRecDepth 100000 in
theorem arboretref01_Count.calls (k : Nat) : ∀ (a0_0 : ByteArray) (A0_1 : Option Addr) (c0_1 : Nat) (l0_1 : List (S68)) (A0_2 : Option Addr) (c0_2 : Nat) (l0_2 : List (S27)) (r1 : Int) (r2 : Int) (w : World) (hr0_1 : Kd.C k68 w A0_1 l0_1.length l0_1) (hc0_1 : l0_1.length ≤ c0_1) (hr0_2 : Kd.C k27 w A0_2 l0_2.length l0_2) (hc0_2 : l0_2.length ≤ c0_2) (h : arboretref01_Count.f k a0_0 l0_1 l0_2 = some (r1, r2)),
  Calls Tryz.prog 20 #[.agg #[.string a0_0, .slice A0_1 l0_1.length c0_1, .slice A0_2 l0_2.length c0_2]] w fun e w' => e = .returned (.tuple #[.int .i64 r1, .int .i64 r2]) ∧ Below w.heap.size w w' := by
 induction k using Nat.strongRecOn with
 | _ k ih =>
 intro a0_0 A0_1 c0_1 l0_1 A0_2 c0_2 l0_2 r1 r2 w hr0_1 hc0_1 hr0_2 hc0_2 h
 cases k with
 | zero => exact absurd h (by simp [arboretref01_Count.f])
 | succ k =>
 simp only [arboretref01_Count.f] at h; have hu27 := Tryz.underlying27; have HR0_1 := AK hr0_1; have HC0_1 := AK hc0_1; clear hr0_1 hc0_1; have HR0_2 := AK hr0_2; have HC0_2 := AK hc0_2; clear hr0_2 hc0_2; have HB := Zq70; have H : (arboretref01_Count.l0 k 1 (l0_1.length : Int) (l0_2.length : Int) 0 a0_0 l0_1 l0_2) = some (r1, r2) := h; clear h; have H' := AK H; clear H; go_enter Tryz.func20, Tryz.ntmps20; go_wp2_with (first | ((with_reducible refine gate_dst (N := 1) rfl ?_); refine box_event ?hg (N := 1) ?hd (cs := #[.string a0_0, .slice A0_1 l0_1.length c0_1, .slice A0_2 l0_2.length c0_2]) (t := 27) ?hr ?_; (case hd | hg => rfl); (case hr => first | (go_simp; done) | (go_simp; rfl)); intro gbaq hg w2 hbox hb; have n_ := Zn4 Zq61 (AK (hbox)) Zq84 Zq84; clear HB; obtain ⟨HB, BKaq, GWaq, GEaq⟩ := n_; clear hb hbox hg; obtain ⟨hcz3_0, hcz3_1, hcz3_2, hfz3_0, hfz3_1, hfz3_2⟩ := Zk3 BKaq.out))
 repeat (go_quiet (first | ((with_reducible refine gate_dst (N := 1) rfl ?_); refine box_event ?hg (N := 1) ?hd (cs := #[.string a0_0, .slice A0_1 l0_1.length c0_1, .slice A0_2 l0_2.length c0_2]) (t := 27) ?hr ?_; (case hd | hg => rfl); (case hr => first | (go_simp; done) | (go_simp; rfl)); intro gbaq hg w2 hbox hb; have n_ := Zn4 Zq61 (AK (hbox)) Zq84 Zq84; clear HB; obtain ⟨HB, BKaq, GWaq, GEaq⟩ := n_; clear hb hbox hg; obtain ⟨hcz3_0, hcz3_1, hcz3_2, hfz3_0, hfz3_1, hfz3_2⟩ := Zk3 BKaq.out)); try go_wp2_with (first | ((with_reducible refine gate_dst (N := 1) rfl ?_); refine box_event ?hg (N := 1) ?hd (cs := #[.string a0_0, .slice A0_1 l0_1.length c0_1, .slice A0_2 l0_2.length c0_2]) (t := 27) ?hr ?_; (case hd | hg => rfl); (case hr => first | (go_simp; done) | (go_simp; rfl)); intro gbaq hg w2 hbox hb; have n_ := Zn4 Zq61 (AK (hbox)) Zq84 Zq84; clear HB; obtain ⟨HB, BKaq, GWaq, GEaq⟩ := n_; clear hb hbox hg; obtain ⟨hcz3_0, hcz3_1, hcz3_2, hfz3_0, hfz3_1, hfz3_2⟩ := Zk3 BKaq.out)))
 go_loopg [4, 5, 15] k (fun kq v4 v5 v15 w' => ∃ (x4_1 : Int) (x5_1 : Int) (x15_1 : Int), v4 = .int .i64 x4_1 ∧ v5 = .int .i64 x5_1 ∧ v15 = .int .i64 x15_1 ∧ Aside0 (arboretref01_Count.l0 kq x4_1 x5_1 (l0_2.length : Int) x15_1 a0_0 l0_1 l0_2 = some (r1, r2)) ∧ Aside0 (kq ≤ k) ∧ Aside0 (w'.heap[gbaq]? = some (.cells #[.string a0_0, (.slice A0_1 l0_1.length c0_1), (.slice A0_2 l0_2.length c0_2)] 27 (0, 0))) ∧ Aside0 (Below w.heap.size w w'))
 case atStart => exact ⟨(1), ((l0_1.length : Int)), (0), Zq4, Zq4, Zq4, H', ⟨Nat.le_refl _⟩, ⟨Zq47⟩, ⟨Zq42⟩⟩
 case round =>
  clear H'; (try clear hcz3_0); (try clear hcz3_1); (try clear hcz3_2); (try clear hfz3_0); (try clear hfz3_1); (try clear hfz3_2); obtain ⟨x4_1, x5_1, x15_1, rfl, rfl, rfl, HA, HK1, BKaq, HB⟩ := hrel
  cases gk with
  | zero => exact absurd HA.out (by simp [arboretref01_Count.l0])
  | succ k1 =>
   have H := HA.out; clear HA; simp only [arboretref01_Count.l0] at H
   by_cases c4 : x15_1 < (l0_2.length : Int)
   ·rw [if_pos c4] at H; have c4b0 : decide (x15_1 < (l0_2.length : Int)) = true := decide_eq_true c4; clear c4
    by_cases c5 : 0 ≤ x15_1
    ·rw [if_pos c5] at H; have c5b0 : decide (0 ≤ x15_1) = true := decide_eq_true c5; clear c5
     by_cases c6 : x15_1 < (l0_2.length : Int)
     ·rw [if_pos c6] at H; have c6b0 : decide (x15_1 < (l0_2.length : Int)) = true := decide_eq_true c6; clear c6; replace H := Option.bind_eq_some_iff.mp H; obtain ⟨⟨tbv, tbQ⟩, A70, H⟩ := H; replace H : (arboretref01_Count.l0 k1 (wrap64 (x4_1 + tbv)) (wrap64 (x5_1 + tbQ)) (l0_2.length : Int) (wrap64 (x15_1 + 1)) a0_0 l0_1 l0_2) = some (r1, r2) := H; have A7 := AK A70; clear A70; have H' := AK H; clear H; obtain ⟨hcz8_0, hcz8_1, hcz8_2, hfz8_0, hfz8_1, hfz8_2⟩ := Zk3 BKaq.out; have p365 : 0 ≤ (x15_1 : Int) := of_decide_eq_true Zq5; have q365 : x15_1 < (l0_2.length : Int) := of_decide_eq_true Zq5; obtain ⟨adaC, AaC_1, caC_1, AaC_2, caC_2, e365, hx365_0, hx365_1, hx365_2, hl365_1, hi365_1, hl365_2, hi365_2⟩ := at_T27 HR0_2.out x15_1 p365 q365; cases e365; replace hx365_0 := (HB.out.cell (World.block_lt_of_cell? w _ hx365_0)).trans hx365_0; replace hx365_1 := (HB.out.cell (World.block_lt_of_cell? w _ hx365_1)).trans hx365_1; replace hx365_2 := (HB.out.cell (World.block_lt_of_cell? w _ hx365_2)).trans hx365_2; have HRaC_1 := AK hi365_1; have HCaC_1 := AK hl365_1; clear hi365_1 hl365_1; have HRaC_2 := AK hi365_2; have HCaC_2 := AK hl365_2; clear hi365_2 hl365_2; replace p365 := eq_true p365; replace q365 := eq_true q365; go_wp2_with (first | (go_at_call 20; (with_reducible refine (ih k1 Zq14 ((rd_T27 l0_2 x15_1).f0) _ _ ((rd_T27 l0_2 x15_1).f1) _ _ ((rd_T27 l0_2 x15_1).f2) tbv tbQ _ ?side1 ?side2 ?side3 ?side4 A7.out).mono ?_); (case side1 => repeat (first | exact (Kd.C_below HRaC_1.out HB.out) | (with_reducible refine Kd.C_alloc ?_ _) | (with_reducible refine Kd.C_drewN ?_ _) | (with_reducible refine Kd.C_drew ?_))); (case side2 => exact HCaC_1.out); (case side3 => repeat (first | exact (Kd.C_below HRaC_2.out HB.out) | (with_reducible refine Kd.C_alloc ?_ _) | (with_reducible refine Kd.C_drewN ?_ _) | (with_reducible refine Kd.C_drew ?_))); (case side4 => exact HCaC_2.out); rintro e w9 ⟨rfl, hb⟩; have n_ := Zn2 Zq91 (AK (below_step Zq42 hb)); clear BKaq HB; obtain ⟨BKaq, HB⟩ := n_; (try clear hb)))
      repeat (go_quiet (first | (go_at_call 20; (with_reducible refine (ih k1 Zq14 ((rd_T27 l0_2 x15_1).f0) _ _ ((rd_T27 l0_2 x15_1).f1) _ _ ((rd_T27 l0_2 x15_1).f2) tbv tbQ _ ?side1 ?side2 ?side3 ?side4 A7.out).mono ?_); (case side1 => repeat (first | exact (Kd.C_below HRaC_1.out HB.out) | (with_reducible refine Kd.C_alloc ?_ _) | (with_reducible refine Kd.C_drewN ?_ _) | (with_reducible refine Kd.C_drew ?_))); (case side2 => exact HCaC_1.out); (case side3 => repeat (first | exact (Kd.C_below HRaC_2.out HB.out) | (with_reducible refine Kd.C_alloc ?_ _) | (with_reducible refine Kd.C_drewN ?_ _) | (with_reducible refine Kd.C_drew ?_))); (case side4 => exact HCaC_2.out); rintro e w9 ⟨rfl, hb⟩; have n_ := Zn2 Zq91 (AK (below_step Zq42 hb)); clear BKaq HB; obtain ⟨BKaq, HB⟩ := n_; (try clear hb))); try go_wp2_with (first | (go_at_call 20; (with_reducible refine (ih k1 Zq14 ((rd_T27 l0_2 x15_1).f0) _ _ ((rd_T27 l0_2 x15_1).f1) _ _ ((rd_T27 l0_2 x15_1).f2) tbv tbQ _ ?side1 ?side2 ?side3 ?side4 A7.out).mono ?_); (case side1 => repeat (first | exact (Kd.C_below HRaC_1.out HB.out) | (with_reducible refine Kd.C_alloc ?_ _) | (with_reducible refine Kd.C_drewN ?_ _) | (with_reducible refine Kd.C_drew ?_))); (case side2 => exact HCaC_1.out); (case side3 => repeat (first | exact (Kd.C_below HRaC_2.out HB.out) | (with_reducible refine Kd.C_alloc ?_ _) | (with_reducible refine Kd.C_drewN ?_ _) | (with_reducible refine Kd.C_drew ?_))); (case side4 => exact HCaC_2.out); rintro e w9 ⟨rfl, hb⟩; have n_ := Zn2 Zq91 (AK (below_step Zq42 hb)); clear BKaq HB; obtain ⟨BKaq, HB⟩ := n_; (try clear hb))))
      go_roundg k1
      case measure => have := HK1.out; omega
      case rel => exact ⟨(wrap64 (x4_1 + tbv)), (wrap64 (x5_1 + tbQ)), (wrap64 (x15_1 + 1)), Zq4, Zq4, Zq4, H', ⟨Zq14⟩, ⟨Zq47⟩, ⟨Zq42⟩⟩
     ·rw [if_neg c6] at H; exact absurd H Zq7
    ·rw [if_neg c5] at H; exact absurd H Zq7
   ·rw [if_neg c4] at H; have c4b0 : decide (x15_1 < (l0_2.length : Int)) = false := decide_eq_false c4; clear c4; simp only [Option.some.injEq, Prod.mk.injEq] at H; obtain ⟨rfl, rfl⟩ := H; go_wp2
    repeat (go_quiet (fail); try go_wp2)
    go_ret2
    exact ⟨Zq11, Zq42⟩
mutual
def arboretref01_Check.j0 : Nat → Bool → Int → List (S51) → ByteArray → List (S68) → List (S27) → Option (Int)
 | 0, _, _, _, _, _, _ => none
 | k + 1, x30, xbX, xbw, xbY, xbZ, xca => if x30 = true then (some 7) else (arboretref01_Check.l0 k (xbw.length : Int) 0 xbX xbw xbY xbZ xca)
def arboretref01_Check.l0 : Nat → Int → Int → Int → List (S51) → ByteArray → List (S68) → List (S27) → Option (Int)
 | 0, _, _, _, _, _, _, _ => none
 | k + 1, x33, x34, xbX, xbw, xbY, xbZ, xca => if x34 < x33 then (if 0 ≤ x34 then (if x34 < (xbw.length : Int) then (if ((rd_T51 xbw x34).f0) = 0 then (if ((rd_T51 xbw x34).f1) = 0 then (some 7) else (arboretref01_Check.l0 k x33 (wrap64 (x34 + 1)) xbX xbw xbY xbZ xca)) else (arboretref01_Check.l0 k x33 (wrap64 (x34 + 1)) xbX xbw xbY xbZ xca)) else (none)) else (none)) else (some 0)
end
def arboretref01_Check.f (k : Nat) (a0_0 : Int) (l0_1 : List (S51)) (a0_2 : ByteArray) (l0_3 : List (S68)) (l0_4 : List (S27)) : Option (Int) := (arboretref01_wrong.f k a0_2 l0_3 l0_4 1).bind fun taZ => (if taZ = 0 then ((arboretref01_Count.f k a0_2 l0_3 l0_4).bind fun btaR => (if btaR.1 > 4096 then (arboretref01_Check.j0 k true a0_0 l0_1 a0_2 l0_3 l0_4) else (if btaR.2 > 8192 then (arboretref01_Check.j0 k true a0_0 l0_1 a0_2 l0_3 l0_4) else (arboretref01_Check.j0 k (decide ((l0_1.length : Int) > 64)) a0_0 l0_1 a0_2 l0_3 l0_4)))) else (some taZ))
set_option maxHeartbeats 8000000 in
set_option maxRecDepth 100000 in
theorem arboretref01_Check.calls (k : Nat) (a0_0 : Int) (A0_1 : Option Addr) (c0_1 : Nat) (l0_1 : List (S51)) (a0_2 : ByteArray) (A0_3 : Option Addr) (c0_3 : Nat) (l0_3 : List (S68)) (A0_4 : Option Addr) (c0_4 : Nat) (l0_4 : List (S27)) (r : Int) (w : World) (hr0_1 : Kd.C k51 w A0_1 l0_1.length l0_1) (hc0_1 : l0_1.length ≤ c0_1) (hr0_3 : Kd.C k68 w A0_3 l0_3.length l0_3) (hc0_3 : l0_3.length ≤ c0_3) (hr0_4 : Kd.C k27 w A0_4 l0_4.length l0_4) (hc0_4 : l0_4.length ≤ c0_4) (h : arboretref01_Check.f k a0_0 l0_1 a0_2 l0_3 l0_4 = some r) :
  Calls Tryz.prog 7 #[.agg #[.int .u32 a0_0, .slice A0_1 l0_1.length c0_1, .string a0_2, .slice A0_3 l0_3.length c0_3, .slice A0_4 l0_4.length c0_4]] w fun e w' => e = .returned (.int .i64 r) ∧ Below w.heap.size w w' := by
 have hu29 := Tryz.underlying29; have hu27 := Tryz.underlying27; have HR0_1 := AK hr0_1; have HC0_1 := AK hc0_1; clear hr0_1 hc0_1; have HR0_3 := AK hr0_3; have HC0_3 := AK hc0_3; clear hr0_3 hc0_3; have HR0_4 := AK hr0_4; have HC0_4 := AK hc0_4; clear hr0_4 hc0_4; have HB := Zq70; have H : ((arboretref01_wrong.f k a0_2 l0_3 l0_4 1).bind fun taZ => (if taZ = 0 then ((arboretref01_Count.f k a0_2 l0_3 l0_4).bind fun btaR => (if btaR.1 > 4096 then (arboretref01_Check.j0 k true a0_0 l0_1 a0_2 l0_3 l0_4) else (if btaR.2 > 8192 then (arboretref01_Check.j0 k true a0_0 l0_1 a0_2 l0_3 l0_4) else (arboretref01_Check.j0 k (decide ((l0_1.length : Int) > 64)) a0_0 l0_1 a0_2 l0_3 l0_4)))) else (some taZ))) = some r := h; clear h; replace H := Option.bind_eq_some_iff.mp H; obtain ⟨taZ, A20, H⟩ := H; replace H : (if taZ = 0 then ((arboretref01_Count.f k a0_2 l0_3 l0_4).bind fun btaR => (if btaR.1 > 4096 then (arboretref01_Check.j0 k true a0_0 l0_1 a0_2 l0_3 l0_4) else (if btaR.2 > 8192 then (arboretref01_Check.j0 k true a0_0 l0_1 a0_2 l0_3 l0_4) else (arboretref01_Check.j0 k (decide ((l0_1.length : Int) > 64)) a0_0 l0_1 a0_2 l0_3 l0_4)))) else (some taZ)) = some r := H; have A2 := AK A20; clear A20
 by_cases c3 : taZ = 0
 ·rw [if_pos c3] at H; obtain ⟨c3b0, c3b1⟩ := Zc0 c3; clear c3; replace H := Option.bind_eq_some_iff.mp H; obtain ⟨⟨taR, tbR⟩, A40, H⟩ := H; replace H : (if taR > 4096 then (arboretref01_Check.j0 k true a0_0 l0_1 a0_2 l0_3 l0_4) else (if tbR > 8192 then (arboretref01_Check.j0 k true a0_0 l0_1 a0_2 l0_3 l0_4) else (arboretref01_Check.j0 k (decide ((l0_1.length : Int) > 64)) a0_0 l0_1 a0_2 l0_3 l0_4))) = some r := H; have A4 := AK A40; clear A40; have HC5 := AK H; clear H; go_enter Tryz.func7, Tryz.ntmps7
  go_upto_region 5 with (first | ((with_reducible refine gate_dst (N := 1) rfl ?_); (try (refine gate_guard Zq9 ?_; dsimp only)); refine box_event ?hg (N := 1) ?hd (cs := #[.int .u32 a0_0, .slice A0_1 l0_1.length c0_1, .string a0_2, .slice A0_3 l0_3.length c0_3, .slice A0_4 l0_4.length c0_4]) (t := 29) ?hr ?_; (case hd | hg => rfl); (case hr => first | (go_simp; done) | (go_simp; rfl)); intro gban hg w6 hbox hb; have n_ := Zn4 Zq61 (AK (hbox)) Zq99 Zq99; clear HB; obtain ⟨HB, BKan, GWan, GEan⟩ := n_; clear hb hbox hg; obtain ⟨hcz7_0, hcz7_1, hcz7_2, hcz7_3, hcz7_4, hfz7_0, hfz7_1, hfz7_2, hfz7_3, hfz7_4⟩ := Zk5 BKan.out) | ((with_reducible refine gate_callee (f := 19) rfl ?_); refine goesL_ (some 9) rfl rfl Tryz.func19 Zq3 rfl #[.agg #[.string a0_2, .slice A0_3 l0_3.length c0_3, .slice A0_4 l0_4.length c0_4], .int .i64 1] rfl Zq10 ?_; (with_reducible refine (arboretref01_wrong.calls k a0_2 _ _ l0_3 _ _ l0_4 1 taZ _ ?side1 ?side2 ?side3 ?side4 A2.out).mono ?_); (case side1 => repeat (first | exact Zq74 | (with_reducible refine Kd.C_alloc ?_ _) | (with_reducible refine Kd.C_drewN ?_ _) | (with_reducible refine Kd.C_drew ?_))); (case side2 => exact HC0_3.out); (case side3 => repeat (first | exact Zq75 | (with_reducible refine Kd.C_alloc ?_ _) | (with_reducible refine Kd.C_drewN ?_ _) | (with_reducible refine Kd.C_drew ?_))); (case side4 => exact HC0_4.out); rintro e w8 ⟨rfl, hb⟩; refine ⟨_, rfl, ?_⟩; have n_ := Zn2 Zq80 (AK (below_step Zq22 hb)); clear BKan HB; obtain ⟨BKan, HB⟩ := n_; (try clear hb); obtain ⟨hcz9_0, hcz9_1, hcz9_2, hcz9_3, hcz9_4, hfz9_0, hfz9_1, hfz9_2, hfz9_3, hfz9_4⟩ := Zk5 BKan.out) | ((with_reducible refine gate_callee (f := 20) rfl ?_); refine goesL_ (some 16) rfl rfl Tryz.func20 Zq3 rfl #[.agg #[.string a0_2, .slice A0_3 l0_3.length c0_3, .slice A0_4 l0_4.length c0_4]] rfl Zq10 ?_; (with_reducible refine (arboretref01_Count.calls k a0_2 _ _ l0_3 _ _ l0_4 taR tbR _ ?side1 ?side2 ?side3 ?side4 A4.out).mono ?_); (case side1 => repeat (first | exact Zq74 | (with_reducible refine Kd.C_alloc ?_ _) | (with_reducible refine Kd.C_drewN ?_ _) | (with_reducible refine Kd.C_drew ?_))); (case side2 => exact HC0_3.out); (case side3 => repeat (first | exact Zq75 | (with_reducible refine Kd.C_alloc ?_ _) | (with_reducible refine Kd.C_drewN ?_ _) | (with_reducible refine Kd.C_drew ?_))); (case side4 => exact HC0_4.out); rintro e w10 ⟨rfl, hb⟩; refine ⟨_, rfl, ?_⟩; have n_ := Zn2 Zq80 (AK (below_step Zq22 hb)); clear BKan HB; obtain ⟨BKan, HB⟩ := n_; (try clear hb)))
  (try simp only [Act.put, List.setIfInBounds_toArray, List.set_cons_zero, List.set_cons_succ])
  go_cut [30] (fun v30 wc => ∃ (kq : Nat) (x30_4 : Bool), v30 = .bool x30_4 ∧ Aside0 (arboretref01_Check.j0 kq x30_4 a0_0 l0_1 a0_2 l0_3 l0_4 = some r) ∧ Aside0 (kq ≤ k) ∧ Aside0 (wc.heap[gban]? = some (.cells #[.int .u32 a0_0, (.slice A0_1 l0_1.length c0_1), .string a0_2, (.slice A0_3 l0_3.length c0_3), (.slice A0_4 l0_4.length c0_4)] 29 (0, 0))) ∧ Aside0 (Below w.heap.size w wc))
  case first =>
   have H := HC5.out; clear HC5
   by_cases c11 : taR > 4096
   ·rw [if_pos c11] at H; have c11b0 : decide (4096 < taR) = true := decide_eq_true c11; clear c11; (first | rw [c11b0] | (simp only [i64_w, i32_w]; rw [c11b0]) | skip); have H' := AK H; clear H; go_wp2
    go_meet
    case rel => exact ⟨_, (true), Zq4, H', ⟨Zq24⟩, ⟨Zq35⟩, ⟨Zq22⟩⟩
   ·rw [if_neg c11] at H; have c11b0 : decide (4096 < taR) = false := decide_eq_false c11; clear c11; (first | rw [c11b0] | (simp only [i64_w, i32_w]; rw [c11b0]) | skip)
    by_cases c12 : tbR > 8192
    ·rw [if_pos c12] at H; have c12b0 : decide (8192 < tbR) = true := decide_eq_true c12; clear c12; have H' := AK H; clear H; go_wp2
     go_meet
     case rel => exact ⟨_, (true), Zq4, H', ⟨Zq24⟩, ⟨Zq35⟩, ⟨Zq22⟩⟩
    ·rw [if_neg c12] at H; have c12b0 : decide (8192 < tbR) = false := decide_eq_false c12; clear c12; have H' := AK H; clear H; obtain ⟨hcz13_0, hcz13_1, hcz13_2, hcz13_3, hcz13_4, hfz13_0, hfz13_1, hfz13_2, hfz13_3, hfz13_4⟩ := Zk5 BKan.out; go_wp2
     go_meet
     case rel => exact ⟨_, (decide ((l0_1.length : Int) > 64)), Zq4, H', ⟨Zq24⟩, ⟨Zq35⟩, ⟨Zq22⟩⟩
  case rest =>
   clear HC5; (try clear c3b0); (try clear c3b1); (try clear c11b0); (try clear c12b0); (try clear hcz13_0); (try clear hcz13_1); (try clear hcz13_2); (try clear hcz13_3); (try clear hcz13_4); (try clear hcz7_0); (try clear hcz7_1); (try clear hcz7_2); (try clear hcz7_3); (try clear hcz7_4); (try clear hcz9_0); (try clear hcz9_1); (try clear hcz9_2); (try clear hcz9_3); (try clear hcz9_4); (try clear hfz13_0); (try clear hfz13_1); (try clear hfz13_2); (try clear hfz13_3); (try clear hfz13_4); (try clear hfz7_0); (try clear hfz7_1); (try clear hfz7_2); (try clear hfz7_3); (try clear hfz7_4); (try clear hfz9_0); (try clear hfz9_1); (try clear hfz9_2); (try clear hfz9_3); (try clear hfz9_4); obtain ⟨kq, x30_4, rfl, HA, HJ4, BKan, HB⟩ := hcut
   cases kq with
   | zero => exact absurd HA.out (by simp [arboretref01_Check.j0])
   | succ kj4 =>
    have H := HA.out; clear HA; simp only [arboretref01_Check.j0] at H
    by_cases c14 : x30_4 = true
    ·subst c14
     have H1 : (some 7) = some r := by rw [if_pos rfl] at H; exact H
     clear H; have H := H1; clear H1; obtain rfl := Option.some.inj H; go_wp2; go_ret; exact ⟨Zq11, Zq22⟩
    ·replace c14 := Bool.eq_false_iff.mpr c14; subst c14
     have H1 : (arboretref01_Check.l0 kj4 (l0_1.length : Int) 0 a0_0 l0_1 a0_2 l0_3 l0_4) = some r := by rw [if_neg (show ¬ (false = true) by decide)] at H; exact H
     clear H; have H := H1; clear H1; have H' := AK H; clear H; obtain ⟨hcz15_0, hcz15_1, hcz15_2, hcz15_3, hcz15_4, hfz15_0, hfz15_1, hfz15_2, hfz15_3, hfz15_4⟩ := Zk5 BKan.out; go_wp2
     go_loopg [34] kj4 (fun kq v34 w' => ∃ (x34_2 : Int), v34 = .int .i64 x34_2 ∧ Aside0 (arboretref01_Check.l0 kq (l0_1.length : Int) x34_2 a0_0 l0_1 a0_2 l0_3 l0_4 = some r) ∧ Aside0 (kq ≤ kj4) ∧ Aside0 (w'.heap[gban]? = some (.cells #[.int .u32 a0_0, (.slice A0_1 l0_1.length c0_1), .string a0_2, (.slice A0_3 l0_3.length c0_3), (.slice A0_4 l0_4.length c0_4)] 29 (0, 0))) ∧ Aside0 (Below w.heap.size w w'))
     case atStart => exact ⟨(0), Zq4, H', ⟨Nat.le_refl _⟩, ⟨Zq35⟩, ⟨Zq22⟩⟩
     case round =>
      clear H'; (try clear c3b0); (try clear c3b1); (try clear c11b0); (try clear c12b0); (try clear c14); (try clear hcz13_0); (try clear hcz13_1); (try clear hcz13_2); (try clear hcz13_3); (try clear hcz13_4); (try clear hcz15_0); (try clear hcz15_1); (try clear hcz15_2); (try clear hcz15_3); (try clear hcz15_4); (try clear hcz7_0); (try clear hcz7_1); (try clear hcz7_2); (try clear hcz7_3); (try clear hcz7_4); (try clear hcz9_0); (try clear hcz9_1); (try clear hcz9_2); (try clear hcz9_3); (try clear hcz9_4); (try clear hfz13_0); (try clear hfz13_1); (try clear hfz13_2); (try clear hfz13_3); (try clear hfz13_4); (try clear hfz15_0); (try clear hfz15_1); (try clear hfz15_2); (try clear hfz15_3); (try clear hfz15_4); (try clear hfz7_0); (try clear hfz7_1); (try clear hfz7_2); (try clear hfz7_3); (try clear hfz7_4); (try clear hfz9_0); (try clear hfz9_1); (try clear hfz9_2); (try clear hfz9_3); (try clear hfz9_4); obtain ⟨x34_2, rfl, HA, HK2, BKan, HB⟩ := hrel
      cases gk with
      | zero => exact absurd HA.out (by simp [arboretref01_Check.l0])
      | succ k2 =>
       have H := HA.out; clear HA; simp only [arboretref01_Check.l0] at H
       by_cases c16 : x34_2 < (l0_1.length : Int)
       ·rw [if_pos c16] at H; have c16b0 : decide (x34_2 < (l0_1.length : Int)) = true := decide_eq_true c16; clear c16
        by_cases c17 : 0 ≤ x34_2
        ·rw [if_pos c17] at H; have c17b0 : decide (0 ≤ x34_2) = true := decide_eq_true c17; clear c17
         by_cases c18 : x34_2 < (l0_1.length : Int)
         ·rw [if_pos c18] at H; have c18b0 : decide (x34_2 < (l0_1.length : Int)) = true := decide_eq_true c18; clear c18
          by_cases c19 : ((rd_T51 l0_1 x34_2).f0) = 0
          ·rw [if_pos c19] at H; obtain ⟨c19b0, c19b1⟩ := Zc0 c19; clear c19
           by_cases c20 : ((rd_T51 l0_1 x34_2).f1) = 0
           ·rw [if_pos c20] at H; obtain ⟨c20b0, c20b1⟩ := Zc0 c20; clear c20; obtain rfl := Option.some.inj H; obtain ⟨hcz21_0, hcz21_1, hcz21_2, hcz21_3, hcz21_4, hfz21_0, hfz21_1, hfz21_2, hfz21_3, hfz21_4⟩ := Zk5 BKan.out; have p372 : 0 ≤ (x34_2 : Int) := of_decide_eq_true Zq5; have q372 : x34_2 < (l0_1.length : Int) := of_decide_eq_true Zq5; obtain ⟨adcb, e372, hx372_0, hx372_1⟩ := at_T51 HR0_1.out x34_2 p372 q372; cases e372; replace hx372_0 := (HB.out.cell (World.block_lt_of_cell? w _ hx372_0)).trans hx372_0; replace hx372_1 := (HB.out.cell (World.block_lt_of_cell? w _ hx372_1)).trans hx372_1; replace p372 := eq_true p372; replace q372 := eq_true q372; have p373 : 0 ≤ (x34_2 : Int) := of_decide_eq_true Zq5; have q373 : x34_2 < (l0_1.length : Int) := of_decide_eq_true Zq5; obtain ⟨adce, e373, hx373_0, hx373_1⟩ := at_T51 HR0_1.out x34_2 p373 q373
            obtain rfl : adcb = adce := (by injection e373)
            replace hx373_0 := (HB.out.cell (World.block_lt_of_cell? w _ hx373_0)).trans hx373_0; replace hx373_1 := (HB.out.cell (World.block_lt_of_cell? w _ hx373_1)).trans hx373_1; replace p373 := eq_true p373; replace q373 := eq_true q373; go_wp2; go_ret; exact ⟨Zq11, Zq22⟩
           ·rw [if_neg c20] at H; obtain ⟨c20b0, c20b1⟩ := Zd0 c20; have H' := AK H; clear H; obtain ⟨hcz22_0, hcz22_1, hcz22_2, hcz22_3, hcz22_4, hfz22_0, hfz22_1, hfz22_2, hfz22_3, hfz22_4⟩ := Zk5 BKan.out; have p372 : 0 ≤ (x34_2 : Int) := of_decide_eq_true Zq5; have q372 : x34_2 < (l0_1.length : Int) := of_decide_eq_true Zq5; obtain ⟨adcb, e372, hx372_0, hx372_1⟩ := at_T51 HR0_1.out x34_2 p372 q372; cases e372; replace hx372_0 := (HB.out.cell (World.block_lt_of_cell? w _ hx372_0)).trans hx372_0; replace hx372_1 := (HB.out.cell (World.block_lt_of_cell? w _ hx372_1)).trans hx372_1; replace p372 := eq_true p372; replace q372 := eq_true q372; have p373 : 0 ≤ (x34_2 : Int) := of_decide_eq_true Zq5; have q373 : x34_2 < (l0_1.length : Int) := of_decide_eq_true Zq5; obtain ⟨adce, e373, hx373_0, hx373_1⟩ := at_T51 HR0_1.out x34_2 p373 q373
            obtain rfl : adcb = adce := (by injection e373)
            replace hx373_0 := (HB.out.cell (World.block_lt_of_cell? w _ hx373_0)).trans hx373_0; replace hx373_1 := (HB.out.cell (World.block_lt_of_cell? w _ hx373_1)).trans hx373_1; replace p373 := eq_true p373; replace q373 := eq_true q373; go_wp2
            go_roundg k2
            case measure => have := HJ4.out; have := HK2.out; omega
            case rel => exact ⟨(wrap64 (x34_2 + 1)), Zq4, H', ⟨by have := HJ4.out; have := HK2.out; omega⟩, ⟨Zq35⟩, ⟨Zq22⟩⟩
          ·rw [if_neg c19] at H; obtain ⟨c19b0, c19b1⟩ := Zd0 c19; have H' := AK H; clear H; obtain ⟨hcz23_0, hcz23_1, hcz23_2, hcz23_3, hcz23_4, hfz23_0, hfz23_1, hfz23_2, hfz23_3, hfz23_4⟩ := Zk5 BKan.out; have p372 : 0 ≤ (x34_2 : Int) := of_decide_eq_true Zq5; have q372 : x34_2 < (l0_1.length : Int) := of_decide_eq_true Zq5; obtain ⟨adcb, e372, hx372_0, hx372_1⟩ := at_T51 HR0_1.out x34_2 p372 q372; cases e372; replace hx372_0 := (HB.out.cell (World.block_lt_of_cell? w _ hx372_0)).trans hx372_0; replace hx372_1 := (HB.out.cell (World.block_lt_of_cell? w _ hx372_1)).trans hx372_1; replace p372 := eq_true p372; replace q372 := eq_true q372; go_wp2
           go_roundg k2
           case measure => have := HJ4.out; have := HK2.out; omega
           case rel => exact ⟨(wrap64 (x34_2 + 1)), Zq4, H', ⟨by have := HJ4.out; have := HK2.out; omega⟩, ⟨Zq35⟩, ⟨Zq22⟩⟩
         ·rw [if_neg c18] at H; exact absurd H Zq7
        ·rw [if_neg c17] at H; exact absurd H Zq7
       ·rw [if_neg c16] at H; have c16b0 : decide (x34_2 < (l0_1.length : Int)) = false := decide_eq_false c16; clear c16; obtain rfl := Option.some.inj H; go_wp2; go_ret; exact ⟨Zq11, Zq22⟩
 ·rw [if_neg c3] at H; obtain ⟨c3b0, c3b1⟩ := Zd0 c3; obtain rfl := Option.some.inj H; go_enter Tryz.func7, Tryz.ntmps7; (go_wp2_with (first | ((with_reducible refine gate_dst (N := 1) rfl ?_); (try (refine gate_guard Zq9 ?_; dsimp only)); refine box_event ?hg (N := 1) ?hd (cs := #[.int .u32 a0_0, .slice A0_1 l0_1.length c0_1, .string a0_2, .slice A0_3 l0_3.length c0_3, .slice A0_4 l0_4.length c0_4]) (t := 29) ?hr ?_; (case hd | hg => rfl); (case hr => first | (go_simp; done) | (go_simp; rfl)); intro gban hg w24 hbox hb; have n_ := Zn4 Zq61 (AK (hbox)) Zq99 Zq99; clear HB; obtain ⟨HB, BKan, GWan, GEan⟩ := n_; clear hb hbox hg; obtain ⟨hcz25_0, hcz25_1, hcz25_2, hcz25_3, hcz25_4, hfz25_0, hfz25_1, hfz25_2, hfz25_3, hfz25_4⟩ := Zk5 BKan.out) | ((with_reducible refine gate_callee (f := 19) rfl ?_); refine goesL_ (some 9) rfl rfl Tryz.func19 Zq3 rfl #[.agg #[.string a0_2, .slice A0_3 l0_3.length c0_3, .slice A0_4 l0_4.length c0_4], .int .i64 1] rfl Zq10 ?_; (with_reducible refine (arboretref01_wrong.calls k a0_2 _ _ l0_3 _ _ l0_4 1 taZ _ ?side1 ?side2 ?side3 ?side4 A2.out).mono ?_); (case side1 => repeat (first | exact Zq74 | (with_reducible refine Kd.C_alloc ?_ _) | (with_reducible refine Kd.C_drewN ?_ _) | (with_reducible refine Kd.C_drew ?_))); (case side2 => exact HC0_3.out); (case side3 => repeat (first | exact Zq75 | (with_reducible refine Kd.C_alloc ?_ _) | (with_reducible refine Kd.C_drewN ?_ _) | (with_reducible refine Kd.C_drew ?_))); (case side4 => exact HC0_4.out); rintro e w26 ⟨rfl, hb⟩; refine ⟨_, rfl, ?_⟩; have n_ := Zn2 Zq80 (AK (below_step Zq22 hb)); clear BKan HB; obtain ⟨BKan, HB⟩ := n_; (try clear hb)))); go_ret; exact ⟨Zq11, Zq22⟩
def bytes_Equal.f (l0 : List Int) (l1 : List Int) : Option (Bool) := some ((strOfNums l0).toList == (strOfNums l1).toList)
set_option maxHeartbeats 8000000 in
set_option maxRecDepth 100000 in
theorem bytes_Equal.calls (A0 : Option Addr) (c0 : Nat) (l0 : List Int) (A1 : Option Addr) (c1 : Nat) (l1 : List Int) (r : Bool) (w : World) (hr0 : Kd.C (Kd.int .u8) w A0 l0.length l0) (hc0 : l0.length ≤ c0) (hr1 : Kd.C (Kd.int .u8) w A1 l1.length l1) (hc1 : l1.length ≤ c1) (h : bytes_Equal.f l0 l1 = some r) :
  Calls Tryz.prog 26 #[.slice A0 l0.length c0, .slice A1 l1.length c1] w fun e w' => e = .returned (.bool r) ∧ Drawn0 w w' := by
 have HR0 := AK hr0; have HC0 := AK hc0; clear hr0 hc0; have HR1 := AK hr1; have HC1 := AK hc1; clear hr1 hc1; have H : (some ((strOfNums l0).toList == (strOfNums l1).toList)) = some r := h; clear h; obtain rfl := Option.some.inj H; have hcv3 := Kd.C_string (P := Tryz.prog) (A := A0) (c := c0) Tryz.underlying32 Tryz.underlying5 Tryz.underlying9 HR0.out
 have hcv3d := fun nd_ : Nat => Kd.C_string (P := Tryz.prog) (A := A0) (c := c0) Tryz.underlying32 Tryz.underlying5 Tryz.underlying9 (Kd.C_drewN HR0.out nd_)
 have hcv4 := Kd.C_string (P := Tryz.prog) (A := A1) (c := c1) Tryz.underlying32 Tryz.underlying5 Tryz.underlying9 HR1.out
 have hcv4d := fun nd_ : Nat => Kd.C_string (P := Tryz.prog) (A := A1) (c := c1) Tryz.underlying32 Tryz.underlying5 Tryz.underlying9 (Kd.C_drewN HR1.out nd_)
 go_enter Tryz.func26, Tryz.ntmps26; go_wp2; go_ret; exact ⟨Zq4, Zq8⟩
mutual
def encode_most.l0 : Nat → Int → List (S68) → Int → Int → ByteArray → List (S68) → List (S27) → Option (Int × Bool)
 | 0, _, _, _, _, _, _, _ => none
 | k + 1, x1, x12, x13, x14, xcy, xcz, xcf => if x14 < x13 then (if 0 ≤ x14 then (if x14 < (x12.length : Int) then (if (wrap64 (x1 + (((rd_T68 x12 x14).f1).length : Int))) > 1048576 then (some (wrap64 (x1 + (((rd_T68 x12 x14).f1).length : Int)), true)) else (encode_most.l0 k (wrap64 (x1 + (((rd_T68 x12 x14).f1).length : Int))) x12 x13 (wrap64 (x14 + 1)) xcy xcz xcf)) else (none)) else (none)) else (encode_most.l1 k x1 xcf (xcf.length : Int) 0)
def encode_most.l1 : Nat → Int → List (S27) → Int → Int → Option (Int × Bool)
 | 0, _, _, _, _ => none
 | k + 1, x1, x28, x29, x30 => if x30 < x29 then (if 0 ≤ x30 then (if x30 < (x28.length : Int) then ((encode_most.f k ((rd_T27 x28 x30).f0) ((rd_T27 x28 x30).f1) ((rd_T27 x28 x30).f2) x1).bind fun btba => (if btba.2 = true then (some (btba.1, true)) else (encode_most.l1 k btba.1 x28 x29 (wrap64 (x30 + 1))))) else (none)) else (none)) else (some (x1, false))
def encode_most.f : Nat → ByteArray → List (S68) → List (S27) → Int → Option (Int × Bool)
 | 0, _, _, _, _ => none
 | k + 1, a0_0, l0_1, l0_2, a1 => encode_most.l0 k a1 l0_1 (l0_1.length : Int) 0 a0_0 l0_1 l0_2
end
set_option maxHeartbeats 8000000 in
set_option maxRecDepth 100000 in
theorem encode_most.calls (k : Nat) : ∀ (a0_0 : ByteArray) (A0_1 : Option Addr) (c0_1 : Nat) (l0_1 : List (S68)) (A0_2 : Option Addr) (c0_2 : Nat) (l0_2 : List (S27)) (a1 : Int) (r1 : Int) (r2 : Bool) (w : World) (hr0_1 : Kd.C k68 w A0_1 l0_1.length l0_1) (hc0_1 : l0_1.length ≤ c0_1) (hr0_2 : Kd.C k27 w A0_2 l0_2.length l0_2) (hc0_2 : l0_2.length ≤ c0_2) (h : encode_most.f k a0_0 l0_1 l0_2 a1 = some (r1, r2)),
  Calls Tryz.prog 12 #[.agg #[.string a0_0, .slice A0_1 l0_1.length c0_1, .slice A0_2 l0_2.length c0_2], .int .i64 a1] w fun e w' => e = .returned (.tuple #[.int .i64 r1, .bool r2]) ∧ Below w.heap.size w w' := by
 induction k using Nat.strongRecOn with
 | _ k ih =>
 intro a0_0 A0_1 c0_1 l0_1 A0_2 c0_2 l0_2 a1 r1 r2 w hr0_1 hc0_1 hr0_2 hc0_2 h
 cases k with
 | zero => exact absurd h (by simp [encode_most.f])
 | succ k =>
 simp only [encode_most.f] at h; have hu27 := Tryz.underlying27; have hu68 := Tryz.underlying68; have HR0_1 := AK hr0_1; have HC0_1 := AK hc0_1; clear hr0_1 hc0_1; have HR0_2 := AK hr0_2; have HC0_2 := AK hc0_2; clear hr0_2 hc0_2; have HB := Zq70; have H : (encode_most.l0 k a1 l0_1 (l0_1.length : Int) 0 a0_0 l0_1 l0_2) = some (r1, r2) := h; clear h; have H' := AK H; clear H; go_enter Tryz.func12, Tryz.ntmps12; go_wp2_with (first | ((with_reducible refine gate_dst (N := 2) rfl ?_); refine box_event ?hg (N := 2) ?hd (cs := #[.string a0_0, .slice A0_1 l0_1.length c0_1, .slice A0_2 l0_2.length c0_2]) (t := 27) ?hr ?_; (case hd | hg => rfl); (case hr => first | (go_simp; done) | (go_simp; rfl)); intro gbae hg w3 hbox hb; have n_ := Zn4 Zq61 (AK (hbox)) (AK (by rw [hg]; exact (below_size Zq6) : w.heap.size ≤ gbae)) (AK (by rw [hg]; exact (below_size Zq6) : w.heap.size ≤ gbae)); clear HB; obtain ⟨HB, BKae, GWae, GEae⟩ := n_; clear hb hbox hg; obtain ⟨hcz4_0, hcz4_1, hcz4_2, hfz4_0, hfz4_1, hfz4_2⟩ := Zk3 BKae.out))
 go_loopg [1, 14] k (fun kq v1 v14 w' => ∃ (x1_1 : Int) (x14_1 : Int), v1 = .int .i64 x1_1 ∧ v14 = .int .i64 x14_1 ∧ Aside0 (encode_most.l0 kq x1_1 l0_1 (l0_1.length : Int) x14_1 a0_0 l0_1 l0_2 = some (r1, r2)) ∧ Aside0 (kq ≤ k) ∧ Aside0 (w'.heap[gbae]? = some (.cells #[.string a0_0, (.slice A0_1 l0_1.length c0_1), (.slice A0_2 l0_2.length c0_2)] 27 (0, 0))) ∧ Aside0 (Below w.heap.size w w'))
 case atStart => exact ⟨(a1), (0), Zq4, Zq4, H', ⟨Nat.le_refl _⟩, ⟨Zq20⟩, ⟨Zq21⟩⟩
 case round =>
  clear H'; (try clear hcz4_0); (try clear hcz4_1); (try clear hcz4_2); (try clear hfz4_0); (try clear hfz4_1); (try clear hfz4_2); obtain ⟨x1_1, x14_1, rfl, rfl, HA, HK1, BKae, HB⟩ := hrel
  cases gk with
  | zero => exact absurd HA.out (by simp [encode_most.l0])
  | succ k1 =>
   have H := HA.out; clear HA; simp only [encode_most.l0] at H
   by_cases c5 : x14_1 < (l0_1.length : Int)
   ·rw [if_pos c5] at H; have c5b0 : decide (x14_1 < (l0_1.length : Int)) = true := decide_eq_true c5; clear c5
    by_cases c6 : 0 ≤ x14_1
    ·rw [if_pos c6] at H; have c6b0 : decide (0 ≤ x14_1) = true := decide_eq_true c6; clear c6
     by_cases c7 : x14_1 < (l0_1.length : Int)
     ·rw [if_pos c7] at H; have c7b0 : decide (x14_1 < (l0_1.length : Int)) = true := decide_eq_true c7; clear c7
      by_cases c8 : (wrap64 (x1_1 + (((rd_T68 l0_1 x14_1).f1).length : Int))) > 1048576
      ·rw [if_pos c8] at H; have c8b0 : decide (1048576 < (wrap64 (x1_1 + (((rd_T68 l0_1 x14_1).f1).length : Int)))) = true := decide_eq_true c8; clear c8; simp only [Option.some.injEq, Prod.mk.injEq] at H; obtain ⟨rfl, rfl⟩ := H; have p280 : 0 ≤ (x14_1 : Int) := of_decide_eq_true Zq5; have q280 : x14_1 < (l0_1.length : Int) := of_decide_eq_true Zq5; obtain ⟨adbb, Abb_1, cbb_1, e280, hx280_0, hx280_1, hl280_1, hi280_1⟩ := at_T68 HR0_1.out x14_1 p280 q280; cases e280; replace hx280_0 := (HB.out.cell (World.block_lt_of_cell? w _ hx280_0)).trans hx280_0; replace hx280_1 := (HB.out.cell (World.block_lt_of_cell? w _ hx280_1)).trans hx280_1; have HRbb_1 := AK hi280_1; have HCbb_1 := AK hl280_1; clear hi280_1 hl280_1; replace p280 := eq_true p280; replace q280 := eq_true q280; go_wp2_with (first | ((with_reducible refine gate_dst (N := 7) rfl ?_); refine box_event ?hg (N := 7) ?hd (cs := #[.string (⟨#[]⟩ : ByteArray), .slice none 0 0]) (t := 68) ?hr ?_; (case hd | hg => rfl); (case hr => first | (go_simp; done) | (go_simp; rfl)); intro gbaP hg w9 hbox hb; have n_ := Zn7 Zq110 (AK (below_step Zq21 hb)) (AK (hbox)) Zq96 Zq96 (AK (by rw [hg]; exact Nat.ne_of_lt Zq78 : gbae ≠ gbaP)) (AK (by rw [hg]; exact Nat.ne_of_gt Zq78 : gbaP ≠ gbae)); clear BKae HB; obtain ⟨BKae, HB, BKaP, GWaP, GEaP, NB279_281, NB281_279⟩ := n_; clear hb hbox hg; have hnb10 := NB281_279.out; have hnc10 := NB279_281.out; obtain ⟨hcz11_0, hcz11_1, hfz11_0, hfz11_1⟩ := Zk2 BKaP.out))
       go_ret2
       exact ⟨Zq11, by repeat (first | (with_reducible first | exact HB.out | apply below_alloc | apply pw_below_drewN | apply below_drew1 | refine below_set ?_ GEae.out | refine below_set ?_ GEaP.out) | exact HB.out)⟩
      ·rw [if_neg c8] at H; have c8b0 : decide (1048576 < (wrap64 (x1_1 + (((rd_T68 l0_1 x14_1).f1).length : Int)))) = false := decide_eq_false c8; clear c8; have H' := AK H; clear H; have p280 : 0 ≤ (x14_1 : Int) := of_decide_eq_true Zq5; have q280 : x14_1 < (l0_1.length : Int) := of_decide_eq_true Zq5; obtain ⟨adbb, Abb_1, cbb_1, e280, hx280_0, hx280_1, hl280_1, hi280_1⟩ := at_T68 HR0_1.out x14_1 p280 q280; cases e280; replace hx280_0 := (HB.out.cell (World.block_lt_of_cell? w _ hx280_0)).trans hx280_0; replace hx280_1 := (HB.out.cell (World.block_lt_of_cell? w _ hx280_1)).trans hx280_1; have HRbb_1 := AK hi280_1; have HCbb_1 := AK hl280_1; clear hi280_1 hl280_1; replace p280 := eq_true p280; replace q280 := eq_true q280; go_wp2_with (first | ((with_reducible refine gate_dst (N := 7) rfl ?_); refine box_event ?hg (N := 7) ?hd (cs := #[.string (⟨#[]⟩ : ByteArray), .slice none 0 0]) (t := 68) ?hr ?_; (case hd | hg => rfl); (case hr => first | (go_simp; done) | (go_simp; rfl)); intro gbaP hg w12 hbox hb; have n_ := Zn7 Zq110 (AK (below_step Zq21 hb)) (AK (hbox)) Zq96 Zq96 (AK (by rw [hg]; exact Nat.ne_of_lt Zq78 : gbae ≠ gbaP)) (AK (by rw [hg]; exact Nat.ne_of_gt Zq78 : gbaP ≠ gbae)); clear BKae HB; obtain ⟨BKae, HB, BKaP, GWaP, GEaP, NB279_281, NB281_279⟩ := n_; clear hb hbox hg; have hnb13 := NB281_279.out; have hnc13 := NB279_281.out; obtain ⟨hcz14_0, hcz14_1, hfz14_0, hfz14_1⟩ := Zk2 BKaP.out))
       go_roundg k1
       case measure => have := HK1.out; omega
       case rel => exact ⟨(wrap64 (x1_1 + (((rd_T68 l0_1 x14_1).f1).length : Int))), (wrap64 (x14_1 + 1)), Zq4, Zq4, H', ⟨Zq14⟩, ⟨Zf2 BKae.out NB279_281.out⟩, ⟨by repeat (first | (with_reducible first | exact HB.out | apply below_alloc | apply pw_below_drewN | apply below_drew1 | refine below_set ?_ GEae.out | refine below_set ?_ GEaP.out) | exact HB.out)⟩⟩
     ·rw [if_neg c7] at H; exact absurd H Zq7
    ·rw [if_neg c6] at H; exact absurd H Zq7
   ·rw [if_neg c5] at H; have c5b0 : decide (x14_1 < (l0_1.length : Int)) = false := decide_eq_false c5; clear c5; have H' := AK H; clear H; obtain ⟨hcz15_0, hcz15_1, hcz15_2, hfz15_0, hfz15_1, hfz15_2⟩ := Zk3 BKae.out; go_wp2
    go_loopg [1, 30] k1 (fun kq v1 v30 w' => ∃ (x1_2 : Int) (x30_2 : Int), v1 = .int .i64 x1_2 ∧ v30 = .int .i64 x30_2 ∧ Aside0 (encode_most.l1 kq x1_2 l0_2 (l0_2.length : Int) x30_2 = some (r1, r2)) ∧ Aside0 (kq ≤ k1) ∧ Aside0 (w'.heap[gbae]? = some (.cells #[.string a0_0, (.slice A0_1 l0_1.length c0_1), (.slice A0_2 l0_2.length c0_2)] 27 (0, 0))) ∧ Aside0 (Below w.heap.size w w'))
    case atStart => exact ⟨(x1_1), (0), Zq4, Zq4, H', ⟨Nat.le_refl _⟩, ⟨Zq20⟩, ⟨Zq21⟩⟩
    case round =>
     clear H'; (try clear c5b0); (try clear c6); (try clear c6b0); (try clear c7); (try clear c7b0); (try clear c8b0); (try clear hcz11_0); (try clear hcz11_1); (try clear hcz14_0); (try clear hcz14_1); (try clear hcz15_0); (try clear hcz15_1); (try clear hcz15_2); (try clear hcz4_0); (try clear hcz4_1); (try clear hcz4_2); (try clear hfz11_0); (try clear hfz11_1); (try clear hfz14_0); (try clear hfz14_1); (try clear hfz15_0); (try clear hfz15_1); (try clear hfz15_2); (try clear hfz4_0); (try clear hfz4_1); (try clear hfz4_2); (try clear hx280_0); (try clear hx280_1); (try clear p280); (try clear q280); obtain ⟨x1_2, x30_2, rfl, rfl, HA, HK2, BKae, HB⟩ := hrel
     cases gk with
     | zero => exact absurd HA.out (by simp [encode_most.l1])
     | succ k2 =>
      have H := HA.out; clear HA; simp only [encode_most.l1] at H
      by_cases c16 : x30_2 < (l0_2.length : Int)
      ·rw [if_pos c16] at H; have c16b0 : decide (x30_2 < (l0_2.length : Int)) = true := decide_eq_true c16; clear c16
       by_cases c17 : 0 ≤ x30_2
       ·rw [if_pos c17] at H; have c17b0 : decide (0 ≤ x30_2) = true := decide_eq_true c17; clear c17
        by_cases c18 : x30_2 < (l0_2.length : Int)
        ·rw [if_pos c18] at H; have c18b0 : decide (x30_2 < (l0_2.length : Int)) = true := decide_eq_true c18; clear c18; replace H := Option.bind_eq_some_iff.mp H; obtain ⟨⟨tba, tck⟩, Acl, H⟩ := H; replace H : (if tck = true then (some (tba, true)) else (encode_most.l1 k2 tba l0_2 (l0_2.length : Int) (wrap64 (x30_2 + 1)))) = some (r1, r2) := H; have A19 := AK Acl; clear Acl
         by_cases c20 : tck = true
         ·subst c20
          have H1 : (some (tba, true)) = some (r1, r2) := by rw [if_pos rfl] at H; exact H
          clear H; have H := H1; clear H1; simp only [Option.some.injEq, Prod.mk.injEq] at H; obtain ⟨rfl, rfl⟩ := H; have p282 : 0 ≤ (x30_2 : Int) := of_decide_eq_true Zq5; have q282 : x30_2 < (l0_2.length : Int) := of_decide_eq_true Zq5; obtain ⟨adaf, Aaf_1, caf_1, Aaf_2, caf_2, e282, hx282_0, hx282_1, hx282_2, hl282_1, hi282_1, hl282_2, hi282_2⟩ := at_T27 HR0_2.out x30_2 p282 q282; cases e282; replace hx282_0 := (HB.out.cell (World.block_lt_of_cell? w _ hx282_0)).trans hx282_0; replace hx282_1 := (HB.out.cell (World.block_lt_of_cell? w _ hx282_1)).trans hx282_1; replace hx282_2 := (HB.out.cell (World.block_lt_of_cell? w _ hx282_2)).trans hx282_2; have HRaf_1 := AK hi282_1; have HCaf_1 := AK hl282_1; clear hi282_1 hl282_1; have HRaf_2 := AK hi282_2; have HCaf_2 := AK hl282_2; clear hi282_2 hl282_2; replace p282 := eq_true p282; replace q282 := eq_true q282; go_wp2_with (first | ((with_reducible refine gate_dst (N := 9) rfl ?_); refine box_event ?hg (N := 9) ?hd (cs := #[.string (⟨#[]⟩ : ByteArray), .slice none 0 0, .slice none 0 0]) (t := 27) ?hr ?_; (case hd | hg => rfl); (case hr => first | (go_simp; done) | (go_simp; rfl)); intro gbaD hg w21 hbox hb; have n_ := Zn7 Zq111 (AK (below_step Zq21 hb)) (AK (hbox)) Zq97 Zq97 (AK (by rw [hg]; exact Nat.ne_of_lt Zq79 : gbae ≠ gbaD)) (AK (by rw [hg]; exact Nat.ne_of_gt Zq79 : gbaD ≠ gbae)); clear BKae HB; obtain ⟨BKae, HB, BKaD, GWaD, GEaD, NB279_283, NB283_279⟩ := n_; clear hb hbox hg; have hnb22 := NB283_279.out; have hnc22 := NB279_283.out; obtain ⟨hcz23_0, hcz23_1, hcz23_2, hfz23_0, hfz23_1, hfz23_2⟩ := Zk3 BKaD.out) | ((with_reducible refine gate_callee (f := 12) rfl ?_); refine goesL_ (some 37) rfl rfl Tryz.func12 Zq3 rfl #[.agg #[.string ((rd_T27 l0_2 x30_2).f0), .slice Aaf_1 ((rd_T27 l0_2 x30_2).f1).length caf_1, .slice Aaf_2 ((rd_T27 l0_2 x30_2).f2).length caf_2], .int .i64 x1_2] rfl Zq10 ?_; (with_reducible refine (ih k2 Zq30 ((rd_T27 l0_2 x30_2).f0) _ _ ((rd_T27 l0_2 x30_2).f1) _ _ ((rd_T27 l0_2 x30_2).f2) x1_2 tba true _ ?side1 ?side2 ?side3 ?side4 A19.out).mono ?_); (case side1 => exact Kd.C_below HRaf_1.out Zq37); (case side2 => exact HCaf_1.out); (case side3 => exact Kd.C_below HRaf_2.out Zq37); (case side4 => exact HCaf_2.out); rintro e w24 ⟨rfl, hb⟩; refine ⟨_, rfl, ?_⟩; have n_ := Zn3 Zq106 Zq95 (AK (below_step Zq37 hb)); clear BKae BKaD HB; obtain ⟨BKae, BKaD, HB⟩ := n_; (try clear hb)))
          go_ret2
          exact ⟨Zq11, Zq37⟩
         ·replace c20 := Bool.eq_false_iff.mpr c20; subst c20
          have H1 : (encode_most.l1 k2 tba l0_2 (l0_2.length : Int) (wrap64 (x30_2 + 1))) = some (r1, r2) := by rw [if_neg (show ¬ (false = true) by decide)] at H; exact H
          clear H; have H := H1; clear H1; have H' := AK H; clear H; have p282 : 0 ≤ (x30_2 : Int) := of_decide_eq_true Zq5; have q282 : x30_2 < (l0_2.length : Int) := of_decide_eq_true Zq5; obtain ⟨adaf, Aaf_1, caf_1, Aaf_2, caf_2, e282, hx282_0, hx282_1, hx282_2, hl282_1, hi282_1, hl282_2, hi282_2⟩ := at_T27 HR0_2.out x30_2 p282 q282; cases e282; replace hx282_0 := (HB.out.cell (World.block_lt_of_cell? w _ hx282_0)).trans hx282_0; replace hx282_1 := (HB.out.cell (World.block_lt_of_cell? w _ hx282_1)).trans hx282_1; replace hx282_2 := (HB.out.cell (World.block_lt_of_cell? w _ hx282_2)).trans hx282_2; have HRaf_1 := AK hi282_1; have HCaf_1 := AK hl282_1; clear hi282_1 hl282_1; have HRaf_2 := AK hi282_2; have HCaf_2 := AK hl282_2; clear hi282_2 hl282_2; replace p282 := eq_true p282; replace q282 := eq_true q282; go_wp2_with (first | ((with_reducible refine gate_dst (N := 9) rfl ?_); refine box_event ?hg (N := 9) ?hd (cs := #[.string (⟨#[]⟩ : ByteArray), .slice none 0 0, .slice none 0 0]) (t := 27) ?hr ?_; (case hd | hg => rfl); (case hr => first | (go_simp; done) | (go_simp; rfl)); intro gbaD hg w25 hbox hb; have n_ := Zn7 Zq111 (AK (below_step Zq21 hb)) (AK (hbox)) Zq97 Zq97 (AK (by rw [hg]; exact Nat.ne_of_lt Zq79 : gbae ≠ gbaD)) (AK (by rw [hg]; exact Nat.ne_of_gt Zq79 : gbaD ≠ gbae)); clear BKae HB; obtain ⟨BKae, HB, BKaD, GWaD, GEaD, NB279_283, NB283_279⟩ := n_; clear hb hbox hg; have hnb26 := NB283_279.out; have hnc26 := NB279_283.out; obtain ⟨hcz27_0, hcz27_1, hcz27_2, hfz27_0, hfz27_1, hfz27_2⟩ := Zk3 BKaD.out) | ((with_reducible refine gate_callee (f := 12) rfl ?_); refine goesL_ (some 37) rfl rfl Tryz.func12 Zq3 rfl #[.agg #[.string ((rd_T27 l0_2 x30_2).f0), .slice Aaf_1 ((rd_T27 l0_2 x30_2).f1).length caf_1, .slice Aaf_2 ((rd_T27 l0_2 x30_2).f2).length caf_2], .int .i64 x1_2] rfl Zq10 ?_; (with_reducible refine (ih k2 Zq30 ((rd_T27 l0_2 x30_2).f0) _ _ ((rd_T27 l0_2 x30_2).f1) _ _ ((rd_T27 l0_2 x30_2).f2) x1_2 tba false _ ?side1 ?side2 ?side3 ?side4 A19.out).mono ?_); (case side1 => exact Kd.C_below HRaf_1.out Zq37); (case side2 => exact HCaf_1.out); (case side3 => exact Kd.C_below HRaf_2.out Zq37); (case side4 => exact HCaf_2.out); rintro e w28 ⟨rfl, hb⟩; refine ⟨_, rfl, ?_⟩; have n_ := Zn3 Zq106 Zq95 (AK (below_step Zq37 hb)); clear BKae BKaD HB; obtain ⟨BKae, BKaD, HB⟩ := n_; (try clear hb)))
          go_roundg k2
          case measure => have := HK1.out; have := HK2.out; omega
          case rel => exact ⟨(tba), (wrap64 (x30_2 + 1)), Zq4, Zq4, H', ⟨Zq30⟩, ⟨Zq20⟩, ⟨Zq37⟩⟩
        ·rw [if_neg c18] at H; exact absurd H Zq7
       ·rw [if_neg c17] at H; exact absurd H Zq7
      ·rw [if_neg c16] at H; have c16b0 : decide (x30_2 < (l0_2.length : Int)) = false := decide_eq_false c16; clear c16; simp only [Option.some.injEq, Prod.mk.injEq] at H; obtain ⟨rfl, rfl⟩ := H; go_wp2
       go_ret2
       exact ⟨Zq11, Zq21⟩
def strings_IndexByte.f (a0 : ByteArray) (a1 : Int) : Option (Int) := some (Lib.indexByte a0.data.toList a1.toNat.toUInt8)
theorem strings_IndexByte.calls (a0 : ByteArray) (a1 : Int) (r : Int) (w : World) (h : strings_IndexByte.f a0 a1 = some r) :
  Calls Tryz.prog 72 #[.string a0, .int .u8 a1] w fun e w' => e = .returned (.int .i64 r) ∧ Drawn0 w w' := by
 have hr : Lib.indexByte a0.data.toList a1.toNat.toUInt8 = r := by
  unfold strings_IndexByte.f at h; injection h
 refine (Tryz.strings_IndexByte a0 a1 w).mono ?_; rintro e w' ⟨rfl, rfl⟩; exact ⟨by rw [hr], Drawn0.refl _⟩
def name_letter.f (a0 : Int) : Option (Bool) := if a0 ≥ 97 then (if a0 ≤ 122 then (some true) else (if a0 ≥ 65 then (some (decide (a0 ≤ 90))) else (some false))) else (if a0 ≥ 65 then (some (decide (a0 ≤ 90))) else (some false))
set_option maxHeartbeats 8000000 in
set_option maxRecDepth 100000 in
theorem name_letter.calls (a0 : Int) (r : Bool) (w : World) (h : name_letter.f a0 = some r) :
  Calls Tryz.prog 61 #[.int .u8 a0] w fun e w' => e = .returned (.bool r) ∧ Drawn0 w w' := by
 have H : (if a0 ≥ 97 then (if a0 ≤ 122 then (some true) else (if a0 ≥ 65 then (some (decide (a0 ≤ 90))) else (some false))) else (if a0 ≥ 65 then (some (decide (a0 ≤ 90))) else (some false))) = some r := h; clear h
 by_cases c2 : a0 ≥ 97
 ·rw [if_pos c2] at H; have c2b0 : decide (97 ≤ a0) = true := decide_eq_true c2; clear c2
  by_cases c3 : a0 ≤ 122
  ·rw [if_pos c3] at H; have c3b0 : decide (a0 ≤ 122) = true := decide_eq_true c3; clear c3; obtain rfl := Option.some.inj H; go_enter Tryz.func61, Tryz.ntmps61; go_wp2; go_ret; exact ⟨Zq4, Zq8⟩
  ·rw [if_neg c3] at H; have c3b0 : decide (a0 ≤ 122) = false := decide_eq_false c3; clear c3
   by_cases c4 : a0 ≥ 65
   ·rw [if_pos c4] at H; have c4b0 : decide (65 ≤ a0) = true := decide_eq_true c4; clear c4; obtain rfl := Option.some.inj H; go_enter Tryz.func61, Tryz.ntmps61; go_wp2; go_ret; exact ⟨Zq4, Zq8⟩
   ·rw [if_neg c4] at H; have c4b0 : decide (65 ≤ a0) = false := decide_eq_false c4; clear c4; obtain rfl := Option.some.inj H; go_enter Tryz.func61, Tryz.ntmps61; go_wp2; go_ret; exact ⟨Zq4, Zq8⟩
 ·rw [if_neg c2] at H; have c2b0 : decide (97 ≤ a0) = false := decide_eq_false c2; clear c2
  by_cases c5 : a0 ≥ 65
  ·rw [if_pos c5] at H; have c5b0 : decide (65 ≤ a0) = true := decide_eq_true c5; clear c5; obtain rfl := Option.some.inj H; go_enter Tryz.func61, Tryz.ntmps61; go_wp2; go_ret; exact ⟨Zq4, Zq8⟩
  ·rw [if_neg c5] at H; have c5b0 : decide (65 ≤ a0) = false := decide_eq_false c5; clear c5; obtain rfl := Option.some.inj H; go_enter Tryz.func61, Tryz.ntmps61; go_wp2; go_ret; exact ⟨Zq4, Zq8⟩
def name_plain.f (a0 : Int) : Option (Bool) := (name_letter.f a0).bind fun tbE => (if tbE = true then (some true) else (if a0 ≥ 48 then (if a0 ≤ 57 then (some true) else ((strings_IndexByte.f (⟨#[44, 46, 95, 43, 45]⟩ : ByteArray) a0).bind fun tbf => (some (decide (tbf ≥ 0))))) else ((strings_IndexByte.f (⟨#[44, 46, 95, 43, 45]⟩ : ByteArray) a0).bind fun tbg => (some (decide (tbg ≥ 0))))))
set_option maxHeartbeats 8000000 in
set_option maxRecDepth 100000 in
theorem name_plain.calls (a0 : Int) (r : Bool) (w : World) (h : name_plain.f a0 = some r) :
  Calls Tryz.prog 71 #[.int .u8 a0] w fun e w' => e = .returned (.bool r) ∧ Drawn0 w w' := by
 have H : ((name_letter.f a0).bind fun tbE => (if tbE = true then (some true) else (if a0 ≥ 48 then (if a0 ≤ 57 then (some true) else ((strings_IndexByte.f (⟨#[44, 46, 95, 43, 45]⟩ : ByteArray) a0).bind fun tbf => (some (decide (tbf ≥ 0))))) else ((strings_IndexByte.f (⟨#[44, 46, 95, 43, 45]⟩ : ByteArray) a0).bind fun tbg => (some (decide (tbg ≥ 0))))))) = some r := h; clear h; replace H := Option.bind_eq_some_iff.mp H; obtain ⟨tbE, A20, H⟩ := H; replace H : (if tbE = true then (some true) else (if a0 ≥ 48 then (if a0 ≤ 57 then (some true) else ((strings_IndexByte.f (⟨#[44, 46, 95, 43, 45]⟩ : ByteArray) a0).bind fun tbf => (some (decide (tbf ≥ 0))))) else ((strings_IndexByte.f (⟨#[44, 46, 95, 43, 45]⟩ : ByteArray) a0).bind fun tbg => (some (decide (tbg ≥ 0)))))) = some r := H; have A2 := AK A20; clear A20
 by_cases c3 : tbE = true
 ·subst c3
  have H1 : (some true) = some r := by rw [if_pos rfl] at H; exact H
  clear H; have H := H1; clear H1; obtain rfl := Option.some.inj H; go_enter Tryz.func71, Tryz.ntmps71; (go_wp2_with (first | ((with_reducible refine gate_callee (f := 61) rfl ?_); refine goesL_ (some 4) rfl rfl Tryz.func61 Zq3 rfl #[.int .u8 a0] rfl Zq10 ?_; (with_reducible refine (name_letter.calls a0 true _ A2.out).mono ?_); rintro e w' ⟨rfl, ⟨nd, rfl⟩⟩; refine ⟨_, rfl, ?_⟩))); go_ret; exact ⟨Zq4, Zq8⟩
 ·replace c3 := Bool.eq_false_iff.mpr c3; subst c3
  have H1 : (if a0 ≥ 48 then (if a0 ≤ 57 then (some true) else ((strings_IndexByte.f (⟨#[44, 46, 95, 43, 45]⟩ : ByteArray) a0).bind fun tbf => (some (decide (tbf ≥ 0))))) else ((strings_IndexByte.f (⟨#[44, 46, 95, 43, 45]⟩ : ByteArray) a0).bind fun tbg => (some (decide (tbg ≥ 0))))) = some r := by rw [if_neg (show ¬ (false = true) by decide)] at H; exact H
  clear H; have H := H1; clear H1
  by_cases c4 : a0 ≥ 48
  ·rw [if_pos c4] at H; have c4b0 : decide (48 ≤ a0) = true := decide_eq_true c4; clear c4
   by_cases c5 : a0 ≤ 57
   ·rw [if_pos c5] at H; have c5b0 : decide (a0 ≤ 57) = true := decide_eq_true c5; clear c5; obtain rfl := Option.some.inj H; go_enter Tryz.func71, Tryz.ntmps71; (go_wp2_with (first | ((with_reducible refine gate_callee (f := 61) rfl ?_); refine goesL_ (some 4) rfl rfl Tryz.func61 Zq3 rfl #[.int .u8 a0] rfl Zq10 ?_; (with_reducible refine (name_letter.calls a0 false _ A2.out).mono ?_); rintro e w' ⟨rfl, ⟨nd, rfl⟩⟩; refine ⟨_, rfl, ?_⟩))); go_ret; exact ⟨Zq4, Zq8⟩
   ·rw [if_neg c5] at H; have c5b0 : decide (a0 ≤ 57) = false := decide_eq_false c5; clear c5; replace H := Option.bind_eq_some_iff.mp H; obtain ⟨tbf, A60, H⟩ := H; replace H : (some (decide (tbf ≥ 0))) = some r := H; have A6 := AK A60; clear A60; obtain rfl := Option.some.inj H; go_enter Tryz.func71, Tryz.ntmps71; (go_wp2_with (first | ((with_reducible refine gate_callee (f := 61) rfl ?_); refine goesL_ (some 4) rfl rfl Tryz.func61 Zq3 rfl #[.int .u8 a0] rfl Zq10 ?_; (with_reducible refine (name_letter.calls a0 false _ A2.out).mono ?_); rintro e w' ⟨rfl, ⟨nd, rfl⟩⟩; refine ⟨_, rfl, ?_⟩) | (go_at_call 72; (with_reducible refine (strings_IndexByte.calls (⟨#[44, 46, 95, 43, 45]⟩ : ByteArray) a0 tbf _ A6.out).mono ?_); rintro e w' ⟨rfl, ⟨nd, rfl⟩⟩))); go_ret; exact ⟨Zq4, Zq8⟩
  ·rw [if_neg c4] at H; have c4b0 : decide (48 ≤ a0) = false := decide_eq_false c4; clear c4; replace H := Option.bind_eq_some_iff.mp H; obtain ⟨tbg, A70, H⟩ := H; replace H : (some (decide (tbg ≥ 0))) = some r := H; have A7 := AK A70; clear A70; obtain rfl := Option.some.inj H; go_enter Tryz.func71, Tryz.ntmps71; (go_wp2_with (first | ((with_reducible refine gate_callee (f := 61) rfl ?_); refine goesL_ (some 4) rfl rfl Tryz.func61 Zq3 rfl #[.int .u8 a0] rfl Zq10 ?_; (with_reducible refine (name_letter.calls a0 false _ A2.out).mono ?_); rintro e w' ⟨rfl, ⟨nd, rfl⟩⟩; refine ⟨_, rfl, ?_⟩) | (go_at_call 72; (with_reducible refine (strings_IndexByte.calls (⟨#[44, 46, 95, 43, 45]⟩ : ByteArray) a0 tbg _ A7.out).mono ?_); rintro e w' ⟨rfl, ⟨nd, rfl⟩⟩))); go_ret; exact ⟨Zq4, Zq8⟩
def name_all.l0 : Nat → ByteArray → ByteArray → Int → Int → Option (Bool)
 | 0, _, _, _, _ => none
 | k + 1, x0, x1, x7, x8 => if x8 < x7 then (if 0 ≤ x8 then (if x8 < (x0.size : Int) then ((name_plain.f (bt x0 x8)).bind fun tcc => (if tcc = true then (name_all.l0 k x0 x1 x7 (wrap64 (x8 + 1))) else ((strings_IndexByte.f x1 (bt x0 x8)).bind fun taU => (if taU < 0 then (some false) else (name_all.l0 k x0 x1 x7 (wrap64 (x8 + 1))))))) else (none)) else (none)) else (if (x0.size : Int) ≥ 1 then (some (decide ((x0.size : Int) ≤ 31))) else (some false))
def name_all.f (k : Nat) (a0 : ByteArray) (a1 : ByteArray) : Option (Bool) := name_all.l0 k a0 a1 (a0.size : Int) 0
theorem name_all.mono_l : ∀ k, (∀ y0 y1 y2 y3, LeO (name_all.l0 k y0 y1 y2 y3) (name_all.l0 (k + 1) y0 y1 y2 y3))
 | 0 => fun _ _ _ _ r h => by simp [name_all.l0] at h
 | k + 1 => by
  have ih0 := name_all.mono_l k
  ·intro y0 y1 y2 y3; unfold name_all.l0
   repeat' first | (with_reducible first | exact ih0 _ _ _ _ | exact LeO.refl _ | exact LeO.none _ | refine LeO.ite ?_ ?_ | refine LeO.bind ?_ (fun _ => ?_))
theorem name_all.mono : ∀ a0 a1 k, LeO (name_all.f k a0 a1) (name_all.f (k + 1) a0 a1) := by
 intro a0 a1 k; have ih0 := name_all.mono_l k; unfold name_all.f
 repeat' first | (with_reducible first | exact ih0 _ _ _ _ | exact LeO.refl _ | exact LeO.none _ | refine LeO.ite ?_ ?_ | refine LeO.bind ?_ (fun _ => ?_))
set_option maxHeartbeats 8000000 in
set_option maxRecDepth 100000 in
theorem name_all.calls (k : Nat) (a0 : ByteArray) (a1 : ByteArray) (r : Bool) (w : World) (h : name_all.f k a0 a1 = some r) :
  Calls Tryz.prog 60 #[.string a0, .string a1] w fun e w' => e = .returned (.bool r) ∧ Drawn0 w w' := by
 have H : (name_all.l0 k a0 a1 (a0.size : Int) 0) = some r := h; clear h; have H' := AK H; clear H; go_enter Tryz.func60, Tryz.ntmps60; go_wp2
 go_loopg [8] k (fun kq v8 w' => ∃ (x8_1 : Int), v8 = .int .i64 x8_1 ∧ Aside0 (name_all.l0 kq a0 a1 (a0.size : Int) x8_1 = some r) ∧ Aside0 (kq ≤ k) ∧ Drawn0 w w')
 case atStart => exact ⟨(0), Zq4, H', ⟨Nat.le_refl _⟩, Zq8⟩
 case round =>
  clear H'; obtain ⟨x8_1, rfl, HA, HK1, ⟨m1, rfl⟩⟩ := hrel
  cases gk with
  | zero => exact absurd HA.out (by simp [name_all.l0])
  | succ k1 =>
   have H := HA.out; clear HA; simp only [name_all.l0] at H
   by_cases c3 : x8_1 < (a0.size : Int)
   ·rw [if_pos c3] at H; have c3b0 : decide (x8_1 < (a0.size : Int)) = true := decide_eq_true c3; clear c3
    by_cases c4 : 0 ≤ x8_1
    ·rw [if_pos c4] at H; have c4b0 : decide (0 ≤ x8_1) = true := decide_eq_true c4; clear c4
     by_cases c5 : x8_1 < (a0.size : Int)
     ·rw [if_pos c5] at H; have c5b0 : decide (x8_1 < (a0.size : Int)) = true := decide_eq_true c5; clear c5; replace H := Option.bind_eq_some_iff.mp H; obtain ⟨tcc, A70, H⟩ := H; replace H : (if tcc = true then (name_all.l0 k1 a0 a1 (a0.size : Int) (wrap64 (x8_1 + 1))) else ((strings_IndexByte.f a1 (bt a0 x8_1)).bind fun taU => (if taU < 0 then (some false) else (name_all.l0 k1 a0 a1 (a0.size : Int) (wrap64 (x8_1 + 1)))))) = some r := H; have A7 := AK A70; clear A70
      by_cases c8 : tcc = true
      ·subst c8
       have H1 : (name_all.l0 k1 a0 a1 (a0.size : Int) (wrap64 (x8_1 + 1))) = some r := by rw [if_pos rfl] at H; exact H
       clear H; have H := H1; clear H1; have H' := AK H; clear H; have p6 : 0 ≤ (x8_1 : Int) := of_decide_eq_true Zq5; have q6 : x8_1 < (a0.size : Int) := of_decide_eq_true Zq5; have hx6 := bt_at a0 x8_1; replace p6 := eq_true p6; replace q6 := eq_true q6; go_wp2_with (first | ((with_reducible refine gate_callee (f := 71) rfl ?_); refine goesL_ (some 14) rfl rfl Tryz.func71 Zq3 rfl #[.int .u8 (bt a0 x8_1)] rfl Zq10 ?_; (with_reducible refine (name_plain.calls (bt a0 x8_1) true _ A7.out).mono ?_); rintro e w' ⟨rfl, ⟨nd, rfl⟩⟩; refine ⟨_, rfl, ?_⟩))
       go_roundg k1
       case measure => have := HK1.out; omega
       case rel => exact ⟨(wrap64 (x8_1 + 1)), Zq4, H', ⟨Zq14⟩, Zq8⟩
      ·replace c8 := Bool.eq_false_iff.mpr c8; subst c8
       have H1 : ((strings_IndexByte.f a1 (bt a0 x8_1)).bind fun taU => (if taU < 0 then (some false) else (name_all.l0 k1 a0 a1 (a0.size : Int) (wrap64 (x8_1 + 1))))) = some r := by rw [if_neg (show ¬ (false = true) by decide)] at H; exact H
       clear H; have H := H1; clear H1; replace H := Option.bind_eq_some_iff.mp H; obtain ⟨taU, Abu, H⟩ := H; replace H : (if taU < 0 then (some false) else (name_all.l0 k1 a0 a1 (a0.size : Int) (wrap64 (x8_1 + 1)))) = some r := H; have A10 := AK Abu; clear Abu
       by_cases c11 : taU < 0
       ·rw [if_pos c11] at H; have c11b0 : decide (taU < 0) = true := decide_eq_true c11; clear c11; obtain rfl := Option.some.inj H; have p6 : 0 ≤ (x8_1 : Int) := of_decide_eq_true Zq5; have q6 : x8_1 < (a0.size : Int) := of_decide_eq_true Zq5; have hx6 := bt_at a0 x8_1; replace p6 := eq_true p6; replace q6 := eq_true q6; (go_wp2_with (first | ((with_reducible refine gate_callee (f := 71) rfl ?_); refine goesL_ (some 14) rfl rfl Tryz.func71 Zq3 rfl #[.int .u8 (bt a0 x8_1)] rfl Zq10 ?_; (with_reducible refine (name_plain.calls (bt a0 x8_1) false _ A7.out).mono ?_); rintro e w' ⟨rfl, ⟨nd, rfl⟩⟩; refine ⟨_, rfl, ?_⟩; have p9 : 0 ≤ (x8_1 : Int) := of_decide_eq_true Zq5; have q9 : x8_1 < (a0.size : Int) := of_decide_eq_true Zq5; have hx9 := bt_at a0 x8_1; replace p9 := eq_true p9; replace q9 := eq_true q9) | (go_at_call 72; (with_reducible refine (strings_IndexByte.calls a1 (bt a0 x8_1) taU _ A10.out).mono ?_); rintro e w' ⟨rfl, ⟨nd, rfl⟩⟩))); go_ret; exact ⟨Zq4, Zq8⟩
       ·rw [if_neg c11] at H; have c11b0 : decide (taU < 0) = false := decide_eq_false c11; clear c11; have H' := AK H; clear H; have p6 : 0 ≤ (x8_1 : Int) := of_decide_eq_true Zq5; have q6 : x8_1 < (a0.size : Int) := of_decide_eq_true Zq5; have hx6 := bt_at a0 x8_1; replace p6 := eq_true p6; replace q6 := eq_true q6; go_wp2_with (first | ((with_reducible refine gate_callee (f := 71) rfl ?_); refine goesL_ (some 14) rfl rfl Tryz.func71 Zq3 rfl #[.int .u8 (bt a0 x8_1)] rfl Zq10 ?_; (with_reducible refine (name_plain.calls (bt a0 x8_1) false _ A7.out).mono ?_); rintro e w' ⟨rfl, ⟨nd, rfl⟩⟩; refine ⟨_, rfl, ?_⟩; have p9 : 0 ≤ (x8_1 : Int) := of_decide_eq_true Zq5; have q9 : x8_1 < (a0.size : Int) := of_decide_eq_true Zq5; have hx9 := bt_at a0 x8_1; replace p9 := eq_true p9; replace q9 := eq_true q9) | (go_at_call 72; (with_reducible refine (strings_IndexByte.calls a1 (bt a0 x8_1) taU _ A10.out).mono ?_); rintro e w' ⟨rfl, ⟨nd, rfl⟩⟩))
        go_roundg k1
        case measure => have := HK1.out; omega
        case rel => exact ⟨(wrap64 (x8_1 + 1)), Zq4, H', ⟨Zq14⟩, Zq8⟩
     ·rw [if_neg c5] at H; exact absurd H Zq7
    ·rw [if_neg c4] at H; exact absurd H Zq7
   ·rw [if_neg c3] at H; have c3b0 : decide (x8_1 < (a0.size : Int)) = false := decide_eq_false c3; clear c3
    by_cases c12 : (a0.size : Int) ≥ 1
    ·rw [if_pos c12] at H; have c12b0 : decide (1 ≤ (a0.size : Int)) = true := decide_eq_true c12; have c12b1 : decide (1 ≤ a0.size) = true := decide_eq_true Zq1; clear c12; obtain rfl := Option.some.inj H; go_wp2; go_ret; exact ⟨Zq4, Zq8⟩
    ·rw [if_neg c12] at H; have c12b0 : decide (1 ≤ (a0.size : Int)) = false := decide_eq_false c12; have c12b1 : decide (1 ≤ a0.size) = false := decide_eq_false Zq1; clear c12; obtain rfl := Option.some.inj H; go_wp2; go_ret; exact ⟨Zq4, Zq8⟩
def name_Prop.f (k : Nat) (a0 : ByteArray) : Option (Bool) := (name_all.f k a0 (⟨#[63, 35]⟩ : ByteArray)).bind fun tbF => (some tbF)
theorem name_Prop.mono : ∀ a0 k, LeO (name_Prop.f k a0) (name_Prop.f (k + 1) a0) := by
 intro a0 k; unfold name_Prop.f
 repeat' first | (with_reducible first | exact name_all.mono _ _ _ | exact LeO.refl _ | exact LeO.none _ | refine LeO.ite ?_ ?_ | refine LeO.bind ?_ (fun _ => ?_))
end Go.Proofs.YtkopmkinlanhoaaGreat.PE

namespace Go.Proofs.YtkopmkinlanhoaaGreat.PE
open Go.RowKit Go.Proofs.YtkopmkinlanhoaaGreatW.PrintWords Go.Proofs.YtkopmkinlanhoaaGreatW.PrintLast Go.Proofs.YtkopmkinlanhoaaGreatW.PrintMore
attribute [local go_sem] max2_int min2_int max_two min_two max_three min_three max_four min_four
set_option maxHeartbeats 8000000 in
set_option maxRecDepth 100000 in
theorem name_Prop.calls (k : Nat) (a0 : ByteArray) (r : Bool) (w : World) (h : name_Prop.f k a0 = some r) :
  Calls Tryz.prog 46 #[.string a0] w fun e w' => e = .returned (.bool r) ∧ Drawn0 w w' := by
 have H : ((name_all.f k a0 (⟨#[63, 35]⟩ : ByteArray)).bind fun tbF => (some tbF)) = some r := h; clear h; replace H := Option.bind_eq_some_iff.mp H; obtain ⟨tbF, A20, H⟩ := H; replace H : (some tbF) = some r := H; have A2 := AK A20; clear A20; obtain rfl := Option.some.inj H; go_enter Tryz.func46, Tryz.ntmps46; (go_wp2_with (first | ((with_reducible refine gate_callee (f := 60) rfl ?_); refine goesL_ (some 4) rfl rfl Tryz.func60 Zq3 rfl #[.string a0, .string (⟨#[63, 35]⟩ : ByteArray)] rfl Zq10 ?_; (with_reducible refine (name_all.calls k a0 (⟨#[63, 35]⟩ : ByteArray) tbF _ A2.out).mono ?_); rintro e w' ⟨rfl, ⟨nd, rfl⟩⟩; refine ⟨_, rfl, ?_⟩))); go_ret; exact ⟨Zq4, Zq8⟩
mutual
def tree_names.l0 : Nat → List ByteArray → List (S68) → Int → Int → ByteArray → List (S68) → List (S27) → Option (List ByteArray × List ByteArray)
 | 0, _, _, _, _, _, _, _ => none
 | k + 1, x4, x11, x12, x13, xcA, xcB, xcg => if x13 < x12 then (if 0 ≤ x13 then (if x13 < (x11.length : Int) then (if x4.length < 8796093022208 then (tree_names.l0 k (x4 ++ [(rd_T68 x11 x13).f0]) x11 x12 (wrap64 (x13 + 1)) xcA xcB xcg) else (none)) else (none)) else (none)) else (tree_names.l1 k x4 ([] : List ByteArray) xcg (xcg.length : Int) 0)
def tree_names.l1 : Nat → List ByteArray → List ByteArray → List (S27) → Int → Int → Option (List ByteArray × List ByteArray)
 | 0, _, _, _, _, _ => none
 | k + 1, x4, x5, x24, x25, x26 => if x26 < x25 then (if 0 ≤ x26 then (if x26 < (x24.length : Int) then (if x5.length < 8796093022208 then (tree_names.l1 k x4 (x5 ++ [(rd_T27 x24 x26).f0]) x24 x25 (wrap64 (x26 + 1))) else (none)) else (none)) else (none)) else (some (x4, x5))
end
def tree_names.f (k : Nat) (a0_0 : ByteArray) (l0_1 : List (S68)) (l0_2 : List (S27)) : Option (List ByteArray × List ByteArray) := tree_names.l0 k ([] : List ByteArray) l0_1 (l0_1.length : Int) 0 a0_0 l0_1 l0_2
theorem tree_names.mono_l : ∀ k, (∀ y0 y1 y2 y3 y4 y5 y6, LeO (tree_names.l0 k y0 y1 y2 y3 y4 y5 y6) (tree_names.l0 (k + 1) y0 y1 y2 y3 y4 y5 y6)) ∧ (∀ y0 y1 y2 y3 y4, LeO (tree_names.l1 k y0 y1 y2 y3 y4) (tree_names.l1 (k + 1) y0 y1 y2 y3 y4))
 | 0 => ⟨fun _ _ _ _ _ _ _ r h => by simp [tree_names.l0] at h, fun _ _ _ _ _ r h => by simp [tree_names.l1] at h⟩
 | k + 1 => by
  obtain ⟨ih0, ih1⟩ := tree_names.mono_l k; refine ⟨?_, ?_⟩
  ·intro y0 y1 y2 y3 y4 y5 y6; unfold tree_names.l0
   repeat' first | (with_reducible first | exact ih0 _ _ _ _ _ _ _ | exact ih1 _ _ _ _ _ | exact LeO.refl _ | exact LeO.none _ | refine LeO.ite ?_ ?_ | refine LeO.bind ?_ (fun _ => ?_))
  ·intro y0 y1 y2 y3 y4; unfold tree_names.l1
   repeat' first | (with_reducible first | exact ih0 _ _ _ _ _ _ _ | exact ih1 _ _ _ _ _ | exact LeO.refl _ | exact LeO.none _ | refine LeO.ite ?_ ?_ | refine LeO.bind ?_ (fun _ => ?_))
theorem tree_names.mono : ∀ a0 a1 a2 k, LeO (tree_names.f k a0 a1 a2) (tree_names.f (k + 1) a0 a1 a2) := by
 intro a0 a1 a2 k; obtain ⟨ih0, ih1⟩ := tree_names.mono_l k; unfold tree_names.f
 repeat' first | (with_reducible first | exact ih0 _ _ _ _ _ _ _ | exact ih1 _ _ _ _ _ | exact LeO.refl _ | exact LeO.none _ | refine LeO.ite ?_ ?_ | refine LeO.bind ?_ (fun _ => ?_))
set_option maxHeartbeats 8000000 in
set_option maxRecDepth 100000 in
theorem tree_names.calls (k : Nat) (a0_0 : ByteArray) (A0_1 : Option Addr) (c0_1 : Nat) (l0_1 : List (S68)) (A0_2 : Option Addr) (c0_2 : Nat) (l0_2 : List (S27)) (r1 : List ByteArray) (r2 : List ByteArray) (w : World) (hr0_1 : Kd.C k68 w A0_1 l0_1.length l0_1) (hc0_1 : l0_1.length ≤ c0_1) (hr0_2 : Kd.C k27 w A0_2 l0_2.length l0_2) (hc0_2 : l0_2.length ≤ c0_2) (h : tree_names.f k a0_0 l0_1 l0_2 = some (r1, r2)) :
  Calls Tryz.prog 42 #[.agg #[.string a0_0, .slice A0_1 l0_1.length c0_1, .slice A0_2 l0_2.length c0_2]] w fun e w' => ∃ v0_ v1_ : Value, e = .returned (.tuple #[v0_, v1_]) ∧ Kd.R Kd.string 9 w' w.heap.size (fun k_ => some k_ ≠ (v1_ : Value).ownBlock) v0_ r1 ∧ Kd.R Kd.string 9 w' w.heap.size (fun k_ => some k_ ≠ (v0_ : Value).ownBlock) v1_ r2 ∧ Below w.heap.size w w' := by
 have hu27 := Tryz.underlying27; have hu68 := Tryz.underlying68; have HR0_1 := AK hr0_1; have HC0_1 := AK hc0_1; clear hr0_1 hc0_1; have HR0_2 := AK hr0_2; have HC0_2 := AK hc0_2; clear hr0_2 hc0_2; have HB := Zq70; have H : (tree_names.l0 k ([] : List ByteArray) l0_1 (l0_1.length : Int) 0 a0_0 l0_1 l0_2) = some (r1, r2) := h; clear h; have H' := AK H; clear H; go_enter Tryz.func42, Tryz.ntmps42; go_wp2_with (first | ((with_reducible refine gate_dst (N := 1) rfl ?_); refine box_event ?hg (N := 1) ?hd (cs := #[.string a0_0, .slice A0_1 l0_1.length c0_1, .slice A0_2 l0_2.length c0_2]) (t := 27) ?hr ?_; (case hd | hg => rfl); (case hr => first | (go_simp; done) | (go_simp; rfl)); intro gbai hg w2 hbox hb; have n_ := Zn4 Zq61 (AK (hbox)) (AK (by rw [hg]; exact (below_size Zq6) : w.heap.size ≤ gbai)) (AK (by rw [hg]; exact (below_size Zq6) : w.heap.size ≤ gbai)); clear HB; obtain ⟨HB, BKai, GWai, GEai⟩ := n_; clear hb hbox hg; obtain ⟨hcz3_0, hcz3_1, hcz3_2, hfz3_0, hfz3_1, hfz3_2⟩ := Zk3 BKai.out))
 go_loopg [4, 13] k (fun kq v4 v13 w' => ∃ (x4_1 : List ByteArray) (x13_1 : Int), v13 = .int .i64 x13_1 ∧ Aside0 (tree_names.l0 kq x4_1 l0_1 (l0_1.length : Int) x13_1 a0_0 l0_1 l0_2 = some (r1, r2)) ∧ Aside0 (kq ≤ k) ∧ Aside0 (Kd.R Kd.string 9 w' w.heap.size (fun _ => True) v4 x4_1) ∧ Aside0 (w'.heap[gbai]? = some (.cells #[.string a0_0, (.slice A0_1 l0_1.length c0_1), (.slice A0_2 l0_2.length c0_2)] 27 (0, 0))) ∧ Aside0 (Below w.heap.size w w'))
 case atStart => exact ⟨(([] : List ByteArray)), (0), Zq4, H', ⟨Nat.le_refl _⟩, ⟨Zq48⟩, ⟨Zq31⟩, ⟨Zq36⟩⟩
 case round =>
  clear H'; (try clear hcz3_0); (try clear hcz3_1); (try clear hcz3_2); (try clear hfz3_0); (try clear hfz3_1); (try clear hfz3_2); obtain ⟨x4_1, x13_1, rfl, HA, HK1, HO_4, BKai, HB⟩ := hrel
  cases gk with
  | zero => exact absurd HA.out (by simp [tree_names.l0])
  | succ k1 =>
   have H := HA.out; clear HA; simp only [tree_names.l0] at H
   by_cases c4 : x13_1 < (l0_1.length : Int)
   ·rw [if_pos c4] at H; have c4b0 : decide (x13_1 < (l0_1.length : Int)) = true := decide_eq_true c4; clear c4
    by_cases c5 : 0 ≤ x13_1
    ·rw [if_pos c5] at H; have c5b0 : decide (0 ≤ x13_1) = true := decide_eq_true c5; clear c5
     by_cases c6 : x13_1 < (l0_1.length : Int)
     ·rw [if_pos c6] at H; have c6b0 : decide (x13_1 < (l0_1.length : Int)) = true := decide_eq_true c6; clear c6
      by_cases c7 : x4_1.length < 8796093022208
      ·rw [if_pos c7] at H; have LMc7 := AK c7; clear c7
       obtain ⟨ybh, hybh⟩ : ∃ y_ : List ByteArray, y_ = (x4_1 ++ [(rd_T68 l0_1 x13_1).f0]) := ⟨_, rfl⟩
       replace H : (tree_names.l0 k1 ybh l0_1 (l0_1.length : Int) (wrap64 (x13_1 + 1)) a0_0 l0_1 l0_2) = some (r1, r2) := by first | (rw [hybh]; with_reducible exact H) | (have H2_ := (Option.bind_some _ _).symm.trans H; rw [hybh]; with_reducible exact H2_) | (have H2_ := (Option.bind_some _ _).symm.trans H; with_reducible exact H2_) | with_reducible exact H | (rw [hybh]; exact H) | exact H
       have Nybh := AK hybh; clear hybh; have H' := AK H; clear H; have p108 : 0 ≤ (x13_1 : Int) := of_decide_eq_true Zq5; have q108 : x13_1 < (l0_1.length : Int) := of_decide_eq_true Zq5; obtain ⟨adaj, Aaj_1, caj_1, e108, hx108_0, hx108_1, hl108_1, hi108_1⟩ := at_T68 HR0_1.out x13_1 p108 q108; cases e108; replace hx108_0 := (HB.out.cell (World.block_lt_of_cell? w _ hx108_0)).trans hx108_0; replace hx108_1 := (HB.out.cell (World.block_lt_of_cell? w _ hx108_1)).trans hx108_1; have HRaj_1 := AK hi108_1; have HCaj_1 := AK hl108_1; clear hi108_1 hl108_1; replace p108 := eq_true p108; replace q108 := eq_true q108; go_wp2_with (first | ((with_reducible refine gate_dst (N := 7) rfl ?_); refine box_event ?hg (N := 7) ?hd (cs := #[.string (⟨#[]⟩ : ByteArray), .slice none 0 0]) (t := 68) ?hr ?_; (case hd | hg => rfl); (case hr => first | (go_simp; done) | (go_simp; rfl)); intro gbaO hg w8 hbox hb; have n_ := Zn8 Zq114 (AK (blk_below (g := gbai) (o := .cells #[.string a0_0, .slice (some adaj) l0_1.length c0_1, .slice A0_2 l0_2.length c0_2] 27 (0, 0)) Zq31 hb)) (AK (below_step Zq36 hb)) (AK (hbox)) (AK (by rw [hg]; exact (below_size Zq36) : w.heap.size ≤ gbaO)) (AK (by rw [hg]; exact (below_size Zq36) : w.heap.size ≤ gbaO)) (AK (by rw [hg]; exact Nat.ne_of_lt Zq112 : gbai ≠ gbaO)) (AK (by rw [hg]; exact Nat.ne_of_gt Zq112 : gbaO ≠ gbai)); clear HO_4 BKai HB; obtain ⟨HO_4, BKai, HB, BKaO, GWaO, GEaO, NB107_109, NB109_107⟩ := n_; clear hb hbox hg; have hnb9 := NB109_107.out; have hnc9 := NB107_109.out; obtain ⟨hcz10_0, hcz10_1, hfz10_0, hfz10_1⟩ := Zk2 BKaO.out) | ((with_reducible refine gate_builtin (b := .append) (xs := #[.tmp 17, .tmp 20]) rfl ?_); at_builtin; refine Kd.R_append Kd.string (w0 := w) w.heap.size rfl (.tmp 17) (.tmp 20) 59 9 (.string ⟨#[]⟩) 16 rfl Tryz.underlying59 info9 rfl Zq2 Zq1 u4 x4_1 ((rd_T68 l0_1 x13_1).f0) [.string ((rd_T68 l0_1 x13_1).f0)] (fun _ => True) (fun _ => False) rfl (by first | (go_simp; done) | (go_simp; rfl)) ?aP (fun _ hk => hk.elim) ?aF ?aO ?aB ?aS ?aL ?_; (case aP => exact rfl); (case aB => exact Zq54); (case aF => exact (fun _ _ => trivial)); (case aO => exact (by (with_reducible repeat (first | apply Kd.R_alloc | apply Kd.R_drewN | apply Kd.R_drew)); exact Kd.R_mono (Kd.R_far (p := ⟨gbaO, 1, none⟩) (Kd.R_far (p := ⟨gbaO, 0, none⟩) (Kd.R_types HO_4.out BKaO.out Zq2) (fun _ hk => hk.2) (.string ((rd_T68 l0_1 x13_1).f0))) (fun _ hk => hk.2) (.slice Aaj_1 ((rd_T68 l0_1 x13_1).f1).length caj_1)) (fun _ hk => trivial))); (case aS => exact (below_size Zq54)); (case aL => have := LMc7.out; omega); intro v111 w11 ho hb hg hat; rw [← Nybh.out] at ho; have n_ := Zn4 (AK (blk_grown (g := gbai) (o := .cells #[.string a0_0, .slice (some adaj) l0_1.length c0_1, .slice A0_2 l0_2.length c0_2] 27 (0, 0)) (Zf2 BKai.out NB107_109.out) hg (Kd.R_ne HO_4.out BKai.out Zq2))) (AK (blk_grown (g := gbaO) (o := .cells #[.string ((rd_T68 l0_1 x13_1).f0), .slice Aaj_1 ((rd_T68 l0_1 x13_1).f1).length caj_1] 68 (0, 0)) (Zp2 BKaO.out) hg (Kd.R_ne HO_4.out BKaO.out Zq2))) (AK (hb)) (AK (ho)); clear BKai BKaO HB HO_4; obtain ⟨BKai, BKaO, HB, HOcC⟩ := n_; clear ho hb hg hat))
       go_roundg k1
       case measure => have := HK1.out; omega
       case rel => exact ⟨(ybh), (wrap64 (x13_1 + 1)), Zq4, H', ⟨Zq14⟩, ⟨by (with_reducible repeat (first | apply Kd.R_alloc | apply Kd.R_drewN | apply Kd.R_drew)); exact HOcC.out⟩, ⟨Zq31⟩, ⟨Zq54⟩⟩
      ·rw [if_neg c7] at H; exact absurd H Zq7
     ·rw [if_neg c6] at H; exact absurd H Zq7
    ·rw [if_neg c5] at H; exact absurd H Zq7
   ·rw [if_neg c4] at H; have c4b0 : decide (x13_1 < (l0_1.length : Int)) = false := decide_eq_false c4; clear c4; have H' := AK H; clear H; obtain ⟨hcz12_0, hcz12_1, hcz12_2, hfz12_0, hfz12_1, hfz12_2⟩ := Zk3 BKai.out; go_wp2
    go_loopg [5, 26] k1 (fun kq v5 v26 w' => ∃ (x5_2 : List ByteArray) (x26_2 : Int), v26 = .int .i64 x26_2 ∧ Aside0 (tree_names.l1 kq x4_1 x5_2 l0_2 (l0_2.length : Int) x26_2 = some (r1, r2)) ∧ Aside0 (kq ≤ k1) ∧ Aside0 (Kd.R Kd.string 9 w' w.heap.size (fun k_ => some k_ ≠ (v5 : Value).ownBlock) u4 x4_1) ∧ Aside0 (Kd.R Kd.string 9 w' w.heap.size (fun k_ => some k_ ≠ (u4 : Value).ownBlock) v5 x5_2) ∧ Aside0 (w'.heap[gbai]? = some (.cells #[.string a0_0, (.slice A0_1 l0_1.length c0_1), (.slice A0_2 l0_2.length c0_2)] 27 (0, 0))) ∧ Aside0 (Below w.heap.size w w'))
    case atStart => exact ⟨(([] : List ByteArray)), (0), Zq4, H', ⟨Nat.le_refl _⟩, ⟨by (with_reducible repeat (first | apply Kd.R_alloc | apply Kd.R_drewN | apply Kd.R_drew)); exact Kd.R_mono HO_4.out (fun _ hk => (by simp [Value.ownBlock]))⟩, ⟨Zq48⟩, ⟨Zq31⟩, ⟨Zq36⟩⟩
    case round =>
     clear H'; (try clear c4b0); (try clear c5); (try clear c5b0); (try clear c6); (try clear c6b0); (try clear c7); (try clear hcz10_0); (try clear hcz10_1); (try clear hcz12_0); (try clear hcz12_1); (try clear hcz12_2); (try clear hcz3_0); (try clear hcz3_1); (try clear hcz3_2); (try clear hfz10_0); (try clear hfz10_1); (try clear hfz12_0); (try clear hfz12_1); (try clear hfz12_2); (try clear hfz3_0); (try clear hfz3_1); (try clear hfz3_2); (try clear hx108_0); (try clear hx108_1); (try clear p108); (try clear q108); obtain ⟨x5_2, x26_2, rfl, HA, HK2, HO_4, HO_5, BKai, HB⟩ := hrel
     cases gk with
     | zero => exact absurd HA.out (by simp [tree_names.l1])
     | succ k2 =>
      have H := HA.out; clear HA; simp only [tree_names.l1] at H
      by_cases c13 : x26_2 < (l0_2.length : Int)
      ·rw [if_pos c13] at H; have c13b0 : decide (x26_2 < (l0_2.length : Int)) = true := decide_eq_true c13; clear c13
       by_cases c14 : 0 ≤ x26_2
       ·rw [if_pos c14] at H; have c14b0 : decide (0 ≤ x26_2) = true := decide_eq_true c14; clear c14
        by_cases c15 : x26_2 < (l0_2.length : Int)
        ·rw [if_pos c15] at H; have c15b0 : decide (x26_2 < (l0_2.length : Int)) = true := decide_eq_true c15; clear c15
         by_cases c16 : x5_2.length < 8796093022208
         ·rw [if_pos c16] at H; have LMc16 := AK c16; clear c16
          obtain ⟨ybi, hybi⟩ : ∃ y_ : List ByteArray, y_ = (x5_2 ++ [(rd_T27 l0_2 x26_2).f0]) := ⟨_, rfl⟩
          replace H : (tree_names.l1 k2 x4_1 ybi l0_2 (l0_2.length : Int) (wrap64 (x26_2 + 1))) = some (r1, r2) := by first | (rw [hybi]; with_reducible exact H) | (have H2_ := (Option.bind_some _ _).symm.trans H; rw [hybi]; with_reducible exact H2_) | (have H2_ := (Option.bind_some _ _).symm.trans H; with_reducible exact H2_) | with_reducible exact H | (rw [hybi]; exact H) | exact H
          have Nybi := AK hybi; clear hybi; have H' := AK H; clear H; have p113 : 0 ≤ (x26_2 : Int) := of_decide_eq_true Zq5; have q113 : x26_2 < (l0_2.length : Int) := of_decide_eq_true Zq5; obtain ⟨adar, Aar_1, car_1, Aar_2, car_2, e113, hx113_0, hx113_1, hx113_2, hl113_1, hi113_1, hl113_2, hi113_2⟩ := at_T27 HR0_2.out x26_2 p113 q113; cases e113; replace hx113_0 := (HB.out.cell (World.block_lt_of_cell? w _ hx113_0)).trans hx113_0; replace hx113_1 := (HB.out.cell (World.block_lt_of_cell? w _ hx113_1)).trans hx113_1; replace hx113_2 := (HB.out.cell (World.block_lt_of_cell? w _ hx113_2)).trans hx113_2; have HRar_1 := AK hi113_1; have HCar_1 := AK hl113_1; clear hi113_1 hl113_1; have HRar_2 := AK hi113_2; have HCar_2 := AK hl113_2; clear hi113_2 hl113_2; replace p113 := eq_true p113; replace q113 := eq_true q113; go_wp2_with (first | ((with_reducible refine gate_dst (N := 9) rfl ?_); refine box_event ?hg (N := 9) ?hd (cs := #[.string (⟨#[]⟩ : ByteArray), .slice none 0 0, .slice none 0 0]) (t := 27) ?hr ?_; (case hd | hg => rfl); (case hr => first | (go_simp; done) | (go_simp; rfl)); intro gbax hg w17 hbox hb; have n_ := Zn9 Zq114 (AK (Kd.R_below Zq50 hb)) (AK (blk_below (g := gbai) (o := .cells #[.string a0_0, .slice A0_1 l0_1.length c0_1, .slice (some adar) l0_2.length c0_2] 27 (0, 0)) Zq31 hb)) (AK (below_step Zq36 hb)) (AK (hbox)) (AK (by rw [hg]; exact (below_size Zq36) : w.heap.size ≤ gbax)) (AK (by rw [hg]; exact (below_size Zq36) : w.heap.size ≤ gbax)) (AK (by rw [hg]; exact Nat.ne_of_lt Zq113 : gbai ≠ gbax)) (AK (by rw [hg]; exact Nat.ne_of_gt Zq113 : gbax ≠ gbai)); clear HO_4 HO_5 BKai HB; obtain ⟨HO_4, HO_5, BKai, HB, BKax, GWax, GEax, NB107_114, NB114_107⟩ := n_; clear hb hbox hg; have hnb18 := NB114_107.out; have hnc18 := NB107_114.out; obtain ⟨hcz19_0, hcz19_1, hcz19_2, hfz19_0, hfz19_1, hfz19_2⟩ := Zk3 BKax.out) | ((with_reducible refine gate_builtin (b := .append) (xs := #[.tmp 30, .tmp 33]) rfl ?_); at_builtin; refine Kd.R_append Kd.string (w0 := w) w.heap.size rfl (.tmp 30) (.tmp 33) 59 9 (.string ⟨#[]⟩) 16 rfl Tryz.underlying59 info9 rfl Zq2 Zq1 u5 x5_2 ((rd_T27 l0_2 x26_2).f0) [.string ((rd_T27 l0_2 x26_2).f0)] (fun k_ => some k_ ≠ (u4 : Value).ownBlock) (fun _ => False) rfl (by first | (go_simp; done) | (go_simp; rfl)) ?aP (fun _ hk => hk.elim) ?aF ?aO ?aB ?aS ?aL ?_; (case aP => exact rfl); (case aB => exact Zq55); (case aF => exact (fun k_ hk => Kd.fresh' (Kd.R_lt (by (with_reducible repeat (first | apply Kd.R_alloc | apply Kd.R_drewN | apply Kd.R_drew)); exact (Kd.R_mono (Kd.R_far (p := ⟨gbax, 2, none⟩) (Kd.R_far (p := ⟨gbax, 1, none⟩) (Kd.R_far (p := ⟨gbax, 0, none⟩) (Kd.R_types HO_4.out BKax.out Zq2) (fun _ hk => hk.2) (.string ((rd_T27 l0_2 x26_2).f0))) (fun _ hk => hk.2) (.slice Aar_1 ((rd_T27 l0_2 x26_2).f1).length car_1)) (fun _ hk => hk.2) (.slice Aar_2 ((rd_T27 l0_2 x26_2).f2).length car_2)) (fun _ h_ => h_.1)))) k_ hk)); (case aO => exact (by (with_reducible repeat (first | apply Kd.R_alloc | apply Kd.R_drewN | apply Kd.R_drew)); exact Kd.R_mono (Kd.R_far (p := ⟨gbax, 2, none⟩) (Kd.R_far (p := ⟨gbax, 1, none⟩) (Kd.R_far (p := ⟨gbax, 0, none⟩) (Kd.R_types HO_5.out BKax.out Zq2) (fun _ hk => hk.2) (.string ((rd_T27 l0_2 x26_2).f0))) (fun _ hk => hk.2) (.slice Aar_1 ((rd_T27 l0_2 x26_2).f1).length car_1)) (fun _ hk => hk.2) (.slice Aar_2 ((rd_T27 l0_2 x26_2).f2).length car_2)) (fun _ hk => hk.1))); (case aS => exact (below_size Zq55)); (case aL => have := LMc16.out; omega); intro v116 w20 ho hb hg hat; rw [← Nybi.out] at ho; have n_ := Zn5 (AK (Kd.R_after (ok := (fun _ => True)) (by (with_reducible repeat (first | apply Kd.R_alloc | apply Kd.R_drewN | apply Kd.R_drew)); exact Kd.R_mono (Kd.R_far (p := ⟨gbax, 2, none⟩) (Kd.R_far (p := ⟨gbax, 1, none⟩) (Kd.R_far (p := ⟨gbax, 0, none⟩) (Kd.R_types HO_4.out BKax.out Zq2) (fun _ hk => hk.2) (.string ((rd_T27 l0_2 x26_2).f0))) (fun _ hk => hk.2) (.slice Aar_1 ((rd_T27 l0_2 x26_2).f1).length car_1)) (fun _ hk => hk.2) (.slice Aar_2 ((rd_T27 l0_2 x26_2).f2).length car_2)) (fun _ hk => ⟨trivial, hk.1⟩)) hg hat)) (AK (blk_grown (g := gbai) (o := .cells #[.string a0_0, .slice A0_1 l0_1.length c0_1, .slice (some adar) l0_2.length c0_2] 27 (0, 0)) (Zf3 BKai.out NB107_114.out) hg (Kd.R_ne HO_5.out BKai.out Zq2))) (AK (blk_grown (g := gbax) (o := .cells #[.string ((rd_T27 l0_2 x26_2).f0), .slice Aar_1 ((rd_T27 l0_2 x26_2).f1).length car_1, .slice Aar_2 ((rd_T27 l0_2 x26_2).f2).length car_2] 27 (0, 0)) (Zp3 BKax.out) hg (Kd.R_ne HO_5.out BKax.out Zq2))) (AK (hb)) (AK (ho)); clear HO_4 BKai BKax HB HO_5; obtain ⟨HO_4, BKai, BKax, HB, HOcd⟩ := n_; clear ho hb hg hat))
          go_roundg k2
          case measure => have := HK1.out; have := HK2.out; omega
          case rel => exact ⟨(ybi), (wrap64 (x26_2 + 1)), Zq4, H', ⟨Zq30⟩, ⟨by (with_reducible repeat (first | apply Kd.R_alloc | apply Kd.R_drewN | apply Kd.R_drew)); exact Kd.R_mono HO_4.out (fun _ hk => hk.2)⟩, ⟨by (with_reducible repeat (first | apply Kd.R_alloc | apply Kd.R_drewN | apply Kd.R_drew)); exact HOcd.out⟩, ⟨Zq31⟩, ⟨Zq55⟩⟩
         ·rw [if_neg c16] at H; exact absurd H Zq7
        ·rw [if_neg c15] at H; exact absurd H Zq7
       ·rw [if_neg c14] at H; exact absurd H Zq7
      ·rw [if_neg c13] at H; have c13b0 : decide (x26_2 < (l0_2.length : Int)) = false := decide_eq_false c13; clear c13; simp only [Option.some.injEq, Prod.mk.injEq] at H; obtain ⟨rfl, rfl⟩ := H; go_wp2
       go_ret2
       exact ⟨_, _, Zq11, by (with_reducible repeat (first | apply Kd.R_alloc | apply Kd.R_drewN | apply Kd.R_drew)); exact HO_4.out, Zq50, Zq36⟩
def stringslite_Index.f (a0 : ByteArray) (a1 : ByteArray) : Option (Int) := match a1.data.toList with | [c] => some (Lib.indexByte a0.data.toList c) | _ => none
theorem stringslite_Index.calls (a0 : ByteArray) (a1 : ByteArray) (r : Int) (w : World) (h : stringslite_Index.f a0 a1 = some r) :
  Calls Tryz.prog 77 #[.string a0, .string a1] w fun e w' => e = .returned (.int .i64 r) ∧ Drawn0 w w' := by
 unfold stringslite_Index.f at h
 split at h
 ·next c hc =>
  have ha : a1 = ⟨#[c]⟩ := by
   obtain ⟨⟨l⟩⟩ := a1; simp only at hc; rw [hc]
  subst ha; injection h with hr; refine (Tryz.stringslite_Index_one a0 c w).mono ?_; rintro e w' ⟨rfl, rfl⟩; exact ⟨by rw [hr], Drawn0.refl _⟩
 ·cases h
def stringslite_Cut.f (a0 : ByteArray) (a1 : ByteArray) : Option (ByteArray × ByteArray × Bool) := (stringslite_Index.f a0 a1).bind fun tag => (if tag ≥ 0 then (if 0 ≤ tag then (if tag ≤ (a0.size : Int) then (if 0 ≤ (wrap64 (tag + (a1.size : Int))) then (if (wrap64 (tag + (a1.size : Int))) ≤ (a0.size : Int) then (some (a0.extract 0 (tag : Int).toNat, a0.extract ((wrap64 (tag + (a1.size : Int))) : Int).toNat a0.size, true)) else (none)) else (none)) else (none)) else (none)) else (some (a0, (⟨#[]⟩ : ByteArray), false)))
set_option maxHeartbeats 8000000 in
set_option maxRecDepth 100000 in
theorem stringslite_Cut.calls (a0 : ByteArray) (a1 : ByteArray) (r1 : ByteArray) (r2 : ByteArray) (r3 : Bool) (w : World) (h : stringslite_Cut.f a0 a1 = some (r1, r2, r3)) :
  Calls Tryz.prog 70 #[.string a0, .string a1] w fun e w' => e = .returned (.tuple #[.string r1, .string r2, .bool r3]) ∧ Drawn0 w w' := by
 have H : ((stringslite_Index.f a0 a1).bind fun tag => (if tag ≥ 0 then (if 0 ≤ tag then (if tag ≤ (a0.size : Int) then (if 0 ≤ (wrap64 (tag + (a1.size : Int))) then (if (wrap64 (tag + (a1.size : Int))) ≤ (a0.size : Int) then (some (a0.extract 0 (tag : Int).toNat, a0.extract ((wrap64 (tag + (a1.size : Int))) : Int).toNat a0.size, true)) else (none)) else (none)) else (none)) else (none)) else (some (a0, (⟨#[]⟩ : ByteArray), false)))) = some (r1, r2, r3) := h; clear h; replace H := Option.bind_eq_some_iff.mp H; obtain ⟨tag, A30, H⟩ := H; replace H : (if tag ≥ 0 then (if 0 ≤ tag then (if tag ≤ (a0.size : Int) then (if 0 ≤ (wrap64 (tag + (a1.size : Int))) then (if (wrap64 (tag + (a1.size : Int))) ≤ (a0.size : Int) then (some (a0.extract 0 (tag : Int).toNat, a0.extract ((wrap64 (tag + (a1.size : Int))) : Int).toNat a0.size, true)) else (none)) else (none)) else (none)) else (none)) else (some (a0, (⟨#[]⟩ : ByteArray), false))) = some (r1, r2, r3) := H; have A3 := AK A30; clear A30
 by_cases c4 : tag ≥ 0
 ·rw [if_pos c4] at H; have c4b0 : decide (0 ≤ tag) = true := decide_eq_true c4; clear c4
  by_cases c5 : 0 ≤ tag
  ·rw [if_pos c5] at H; have c5b0 := eq_true c5; have c5b1 : decide (0 ≤ tag) = true := decide_eq_true c5; clear c5
   by_cases c6 : tag ≤ (a0.size : Int)
   ·rw [if_pos c6] at H; have c6b0 := eq_true c6; have c6b1 : decide (tag ≤ (a0.size : Int)) = true := decide_eq_true c6; clear c6
    obtain ⟨ji7, hji7⟩ : ∃ j_ : Int, (wrap64 (tag + (a1.size : Int))) = j_ := ⟨_, rfl⟩
    replace H : (if 0 ≤ (ji7) then (if (ji7) ≤ (a0.size : Int) then (some (a0.extract 0 (tag : Int).toNat, a0.extract ((ji7) : Int).toNat a0.size, true)) else (none)) else (none)) = some (r1, r2, r3) := by first | (rw [hji7] at H; exact H) | (simp only [hji7] at H ⊢; exact H)
    (try rw [hji7] at A3); have hji7w : (IntKind.i64.wrap (tag + (a1.size : Int))) = ji7 := (i64_w _).trans hji7
    by_cases c8 : 0 ≤ (ji7)
    ·rw [if_pos c8] at H; have c8b0 := eq_true c8; have c8b1 : decide (0 ≤ (ji7)) = true := decide_eq_true c8; clear c8
     by_cases c9 : (ji7) ≤ (a0.size : Int)
     ·rw [if_pos c9] at H; have c9b0 := eq_true c9; have c9b1 : decide ((ji7) ≤ (a0.size : Int)) = true := decide_eq_true c9; clear c9; simp only [Option.some.injEq, Prod.mk.injEq] at H; obtain ⟨rfl, rfl, rfl⟩ := H; go_enter Tryz.func70, Tryz.ntmps70; go_wp2_with (first | (go_at_call 77; (with_reducible refine (stringslite_Index.calls a0 a1 tag _ A3.out).mono ?_); rintro e w' ⟨rfl, ⟨nd, rfl⟩⟩; (try first | exact ⟨rfl, _, World.drewN_drewN _ _ _⟩ | exact ⟨rfl, _, Eq.trans (World.drewN_drewN _ _ _) (congrArg (World.drewN _) (Nat.add_assoc _ _ _))⟩)))
      repeat (go_quiet (first | (go_at_call 77; (with_reducible refine (stringslite_Index.calls a0 a1 tag _ A3.out).mono ?_); rintro e w' ⟨rfl, ⟨nd, rfl⟩⟩; (try first | exact ⟨rfl, _, World.drewN_drewN _ _ _⟩ | exact ⟨rfl, _, Eq.trans (World.drewN_drewN _ _ _) (congrArg (World.drewN _) (Nat.add_assoc _ _ _))⟩))); try go_wp2_with (first | (go_at_call 77; (with_reducible refine (stringslite_Index.calls a0 a1 tag _ A3.out).mono ?_); rintro e w' ⟨rfl, ⟨nd, rfl⟩⟩; (try first | exact ⟨rfl, _, World.drewN_drewN _ _ _⟩ | exact ⟨rfl, _, Eq.trans (World.drewN_drewN _ _ _) (congrArg (World.drewN _) (Nat.add_assoc _ _ _))⟩))))
      go_ret3
      exact ⟨by first | rfl | (simp; done) | (simp only [← hji7] <;> (first | rfl | simp)) | (simp [*]; done), Zq8⟩
     ·rw [if_neg c9] at H; exact absurd H Zq7
    ·rw [if_neg c8] at H; exact absurd H Zq7
   ·rw [if_neg c6] at H; exact absurd H Zq7
  ·rw [if_neg c5] at H; exact absurd H Zq7
 ·rw [if_neg c4] at H; have c4b0 : decide (0 ≤ tag) = false := decide_eq_false c4; clear c4; simp only [Option.some.injEq, Prod.mk.injEq] at H; obtain ⟨rfl, rfl, rfl⟩ := H; go_enter Tryz.func70, Tryz.ntmps70; go_wp2_with (first | (go_at_call 77; (with_reducible refine (stringslite_Index.calls a0 a1 tag _ A3.out).mono ?_); rintro e w' ⟨rfl, ⟨nd, rfl⟩⟩; (try first | exact ⟨rfl, _, World.drewN_drewN _ _ _⟩ | exact ⟨rfl, _, Eq.trans (World.drewN_drewN _ _ _) (congrArg (World.drewN _) (Nat.add_assoc _ _ _))⟩)))
  repeat (go_quiet (first | (go_at_call 77; (with_reducible refine (stringslite_Index.calls a0 a1 tag _ A3.out).mono ?_); rintro e w' ⟨rfl, ⟨nd, rfl⟩⟩; (try first | exact ⟨rfl, _, World.drewN_drewN _ _ _⟩ | exact ⟨rfl, _, Eq.trans (World.drewN_drewN _ _ _) (congrArg (World.drewN _) (Nat.add_assoc _ _ _))⟩))); try go_wp2_with (first | (go_at_call 77; (with_reducible refine (stringslite_Index.calls a0 a1 tag _ A3.out).mono ?_); rintro e w' ⟨rfl, ⟨nd, rfl⟩⟩; (try first | exact ⟨rfl, _, World.drewN_drewN _ _ _⟩ | exact ⟨rfl, _, Eq.trans (World.drewN_drewN _ _ _) (congrArg (World.drewN _) (Nat.add_assoc _ _ _))⟩))))
  go_ret3
  exact ⟨Zq4, Zq8⟩
def strings_Cut.f (a0 : ByteArray) (a1 : ByteArray) : Option (ByteArray × ByteArray × Bool) := (stringslite_Cut.f a0 a1).bind fun btbj => (some (btbj.1, btbj.2.1, btbj.2.2))
set_option maxHeartbeats 8000000 in
set_option maxRecDepth 100000 in
theorem strings_Cut.calls (a0 : ByteArray) (a1 : ByteArray) (r1 : ByteArray) (r2 : ByteArray) (r3 : Bool) (w : World) (h : strings_Cut.f a0 a1 = some (r1, r2, r3)) :
  Calls Tryz.prog 59 #[.string a0, .string a1] w fun e w' => e = .returned (.tuple #[.string r1, .string r2, .bool r3]) ∧ Drawn0 w w' := by
 have H : ((stringslite_Cut.f a0 a1).bind fun btbj => (some (btbj.1, btbj.2.1, btbj.2.2))) = some (r1, r2, r3) := h; clear h; replace H := Option.bind_eq_some_iff.mp H; obtain ⟨⟨tbj, tcm, tcn⟩, A30, H⟩ := H; replace H : (some (tbj, tcm, tcn)) = some (r1, r2, r3) := H; have A3 := AK A30; clear A30; simp only [Option.some.injEq, Prod.mk.injEq] at H; obtain ⟨rfl, rfl, rfl⟩ := H; go_enter Tryz.func59, Tryz.ntmps59; go_wp2_with (first | ((with_reducible refine gate_callee (f := 70) rfl ?_); refine goesL_ (some 9) rfl rfl Tryz.func70 Zq3 rfl #[.string a0, .string a1] rfl Zq10 ?_; (with_reducible refine (stringslite_Cut.calls a0 a1 tbj tcm tcn _ A3.out).mono ?_); rintro e w' ⟨rfl, ⟨nd, rfl⟩⟩; refine ⟨_, rfl, ?_⟩))
 go_ret3
 exact ⟨Zq4, Zq8⟩
def name_Node.f (k : Nat) (a0 : ByteArray) : Option (Bool) := (strings_Cut.f a0 (⟨#[64]⟩ : ByteArray)).bind fun btaa => ((name_all.f k btaa.1 (⟨#[]⟩ : ByteArray)).bind fun tbx => (if tbx = true then (if 0 < (btaa.1.size : Int) then ((name_letter.f (bt btaa.1 0)).bind fun taV => (if taV = true then (if btaa.2.2 = true then ((name_all.f k btaa.2.1 (⟨#[]⟩ : ByteArray)).bind fun taL => (some taL)) else (some true)) else (if (bt btaa.1 0) = 95 then (if btaa.2.2 = true then ((name_all.f k btaa.2.1 (⟨#[]⟩ : ByteArray)).bind fun taM => (some taM)) else (some true)) else (some false)))) else (none)) else (some false)))
theorem name_Node.mono : ∀ a0 k, LeO (name_Node.f k a0) (name_Node.f (k + 1) a0) := by
 intro a0 k; unfold name_Node.f
 repeat' first | (with_reducible first | exact name_all.mono _ _ _ | exact LeO.refl _ | exact LeO.none _ | refine LeO.ite ?_ ?_ | refine LeO.bind ?_ (fun _ => ?_))
set_option maxHeartbeats 8000000 in
set_option maxRecDepth 100000 in
theorem name_Node.calls (k : Nat) (a0 : ByteArray) (r : Bool) (w : World) (h : name_Node.f k a0 = some r) :
  Calls Tryz.prog 43 #[.string a0] w fun e w' => e = .returned (.bool r) ∧ Drawn0 w w' := by
 have H : ((strings_Cut.f a0 (⟨#[64]⟩ : ByteArray)).bind fun btaa => ((name_all.f k btaa.1 (⟨#[]⟩ : ByteArray)).bind fun tbx => (if tbx = true then (if 0 < (btaa.1.size : Int) then ((name_letter.f (bt btaa.1 0)).bind fun taV => (if taV = true then (if btaa.2.2 = true then ((name_all.f k btaa.2.1 (⟨#[]⟩ : ByteArray)).bind fun taL => (some taL)) else (some true)) else (if (bt btaa.1 0) = 95 then (if btaa.2.2 = true then ((name_all.f k btaa.2.1 (⟨#[]⟩ : ByteArray)).bind fun taM => (some taM)) else (some true)) else (some false)))) else (none)) else (some false)))) = some r := h; clear h; replace H := Option.bind_eq_some_iff.mp H; obtain ⟨⟨taa, taF, taS⟩, A20, H⟩ := H; replace H : ((name_all.f k taa (⟨#[]⟩ : ByteArray)).bind fun tbx => (if tbx = true then (if 0 < (taa.size : Int) then ((name_letter.f (bt taa 0)).bind fun taV => (if taV = true then (if taS = true then ((name_all.f k taF (⟨#[]⟩ : ByteArray)).bind fun taL => (some taL)) else (some true)) else (if (bt taa 0) = 95 then (if taS = true then ((name_all.f k taF (⟨#[]⟩ : ByteArray)).bind fun taM => (some taM)) else (some true)) else (some false)))) else (none)) else (some false))) = some r := H; have A2 := AK A20; clear A20; replace H := Option.bind_eq_some_iff.mp H; obtain ⟨tbx, A30, H⟩ := H; replace H : (if tbx = true then (if 0 < (taa.size : Int) then ((name_letter.f (bt taa 0)).bind fun taV => (if taV = true then (if taS = true then ((name_all.f k taF (⟨#[]⟩ : ByteArray)).bind fun taL => (some taL)) else (some true)) else (if (bt taa 0) = 95 then (if taS = true then ((name_all.f k taF (⟨#[]⟩ : ByteArray)).bind fun taM => (some taM)) else (some true)) else (some false)))) else (none)) else (some false)) = some r := H; have A3 := AK A30; clear A30
 by_cases c4 : tbx = true
 ·subst c4
  have H1 : (if 0 < (taa.size : Int) then ((name_letter.f (bt taa 0)).bind fun taV => (if taV = true then (if taS = true then ((name_all.f k taF (⟨#[]⟩ : ByteArray)).bind fun taL => (some taL)) else (some true)) else (if (bt taa 0) = 95 then (if taS = true then ((name_all.f k taF (⟨#[]⟩ : ByteArray)).bind fun taM => (some taM)) else (some true)) else (some false)))) else (none)) = some r := by rw [if_pos rfl] at H; exact H
  clear H; have H := H1; clear H1
  by_cases c5 : 0 < (taa.size : Int)
  ·rw [if_pos c5] at H; have c5b0 : decide (0 < (taa.size : Int)) = true := decide_eq_true c5; have c5b1 : decide (0 < taa.size) = true := decide_eq_true Zq1; clear c5; replace H := Option.bind_eq_some_iff.mp H; obtain ⟨taV, A70, H⟩ := H; replace H : (if taV = true then (if taS = true then ((name_all.f k taF (⟨#[]⟩ : ByteArray)).bind fun taL => (some taL)) else (some true)) else (if (bt taa 0) = 95 then (if taS = true then ((name_all.f k taF (⟨#[]⟩ : ByteArray)).bind fun taM => (some taM)) else (some true)) else (some false))) = some r := H; have A7 := AK A70; clear A70
   by_cases c8 : taV = true
   ·subst c8
    have H1 : (if taS = true then ((name_all.f k taF (⟨#[]⟩ : ByteArray)).bind fun taL => (some taL)) else (some true)) = some r := by rw [if_pos rfl] at H; exact H
    clear H; have H := H1; clear H1
    by_cases c9 : taS = true
    ·subst c9
     have H1 : ((name_all.f k taF (⟨#[]⟩ : ByteArray)).bind fun taL => (some taL)) = some r := by rw [if_pos rfl] at H; exact H
     clear H; have H := H1; clear H1; replace H := Option.bind_eq_some_iff.mp H; obtain ⟨taL, Abu, H⟩ := H; replace H : (some taL) = some r := H; have A10 := AK Abu; clear Abu; obtain rfl := Option.some.inj H; go_enter Tryz.func43, Tryz.ntmps43; (go_wp2_with (first | ((with_reducible refine gate_callee (f := 59) rfl ?_); refine goesL_ (some 8) rfl rfl Tryz.func59 Zq3 rfl #[.string a0, .string (⟨#[64]⟩ : ByteArray)] rfl Zq10 ?_; (with_reducible refine (strings_Cut.calls a0 (⟨#[64]⟩ : ByteArray) taa taF true _ A2.out).mono ?_); rintro e w' ⟨rfl, ⟨nd, rfl⟩⟩; refine ⟨_, rfl, ?_⟩) | ((with_reducible refine gate_callee (f := 60) rfl ?_); refine goesL_ (some 13) rfl rfl Tryz.func60 Zq3 rfl #[.string taa, .string (⟨#[]⟩ : ByteArray)] rfl Zq10 ?_; (with_reducible refine (name_all.calls k taa (⟨#[]⟩ : ByteArray) true _ A3.out).mono ?_); rintro e w' ⟨rfl, ⟨nd, rfl⟩⟩; refine ⟨_, rfl, ?_⟩; have p6 : 0 ≤ (0 : Int) := Zq1; have q6 : 0 < taa.size := (by have : (0 : Int) < (taa.size : Int) := of_decide_eq_true Zq5; omega); have hx6 : ∀ h : 0 < taa.size, ((taa[0]'h).toNat : Int) = bt taa 0 := bt_at taa 0; clear p6; have qi6 : (0 < (taa.size : Int)) = True := eq_true (of_decide_eq_true Zq5); replace q6 := eq_true q6) | (go_at_call 61; (with_reducible refine (name_letter.calls (bt taa 0) true _ A7.out).mono ?_); rintro e w' ⟨rfl, ⟨nd, rfl⟩⟩) | (go_at_call 60; (with_reducible refine (name_all.calls k taF (⟨#[]⟩ : ByteArray) taL _ A10.out).mono ?_); rintro e w' ⟨rfl, ⟨nd, rfl⟩⟩))); go_ret; exact ⟨Zq4, Zq8⟩
    ·replace c9 := Bool.eq_false_iff.mpr c9; subst c9
     have H1 : (some true) = some r := by rw [if_neg (show ¬ (false = true) by decide)] at H; exact H
     clear H; have H := H1; clear H1; obtain rfl := Option.some.inj H; go_enter Tryz.func43, Tryz.ntmps43; (go_wp2_with (first | ((with_reducible refine gate_callee (f := 59) rfl ?_); refine goesL_ (some 8) rfl rfl Tryz.func59 Zq3 rfl #[.string a0, .string (⟨#[64]⟩ : ByteArray)] rfl Zq10 ?_; (with_reducible refine (strings_Cut.calls a0 (⟨#[64]⟩ : ByteArray) taa taF false _ A2.out).mono ?_); rintro e w' ⟨rfl, ⟨nd, rfl⟩⟩; refine ⟨_, rfl, ?_⟩) | ((with_reducible refine gate_callee (f := 60) rfl ?_); refine goesL_ (some 13) rfl rfl Tryz.func60 Zq3 rfl #[.string taa, .string (⟨#[]⟩ : ByteArray)] rfl Zq10 ?_; (with_reducible refine (name_all.calls k taa (⟨#[]⟩ : ByteArray) true _ A3.out).mono ?_); rintro e w' ⟨rfl, ⟨nd, rfl⟩⟩; refine ⟨_, rfl, ?_⟩; have p6 : 0 ≤ (0 : Int) := Zq1; have q6 : 0 < taa.size := (by have : (0 : Int) < (taa.size : Int) := of_decide_eq_true Zq5; omega); have hx6 : ∀ h : 0 < taa.size, ((taa[0]'h).toNat : Int) = bt taa 0 := bt_at taa 0; clear p6; have qi6 : (0 < (taa.size : Int)) = True := eq_true (of_decide_eq_true Zq5); replace q6 := eq_true q6) | (go_at_call 61; (with_reducible refine (name_letter.calls (bt taa 0) true _ A7.out).mono ?_); rintro e w' ⟨rfl, ⟨nd, rfl⟩⟩))); go_ret; exact ⟨Zq4, Zq8⟩
   ·replace c8 := Bool.eq_false_iff.mpr c8; subst c8
    have H1 : (if (bt taa 0) = 95 then (if taS = true then ((name_all.f k taF (⟨#[]⟩ : ByteArray)).bind fun taM => (some taM)) else (some true)) else (some false)) = some r := by rw [if_neg (show ¬ (false = true) by decide)] at H; exact H
    clear H; have H := H1; clear H1
    by_cases c12 : (bt taa 0) = 95
    ·rw [if_pos c12] at H; obtain ⟨c12b0, c12b1⟩ := Zc0 c12; clear c12
     by_cases c13 : taS = true
     ·subst c13
      have H1 : ((name_all.f k taF (⟨#[]⟩ : ByteArray)).bind fun taM => (some taM)) = some r := by rw [if_pos rfl] at H; exact H
      clear H; have H := H1; clear H1; replace H := Option.bind_eq_some_iff.mp H; obtain ⟨taM, AbO, H⟩ := H; replace H : (some taM) = some r := H; have A14 := AK AbO; clear AbO; obtain rfl := Option.some.inj H; go_enter Tryz.func43, Tryz.ntmps43; (go_wp2_with (first | ((with_reducible refine gate_callee (f := 59) rfl ?_); refine goesL_ (some 8) rfl rfl Tryz.func59 Zq3 rfl #[.string a0, .string (⟨#[64]⟩ : ByteArray)] rfl Zq10 ?_; (with_reducible refine (strings_Cut.calls a0 (⟨#[64]⟩ : ByteArray) taa taF true _ A2.out).mono ?_); rintro e w' ⟨rfl, ⟨nd, rfl⟩⟩; refine ⟨_, rfl, ?_⟩) | ((with_reducible refine gate_callee (f := 60) rfl ?_); refine goesL_ (some 13) rfl rfl Tryz.func60 Zq3 rfl #[.string taa, .string (⟨#[]⟩ : ByteArray)] rfl Zq10 ?_; (with_reducible refine (name_all.calls k taa (⟨#[]⟩ : ByteArray) true _ A3.out).mono ?_); rintro e w' ⟨rfl, ⟨nd, rfl⟩⟩; refine ⟨_, rfl, ?_⟩; have p6 : 0 ≤ (0 : Int) := Zq1; have q6 : 0 < taa.size := (by have : (0 : Int) < (taa.size : Int) := of_decide_eq_true Zq5; omega); have hx6 : ∀ h : 0 < taa.size, ((taa[0]'h).toNat : Int) = bt taa 0 := bt_at taa 0; clear p6; have qi6 : (0 < (taa.size : Int)) = True := eq_true (of_decide_eq_true Zq5); replace q6 := eq_true q6) | (go_at_call 61; (with_reducible refine (name_letter.calls (bt taa 0) false _ A7.out).mono ?_); rintro e w' ⟨rfl, ⟨nd, rfl⟩⟩; have p11 : 0 ≤ (0 : Int) := Zq1; have q11 : 0 < taa.size := (by have : (0 : Int) < (taa.size : Int) := of_decide_eq_true Zq5; omega); have hx11 : ∀ h : 0 < taa.size, ((taa[0]'h).toNat : Int) = bt taa 0 := bt_at taa 0; clear p11; have qi11 : (0 < (taa.size : Int)) = True := eq_true (of_decide_eq_true Zq5); replace q11 := eq_true q11) | (go_at_call 60; (with_reducible refine (name_all.calls k taF (⟨#[]⟩ : ByteArray) taM _ A14.out).mono ?_); rintro e w' ⟨rfl, ⟨nd, rfl⟩⟩))); go_ret; exact ⟨Zq4, Zq8⟩
     ·replace c13 := Bool.eq_false_iff.mpr c13; subst c13
      have H1 : (some true) = some r := by rw [if_neg (show ¬ (false = true) by decide)] at H; exact H
      clear H; have H := H1; clear H1; obtain rfl := Option.some.inj H; go_enter Tryz.func43, Tryz.ntmps43; (go_wp2_with (first | ((with_reducible refine gate_callee (f := 59) rfl ?_); refine goesL_ (some 8) rfl rfl Tryz.func59 Zq3 rfl #[.string a0, .string (⟨#[64]⟩ : ByteArray)] rfl Zq10 ?_; (with_reducible refine (strings_Cut.calls a0 (⟨#[64]⟩ : ByteArray) taa taF false _ A2.out).mono ?_); rintro e w' ⟨rfl, ⟨nd, rfl⟩⟩; refine ⟨_, rfl, ?_⟩) | ((with_reducible refine gate_callee (f := 60) rfl ?_); refine goesL_ (some 13) rfl rfl Tryz.func60 Zq3 rfl #[.string taa, .string (⟨#[]⟩ : ByteArray)] rfl Zq10 ?_; (with_reducible refine (name_all.calls k taa (⟨#[]⟩ : ByteArray) true _ A3.out).mono ?_); rintro e w' ⟨rfl, ⟨nd, rfl⟩⟩; refine ⟨_, rfl, ?_⟩; have p6 : 0 ≤ (0 : Int) := Zq1; have q6 : 0 < taa.size := (by have : (0 : Int) < (taa.size : Int) := of_decide_eq_true Zq5; omega); have hx6 : ∀ h : 0 < taa.size, ((taa[0]'h).toNat : Int) = bt taa 0 := bt_at taa 0; clear p6; have qi6 : (0 < (taa.size : Int)) = True := eq_true (of_decide_eq_true Zq5); replace q6 := eq_true q6) | (go_at_call 61; (with_reducible refine (name_letter.calls (bt taa 0) false _ A7.out).mono ?_); rintro e w' ⟨rfl, ⟨nd, rfl⟩⟩; have p11 : 0 ≤ (0 : Int) := Zq1; have q11 : 0 < taa.size := (by have : (0 : Int) < (taa.size : Int) := of_decide_eq_true Zq5; omega); have hx11 : ∀ h : 0 < taa.size, ((taa[0]'h).toNat : Int) = bt taa 0 := bt_at taa 0; clear p11; have qi11 : (0 < (taa.size : Int)) = True := eq_true (of_decide_eq_true Zq5); replace q11 := eq_true q11))); go_ret; exact ⟨Zq4, Zq8⟩
    ·rw [if_neg c12] at H; obtain ⟨c12b0, c12b1⟩ := Zd0 c12; obtain rfl := Option.some.inj H; go_enter Tryz.func43, Tryz.ntmps43; (go_wp2_with (first | ((with_reducible refine gate_callee (f := 59) rfl ?_); refine goesL_ (some 8) rfl rfl Tryz.func59 Zq3 rfl #[.string a0, .string (⟨#[64]⟩ : ByteArray)] rfl Zq10 ?_; (with_reducible refine (strings_Cut.calls a0 (⟨#[64]⟩ : ByteArray) taa taF taS _ A2.out).mono ?_); rintro e w' ⟨rfl, ⟨nd, rfl⟩⟩; refine ⟨_, rfl, ?_⟩) | ((with_reducible refine gate_callee (f := 60) rfl ?_); refine goesL_ (some 13) rfl rfl Tryz.func60 Zq3 rfl #[.string taa, .string (⟨#[]⟩ : ByteArray)] rfl Zq10 ?_; (with_reducible refine (name_all.calls k taa (⟨#[]⟩ : ByteArray) true _ A3.out).mono ?_); rintro e w' ⟨rfl, ⟨nd, rfl⟩⟩; refine ⟨_, rfl, ?_⟩; have p6 : 0 ≤ (0 : Int) := Zq1; have q6 : 0 < taa.size := (by have : (0 : Int) < (taa.size : Int) := of_decide_eq_true Zq5; omega); have hx6 : ∀ h : 0 < taa.size, ((taa[0]'h).toNat : Int) = bt taa 0 := bt_at taa 0; clear p6; have qi6 : (0 < (taa.size : Int)) = True := eq_true (of_decide_eq_true Zq5); replace q6 := eq_true q6) | (go_at_call 61; (with_reducible refine (name_letter.calls (bt taa 0) false _ A7.out).mono ?_); rintro e w' ⟨rfl, ⟨nd, rfl⟩⟩; have p11 : 0 ≤ (0 : Int) := Zq1; have q11 : 0 < taa.size := (by have : (0 : Int) < (taa.size : Int) := of_decide_eq_true Zq5; omega); have hx11 : ∀ h : 0 < taa.size, ((taa[0]'h).toNat : Int) = bt taa 0 := bt_at taa 0; clear p11; have qi11 : (0 < (taa.size : Int)) = True := eq_true (of_decide_eq_true Zq5); replace q11 := eq_true q11))); go_ret; exact ⟨Zq4, Zq8⟩
  ·rw [if_neg c5] at H; exact absurd H Zq7
 ·replace c4 := Bool.eq_false_iff.mpr c4; subst c4
  have H1 : (some false) = some r := by rw [if_neg (show ¬ (false = true) by decide)] at H; exact H
  clear H; have H := H1; clear H1; obtain rfl := Option.some.inj H; go_enter Tryz.func43, Tryz.ntmps43; (go_wp2_with (first | ((with_reducible refine gate_callee (f := 59) rfl ?_); refine goesL_ (some 8) rfl rfl Tryz.func59 Zq3 rfl #[.string a0, .string (⟨#[64]⟩ : ByteArray)] rfl Zq10 ?_; (with_reducible refine (strings_Cut.calls a0 (⟨#[64]⟩ : ByteArray) taa taF taS _ A2.out).mono ?_); rintro e w' ⟨rfl, ⟨nd, rfl⟩⟩; refine ⟨_, rfl, ?_⟩) | ((with_reducible refine gate_callee (f := 60) rfl ?_); refine goesL_ (some 13) rfl rfl Tryz.func60 Zq3 rfl #[.string taa, .string (⟨#[]⟩ : ByteArray)] rfl Zq10 ?_; (with_reducible refine (name_all.calls k taa (⟨#[]⟩ : ByteArray) false _ A3.out).mono ?_); rintro e w' ⟨rfl, ⟨nd, rfl⟩⟩; refine ⟨_, rfl, ?_⟩))); go_ret; exact ⟨Zq4, Zq8⟩
def txts (xs : List ByteArray) : List (List UInt8) := xs.map (·.data.toList)
def dupB (xs : List ByteArray) : Bool := decide ((Lib.compact ((txts xs).mergeSort fun x y => decide (x ≤ y))).length < xs.length)
theorem txts_len (xs : List ByteArray) : (txts xs).length = xs.length := by simp [txts]
theorem reps_strings {w : World} {base : Nat} {ok : Nat → Prop} {xs : List ByteArray} {cs : List Value} (h : Reps (Kd.string.M w base ok) 1 xs cs) : cs = (txts xs).map encStr := by
 apply List.ext_getElem?; intro j
 by_cases hj : j < xs.length
 ·have h2 := h.2 j xs[j] (List.getElem?_eq_getElem hj); have h1 := h.1
  have hl : j < cs.length := by omega
  have h3 : (cs.drop (j * 1)).take 1 = [.string xs[j]] := h2; rw [Nat.mul_one, List.drop_eq_getElem_cons hl] at h3; simp only [List.take_succ_cons, List.take_zero, List.cons.injEq, and_true] at h3; rw [List.getElem?_eq_getElem hl, h3]
  simp [txts, hj]
 ·have h1 := h.1; rw [List.getElem?_eq_none Zq1, List.getElem?_eq_none (by simp [txts]; omega)]
set_option maxRecDepth 100000 in
theorem twice_calls (v : Value) (xs : List ByteArray) (W : World) (base : Nat) (ok : Nat → Prop) (hR : Kd.R Kd.string 9 W base ok v xs) (hl : xs.length < 4611686018427387904) :
  Calls Tryz.prog 47 #[v] W fun e w' => e = .returned (.bool (dupB xs)) ∧ W.grownBy w' v.ownBlock := by
 obtain ⟨_, inner, ho, hr⟩ := hR; have hi := reps_strings hr; subst hi; clear hr
 rcases ho.2 with ⟨rfl, h0⟩ | ⟨g, cap, cur, rfl, hg, hb, h1, h2, h3, h4⟩
 ·have hx : xs = [] := List.eq_nil_of_length_eq_zero h0; subst hx
  have q1 := fun W => Tryz.slices_Sort_string_none none 0 W
  have q2 := fun W => Tryz.slices_Compact_string_empty none 0 W
  clear h0 ho
  have hd : dupB [] = false := by decide
  rw [hd]; go_enter Tryz.func47, Tryz.ntmps47; (go_wp2_with (first | (go_at_call 63; refine (q1 _).mono ?_; rintro e w' ⟨rfl, rfl⟩) | (go_at_call 64; refine (q2 _).mono ?_; rintro e w' ⟨rfl, rfl⟩))); go_ret; exact ⟨rfl, World.grownBy.refl _ _⟩
 ·have hlt : g < W.heap.size := (Array.getElem?_eq_some_iff.1 hb).1; have q1 := Tryz.slices_Sort_string g 0 cap (txts xs) W (holds_of_block (by exact hb) (by rw [txts_len]; rw [show Kd.string.sz = 1 from rfl, Nat.mul_one] at h4; exact h4)) hlt (by rw [txts_len]; exact hl); rw [txts_len] at q1; clear ho
  obtain ⟨ss, hss⟩ : ∃ ss, ss = (txts xs).mergeSort fun x y => decide (x ≤ y) := ⟨_, rfl⟩
  have hsl : ss.length = xs.length := by rw [hss, List.length_mergeSort, txts_len]
  have hd : dupB xs = decide ((Lib.compact ss).length < xs.length) := by rw [hss]; rfl
  have q2 : ∀ os m, Calls Tryz.prog 64 #[.slice (some ⟨g, 0, none⟩) xs.length cap] ((Sort.grow (Sort.putRow encStr (Sort.ahead W m) g 0 ss.toArray) os)) fun e w' => e = .returned (.slice (some ⟨g, 0, none⟩) (Lib.compact ss).length cap) ∧ W.grownBy w' (some g) := by
   intro os m; have hb2 := Go.heap_sorted (os := os) (n := m) ss.toArray (show W.heap[g]? = some (.cells cur 9 (0, 0)) from hb); have q := Tryz.slices_Compact_string g 0 cap ss (Sort.grow (Sort.putRow encStr (Sort.ahead W m) g 0 ss.toArray) os) (holds_of_block hb2 (take_putCells cur ss (by rw [hsl, h3, show Kd.string.sz = 1 from rfl]; omega))) (by rw [hsl]; omega) (by rw [hsl]; exact h1); rw [hsl] at q; refine q.mono ?_; rintro e w' ⟨rfl, k, rfl⟩; refine ⟨rfl, ?_⟩; have g1 : W.grownBy (Sort.grow (Sort.putRow encStr (Sort.ahead W m) g 0 ss.toArray) os) (some g) := grownBy_sorted (w := W) ss.toArray; have g2 := grownBy_sorted (w := Sort.grow (Sort.putRow encStr (Sort.ahead W m) g 0 ss.toArray) os) (g := g) (n := k) (os := #[]) (Lib.compact ss ++ List.replicate (xs.length - (Lib.compact ss).length) []).toArray; rw [Sort.grow_empty] at g2; exact World.grownBy.trans g1 g2
  rw [hd]; have hg0 := hss; rw [← hss] at q1; clear hss hg0 hd hsl hb h2 h3 h4 hg h1; go_enter Tryz.func47, Tryz.ntmps47; (go_wp2_with (first | (go_at_call 63; refine q1.mono ?_; rintro e w' ⟨rfl, m, os, rfl⟩) | (go_at_call 64; refine (q2 os m).mono ?_; rintro e w' ⟨rfl, hgr⟩))); go_ret; exact ⟨rfl, hgr⟩
def badIx (k : Nat) : List ByteArray → Nat → Option Int
 | [], _ => some (-1)
 | s :: r, i => (name_Prop.f k s).bind fun b => if b = true then badIx k r (i + 1) else some (i : Int)
set_option maxRecDepth 100000 in
theorem bad_lit (k : Nat) (s : ByteArray) (b : Bool) (w : World) (h : name_Prop.f k s = some b) : Calls Tryz.prog 45 #[.string s] w fun e w' => e = .returned (.bool (!b)) ∧ Drawn0 w w' := by
 have q := fun W => name_Prop.calls k s b W h
 clear h; go_enter Tryz.func45, Tryz.ntmps45; (go_wp2_with (go_at_call 46; refine (q _).mono ?_; rintro e w' ⟨rfl, ⟨nd, rfl⟩⟩)); go_ret; exact ⟨rfl, ⟨_, rfl⟩⟩
theorem str_cell {w : World} {A : Option Addr} {xs : List ByteArray} (h : Kd.C Kd.string w A xs.length xs) (i : Nat) (hi : i < xs.length) : ∃ ad, A = some ad ∧ w.cell? (ad.add i) = some (.string (xs.getD i ⟨#[]⟩)) := by
 obtain ⟨ad, c, e, hc, hk, hcell⟩ := ReadsRow.get_ h ⟨#[]⟩ (i : Int) (Int.natCast_nonneg i) Zq1; have hk' : c = [.string (xs.getD (i : Int).toNat ⟨#[]⟩)] := hk; subst hk'; have := hcell 0 _ rfl; simp only [Int.toNat_natCast, show Kd.string.sz = 1 from rfl, Nat.add_zero, Nat.mul_one] at this; exact ⟨ad, e, this⟩
set_option maxRecDepth 100000 in
set_option maxHeartbeats 2000000 in
theorem bad_index (k : Nat) (xs : List ByteArray) (A : Option Addr) (c : Nat) (r : Int) (w : World) (hr : Kd.C Kd.string w A xs.length xs) (h : badIx k xs 0 = some r) :
  Calls Tryz.prog 62 #[.slice A xs.length c, .func (.func 45) #[] #[]] w fun e w' => e = .returned (.int .i64 r) ∧ Drawn0 w w' := by
 have hm : xs.length ≤ 9223372036854775807 := hr.2.1; have HR := AK hr; have HM := AK hm; have H0 := AK h; clear hr hm h; go_enter Tryz.func62, Tryz.ntmps62; go_wp2
 go_loopg [8] (xs.length + 1) (fun kq v8 w' => ∃ i : Nat, v8 = .int .i64 (i : Int) ∧ Aside0 (i + kq = xs.length + 1) ∧ Aside0 (badIx k (xs.drop i) i = some r) ∧ Aside0 (Drawn0 w w'))
 case atStart => exact ⟨0, rfl, ⟨Zq1⟩, ⟨by rw [List.drop_zero]; exact H0.out⟩, ⟨⟨0, rfl⟩⟩⟩
 case round =>
  obtain ⟨i, rfl, HI, HX, HD⟩ := hrel; obtain ⟨⟨n0, rfl⟩⟩ := HD
  by_cases ci : (i : Int) < (xs.length : Int)
  ·have cib : decide ((i : Int) < (xs.length : Int)) = true := decide_eq_true ci
   have cil : i < xs.length := by omega
   obtain ⟨ad, e1, hx0⟩ := str_cell HR.out i cil; subst e1
   have hk : badIx k (xs.drop i) i = (name_Prop.f k (xs.getD i ⟨#[]⟩)).bind fun b => if b = true then badIx k (xs.drop (i + 1)) (i + 1) else some (i : Int) := by
    rw [List.drop_eq_getElem_cons cil]; simp only [badIx, List.getD_eq_getElem?_getD, List.getElem?_eq_getElem cil, Option.getD_some]
   have hb := HX.out; rw [hk] at hb; obtain ⟨b, hb0, hb1⟩ := Option.bind_eq_some_iff.mp hb
   obtain ⟨s, hs⟩ : ∃ s, s = xs.getD i ⟨#[]⟩ := ⟨_, rfl⟩
   rw [← hs] at hb0 hx0
   have q := fun W => bad_lit k s b W hb0
   clear hk hb hb0 HX hs
   cases gk with
   | zero => have := HI.out; omega
   | succ k1 =>
    cases b with
    | false =>
     have hb2 : (i : Int) = r := by rw [if_neg Zq2] at hb1; exact Option.some.inj hb1
     subst hb2; clear hb1; (go_wp2_with (go_at_call 45; refine (q _).mono ?_; rintro e w2 ⟨rfl, ⟨nd, rfl⟩⟩)); go_ret; exact ⟨rfl, by repeat (first | exact ⟨0, rfl⟩ | exact Drawn0.refl _ | apply Drawn0.step)⟩
    | true =>
     rw [if_pos rfl] at hb1; have HX := AK hb1; have hw := i64_w ((i : Int) + 1)
     have hw2 : Go.RowKit.wrap64 ((i : Int) + 1) = ((i + 1 : Nat) : Int) := by have := HM.out; unfold Go.RowKit.wrap64; omega
     clear hb1; go_wp2_with (go_at_call 45; refine (q _).mono ?_; rintro e w2 ⟨rfl, ⟨nd, rfl⟩⟩)
     go_roundg k1
     case measure => omega
     case rel => exact ⟨i + 1, Zq4, ⟨by have := HI.out; omega⟩, HX, ⟨⟨_, rfl⟩⟩⟩
  ·have cib : decide ((i : Int) < (xs.length : Int)) = false := decide_eq_false ci; have hX := HX.out; rw [List.drop_of_length_le Zq1] at hX; obtain rfl := Option.some.inj hX; clear HX hX; go_wp2; go_ret; exact ⟨rfl, ⟨_, rfl⟩⟩
set_option maxRecDepth 100000 in
theorem bad_has (k : Nat) (xs : List ByteArray) (A : Option Addr) (c : Nat) (r : Int) (w : World) (hr : Kd.C Kd.string w A xs.length xs) (h : badIx k xs 0 = some r) :
  Calls Tryz.prog 44 #[.slice A xs.length c, .func (.func 45) #[] #[]] w fun e w' => e = .returned (.bool (decide (0 ≤ r))) ∧ Drawn0 w w' := by
 have q := fun n => bad_index k xs A c r (w.drewN n) (Kd.C_drewN hr n) h
 clear hr h; go_enter Tryz.func44, Tryz.ntmps44; (go_wp2_with (go_at_call 62; refine (q 0).mono ?_; rintro e w2 ⟨rfl, ⟨nd, rfl⟩⟩)); go_ret; exact ⟨Zq25, ⟨_, rfl⟩⟩
theorem bad_has_v (k : Nat) (v : Value) (xs : List ByteArray) (w : World) (base : Nat) (ok : Nat → Prop) (r : Int) (hr : Kd.R Kd.string 9 w base ok v xs) (h : badIx k xs 0 = some r) :
  Calls Tryz.prog 44 #[v, .func (.func 45) #[] #[]] w fun e w' => e = .returned (.bool (decide (0 ≤ r))) ∧ Drawn0 w w' := by
 obtain ⟨A, c, rfl, _, hC⟩ := Kd.R_reads hr; exact bad_has k xs A c r w hC h
theorem own_from {w : World} {base : Nat} {ok : Nat → Prop} {v : Value} {xs : List ByteArray} (hr : Kd.R Kd.string 9 w base ok v xs) : ∀ k, v.ownBlock = some k → base ≤ k := fun k hk => own_base hr.2.choose_spec.1 k hk
theorem below_grown_own {W1 W w' : World} {row : Option Nat} (h : Below W1.heap.size W1 W) (hg : W.grownBy w' row) (hr : ∀ k, row = some k → W1.heap.size ≤ k) : Below W1.heap.size W1 w' := h.grown hg h.size hr
theorem w_succ {i n : Nat} (h : i < n) (hn : n ≤ 9223372036854775807) : Go.RowKit.wrap64 ((i : Int) + 1) = ((i + 1 : Nat) : Int) := by unfold Go.RowKit.wrap64; omega
theorem w_two : Go.RowKit.wrap64 ((1 : Int) + 1) = 2 := by unfold Go.RowKit.wrap64; omega
def tree_check.kids (F : ByteArray → List S68 → List S27 → Option Int) : List S27 → Option Int
 | [] => some 0
 | x :: r => (F x.f0 x.f1 x.f2).bind fun e => if e = 0 then tree_check.kids F r else some e
def tree_check.node (k : Nat) (nm : ByteArray) (ps : List S68) (ks : List S27) (d : Int) : Option Int :=
 (tree_names.f k nm ps ks).bind fun lm => if d > 16 then some 6 else if d < 1 then none else (name_Node.f k nm).bind fun b =>
  if d = 1 ∧ nm.toList ≠ [] then some 5 else if d > 1 ∧ b = false then some 5 else (badIx k lm.1 0).bind fun i => if 0 ≤ i then some 5 else
   if lm.1.length < 4611686018427387904 ∧ lm.2.length < 4611686018427387904 then (if dupB lm.1 = true then some 9 else if dupB lm.2 = true then some 9 else some 0) else none
def tree_check.f : Nat → ByteArray → List S68 → List S27 → Int → Option Int
 | 0, _, _, _, _ => none
 | k + 1, nm, ps, ks, d => (tree_check.node k nm ps ks d).bind fun e => if e = 0 then tree_check.kids (fun x y z => tree_check.f k x y z (wrap64 (d + 1))) ks else some e
theorem badIx.mono (k : Nat) : ∀ (xs : List ByteArray) (i : Nat), LeO (badIx k xs i) (badIx (k + 1) xs i)
 | [], i => LeO.refl _
 | s :: r, i => by
  unfold badIx; exact LeO.bind (name_Prop.mono _ _) (fun b => LeO.ite (badIx.mono k r (i + 1)) (LeO.refl _))
end Go.Proofs.YtkopmkinlanhoaaGreat.PE
