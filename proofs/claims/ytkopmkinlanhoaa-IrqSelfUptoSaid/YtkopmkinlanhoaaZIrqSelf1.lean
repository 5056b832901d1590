/- IrqSelf: texts of this session's, and what the kit's print laid for this seat, as far as the law's row uses them (Dict, Shelf, PBx0, PBx0, PBx0, PBx0, PBx0). -/
import Derived.Shelf.Small.Bits
import Derived.Shelf.Small.Strs
import Derived.Shelf.Utf8.RuneCount
import Derived.Shelf.Strconv.Itoa0
import Derived.Shelf.Strings.Search1
import Derived.Shelf.Strings.Search2
import Derived.Shelf.Strings.Cut
import Derived.Shelf.LaysM
import Derived.Shelf.Strings.Shaped
import Derived.Shelf.Sort.Plain
import Derived.Shelf.Strings.RuneCount
import Derived.Ground.Names2Prog
import Derived.Shelf.Slices.Clone
import Derived.Shelf.Slices.CompactS
import Derived.Shelf.Slices.Cells
import Derived.Shelf.Slices.In.SortNone
import Derived.Shelf.Bytes.SlIndexSmall
import Derived.Shelf.Bytes.SlIndexAt
import Derived.Ground.SlgnProg
import Derived.Shelf.SlicesE.Clone
import Derived.Shelf.Bytes.Small
import Derived.Shelf.Bytes.IndexByte
import Derived.Test.YtkopmkinlanhoaaProg
import Derived.WalkSpells
import Derived.Sort.OwnSorted
import Derived.Maps.Own
import Derived.Maps.OwnSet
import Derived.Maps.Views
import Derived.Test.YtkopmkinlanhoaaRows
import Derived.ChangeArms
import Derived.DataReads
import Derived.Deep.Slices
import Derived.Lib.EndianBits
import Derived.Lib.PathFns
import Derived.ProofKit
import Derived.OpenShut
import Derived.ShutString
import Derived.ChangeOld
import Derived.JoinedCond
import Derived.Deep.CondSized
import Derived.Test.YtkopmkinlanhoaaZIrqSelf0
set_option linter.unusedVariables false
set_option linter.unusedSimpArgs false
namespace Go.Proofs
variable {p : Prop}
theorem Ak (h : p) : @YtkopmkinlanhoaaW.PrintWords.Aside0 p := ⟨h⟩
theorem Sx : (∀ (a : Act) (v : Value) (d : Tmp), a.put (some d) v = { tmps := a.tmps.setIfInBounds d v, defers := a.defers }) ∧ (∀ (a : Act) (v : Value), a.put none v = a) ∧ (∀ (l : List Value) (i : Nat) (a : Value), l.toArray.setIfInBounds i a = (l.set i a).toArray) ∧ (∀ {x : Value} {xs : List Value} {i : Nat} {a : Value}, (x :: xs).set (i + 1) a = x :: xs.set i a) ∧ (∀ {x : Value} {xs : List Value} {a : Value}, (x :: xs).set 0 a = a :: xs) ∧ (∀ n : Int, IntKind.i64.wrap n = Go.RowKit.wrap64 n) ∧ (∀ n : Int, IntKind.i32.wrap n = Go.RowKit.wrap32 n) := ⟨fun _ _ _ => rfl, fun _ _ => rfl, List.setIfInBounds_toArray, List.set_cons_succ, List.set_cons_zero, YtkopmkinlanhoaaW.PrintLast.i64_w, YtkopmkinlanhoaaW.PrintLast.i32_w⟩
theorem Zq1 (h : p := by omega) : p := h
theorem Zq2 (h : p := by kernel_rfl) : p := h
theorem Zq3 (h : p := by rfl) : p := h
theorem Zq4 (h : p := by decide) : p := h
theorem Zq5 (h : p := by first | (with_reducible assumption) | assumption) : p := h
theorem Zq6 (h : p := by repeat (first | (with_reducible first | exact HB.out | apply below_alloc | apply pw_below_drewN | apply below_drew1) | exact HB.out)) : p := h
theorem Zq7 (h : p := by first | rfl | (simp; done) | (simp [*]; done)) : p := h
theorem Zq8 (h : p := by (try simp only [List.map_toArray, List.map_cons, List.map_nil]); first | done | rfl | (simp only [List.length_drop, List.length_take]; rfl)) : p := h
theorem Zq9 (h : p := by repeat (first | exact Drawn0.refl _ | apply Drawn0.step)) : p := h
theorem Zq10 (h : p := by simp) : p := h
theorem Zq11 (h : p := by (with_reducible repeat (first | refine blk_drewN ?_ _ | refine blk_drew ?_ | refine blk_alloc ?_ _)); exact BKaa.out) : p := h
theorem Zq12 (h : p := by (with_reducible repeat (first | refine blk_drewN ?_ _ | refine blk_drew ?_ | refine blk_alloc ?_ _)); exact BKag.out) : p := h
theorem Zq13 (h : p := by first | rfl | (simp [errW_none, errW_some] <;> rfl) | (simp [*, errW_none, errW_some] <;> rfl)) : p := h
theorem Zq14 (h : p := by (with_reducible repeat (first | refine blk_drewN ?_ _ | refine blk_drew ?_ | refine blk_alloc ?_ _)); exact BKab.out) : p := h
theorem Zq15 (h : p := by repeat (first | (with_reducible first | exact HB.out | apply below_alloc | apply pw_below_drewN | apply below_drew1 | refine below_set ?_ GEaa.out | refine below_set ?_ GEag.out | refine below_set ?_ GEab.out | refine below_set ?_ GEae.out) | exact HB.out)) : p := h
theorem Zq16 (h : p := by repeat (first | (with_reducible first | exact HB.out | apply below_alloc | apply pw_below_drewN | apply below_drew1 | refine below_set ?_ GEaa.out | refine below_set ?_ GEag.out) | exact HB.out)) : p := h
theorem Zq17 (h : p := by repeat (first | (with_reducible first | exact HB.out | apply below_alloc | apply pw_below_drewN | apply below_drew1 | refine below_set ?_ GEak.out | refine below_set ?_ GEao.out | refine below_set ?_ GEaA.out) | exact HB.out)) : p := h
theorem Zq18 (h : p := by (with_reducible repeat (first | apply Kd.R_alloc | apply Kd.R_drewN | apply Kd.R_drew)); exact HOal.out) : p := h
theorem Zq19 (h : p := by (with_reducible repeat (first | refine blk_drewN ?_ _ | refine blk_drew ?_ | refine blk_alloc ?_ _)); exact BKad.out) : p := h
theorem Zq20 (h : p := by (with_reducible repeat (first | refine blk_drewN ?_ _ | refine blk_drew ?_ | refine blk_alloc ?_ _)); exact BKan.out) : p := h
theorem Zq21 (h : p := by repeat (first | (with_reducible first | exact HB.out | apply below_alloc | apply pw_below_drewN | apply below_drew1 | refine below_set ?_ GEad.out | refine below_set ?_ GEan.out) | exact HB.out)) : p := h
theorem Zq22 (h : p := by repeat (first | (with_reducible first | exact HB.out | apply below_alloc | apply pw_below_drewN | apply below_drew1 | refine below_set ?_ GEaa.out | refine below_set ?_ GEag.out | refine below_set ?_ GEab.out) | exact HB.out)) : p := h
theorem Zq23 (h : p := by repeat (first | (with_reducible first | exact HB.out | apply below_alloc | apply pw_below_drewN | apply below_drew1 | refine below_set ?_ GEah.out) | exact HB.out)) : p := h
theorem Zq24 (h : p := by (with_reducible repeat (first | refine blk_drewN ?_ _ | refine blk_drew ?_ | refine blk_alloc ?_ _)); exact BKae.out) : p := h
theorem Zq25 (h : p := by repeat (first | (with_reducible first | exact HB.out | apply below_alloc | apply pw_below_drewN | apply below_drew1 | refine below_set ?_ GEad.out | refine below_set ?_ GEan.out | refine below_set ?_ GEac.out) | exact HB.out)) : p := h
theorem Zq26 (h : p := by (with_reducible repeat (first | refine blk_drewN ?_ _ | refine blk_drew ?_ | refine blk_alloc ?_ _)); exact BKak.out) : p := h
theorem Zq27 (h : p := by have := HK1.out; omega) : p := h
theorem Zq28 (h : p := by (with_reducible repeat (first | apply Kd.S_alloc | apply Kd.S_drewN | apply Kd.S_drew)); exact HO_bc.out) : p := h
theorem Zq29 (h : p := by (with_reducible repeat (first | refine blk_drewN ?_ _ | refine blk_drew ?_ | refine blk_alloc ?_ _)); exact BKaJ.out) : p := h
theorem Zq30 (h : p := by (with_reducible repeat (first | apply Kd.R_alloc | apply Kd.R_drewN | apply Kd.R_drew)); exact HOaG.out) : p := h
theorem Zq31 (h : p := by (with_reducible repeat (first | refine blk_drewN ?_ _ | refine blk_drew ?_ | refine blk_alloc ?_ _)); exact BKah.out) : p := h
theorem Zq32 (h : p := by repeat (first | (with_reducible first | exact HB.out | apply below_alloc | apply pw_below_drewN | apply below_drew1 | refine below_set ?_ GEaJ.out | refine below_set ?_ GEaP.out | refine below_set ?_ GEaE.out) | exact HB.out)) : p := h
theorem Zq33 (h : p := by (with_reducible repeat (first | refine blk_drewN ?_ _ | refine blk_drew ?_ | refine blk_alloc ?_ _)); exact BKao.out) : p := h
theorem Zq34 (h : p := by first | exact Kd.R_nil _ _ _ _ _ | exact Kd.N_nil _ _ _ _ _ | exact Kd.V_nil _ _ _ _ _ | exact Kd.Q_nil _ _ _ _ _ | exact Kd.S_nil _ _ _ _ _) : p := h
theorem Zq35 (h : p := by (with_reducible repeat (first | refine blk_drewN ?_ _ | refine blk_drew ?_ | refine blk_alloc ?_ _)); exact BKaA.out) : p := h
theorem Zq36 (h : p := by rw [e_]; exact GWaa.out) : p := h
theorem Zq37 (h : p := by rw [e_]; exact GWag.out) : p := h
theorem Zq38 (h : p := by rw [e_]; exact GWab.out) : p := h
theorem Zq39 (h : p := by rw [e_]; exact GWae.out) : p := h
theorem Zq40 (h : p := by (with_reducible repeat (first | refine blk_drewN ?_ _ | refine blk_drew ?_ | refine blk_alloc ?_ _)); exact BKaw.out) : p := h
theorem Zq41 (h : p := by (with_reducible repeat (first | apply Kd.R_alloc | apply Kd.R_drewN | apply Kd.R_drew)); exact HO_bb.out) : p := h
theorem Zq42 (h : p := by (with_reducible repeat (first | refine blk_drewN ?_ _ | refine blk_drew ?_ | refine blk_alloc ?_ _)); exact BKaP.out) : p := h
theorem Zq43 (h : p := by first | omega | exact Nat.le_refl _) : p := h
theorem Zq44 (h : p := by (with_reducible repeat (first | refine blk_drewN ?_ _ | refine blk_drew ?_ | refine blk_alloc ?_ _)); exact BKaH.out) : p := h
theorem Zq45 (h : p := by repeat (first | (with_reducible first | exact HB.out | apply below_alloc | apply pw_below_drewN | apply below_drew1 | refine below_set ?_ GEad.out) | exact HB.out)) : p := h
theorem Zq46 (h : p := by repeat (first | (with_reducible first | exact HB.out | apply below_alloc | apply pw_below_drewN | apply below_drew1 | refine below_set ?_ GEau.out) | exact HB.out)) : p := h
theorem Zq47 (h : p := by repeat (first | (with_reducible first | exact HB.out | apply below_alloc | apply pw_below_drewN | apply below_drew1 | refine below_set ?_ GEak.out | refine below_set ?_ GEao.out | refine below_set ?_ GEaA.out | refine below_set ?_ GEai.out) | exact HB.out)) : p := h
theorem Zq48 (h : p := by repeat (first | (with_reducible first | exact HB.out | apply below_alloc | apply pw_below_drewN | apply below_drew1 | refine below_set ?_ GEay.out) | exact HB.out)) : p := h
theorem Zq49 (h : p := by (with_reducible repeat (first | refine blk_drewN ?_ _ | refine blk_drew ?_ | refine blk_alloc ?_ _)); exact BKap.out) : p := h
theorem Zq50 (h : p := by rw [hlen]; decide) : p := h
theorem Zq51 (h : p := by repeat (first | (with_reducible first | exact HB.out | apply below_alloc | apply pw_below_drewN | apply below_drew1 | refine below_set ?_ GEaY.out) | exact HB.out)) : p := h
theorem Zq52 (h : p := by (with_reducible repeat (first | refine blk_drewN ?_ _ | refine blk_drew ?_ | refine blk_alloc ?_ _)); exact BKac.out) : p := h
theorem Zq53 (h : p := by repeat (first | (with_reducible first | exact HB.out | apply below_alloc | apply pw_below_drewN | apply below_drew1 | refine below_set ?_ GEam.out) | exact HB.out)) : p := h
theorem Zq54 (h : p := by (with_reducible repeat (first | refine blk_drewN ?_ _ | refine blk_drew ?_ | refine blk_alloc ?_ _)); exact BKaE.out) : p := h
theorem Zq55 (h : p := by repeat (first | (with_reducible first | exact HB.out | apply below_alloc | apply pw_below_drewN | apply below_drew1 | refine below_set ?_ GEaV.out) | exact HB.out)) : p := h
theorem Zq56 (h : p := by repeat (first | (with_reducible first | exact HB.out | apply below_alloc | apply pw_below_drewN | apply below_drew1 | refine below_set ?_ GEav.out) | exact HB.out)) : p := h
theorem Zq57 (h : p := by (with_reducible repeat (first | apply Kd.V_alloc | apply Kd.V_drewN | apply Kd.V_drew)); exact HO_aC.out) : p := h
theorem Zq58 (h : p := by (with_reducible repeat (first | refine blk_drewN ?_ _ | refine blk_drew ?_ | refine blk_alloc ?_ _)); exact BKbe.out) : p := h
theorem Zq59 (h : p := by repeat (first | (with_reducible first | exact HB.out | apply below_alloc | apply pw_below_drewN | apply below_drew1 | refine below_set ?_ GEbe.out | refine below_set ?_ GEaD.out | refine below_set ?_ GEax.out) | exact HB.out)) : p := h
theorem Zq60 (h : p := by simp only [putAll, Act.put, List.setIfInBounds_toArray, List.set_cons_zero, List.set_cons_succ]) : p := h
theorem Zq61 (h : p := by repeat (first | (with_reducible first | exact HB.out | apply below_alloc | apply pw_below_drewN | apply below_drew1 | refine below_set ?_ GEaN.out) | exact HB.out)) : p := h
theorem Zq62 (h : p := by repeat (first | (with_reducible first | exact HB.out | apply below_alloc | apply pw_below_drewN | apply below_drew1 | refine below_set ?_ GEaw.out | refine below_set ?_ GEaH.out | refine below_set ?_ GEap.out) | exact HB.out)) : p := h
theorem Zq63 (h : p := by (with_reducible repeat (first | apply Kd.S_alloc | apply Kd.S_drewN | apply Kd.S_drew)); exact HO_aU.out) : p := h
theorem Zq64 (h : p := by (with_reducible repeat (first | refine blk_drewN ?_ _ | refine blk_drew ?_ | refine blk_alloc ?_ _)); exact BKaY.out) : p := h
theorem Zq65 (h : p := by have := HJ4.out; have := HK2.out; have := HK3.out; have := HK4.out; have := HK5.out; omega) : p := h
theorem Zq66 (h : p := by (with_reducible repeat (first | refine blk_drewN ?_ _ | refine blk_drew ?_ | refine blk_alloc ?_ _)); exact BKam.out) : p := h
theorem Zq67 (h : p := by repeat (first | (with_reducible first | exact HB.out | apply below_alloc | apply pw_below_drewN | apply below_drew1 | refine below_set ?_ GEaa.out | refine below_set ?_ GEag.out | refine below_set ?_ GEab.out | refine below_set ?_ GEae.out | refine below_set ?_ GEaf.out) | exact HB.out)) : p := h
theorem Zq68 (h : p := by (with_reducible repeat (first | apply Kd.V_alloc | apply Kd.V_drewN | apply Kd.V_drew)); exact HO0_3.out) : p := h
theorem Zq69 (h : p := by (with_reducible repeat (first | apply Kd.V_alloc | apply Kd.V_drewN | apply Kd.V_drew)); exact HO0_4.out) : p := h
theorem Zq70 (h : p := by repeat (first | (with_reducible first | exact HB.out | apply below_alloc | apply pw_below_drewN | apply below_drew1 | refine below_set ?_ GEbH.out) | exact HB.out)) : p := h
theorem Zq71 (h : p := by (with_reducible repeat (first | refine blk_drewN ?_ _ | refine blk_drew ?_ | refine blk_alloc ?_ _)); exact BKau.out) : p := h
theorem Zq72 (h : p := by (with_reducible repeat (first | refine blk_drewN ?_ _ | refine blk_drew ?_ | refine blk_alloc ?_ _)); exact BKav.out) : p := h
theorem Zq73 (h : p := by repeat (first | (with_reducible first | exact HB.out | apply below_alloc | apply pw_below_drewN | apply below_drew1 | refine below_set ?_ GEaw.out | refine below_set ?_ GEaH.out | refine below_set ?_ GEap.out | refine below_set ?_ GEaB.out) | exact HB.out)) : p := h
theorem Zq74 (h : p := by (with_reducible repeat (first | refine blk_drewN ?_ _ | refine blk_drew ?_ | refine blk_alloc ?_ _)); exact BKbH.out) : p := h
theorem Zq75 (h : p := by (with_reducible repeat (first | refine blk_drewN ?_ _ | refine blk_drew ?_ | refine blk_alloc ?_ _)); exact BKaN.out) : p := h
theorem Zq76 (h : p := by repeat (first | (with_reducible first | exact HB.out | apply below_alloc | apply pw_below_drewN | apply below_drew1 | refine below_set ?_ GEaM.out) | exact HB.out)) : p := h
theorem Zq77 (h : p := by (with_reducible repeat (first | apply Kd.S_alloc | apply Kd.S_drewN | apply Kd.S_drew)); exact HObp.out) : p := h
theorem Zq78 (h : p := by (with_reducible repeat (first | apply Kd.R_alloc | apply Kd.R_drewN | apply Kd.R_drew)); exact HObq.out) : p := h
theorem Zq79 (h : p := by (with_reducible repeat (first | refine blk_drewN ?_ _ | refine blk_drew ?_ | refine blk_alloc ?_ _)); exact BKay.out) : p := h
theorem Zq80 (h : p := by repeat (first | (with_reducible first | exact HB.out | apply below_alloc | apply pw_below_drewN | apply below_drew1 | refine below_set ?_ GEaw.out | refine below_set ?_ GEaH.out | refine below_set ?_ GEap.out | refine below_set ?_ GEaS.out) | exact HB.out)) : p := h
theorem Zq81 (h : p := by repeat (first | (with_reducible first | exact HB.out | apply below_alloc | apply pw_below_drewN | apply below_drew1 | refine below_set ?_ GEbe.out) | exact HB.out)) : p := h
theorem Zq82 (h : p := by (try simp only [List.map_toArray, List.map_cons, List.map_nil]); first | done | rfl) : p := h
theorem Zq83 (h : p := by (with_reducible repeat (first | apply Kd.S_alloc | apply Kd.S_drewN | apply Kd.S_drew)); exact Kd.S_mono HObG.out (fun _ hk => hk.2)) : p := h
theorem Zq84 (h : p := by (with_reducible repeat (first | apply Kd.R_alloc | apply Kd.R_drewN | apply Kd.R_drew)); exact Kd.R_mono HObA.out (fun _ hk => ⟨hk.1.1.1.1, ⟨hk.1.1.1.2, ⟨hk.1.1.2, ⟨hk.1.2, hk.2⟩⟩⟩⟩)) : p := h
theorem Zq85 (h : p := by (with_reducible repeat (first | apply Kd.S_alloc | apply Kd.S_drewN | apply Kd.S_drew)); exact Kd.S_mono HO_bc.out (fun _ hk => hk.2)) : p := h
theorem Zq86 (h : p := by repeat (first | (with_reducible first | exact HB.out | apply below_alloc | apply pw_below_drewN | apply below_drew1 | refine below_set ?_ GEaZ.out) | exact HB.out)) : p := h
theorem Zq87 (h : p := by repeat (first | (with_reducible first | exact HB.out | apply below_alloc | apply pw_below_drewN | apply below_drew1 | refine below_set ?_ GEaJ.out) | exact HB.out)) : p := h
theorem Zq88 (h : p := by repeat (first | (with_reducible first | exact HB.out | apply below_alloc | apply pw_below_drewN | apply below_drew1 | refine below_set ?_ GEaJ.out | refine below_set ?_ GEaP.out) | exact HB.out)) : p := h
theorem Zq89 (h : p := by (with_reducible repeat (first | refine blk_drewN ?_ _ | refine blk_drew ?_ | refine blk_alloc ?_ _)); exact BKaX.out) : p := h
theorem Zq90 (h : p := by (with_reducible repeat (first | refine blk_drewN ?_ _ | refine blk_drew ?_ | refine blk_alloc ?_ _)); exact BKaD.out) : p := h
theorem Zq91 (h : p := by repeat (first | (with_reducible first | exact HB.out | apply below_alloc | apply pw_below_drewN | apply below_drew1 | refine below_set ?_ GEbH.out | refine below_set ?_ GEbM.out) | exact HB.out)) : p := h
theorem Zq92 (h : p := by (with_reducible repeat (first | refine blk_drewN ?_ _ | refine blk_drew ?_ | refine blk_alloc ?_ _)); exact BKaZ.out) : p := h
theorem Zq93 (h : p := by (with_reducible repeat (first | apply Kd.Q_alloc | apply Kd.Q_drewN | apply Kd.Q_drew)); exact HO_10.out) : p := h
theorem Zq94 (h : p := by repeat (first | (with_reducible first | exact HB.out | apply below_alloc | apply pw_below_drewN | apply below_drew1 | refine below_set ?_ GEaX.out | refine below_set ?_ GEaK.out | refine below_set ?_ GEar.out) | exact HB.out)) : p := h
theorem Zq95 (h : p := by (with_reducible repeat (first | refine blk_drewN ?_ _ | refine blk_drew ?_ | refine blk_alloc ?_ _)); refine blk_far ?_ NB316_326.out _; (with_reducible repeat (first | refine blk_drewN ?_ _ | refine blk_drew ?_ | refine blk_alloc ?_ _)); refine blk_far ?_ NB316_326.out _; (with_reducible repeat (first | refine blk_drewN ?_ _ | refine blk_drew ?_ | refine blk_alloc ?_ _)); exact BKaa.out) : p := h
theorem Zq96 (h : p := by (with_reducible repeat (first | refine blk_drewN ?_ _ | refine blk_drew ?_ | refine blk_alloc ?_ _)); refine blk_far ?_ NB317_326.out _; (with_reducible repeat (first | refine blk_drewN ?_ _ | refine blk_drew ?_ | refine blk_alloc ?_ _)); refine blk_far ?_ NB317_326.out _; (with_reducible repeat (first | refine blk_drewN ?_ _ | refine blk_drew ?_ | refine blk_alloc ?_ _)); exact BKag.out) : p := h
theorem Zq97 (h : p := by (with_reducible repeat (first | refine blk_drewN ?_ _ | refine blk_drew ?_ | refine blk_alloc ?_ _)); refine blk_far ?_ NB316_332.out _; (with_reducible repeat (first | refine blk_drewN ?_ _ | refine blk_drew ?_ | refine blk_alloc ?_ _)); refine blk_far ?_ NB316_332.out _; (with_reducible repeat (first | refine blk_drewN ?_ _ | refine blk_drew ?_ | refine blk_alloc ?_ _)); exact BKaa.out) : p := h
theorem Zq98 (h : p := by (with_reducible repeat (first | refine blk_drewN ?_ _ | refine blk_drew ?_ | refine blk_alloc ?_ _)); refine blk_far ?_ NB317_332.out _; (with_reducible repeat (first | refine blk_drewN ?_ _ | refine blk_drew ?_ | refine blk_alloc ?_ _)); refine blk_far ?_ NB317_332.out _; (with_reducible repeat (first | refine blk_drewN ?_ _ | refine blk_drew ?_ | refine blk_alloc ?_ _)); exact BKag.out) : p := h
theorem Zq99 (h : p := by (with_reducible repeat (first | refine blk_drewN ?_ _ | refine blk_drew ?_ | refine blk_alloc ?_ _)); refine blk_far ?_ NB326_332.out _; (with_reducible repeat (first | refine blk_drewN ?_ _ | refine blk_drew ?_ | refine blk_alloc ?_ _)); refine blk_far ?_ NB326_332.out _; (with_reducible repeat (first | refine blk_drewN ?_ _ | refine blk_drew ?_ | refine blk_alloc ?_ _)); exact BKab.out) : p := h
theorem Zq100 (h : p := by (with_reducible repeat (first | apply Kd.V_alloc | apply Kd.V_drewN | apply Kd.V_drew)); exact HObw.out) : p := h
theorem Zq101 (h : p := by (with_reducible repeat (first | apply Kd.V_alloc | apply Kd.V_drewN | apply Kd.V_drew)); exact HObx.out) : p := h
theorem Zq102 (h : p := by first | exact Kd.S_nil _ _ _ _ _ | exact Kd.N_nil _ _ _ _ _ | exact Kd.V_nil _ _ _ _ _ | exact Kd.Q_nil _ _ _ _ _ | exact Kd.R_nil _ _ _ _ _) : p := h
theorem Zq103 (h : p := by (with_reducible repeat (first | apply Kd.R_alloc | apply Kd.R_drewN | apply Kd.R_drew)); exact HO_bB.out) : p := h
theorem Zq104 (h : p := by (with_reducible repeat (first | refine blk_drewN ?_ _ | refine blk_drew ?_ | refine blk_alloc ?_ _)); exact BKaB.out) : p := h
theorem Zq105 (h : p := by repeat (first | (with_reducible first | exact HB.out | apply below_alloc | apply pw_below_drewN | apply below_drew1 | refine below_set ?_ GEbe.out | refine below_set ?_ GEaD.out) | exact HB.out)) : p := h
theorem Zq106 (h : p := by (with_reducible repeat (first | refine blk_drewN ?_ _ | refine blk_drew ?_ | refine blk_alloc ?_ _)); exact BKaV.out) : p := h
theorem Zq107 (h : p := by (with_reducible repeat (first | apply Kd.S_alloc | apply Kd.S_drewN | apply Kd.S_drew)); exact HObG.out) : p := h
theorem Zq108 (h : p := by (with_reducible repeat (first | apply Kd.R_alloc | apply Kd.R_drewN | apply Kd.R_drew)); exact HObA.out) : p := h
theorem Zq109 (h : p := by repeat (first | (with_reducible first | exact HB.out | apply below_alloc | apply pw_below_drewN | apply below_drew1 | refine below_set ?_ GEaW.out) | exact HB.out)) : p := h
theorem Zq110 (h : p := by (with_reducible repeat (first | refine blk_drewN ?_ _ | refine blk_drew ?_ | refine blk_alloc ?_ _)); exact BKaM.out) : p := h
theorem Zq111 (h : p := by (with_reducible repeat (first | apply Kd.R_alloc | apply Kd.R_drewN | apply Kd.R_drew)); exact HOcO.out) : p := h
theorem Zq112 (h : p := by (with_reducible repeat (first | apply Kd.R_alloc | apply Kd.R_drewN | apply Kd.R_drew)); exact HO_4.out) : p := h
theorem Zq113 (h : p := by (with_reducible repeat (first | apply Kd.R_alloc | apply Kd.R_drewN | apply Kd.R_drew)); exact HOew.out) : p := h
theorem Zq114 (h : p := by repeat (first | (with_reducible first | exact HB.out | apply below_alloc | apply pw_below_drewN | apply below_drew1 | refine below_set ?_ GEbE.out) | exact HB.out)) : p := h
theorem Zq115 (h : p := by (with_reducible repeat (first | refine blk_drewN ?_ _ | refine blk_drew ?_ | refine blk_alloc ?_ _)); refine blk_far ?_ NB316_341.out _; (with_reducible repeat (first | refine blk_drewN ?_ _ | refine blk_drew ?_ | refine blk_alloc ?_ _)); refine blk_far ?_ NB316_341.out _; (with_reducible repeat (first | refine blk_drewN ?_ _ | refine blk_drew ?_ | refine blk_alloc ?_ _)); refine blk_far ?_ NB316_341.out _; (with_reducible repeat (first | refine blk_drewN ?_ _ | refine blk_drew ?_ | refine blk_alloc ?_ _)); exact BKaa.out) : p := h
theorem Zq116 (h : p := by (with_reducible repeat (first | refine blk_drewN ?_ _ | refine blk_drew ?_ | refine blk_alloc ?_ _)); refine blk_far ?_ NB317_341.out _; (with_reducible repeat (first | refine blk_drewN ?_ _ | refine blk_drew ?_ | refine blk_alloc ?_ _)); refine blk_far ?_ NB317_341.out _; (with_reducible repeat (first | refine blk_drewN ?_ _ | refine blk_drew ?_ | refine blk_alloc ?_ _)); refine blk_far ?_ NB317_341.out _; (with_reducible repeat (first | refine blk_drewN ?_ _ | refine blk_drew ?_ | refine blk_alloc ?_ _)); exact BKag.out) : p := h
theorem Zq117 (h : p := by (with_reducible repeat (first | refine blk_drewN ?_ _ | refine blk_drew ?_ | refine blk_alloc ?_ _)); refine blk_far ?_ NB326_341.out _; (with_reducible repeat (first | refine blk_drewN ?_ _ | refine blk_drew ?_ | refine blk_alloc ?_ _)); refine blk_far ?_ NB326_341.out _; (with_reducible repeat (first | refine blk_drewN ?_ _ | refine blk_drew ?_ | refine blk_alloc ?_ _)); refine blk_far ?_ NB326_341.out _; (with_reducible repeat (first | refine blk_drewN ?_ _ | refine blk_drew ?_ | refine blk_alloc ?_ _)); exact BKab.out) : p := h
theorem Zq118 (h : p := by (with_reducible repeat (first | refine blk_drewN ?_ _ | refine blk_drew ?_ | refine blk_alloc ?_ _)); refine blk_far ?_ NB332_341.out _; (with_reducible repeat (first | refine blk_drewN ?_ _ | refine blk_drew ?_ | refine blk_alloc ?_ _)); refine blk_far ?_ NB332_341.out _; (with_reducible repeat (first | refine blk_drewN ?_ _ | refine blk_drew ?_ | refine blk_alloc ?_ _)); refine blk_far ?_ NB332_341.out _; (with_reducible repeat (first | refine blk_drewN ?_ _ | refine blk_drew ?_ | refine blk_alloc ?_ _)); exact BKae.out) : p := h
theorem Zq119 (h : p := by repeat (first | (with_reducible first | exact HB.out | apply below_alloc | apply pw_below_drewN | apply below_drew1 | refine below_set ?_ GEaw.out | refine below_set ?_ GEaH.out) | exact HB.out)) : p := h
theorem Zq120 (h : p := by (with_reducible repeat (first | apply Kd.R_alloc | apply Kd.R_drewN | apply Kd.R_drew)); exact Kd.R_mono HO_bb.out (fun _ hk => ⟨hk.1.1.2, ⟨hk.1.2, ⟨hk.1.1.1.1, ⟨hk.1.1.1.2, hk.2⟩⟩⟩⟩)) : p := h
theorem Zq121 (h : p := by (with_reducible repeat (first | apply Kd.R_alloc | apply Kd.R_drewN | apply Kd.R_drew)); exact Kd.R_mono HO_bb.out (fun _ hk => ⟨hk.1.2, ⟨hk.2, ⟨hk.1.1.1.1, ⟨hk.1.1.1.2, hk.1.1.2⟩⟩⟩⟩)) : p := h
theorem Zq122 (h : p := by (with_reducible repeat (first | refine blk_drewN ?_ _ | refine blk_drew ?_ | refine blk_alloc ?_ _)); refine blk_far ?_ NB163_182.out _; (with_reducible repeat (first | refine blk_drewN ?_ _ | refine blk_drew ?_ | refine blk_alloc ?_ _)); refine blk_far ?_ NB163_182.out _; (with_reducible repeat (first | refine blk_drewN ?_ _ | refine blk_drew ?_ | refine blk_alloc ?_ _)); refine blk_far ?_ NB163_182.out _; (with_reducible repeat (first | refine blk_drewN ?_ _ | refine blk_drew ?_ | refine blk_alloc ?_ _)); exact BKad.out) : p := h
theorem Zq123 (h : p := by (with_reducible repeat (first | refine blk_drewN ?_ _ | refine blk_drew ?_ | refine blk_alloc ?_ _)); refine blk_far ?_ NB172_182.out _; (with_reducible repeat (first | refine blk_drewN ?_ _ | refine blk_drew ?_ | refine blk_alloc ?_ _)); refine blk_far ?_ NB172_182.out _; (with_reducible repeat (first | refine blk_drewN ?_ _ | refine blk_drew ?_ | refine blk_alloc ?_ _)); refine blk_far ?_ NB172_182.out _; (with_reducible repeat (first | refine blk_drewN ?_ _ | refine blk_drew ?_ | refine blk_alloc ?_ _)); exact BKan.out) : p := h
theorem Zq124 (h : p := by repeat (first | (with_reducible first | exact HB.out | apply below_alloc | apply pw_below_drewN | apply below_drew1 | refine below_set ?_ GEak.out | refine below_set ?_ GEao.out) | exact HB.out)) : p := h
theorem Zq125 (h : p := by (with_reducible repeat (first | refine blk_drewN ?_ _ | refine blk_drew ?_ | refine blk_alloc ?_ _)); refine blk_far ?_ NB265_276.out _; (with_reducible repeat (first | refine blk_drewN ?_ _ | refine blk_drew ?_ | refine blk_alloc ?_ _)); refine blk_far ?_ NB265_276.out _; (with_reducible repeat (first | refine blk_drewN ?_ _ | refine blk_drew ?_ | refine blk_alloc ?_ _)); refine blk_far ?_ NB265_276.out _; (with_reducible repeat (first | refine blk_drewN ?_ _ | refine blk_drew ?_ | refine blk_alloc ?_ _)); exact BKak.out) : p := h
theorem Zq126 (h : p := by (with_reducible repeat (first | refine blk_drewN ?_ _ | refine blk_drew ?_ | refine blk_alloc ?_ _)); refine blk_far ?_ NB266_276.out _; (with_reducible repeat (first | refine blk_drewN ?_ _ | refine blk_drew ?_ | refine blk_alloc ?_ _)); refine blk_far ?_ NB266_276.out _; (with_reducible repeat (first | refine blk_drewN ?_ _ | refine blk_drew ?_ | refine blk_alloc ?_ _)); refine blk_far ?_ NB266_276.out _; (with_reducible repeat (first | refine blk_drewN ?_ _ | refine blk_drew ?_ | refine blk_alloc ?_ _)); exact BKao.out) : p := h
theorem Zq127 (h : p := by (with_reducible repeat (first | refine blk_drewN ?_ _ | refine blk_drew ?_ | refine blk_alloc ?_ _)); refine blk_far ?_ NB267_276.out _; (with_reducible repeat (first | refine blk_drewN ?_ _ | refine blk_drew ?_ | refine blk_alloc ?_ _)); refine blk_far ?_ NB267_276.out _; (with_reducible repeat (first | refine blk_drewN ?_ _ | refine blk_drew ?_ | refine blk_alloc ?_ _)); refine blk_far ?_ NB267_276.out _; (with_reducible repeat (first | refine blk_drewN ?_ _ | refine blk_drew ?_ | refine blk_alloc ?_ _)); exact BKaA.out) : p := h
theorem Zq128 (h : p := by repeat (first | (with_reducible first | exact HB.out | apply below_alloc | apply pw_below_drewN | apply below_drew1 | refine below_set ?_ GEaX.out | refine below_set ?_ GEaK.out) | exact HB.out)) : p := h
theorem Zq129 (h : p := by (try simp only [List.map_toArray, List.map_cons, List.map_nil]); first | done | (rw [show (l1.take (x8_1 : Int).toNat).length = x8_1.toNat from (by rw [List.length_take]; have h_ : (x8_1 : Int) ≤ (l1.length : Int) := of_decide_eq_true Zq5; omega)] <;> rfl) | rfl | (simp only [List.length_drop, List.length_take]; rfl)) : p := h
theorem Zq130 (h : p := by exact Aside0.mk (blk_below (g := gbaa) (o := .cells #[.int .u32 a0_0, .slice A0_1 l0_1.length c0_1, .string a0_2, .slice A0_3 l0_3.length c0_3, .slice A0_4 l0_4.length c0_4] 29 (0, 0)) Zq11 hb)) : p := h
theorem Zq131 (h : p := by exact blk_lt (g := gbaa) (o := .cells #[.int .u32 a0_0, .slice A0_1 l0_1.length c0_1, .string a0_2, .slice A0_3 l0_3.length c0_3, .slice A0_4 l0_4.length c0_4] 29 (0, 0)) Zq11) : p := h
theorem Zq132 (h : p := by exact Aside0.mk (blk_below (g := gbag) (o := .cells #[.slice A1_0 l1_0.length c1_0, .int .u32 a1_1] 32 (0, 0)) Zq12 hb)) : p := h
theorem Zq133 (h : p := by exact blk_lt (g := gbag) (o := .cells #[.slice A1_0 l1_0.length c1_0, .int .u32 a1_1] 32 (0, 0)) Zq12) : p := h
theorem Zq134 (h : p := by exact Aside0.mk (blk_below (g := gbad) (o := .cells #[.int .u32 a0_0, .slice A0_1 l0_1.length c0_1, .string a0_2, .slice A0_3 l0_3.length c0_3, .slice A0_4 l0_4.length c0_4] 29 (0, 0)) Zq19 hb)) : p := h
theorem Zq135 (h : p := by exact blk_lt (g := gbad) (o := .cells #[.int .u32 a0_0, .slice A0_1 l0_1.length c0_1, .string a0_2, .slice A0_3 l0_3.length c0_3, .slice A0_4 l0_4.length c0_4] 29 (0, 0)) Zq19) : p := h
theorem Zq136 (h : p := by exact Aside0.mk (blk_below (g := gbak) (o := .cells #[.int .u32 a0_0, .slice A0_1 l0_1.length c0_1, .string a0_2, .slice A0_3 l0_3.length c0_3, .slice A0_4 l0_4.length c0_4] 29 (0, 0)) Zq26 hb)) : p := h
theorem Zq137 (h : p := by exact blk_lt (g := gbak) (o := .cells #[.int .u32 a0_0, .slice A0_1 l0_1.length c0_1, .string a0_2, .slice A0_3 l0_3.length c0_3, .slice A0_4 l0_4.length c0_4] 29 (0, 0)) Zq26) : p := h
theorem Zq138 (h : p := by exact Kd.C_below HR0_1.out HB.out) : p := h
theorem Zq139 (h : p := by exact Aside0.mk (blk_below (g := gban) (o := .cells #[.string tbO, .slice Ao11 taz.length co11, .slice Ao12 tbz.length co12] 27 (0, 0)) Zq20 hb)) : p := h
theorem Zq140 (h : p := by exact Aside0.mk (blk_below (g := gbaJ) (o := .cells #[.int .u32 a0_0, .slice A0_1 l0_1.length c0_1, .string a0_2, .slice A0_3 l0_3.length c0_3, .slice A0_4 l0_4.length c0_4] 29 (0, 0)) Zq29 hb)) : p := h
theorem Zq141 (h : p := by exact Kd.freshB (g := gbaa) (o := .cells #[.int .u32 a0_0, .slice A0_1 l0_1.length c0_1, .string a0_2, .slice A0_3 l0_3.length c0_3, .slice A0_4 l0_4.length c0_4] 29 (0, 0)) Zq11 k_ hn_) : p := h
theorem Zq142 (h : p := by exact Aside0.mk (below_step Zq6 hb)) : p := h
theorem Zq143 (h : p := by exact blk_lt (g := gban) (o := .cells #[.string tbO, .slice Ao11 taz.length co11, .slice Ao12 tbz.length co12] 27 (0, 0)) Zq20) : p := h
theorem Zq144 (h : p := by exact blk_lt (g := gbaJ) (o := .cells #[.int .u32 a0_0, .slice A0_1 l0_1.length c0_1, .string a0_2, .slice A0_3 l0_3.length c0_3, .slice A0_4 l0_4.length c0_4] 29 (0, 0)) Zq29) : p := h
theorem Zq145 (h : p := by exact Aside0.mk (blk_below (g := gbaA) (o := .cells #[.slice none 0 0, .int .u32 xch_1] 32 (0, 0)) Zq35 hb)) : p := h
theorem Zq146 (h : p := by exact Aside0.mk (blk_below (g := gbau) (o := .cells #[.string a0_0, .slice A0_1 l0_1.length c0_1, .slice A0_2 l0_2.length c0_2] 27 (0, 0)) Zq71 hb)) : p := h
theorem Zq147 (h : p := by exact Aside0.mk (blk_below (g := gbaP) (o := .cells #[.string a1_0, .slice A1_1 l1_1.length c1_1, .slice A1_2 l1_2.length c1_2] 27 (0, 0)) Zq42 hb)) : p := h
theorem Zq148 (h : p := by exact Aside0.mk (blk_below (g := gbav) (o := .cells #[.string a0_0, .slice A0_1 l0_1.length c0_1, .slice A0_2 l0_2.length c0_2] 27 (0, 0)) Zq72 hb)) : p := h
theorem Zq149 (h : p := by exact Kd.freshB (g := gbag) (o := .cells #[.slice A1_0 l1_0.length c1_0, .int .u32 a1_1] 32 (0, 0)) Zq12 k_ hn_) : p := h
theorem Zq150 (h : p := by exact Aside0.mk (Kd.R_lower (Kd.R_newB (Kd.R_newB (Kd.R_new' (Kd.R_new' (Kd.R_mono (ok' := fun k_ => some k_ ≠ (v176 : Value).ownBlock) ho1 (fun _ hk_ => hk_.2)) (Kd.S_lt Zq28)) (Kd.R_lt Zq41)) (g := gban) (o := .cells #[.string tbO, .slice Ao11 taz.length co11, .slice Ao12 tbz.length co12] 27 (0, 0)) Zq20) (g := gbac) (o := .cells #[.string (⟨#[]⟩ : ByteArray), .slice none 0 0, .slice none 0 0] 27 (0, 0)) Zq52) (below_size Zq25))) : p := h
theorem Zq151 (h : p := by exact Aside0.mk (Below.refl w.heap.size w)) : p := h
theorem Zq152 (h : p := by exact blk_lt (g := gbbe) (o := .cells #[.int .u32 a0_0, .slice A0_1 l0_1.length c0_1, .string a0_2, .slice A0_3 l0_3.length c0_3, .slice A0_4 l0_4.length c0_4] 29 (0, 0)) Zq58) : p := h
theorem Zq153 (h : p := by exact Kd.C_below HR0_3.out HB.out) : p := h
theorem Zq154 (h : p := by exact Kd.C_below HR0_4.out HB.out) : p := h
theorem Zq155 (h : p := by exact Aside0.mk ((by rw [hg]; exact (below_size Zq21) : w.heap.size ≤ gbac))) : p := h
theorem Zq156 (h : p := by exact Aside0.mk ((by rw [hg]; exact (below_size Zq16) : w.heap.size ≤ gbab))) : p := h
theorem Zq157 (h : p := by exact Aside0.mk ((by rw [hg]; exact (below_size Zq6) : w.heap.size ≤ gbah))) : p := h
theorem Zq158 (h : p := by exact Aside0.mk (blk_below (g := gbah) (o := .cells #[.string a0_0, .slice A0_1 l0_1.length c0_1, .slice (some adbK) l0_2.length c0_2] 27 (0, 0)) Zq31 hb)) : p := h
theorem Zq159 (h : p := by exact Aside0.mk (show Kd.R (Kd.int .i64) 3 w21 w0.heap.size (fun k_ => wr.heap.size ≤ k_) v300 [i] from Kd.R_lower (Kd.R_mono (Kd.R_bound ho) (fun k_ hk_ => Nat.le_trans (Nat.le_trans GB.out.2.2 (Nat.le_of_lt (blk_lt BX.out))) hk_.2.1)) HS.out.bel.size)) : p := h
theorem Zq160 (h : p := by exact Aside0.mk (show Kd.R (Kd.int .i64) 3 w20 w0.heap.size (fun k_ => wr.heap.size ≤ k_) v297 c from Kd.R_lower (Kd.R_mono (Kd.R_bound ho) (fun k_ hk_ => Nat.le_trans (Nat.le_trans GB.out.2.2 (Nat.le_of_lt (blk_lt BX.out))) hk_.2.1)) HS.out.bel.size)) : p := h
theorem Zq161 (h : p := by exact Kd.C_below HR0_2.out HB.out) : p := h
theorem Zq162 (h : p := by exact Aside0.mk (Kd.R_lower (Kd.R_newM (M := fun k_ => (w.heap.size ≤ k_)) (Kd.R_mono (ok' := fun k_ => some k_ ≠ (v270 : Value).ownBlock) ho1 (fun _ hk_ => hk_.2)) (below_size Zq17) (fun k_ h_ => h_)) (below_size Zq17))) : p := h
theorem Zq163 (h : p := by exact Aside0.mk ((by rw [hg]; exact (below_size Zq22) : w.heap.size ≤ gbae))) : p := h
theorem Zq164 (h : p := by exact Aside0.mk ((by rw [hg]; exact (below_size Zq15) : w.heap.size ≤ gbaf))) : p := h
theorem Zq165 (h : p := by exact blk_lt (g := gbaA) (o := .cells #[.slice none 0 0, .int .u32 xch_1] 32 (0, 0)) Zq35) : p := h
theorem Zq166 (h : p := by exact Aside0.mk (Kd.R_lower (Kd.R_newB (Kd.R_new' (Kd.R_new' (Kd.R_mono (ok' := fun k_ => some k_ ≠ (v176 : Value).ownBlock) ho1 (fun _ hk_ => hk_.2)) (Kd.S_lt Zq28)) (Kd.R_lt Zq41)) (g := gban) (o := .cells #[.string tbO, .slice Ao11 taz.length co11, .slice Ao12 tbz.length co12] 27 (0, 0)) Zq20) (below_size Zq21))) : p := h
theorem Zq167 (h : p := by exact Aside0.mk (Kd.R_below Zq18 hb)) : p := h
theorem Zq168 (h : p := by exact blk_lt (g := gbaH) (o := .cells #[.string (⟨#[]⟩ : ByteArray), .slice none 0 0, .slice none 0 0] 27 (0, 0)) Zq44) : p := h
theorem Zq169 (h : p := by exact Aside0.mk (Kd.R_mono (Kd.R_told (Kd.R_told (Kd.R_old Zq41 hb) (Kd.S_base ho0)) (Kd.R_base ho1)) (fun _ h_ => h_.1))) : p := h
theorem Zq170 (h : p := by exact Aside0.mk (blk_below (g := gbaM) (o := .cells #[.int .u32 a0_0, .slice A0_1 l0_1.length c0_1, .string a0_2, .slice A0_3 l0_3.length c0_3, .slice A0_4 l0_4.length c0_4] 29 (0, 0)) Zq110 hb)) : p := h
theorem Zq171 (h : p := by exact Aside0.mk (blk_below (g := gbaa) (o := .cells #[.int .u32 a0_0, .slice A0_1 l0_1.length c0_1, .string a0_2, .slice A0_3 l0_3.length c0_3, .slice A0_4 l0_4.length c0_4] 29 (0, 0)) Zq115 hb)) : p := h
theorem Zq172 (h : p := by exact Aside0.mk (blk_below (g := gbbe) (o := .cells #[.int .u32 a0_0, .slice A0_1 l0_1.length c0_1, .string a0_2, .slice A0_3 l0_3.length c0_3, .slice A0_4 l0_4.length c0_4] 29 (0, 0)) Zq58 hb)) : p := h
theorem Zq173 (h : p := by exact Aside0.mk (blk_below (g := gbaY) (o := .cells #[.int .u32 a0_0, .slice A0_1 l0_1.length c0_1, .string a0_2, .slice A0_3 l0_3.length c0_3, .slice A0_4 l0_4.length c0_4] 29 (0, 0)) Zq64 hb)) : p := h
theorem Zq174 (h : p := by exact Aside0.mk (Kd.S_lower (Kd.S_newM (M := fun k_ => (w.heap.size ≤ k_)) (Kd.S_mono (ok' := fun k_ => True) ho0 (fun _ hk_ => trivial)) (below_size Zq17) (fun k_ h_ => h_)) (below_size Zq17))) : p := h
theorem Zq175 (h : p := by exact Aside0.mk (blk_below (g := gbaH) (o := .cells #[.string (⟨#[]⟩ : ByteArray), .slice none 0 0, .slice none 0 0] 27 (0, 0)) Zq44 hb)) : p := h
theorem Zq176 (h : p := by exact Aside0.mk (Kd.R_lower (Kd.R_new' (Kd.R_mono (ok' := fun k_ => True) ho0 (fun _ hk_ => trivial)) (Kd.R_lt Zq18)) (below_size Zq22))) : p := h
theorem Zq177 (h : p := by exact blk_lt (g := gbaY) (o := .cells #[.int .u32 a0_0, .slice A0_1 l0_1.length c0_1, .string a0_2, .slice A0_3 l0_3.length c0_3, .slice A0_4 l0_4.length c0_4] 29 (0, 0)) Zq64) : p := h
theorem Zq178 (h : p := by exact blk_lt (g := gbaX) (o := .cells #[.int .u32 a0_0, .slice A0_1 l0_1.length c0_1, .string a0_2, .slice A0_3 l0_3.length c0_3, .slice A0_4 l0_4.length c0_4] 29 (0, 0)) Zq89) : p := h
theorem Zq179 (h : p := by exact Aside0.mk (Kd.R_lower (Kd.R_mono (ok' := fun k_ => True) ho0 (fun _ hk_ => trivial)) (below_size Zq16))) : p := h
theorem Zq180 (h : p := by exact Aside0.mk ((by rw [hg]; exact (below_size Zq17) : w.heap.size ≤ gbai))) : p := h
theorem Zq181 (h : p := by exact Aside0.mk (blk_below BK.out hb)) : p := h
theorem Zq182 (h : p := by exact Aside0.mk ((by rw [hg]; exact (below_size Zq6) : w.heap.size ≤ gbaV))) : p := h
theorem Zq183 (h : p := by exact Aside0.mk ((by rw [hg]; exact (below_size Zq6) : w.heap.size ≤ gbau))) : p := h
theorem Zq184 (h : p := by exact Aside0.mk ((by rw [hg]; exact (below_size Zq6) : w.heap.size ≤ gbay))) : p := h
theorem Zq185 (h : p := by exact Aside0.mk ((by rw [hg]; exact (below_size Zq6) : w.heap.size ≤ gbav))) : p := h
theorem Zq186 (h : p := by exact Aside0.mk (below_step Zq16 hb)) : p := h
theorem Zq187 (h : p := by exact Aside0.mk (blk_below (g := gbaV) (o := .cells #[.string a0_0, .slice A0_1 l0_1.length c0_1, .slice A0_2 l0_2.length c0_2] 27 (0, 0)) Zq106 hb)) : p := h
theorem Zq188 (h : p := by exact Aside0.mk (blk_below (g := gbay) (o := .cells #[.string a0_0, .slice A0_1 l0_1.length c0_1, .slice A0_2 l0_2.length c0_2] 27 (0, 0)) Zq79 hb)) : p := h
theorem Zq189 (h : p := by exact Aside0.mk (Kd.R_below Zq30 hb)) : p := h
theorem Zq190 (h : p := by exact blk_lt (g := gbbH) (o := .cells #[.string a0_0, .slice (some adce) l0_1.length c0_1, .slice A0_2 l0_2.length c0_2] 27 (0, 0)) Zq74) : p := h
theorem Zq191 (h : p := by exact blk_lt (g := gbaw) (o := .cells #[.string a0_0, .slice A0_1 l0_1.length c0_1, .slice A0_2 l0_2.length c0_2] 27 (0, 0)) Zq40) : p := h
theorem Zq192 (h : p := by exact blk_lt (g := gbaP) (o := .cells #[.string a1_0, .slice A1_1 l1_1.length c1_1, .slice A1_2 l1_2.length c1_2] 27 (0, 0)) Zq42) : p := h
theorem Zq193 (h : p := by exact Aside0.mk (blk_below (g := gbad) (o := .cells #[.int .u32 a0_0, .slice A0_1 l0_1.length c0_1, .string a0_2, .slice A0_3 l0_3.length c0_3, .slice A0_4 l0_4.length c0_4] 29 (0, 0)) Zq122 hb)) : p := h
theorem Zq194 (h : p := by exact Aside0.mk (blk_below (g := gbak) (o := .cells #[.int .u32 a0_0, .slice A0_1 l0_1.length c0_1, .string a0_2, .slice A0_3 l0_3.length c0_3, .slice A0_4 l0_4.length c0_4] 29 (0, 0)) Zq125 hb)) : p := h
theorem Zq195 (h : p := by exact Aside0.mk (blk_below (g := gbam) (o := .cells #[.int .u32 a0_0, .slice A0_1 l0_1.length c0_1, .string a0_2, .slice A0_3 l0_3.length c0_3, .slice A0_4 l0_4.length c0_4] 29 (0, 0)) Zq66 hb)) : p := h
theorem Zq196 (h : p := by exact Aside0.mk (Kd.R_below (Kd.R_elderB Zq41 gbac (Nat.le_of_eq hg.symm)) hb)) : p := h
theorem Zq197 (h : p := by exact Aside0.mk (show w.heap.size ≤ g0 from by rw [hg]; exact Nat.le_refl _)) : p := h
theorem Zq198 (h : p := by exact Aside0.mk ((by rw [hg]; exact (below_size Zq6) : w.heap.size ≤ gbaN))) : p := h
theorem Zq199 (h : p := by exact Aside0.mk ((by rw [hg]; exact (below_size Zq6) : w.heap.size ≤ gbaZ))) : p := h
theorem Zq200 (h : p := by exact Aside0.mk ((by rw [hg]; exact (below_size Zq6) : w.heap.size ≤ gbaM))) : p := h
theorem Zq201 (h : p := by exact Aside0.mk (blk_below (g := gbab) (o := .cells #[.slice Aobm taj.length cobm, .int .u32 taL] 32 (0, 0)) Zq14 hb)) : p := h
theorem Zq202 (h : p := by exact Aside0.mk (blk_below (g := gbab) (o := .cells #[.slice Aobj taj.length cobj, .int .u32 taL] 32 (0, 0)) Zq14 hb)) : p := h
theorem Zq203 (h : p := by exact Aside0.mk (blk_below (g := gbab) (o := .cells #[.slice Aoaz taj.length coaz, .int .u32 taL] 32 (0, 0)) Zq14 hb)) : p := h
theorem Zq204 (h : p := by exact Aside0.mk (Kd.V_mono (Kd.V_told (Kd.V_told (Kd.V_old Zq57 hb) (Kd.S_base ho0)) (Kd.R_base ho1)) (fun _ h_ => h_.1))) : p := h
theorem Zq205 (h : p := by exact Aside0.mk (blk_below (g := gbag) (o := .cells #[.slice A1_0 l1_0.length c1_0, .int .u32 a1_1] 32 (0, 0)) Zq116 hb)) : p := h
theorem Zq206 (h : p := by exact Aside0.mk (blk_below (g := gbab) (o := .cells #[.slice Ao33 taj.length co33, .int .u32 taL] 32 (0, 0)) Zq14 hb)) : p := h
theorem Zq207 (h : p := by exact Aside0.mk (blk_below (g := gbab) (o := .cells #[.slice Ao67 taj.length co67, .int .u32 taL] 32 (0, 0)) Zq14 hb)) : p := h
theorem Zq208 (h : p := by exact Aside0.mk (below_drew1 HB.out)) : p := h
theorem Zq209 (h : p := by exact blk_lt (g := gbab) (o := .cells #[.slice Aobm taj.length cobm, .int .u32 taL] 32 (0, 0)) Zq14) : p := h
theorem Zq210 (h : p := by exact blk_lt (g := gbab) (o := .cells #[.slice Aobj taj.length cobj, .int .u32 taL] 32 (0, 0)) Zq14) : p := h
theorem Zq211 (h : p := by exact blk_lt (g := gbab) (o := .cells #[.slice Aoaz taj.length coaz, .int .u32 taL] 32 (0, 0)) Zq14) : p := h
theorem Zq212 (h : p := by exact Aside0.mk (blk_below (g := gbaN) (o := .cells #[.string a0_0, .slice A0_1 l0_1.length c0_1, .slice (some adbX) l0_2.length c0_2] 27 (0, 0)) Zq75 hb)) : p := h
theorem Zq213 (h : p := by exact Aside0.mk (blk_below (g := gbaZ) (o := .cells #[.string a0_0, .slice A0_1 l0_1.length c0_1, .slice (some adbY) l0_2.length c0_2] 27 (0, 0)) Zq92 hb)) : p := h
theorem Zq214 (h : p := by exact Aside0.mk (blk_below (g := gbay) (o := .cells #[.string a0_0, .slice (some adbD) l0_1.length c0_1, .slice A0_2 l0_2.length c0_2] 27 (0, 0)) Zq79 hb)) : p := h
theorem Zq215 (h : p := by exact Aside0.mk (Kd.V_below (Kd.V_elderB Zq100 gbaf (Nat.le_of_eq hg.symm)) hb)) : p := h
theorem Zq216 (h : p := by exact Aside0.mk (Kd.V_below (Kd.V_elderB Zq101 gbaf (Nat.le_of_eq hg.symm)) hb)) : p := h
theorem Zq217 (h : p := by exact blk_lt (g := gbab) (o := .cells #[.slice Ao33 taj.length co33, .int .u32 taL] 32 (0, 0)) Zq14) : p := h
theorem Zq218 (h : p := by exact blk_lt (g := gbab) (o := .cells #[.slice Ao67 taj.length co67, .int .u32 taL] 32 (0, 0)) Zq14) : p := h
theorem Zq219 (h : p := by exact Aside0.mk (blk_below (g := gbaE) (o := .cells #[.slice none 0 0, .int .u32 0] 32 (0, 0)) Zq54 hb)) : p := h
theorem Zq220 (h : p := by exact Aside0.mk (blk_below (g := gban) (o := .cells #[.string tbO, .slice Ao11 taz.length co11, .slice Ao12 tbz.length co12] 27 (0, 0)) Zq123 hb)) : p := h
theorem Zq221 (h : p := by exact Aside0.mk (below_step Zq22 hb)) : p := h
theorem Zq222 (h : p := by exact Aside0.mk (below_step Zq15 hb)) : p := h
theorem Zq223 (h : p := by exact Aside0.mk (blk_below (g := gbac) (o := .cells #[.string (⟨#[]⟩ : ByteArray), .slice none 0 0, .slice none 0 0] 27 (0, 0)) Zq52 hb)) : p := h
theorem Zq224 (h : p := by exact Aside0.mk (Kd.S_lower (Kd.S_new' (Kd.S_mono (ok' := fun k_ => True) ho0 (fun _ hk_ => trivial)) (Kd.S_lt Zq28)) (below_size Zq21))) : p := h
theorem Zq225 (h : p := by exact Aside0.mk (Kd.S_lower (Kd.S_new' (Kd.S_mono (ok' := fun k_ => True) ho0 (fun _ hk_ => trivial)) (Kd.S_lt Zq28)) (below_size Zq25))) : p := h
theorem Zq226 (h : p := by exact Aside0.mk (Kd.R_lower (Kd.R_newM (M := fun k_ => (w.heap.size ≤ k_)) ho0 (below_size Zq47) (fun k_ h_ => h_)) (below_size Zq47))) : p := h
theorem Zq227 (h : p := by exact Aside0.mk (blk_below (g := gbao) (o := .cells #[.slice Ao17 xaC_1.length co17, .int .u32 xbn_1] 32 (0, 0)) Zq33 hb)) : p := h
theorem Zq228 (h : p := by exact Aside0.mk (blk_below (g := gbao) (o := .cells #[.slice Ao39 xaC_1.length co39, .int .u32 xbn_1] 32 (0, 0)) Zq33 hb)) : p := h
theorem Zq229 (h : p := by exact Aside0.mk (blk_below (g := gbao) (o := .cells #[.slice Ao60 xaC_1.length co60, .int .u32 xbn_1] 32 (0, 0)) Zq33 hb)) : p := h
theorem Zq230 (h : p := by exact Aside0.mk (below_step Zq21 hb)) : p := h
theorem Zq231 (h : p := by exact Aside0.mk (Kd.S_elder' Zq28 (Kd.S_base ho0) hb)) : p := h
theorem Zq232 (h : p := by exact Aside0.mk (Kd.V_below (Kd.V_elderB Zq57 gbai (Nat.le_of_eq hg.symm)) hb)) : p := h
theorem Zq233 (h : p := by exact Aside0.mk (Kd.R_below (Kd.R_elderB Zq78 gbai (Nat.le_of_eq hg.symm)) hb)) : p := h
theorem Zq234 (h : p := by exact Aside0.mk (blk_below BX.out hb)) : p := h
theorem Zq235 (h : p := by exact Aside0.mk (blk_below (g := gbaA) (o := .cells #[.slice none 0 0, .int .u32 xch_1] 32 (0, 0)) Zq127 hb)) : p := h
theorem Zq236 (h : p := by exact Aside0.mk ((by rw [hg]; exact (below_size Zq81) : w.heap.size ≤ gbaD))) : p := h
theorem Zq237 (h : p := by exact Aside0.mk ((by rw [hg]; exact (below_size Zq70) : w.heap.size ≤ gbbM))) : p := h
theorem Zq238 (h : p := by exact Aside0.mk ((by rw [hg]; exact (below_size Zq51) : w.heap.size ≤ gbbJ))) : p := h
theorem Zq239 (h : p := by exact Aside0.mk ((by rw [hg]; exact (below_size Zq45) : w.heap.size ≤ gban))) : p := h
theorem Zq240 (h : p := by exact Aside0.mk ((by rw [hg]; exact (below_size Zq87) : w.heap.size ≤ gbaP))) : p := h
theorem Zq241 (h : p := by exact Aside0.mk ((by rw [hg]; exact (below_size Zq88) : w.heap.size ≤ gbaE))) : p := h
theorem Zq242 (h : p := by exact Aside0.mk ((by rw [hg]; exact (below_size Zq6) : w.heap.size ≤ gbbe))) : p := h
theorem Zq243 (h : p := by exact Aside0.mk ((by rw [hg]; exact (below_size Zq6) : w.heap.size ≤ gbaY))) : p := h
theorem Zq244 (h : p := by exact Aside0.mk ((by rw [hg]; exact (below_size Zq6) : w.heap.size ≤ gbad))) : p := h
theorem Zq245 (h : p := by exact Aside0.mk ((by rw [hg]; exact (below_size Zq6) : w.heap.size ≤ gbaW))) : p := h
theorem Zq246 (h : p := by exact Aside0.mk ((by rw [hg]; exact (below_size Zq6) : w.heap.size ≤ gbam))) : p := h
theorem Zq247 (h : p := by exact Aside0.mk (below_step Zq46 hb)) : p := h
theorem Zq248 (h : p := by exact Aside0.mk ((by rw [hg]; exact (below_size Zq6) : w.heap.size ≤ gbaJ))) : p := h
theorem Zq249 (h : p := by exact Aside0.mk (below_step Zq17 hb)) : p := h
theorem Zq250 (h : p := by exact Aside0.mk (below_step Zq56 hb)) : p := h
theorem Zq251 (h : p := by exact Aside0.mk (blk_below (g := gbaX) (o := .cells #[.int .u32 a0_0, .slice A0_1 l0_1.length c0_1, .string a0_2, .slice A0_3 l0_3.length c0_3, .slice A0_4 l0_4.length c0_4] 29 (0, 0)) Zq89 hb)) : p := h
theorem Zq252 (h : p := by exact Aside0.mk (Kd.R_elder' Zq18 (Kd.R_base ho0) hb)) : p := h
theorem Zq253 (h : p := by exact Aside0.mk (show Kd.V k63 63 w w.heap.size (fun k_ => ((P0_3_ k_ ∨ P0_4_ k_) ∨ w.heap.size ≤ k_)) (.slice A0_3 l0_3.length c0_3) l0_3 from Kd.V_mono hs0_3 (fun k_ hk => .inl (.inl hk)))) : p := h
theorem Zq254 (h : p := by exact Aside0.mk (show Kd.V k27 27 w w.heap.size (fun k_ => ((P0_3_ k_ ∨ P0_4_ k_) ∨ w.heap.size ≤ k_)) (.slice A0_4 l0_4.length c0_4) l0_4 from Kd.V_mono hs0_4 (fun k_ hk => .inl (.inr hk)))) : p := h
theorem Zq255 (h : p := by exact Aside0.mk (Kd.S_below Zq28 hb)) : p := h
theorem Zq256 (h : p := by exact Aside0.mk (below_step Zq25 hb)) : p := h
theorem Zq257 (h : p := by exact Aside0.mk (Kd.S_below Zq77 hb)) : p := h
theorem Zq258 (h : p := by exact Aside0.mk (below_step Zq48 hb)) : p := h
theorem Zq259 (h : p := by exact Aside0.mk (blk_kept BX.out hR.kept (fun h_ => h_.elim (fun e_ => by have := HS.out.st.2; have := GB.out.1; omega) (fun e_ => by have := LO.out g1 e_; have := GB.out.2.2; omega)))) : p := h
theorem Zq260 (h : p := by exact Aside0.mk (Kd.S_below (Kd.S_elderB (by (with_reducible repeat (first | apply Kd.S_alloc | apply Kd.S_drewN | apply Kd.S_drew)); exact HO_18.out) gbbJ (Nat.le_of_eq hg.symm)) hb)) : p := h
theorem Zq261 (h : p := by exact Aside0.mk (Kd.R_below (Kd.R_elderB (by (with_reducible repeat (first | apply Kd.R_alloc | apply Kd.R_drewN | apply Kd.R_drew)); exact HOcM.out) gban (Nat.le_of_eq hg.symm)) hb)) : p := h
theorem Zq262 (h : p := by exact Aside0.mk (Kd.R_lower ho0 (below_size Zq32))) : p := h
theorem Zq263 (h : p := by exact blk_put (cs := #[.string xn.f0, .slice none 0 0, .slice none 0 0]) (blk_put (cs := #[.string (⟨#[]⟩ : ByteArray), .slice none 0 0, .slice none 0 0]) BX.out 0 _ rfl) 1 _ rfl) : p := h
theorem Zq264 (h : p := by exact Aside0.mk (show w.heap.size ≤ g1 ∧ g0 ≠ g1 ∧ wr.heap.size ≤ g1 from ⟨by rw [hg]; exact HS.out.kept.1, by rw [hg]; exact Nat.ne_of_lt (blk_lt BK.out), Nat.le_of_eq hg.symm⟩)) : p := h
theorem Zq265 (h : p := by exact Aside0.mk (blk_kept BK.out hR.kept (fun h_ => h_.elim (fun e_ => by have := HS.out.st.2; have := GE.out; omega) (fun e_ => Kd.S_ne HS.out.own BK.out Zq4 e_.symm)))) : p := h
theorem Zq266 (h : p := by exact Kd.C_below HRbK_1.out HB.out) : p := h
theorem Zq267 (h : p := by exact Kd.C_below HRbK_2.out HB.out) : p := h
theorem Zq268 (h : p := by exact Aside0.mk (blk_below (g := gbaw) (o := .cells #[.string a0_0, .slice (some adaO) l0_1.length c0_1, .slice A0_2 l0_2.length c0_2] 27 (0, 0)) Zq40 hb)) : p := h
theorem Zq269 (h : p := by exact Aside0.mk (blk_below (g := gbaw) (o := .cells #[.string a0_0, .slice A0_1 l0_1.length c0_1, .slice (some adaF) l0_2.length c0_2] 27 (0, 0)) Zq40 hb)) : p := h
theorem Zq270 (h : p := by exact Aside0.mk (blk_below (g := gbbH) (o := .cells #[.string a0_0, .slice (some adce) l0_1.length c0_1, .slice A0_2 l0_2.length c0_2] 27 (0, 0)) Zq74 hb)) : p := h
theorem Zq271 (h : p := by exact Aside0.mk (below_step Zq23 hb)) : p := h
theorem Zq272 (h : p := by exact Aside0.mk (below_step Zq32 hb)) : p := h
theorem Zq273 (h : p := by exact Aside0.mk (below_step Zq47 hb)) : p := h
theorem Zq274 (h : p := by exact Aside0.mk (HS.out.grown hg (fun k_ hk_ => Nat.le_trans LK.out (HObN.out.1 k_ hk_)) (fun k_ ho_ _ e_ => Nat.not_le_of_lt ho_.2 (HObN.out.1 k_ e_)))) : p := h
theorem Zq275 (h : p := by exact Aside0.mk (Kd.R_below (Kd.R_elderB Zq108 gbac (Nat.le_of_eq hg.symm)) hb)) : p := h
theorem Zq276 (h : p := by exact Kd.C_below HRca.out HB.out) : p := h
theorem Zq277 (h : p := by exact Aside0.mk (blk_below (g := gbaw) (o := .cells #[.string a0_0, .slice A0_1 l0_1.length c0_1, .slice A0_2 l0_2.length c0_2] 27 (0, 0)) Zq40 hb)) : p := h
theorem Zq278 (h : p := by exact Aside0.mk (Kd.R_below (by (with_reducible repeat (first | apply Kd.R_alloc | apply Kd.R_drewN | apply Kd.R_drew)); exact HL161_1.out) hb)) : p := h
theorem Zq279 (h : p := by exact Aside0.mk (Kd.S_below (by (with_reducible repeat (first | apply Kd.S_alloc | apply Kd.S_drewN | apply Kd.S_drew)); exact HOdi.out) hb)) : p := h
theorem Zq280 (h : p := by exact Aside0.mk (Kd.R_below (by (with_reducible repeat (first | apply Kd.R_alloc | apply Kd.R_drewN | apply Kd.R_drew)); exact HOdp.out) hb)) : p := h
theorem Zq281 (h : p := by exact blk_lt (g := gbaw) (o := .cells #[.string a0_0, .slice (some adaO) l0_1.length c0_1, .slice A0_2 l0_2.length c0_2] 27 (0, 0)) Zq40) : p := h
theorem Zq282 (h : p := by exact blk_lt (g := gbaw) (o := .cells #[.string a0_0, .slice A0_1 l0_1.length c0_1, .slice (some adaF) l0_2.length c0_2] 27 (0, 0)) Zq40) : p := h
theorem Zq283 (h : p := by exact Aside0.mk (Kd.R_lower (Kd.R_mono (ok' := fun k_ => some k_ ≠ (v166 : Value).ownBlock) ho1 (fun _ hk_ => hk_.2)) (below_size Zq45))) : p := h
theorem Zq284 (h : p := by exact Aside0.mk ((by rw [hg]; exact Nat.ne_of_lt Zq135 : gbad ≠ gbac))) : p := h
theorem Zq285 (h : p := by exact Aside0.mk ((by rw [hg]; exact Nat.ne_of_gt Zq135 : gbac ≠ gbad))) : p := h
theorem Zq286 (h : p := by exact Aside0.mk ((by rw [hg]; exact Nat.ne_of_lt Zq143 : gban ≠ gbac))) : p := h
theorem Zq287 (h : p := by exact Aside0.mk ((by rw [hg]; exact Nat.ne_of_gt Zq143 : gbac ≠ gban))) : p := h
theorem Zq288 (h : p := by exact Aside0.mk ((by rw [hg]; exact Nat.ne_of_lt Zq131 : gbaa ≠ gbab))) : p := h
theorem Zq289 (h : p := by exact Aside0.mk ((by rw [hg]; exact Nat.ne_of_gt Zq131 : gbab ≠ gbaa))) : p := h
theorem Zq290 (h : p := by exact Aside0.mk ((by rw [hg]; exact Nat.ne_of_lt Zq133 : gbag ≠ gbab))) : p := h
theorem Zq291 (h : p := by exact Aside0.mk ((by rw [hg]; exact Nat.ne_of_gt Zq133 : gbab ≠ gbag))) : p := h
theorem Zq292 (h : p := by exact Aside0.mk ((by rw [hg]; exact Nat.ne_of_lt Zq131 : gbaa ≠ gbae))) : p := h
theorem Zq293 (h : p := by exact Aside0.mk ((by rw [hg]; exact Nat.ne_of_gt Zq131 : gbae ≠ gbaa))) : p := h
theorem Zq294 (h : p := by exact Aside0.mk ((by rw [hg]; exact Nat.ne_of_lt Zq133 : gbag ≠ gbae))) : p := h
theorem Zq295 (h : p := by exact Aside0.mk ((by rw [hg]; exact Nat.ne_of_gt Zq133 : gbae ≠ gbag))) : p := h
theorem Zq296 (h : p := by exact Aside0.mk ((by rw [hg]; exact Nat.ne_of_lt Zq131 : gbaa ≠ gbaf))) : p := h
theorem Zq297 (h : p := by exact Aside0.mk ((by rw [hg]; exact Nat.ne_of_gt Zq131 : gbaf ≠ gbaa))) : p := h
theorem Zq298 (h : p := by exact Aside0.mk ((by rw [hg]; exact Nat.ne_of_lt Zq133 : gbag ≠ gbaf))) : p := h
theorem Zq299 (h : p := by exact Aside0.mk ((by rw [hg]; exact Nat.ne_of_gt Zq133 : gbaf ≠ gbag))) : p := h
theorem Zq300 (h : p := by exact Aside0.mk ((by rw [hg]; exact Nat.ne_of_lt Zq137 : gbak ≠ gbai))) : p := h
theorem Zq301 (h : p := by exact Aside0.mk ((by rw [hg]; exact Nat.ne_of_gt Zq137 : gbai ≠ gbak))) : p := h
theorem Zq302 (h : p := by exact Aside0.mk ((by rw [hg]; exact Nat.ne_of_lt Zq165 : gbaA ≠ gbai))) : p := h
theorem Zq303 (h : p := by exact Aside0.mk ((by rw [hg]; exact Nat.ne_of_gt Zq165 : gbai ≠ gbaA))) : p := h
end Go.Proofs

namespace Go.Proofs
open Go.Shelf
def Try.lays137_ren : Go.Shelf.Ren := ⟨fun | 137 => 109 | 217 => 117 | 266 => 132 | n => n, fun | 9 => 9 | 5 => 5 | 3 => 3 | n => n, fun | n => n⟩
theorem Try.lays137 : Go.Proofs.Lays.n137 Try.prog Try.lays137_ren := {
  mixed := by kernel_rfl
  f137 := Try.func109.trans (congrArg some (by kernel_rfl))
  f217 := Try.func117.trans (congrArg some (by kernel_rfl))
  f266 := Try.func132.trans (congrArg some (by kernel_rfl))
  t3 := Try.underlying3
  a3 := Try.isAgg3
  z3 := Try.sizeOf3
  v3 := Try.zeroValue3
  t5 := Try.underlying5
  a5 := Try.isAgg5
  z5 := Try.sizeOf5
  v5 := Try.zeroValue5
  t9 := Try.underlying9
  a9 := Try.isAgg9
  z9 := Try.sizeOf9
  v9 := Try.zeroValue9 }
open Go.RowKit in
theorem Try.strings_IndexByte (s : ByteArray) (c : Int) (w : World) :
    Calls Try.prog 109 #[.string s, .int .u8 c] w fun e w' => e = .returned (.int .i64 (Lib.indexByte s.data.toList c.toNat.toUInt8)) ∧ w' = w := Any.strings_IndexByte Try.lays137 s c w
end Go.Proofs

namespace Go.Proofs.Ytkopmkinlanhoaa.PB
open Go.RowKit Go.Proofs.YtkopmkinlanhoaaW.PrintWords Go.Proofs.YtkopmkinlanhoaaW.PrintLast Go.Proofs.YtkopmkinlanhoaaW.PrintMore
attribute [local go_sem] max2_int min2_int max_two min_two max_three min_three max_four min_four
def errW : Option Int → Value
 | none => .nilIface
 | some c => .iface 0 (.int .i64 c)
theorem errW_none : errW none = .nilIface := rfl
theorem errW_some (c : Int) : errW (some c) = .iface 0 (.int .i64 c) := rfl
theorem info3 : (Try.prog.info? 3).map (fun i => (i.zero, i.size, i.bytes)) = some (some (.int .i64 0), 1, 8) := by kernel_rfl
theorem info5 : (Try.prog.info? 5).map (fun i => (i.zero, i.size, i.bytes)) = some (some (.int .u8 0), 1, 1) := by kernel_rfl
theorem info22 : (Try.prog.info? 22).map (fun i => (i.zero, i.size, i.bytes)) = some (some (.int .u32 0), 1, 4) := by kernel_rfl
theorem info27 : (Try.prog.info? 27).map (fun i => (i.zero, i.size, i.bytes)) = some (some (.agg #[(.string ⟨#[]⟩), (.slice none 0 0), (.slice none 0 0)]), 3, 64) := by kernel_rfl
theorem info63 : (Try.prog.info? 63).map (fun i => (i.zero, i.size, i.bytes)) = some (some (.agg #[(.string ⟨#[]⟩), (.slice none 0 0)]), 2, 40) := by kernel_rfl
theorem info137 : (Try.prog.info? 137).map (fun i => (i.zero, i.size, i.bytes)) = some (some (.agg #[(.int .u32 0), (.slice none 0 0)]), 2, 32) := by kernel_rfl
structure S82 where
 f0 : Int
 f1 : Int
def z82 : S82 := ⟨(0 : Int), (0 : Int)⟩
def k82 : Kd S82 := Kd.iso (Kd.pair (Kd.int .u64) (Kd.int .u64)) (fun x : S82 => (x.f0, x.f1))
theorem k82_open {w : World} {x : S82} {cs : List Value} (h : k82.K w x cs) : cs = [.int .u64 x.f0, .int .u64 x.f1] := by
 obtain ⟨_, _, rfl, rfl, rfl⟩ := h
 exact rfl
def rd_T82 (xs : List S82) (i : Int) : S82 := xs.getD i.toNat z82
theorem at_T82 {w : World} {A : Option Addr} {n : Nat} {xs : List S82} (h : Kd.C k82 w A n xs) (i : Int) (h0 : 0 ≤ i) (h1 : i < n) : ∃ ad , A = some ad ∧ w.cell? (ad.add (i.toNat * 2)) = some (.int .u64 (rd_T82 xs i).f0) ∧ w.cell? ⟨(ad.add (i.toNat * 2)).block, (ad.add (i.toNat * 2)).off + 1, none⟩ = some (.int .u64 (rd_T82 xs i).f1) := by
 obtain ⟨ad, c, e, _, hK, hc0⟩ := Kd.C_get h z82 i h0 h1; have hc : ∀ j u, c[j]? = some u → w.cell? (ad.add (i.toNat * 2 + j)) = some u := hc0; obtain rfl := k82_open hK
 exact ⟨ad, e, hc 0 _ rfl, by rw [← add_field _ _ 1 Zq1]; exact hc 1 _ rfl⟩
structure S63 where
 f0 : ByteArray
 f1 : (List Int)
def z63 : S63 := ⟨(⟨#[]⟩ : ByteArray), ([] : List Int)⟩
def k63 : Kd S63 := Kd.iso (Kd.pair Kd.string (Kd.slice 5 (Kd.int .u8))) (fun x : S63 => (x.f0, x.f1))
theorem k63_heap : Kd.Heap k63 := Kd.heap_iso _ (Kd.heap_pair Kd.heap_string (Kd.heap_slice 5 (Kd.heap_int .u8)))
theorem k63_open {w : World} {x : S63} {cs : List Value} (h : k63.K w x cs) : ∃ A1 c1, cs = [.string x.f0, .slice A1 x.f1.length c1] ∧ x.f1.length ≤ c1 ∧ (Kd.int .u8).C w A1 x.f1.length x.f1 := by
 obtain ⟨_, _, rfl, rfl, ⟨A1, c1, rfl, l1, g1⟩⟩ := h
 exact ⟨A1, c1, rfl, l1, g1⟩
theorem k63_mkM (w : World) (base : Nat) (ok : Nat → Prop) (x : S63) {v1 : Value} (g1 : (Kd.int .u8).R 5 w base ok v1 x.f1) : k63.M w base ok x [.string x.f0, v1] := ⟨[.string x.f0], [v1], rfl, rfl, ⟨v1, rfl, g1⟩⟩
def rd_T63 (xs : List S63) (i : Int) : S63 := xs.getD i.toNat z63
theorem at_T63 {w : World} {A : Option Addr} {n : Nat} {xs : List S63} (h : Kd.C k63 w A n xs) (i : Int) (h0 : 0 ≤ i) (h1 : i < n) : ∃ ad A1 c1, A = some ad ∧ w.cell? (ad.add (i.toNat * 2)) = some (.string (rd_T63 xs i).f0) ∧ w.cell? ⟨(ad.add (i.toNat * 2)).block, (ad.add (i.toNat * 2)).off + 1, none⟩ = some (.slice A1 (rd_T63 xs i).f1.length c1) ∧ (rd_T63 xs i).f1.length ≤ c1 ∧ (Kd.int .u8).C w A1 (rd_T63 xs i).f1.length (rd_T63 xs i).f1 := by
 obtain ⟨ad, c, e, _, hK, hc0⟩ := Kd.C_get h z63 i h0 h1; have hc : ∀ j u, c[j]? = some u → w.cell? (ad.add (i.toNat * 2 + j)) = some u := hc0; obtain ⟨A1, c1, rfl, l1, g1⟩ := k63_open hK
 exact ⟨ad, A1, c1, e, hc 0 _ rfl, by rw [← add_field _ _ 1 Zq1]; exact hc 1 _ rfl, l1, g1⟩
structure S27 where
 f0 : ByteArray
 f1 : (List S63)
 f2 : (List S27)
def z27 : S27 := ⟨(⟨#[]⟩ : ByteArray), ([] : List S63), ([] : List S27)⟩
def F27 (d : Kd S27) : Kd S27 := Kd.iso (Kd.pair Kd.string (Kd.pair (Kd.slice 63 k63) (Kd.slice 27 d))) (fun x : S27 => (x.f0, x.f1, x.f2))
theorem mono27 : Kd.Mono F27 := Kd.mono_iso _ (Kd.mono_pair (Kd.mono_const _) (Kd.mono_pair (Kd.mono_const _) (Kd.mono_slice 27 Kd.mono_id)))
theorem sub27 : Kd.Sub F27 [5, 27, 63] := Kd.sub_iso _ (Kd.sub_pair (Kd.sub_const _ Zq4) (Kd.sub_pair (Kd.sub_const _ Zq4) (Kd.sub_slice 27 Zq4 Kd.sub_id)))
theorem sz27 : ∀ n, (Kd.upto F27 3 [5, 27, 63] n).sz = 3 := Kd.upto_sz (fun _ => rfl)
def k27 : Kd S27 := Kd.fix F27 3 [5, 27, 63] sz27 (Kd.upto_E sub27)
theorem k27_heap : Kd.Heap k27 := Kd.heap_fix (fun _ h_ => Kd.heap_iso _ (Kd.heap_pair Kd.heap_string (Kd.heap_pair (Kd.heap_slice 63 k63_heap) (Kd.heap_slice 27 h_))))
theorem k27_open {w : World} {x : S27} {cs : List Value} (h : k27.K w x cs) : ∃ A1 c1 A2 c2, cs = [.string x.f0, .slice A1 x.f1.length c1, .slice A2 x.f2.length c2] ∧ x.f1.length ≤ c1 ∧ k63.C w A1 x.f1.length x.f1 ∧ x.f2.length ≤ c2 ∧ k27.C w A2 x.f2.length x.f2 := by
 obtain ⟨n, h⟩ := h
 cases n with
 | zero => exact h.elim
 | succ n =>
  obtain ⟨_, _, rfl, rfl, ⟨_, _, rfl, ⟨A1, c1, rfl, l1, g1⟩, ⟨A2, c2, rfl, l2, g2⟩⟩⟩ := h
  exact ⟨A1, c1, A2, c2, rfl, l1, g1, l2, Kd.fix_C g2⟩
theorem k27_mk (w : World) (x : S27) {A1 : Option Addr} {c1 : Nat} (l1 : x.f1.length ≤ c1) (g1 : k63.C w A1 x.f1.length x.f1) {A2 : Option Addr} {c2 : Nat} (l2 : x.f2.length ≤ c2) (g2 : k27.C w A2 x.f2.length x.f2) : k27.K w x [.string x.f0, .slice A1 x.f1.length c1, .slice A2 x.f2.length c2] := by
 obtain ⟨n2, q2⟩ := Kd.fix_C_back mono27 g2; have r2 := Kd.upto_C_le mono27 sz27 (show n2 ≤ n2 by omega) q2
 exact ⟨n2 + 1, ⟨[.string x.f0], [.slice A1 x.f1.length c1, .slice A2 x.f2.length c2], rfl, rfl, ⟨[.slice A1 x.f1.length c1], [.slice A2 x.f2.length c2], rfl, ⟨A1, c1, rfl, l1, g1⟩, ⟨A2, c2, rfl, l2, r2⟩⟩⟩⟩
theorem k27_mkM (w : World) (base : Nat) (ok : Nat → Prop) (x : S27) {v1 : Value} (g1 : k63.R 63 w base ok v1 x.f1) {v2 : Value} (g2 : k27.R 27 w base ok v2 x.f2) : k27.M w base ok x [.string x.f0, v1, v2] := by
 obtain ⟨n2, q2⟩ := Kd.fix_R_back mono27 g2; have r2 := Kd.upto_R_le mono27 sz27 (show n2 ≤ n2 by omega) q2
 exact ⟨n2 + 1, ⟨[.string x.f0], [v1, v2], rfl, rfl, ⟨[v1], [v2], rfl, ⟨v1, rfl, g1⟩, ⟨v2, rfl, r2⟩⟩⟩⟩
theorem k27_openF {W : World} {ok : Nat → Prop} {x : S27} {cs : List Value} (h : Kd.FK k27 W ok x cs) : ∃ A1 c1 A2 c2, cs = [.string x.f0, .slice A1 x.f1.length c1, .slice A2 x.f2.length c2] ∧ x.f1.length ≤ c1 ∧ Kd.F k63 W ok A1 x.f1.length x.f1 ∧ x.f2.length ≤ c2 ∧ Kd.F k27 W ok A2 x.f2.length x.f2 := by
 obtain ⟨A1, c1, A2, c2, rfl, l1, _, l2, _⟩ := k27_open (Kd.FK_now h)
 exact ⟨A1, c1, A2, c2, rfl, l1, (fun W' hW => by obtain ⟨A1_, c1_, A2_, c2_, he, l1_, g1_, l2_, g2_⟩ := k27_open (h W' hW); injection (Option.some.inj (show some (Value.slice A1 x.f1.length c1) = some (Value.slice A1_ x.f1.length c1_) from congrArg (fun l => l[1]?) he)) with ha_ _ _; rw [ha_]; exact g1_), l2, (fun W' hW => by obtain ⟨A1_, c1_, A2_, c2_, he, l1_, g1_, l2_, g2_⟩ := k27_open (h W' hW); injection (Option.some.inj (show some (Value.slice A2 x.f2.length c2) = some (Value.slice A2_ x.f2.length c2_) from congrArg (fun l => l[2]?) he)) with ha_ _ _; rw [ha_]; exact g2_)⟩
def rd_T27 (xs : List S27) (i : Int) : S27 := xs.getD i.toNat z27
theorem at_T27 {w : World} {A : Option Addr} {n : Nat} {xs : List S27} (h : Kd.C k27 w A n xs) (i : Int) (h0 : 0 ≤ i) (h1 : i < n) : ∃ ad A1 c1 A2 c2, A = some ad ∧ w.cell? (ad.add (i.toNat * 3)) = some (.string (rd_T27 xs i).f0) ∧ w.cell? ⟨(ad.add (i.toNat * 3)).block, (ad.add (i.toNat * 3)).off + 1, none⟩ = some (.slice A1 (rd_T27 xs i).f1.length c1) ∧ w.cell? ⟨(ad.add (i.toNat * 3)).block, (ad.add (i.toNat * 3)).off + 2, none⟩ = some (.slice A2 (rd_T27 xs i).f2.length c2) ∧ (rd_T27 xs i).f1.length ≤ c1 ∧ k63.C w A1 (rd_T27 xs i).f1.length (rd_T27 xs i).f1 ∧ (rd_T27 xs i).f2.length ≤ c2 ∧ k27.C w A2 (rd_T27 xs i).f2.length (rd_T27 xs i).f2 := by
 obtain ⟨ad, c, e, _, hK, hc0⟩ := Kd.C_get h z27 i h0 h1; have hc : ∀ j u, c[j]? = some u → w.cell? (ad.add (i.toNat * 3 + j)) = some u := hc0; obtain ⟨A1, c1, A2, c2, rfl, l1, g1, l2, g2⟩ := k27_open hK
 exact ⟨ad, A1, c1, A2, c2, e, hc 0 _ rfl, by rw [← add_field _ _ 1 Zq1]; exact hc 1 _ rfl, by rw [← add_field _ _ 2 Zq1]; exact hc 2 _ rfl, l1, g1, l2, g2⟩
structure S29 where
 f0 : Int
 f1 : (List S82)
 f2 : S27
def k29 : Kd S29 := Kd.iso (Kd.pair (Kd.int .u32) (Kd.pair (Kd.slice 82 k82) k27)) (fun x : S29 => (x.f0, x.f1, x.f2))
theorem k29_open {w : World} {x : S29} {cs : List Value} (h : k29.K w x cs) : ∃ A1 c1 A3 c3 A4 c4, cs = [.int .u32 x.f0, .slice A1 x.f1.length c1, .string x.f2.f0, .slice A3 x.f2.f1.length c3, .slice A4 x.f2.f2.length c4] ∧ x.f1.length ≤ c1 ∧ k82.C w A1 x.f1.length x.f1 ∧ x.f2.f1.length ≤ c3 ∧ k63.C w A3 x.f2.f1.length x.f2.f1 ∧ x.f2.f2.length ≤ c4 ∧ k27.C w A4 x.f2.f2.length x.f2.f2 := by
 obtain ⟨_, _, rfl, rfl, ⟨_, _, rfl, ⟨A1, c1, rfl, l1, g1⟩, s2⟩⟩ := h; obtain ⟨A3, c3, A4, c4, rfl, l3, g3, l4, g4⟩ := k27_open s2
 exact ⟨A1, c1, A3, c3, A4, c4, rfl, l1, g1, l3, g3, l4, g4⟩
structure S32 where
 f0 : (List Int)
 f1 : Int
def k32 : Kd S32 := Kd.iso (Kd.pair (Kd.slice 3 (Kd.int .i64)) (Kd.int .u32)) (fun x : S32 => (x.f0, x.f1))
theorem k32_open {w : World} {x : S32} {cs : List Value} (h : k32.K w x cs) : ∃ A0 c0, cs = [.slice A0 x.f0.length c0, .int .u32 x.f1] ∧ x.f0.length ≤ c0 ∧ (Kd.int .i64).C w A0 x.f0.length x.f0 := by
 obtain ⟨_, _, rfl, ⟨A0, c0, rfl, l0, g0⟩, rfl⟩ := h
 exact ⟨A0, c0, rfl, l0, g0⟩
structure S137 where
 f0 : Int
 f1 : (List Int)
def z137 : S137 := ⟨(0 : Int), ([] : List Int)⟩
def k137 : Kd S137 := Kd.iso (Kd.pair (Kd.int .u32) (Kd.slice 3 (Kd.int .i64))) (fun x : S137 => (x.f0, x.f1))
theorem k137_open {w : World} {x : S137} {cs : List Value} (h : k137.K w x cs) : ∃ A1 c1, cs = [.int .u32 x.f0, .slice A1 x.f1.length c1] ∧ x.f1.length ≤ c1 ∧ (Kd.int .i64).C w A1 x.f1.length x.f1 := by
 obtain ⟨_, _, rfl, rfl, ⟨A1, c1, rfl, l1, g1⟩⟩ := h
 exact ⟨A1, c1, rfl, l1, g1⟩
theorem k137_openM {w : World} {base : Nat} {ok : Nat → Prop} {x : S137} {cs : List Value} (h : k137.M w base ok x cs) : ∃ v1, cs = [.int .u32 x.f0, v1] ∧ (Kd.int .i64).R 3 w base ok v1 x.f1 := by
 obtain ⟨_, _, rfl, rfl, ⟨v1, rfl, g1⟩⟩ := h
 exact ⟨v1, rfl, g1⟩
theorem k137_mkM (w : World) (base : Nat) (ok : Nat → Prop) (x : S137) {v1 : Value} (g1 : (Kd.int .i64).R 3 w base ok v1 x.f1) : k137.M w base ok x [.int .u32 x.f0, v1] := ⟨[.int .u32 x.f0], [v1], rfl, rfl, ⟨v1, rfl, g1⟩⟩
def rd_T137 (xs : List S137) (i : Int) : S137 := xs.getD i.toNat z137
theorem at_T137 {w : World} {A : Option Addr} {n : Nat} {xs : List S137} (h : Kd.C k137 w A n xs) (i : Int) (h0 : 0 ≤ i) (h1 : i < n) : ∃ ad A1 c1, A = some ad ∧ w.cell? (ad.add (i.toNat * 2)) = some (.int .u32 (rd_T137 xs i).f0) ∧ w.cell? ⟨(ad.add (i.toNat * 2)).block, (ad.add (i.toNat * 2)).off + 1, none⟩ = some (.slice A1 (rd_T137 xs i).f1.length c1) ∧ (rd_T137 xs i).f1.length ≤ c1 ∧ (Kd.int .i64).C w A1 (rd_T137 xs i).f1.length (rd_T137 xs i).f1 := by
 obtain ⟨ad, c, e, _, hK, hc0⟩ := Kd.C_get h z137 i h0 h1; have hc : ∀ j u, c[j]? = some u → w.cell? (ad.add (i.toNat * 2 + j)) = some u := hc0; obtain ⟨A1, c1, rfl, l1, g1⟩ := k137_open hK
 exact ⟨ad, A1, c1, e, hc 0 _ rfl, by rw [← add_field _ _ 1 Zq1]; exact hc 1 _ rfl, l1, g1⟩
def bytes_Clone.f (l0 : List Int) : Option (List Int) := if l0.length < 140737488355328 then (some l0) else (none)
set_option maxRecDepth 100000 in
theorem bytes_Clone.calls (A0 : Option Addr) (c0 : Nat) (l0 : List Int) (r : List Int) (w : World) (hr0 : Kd.C (Kd.int .u8) w A0 l0.length l0) (hc0 : l0.length ≤ c0) (h : bytes_Clone.f l0 = some r) :
  Calls Try.prog 79 #[.slice A0 l0.length c0] w fun e w' => ∃ v0_ : Value, e = .returned (v0_) ∧ Kd.R (Kd.int .u8) 5 w' w.heap.size (fun _ => True) v0_ r ∧ Below w.heap.size w w' := by
 unfold bytes_Clone.f at h
 by_cases c3 : l0.length < 140737488355328
 ·rw [if_pos c3] at h; injection h with h; subst h; have HR0 := Ak hr0; have HC0 := Ak hc0; clear hr0 hc0; have HB := Zq151; have LMc3 := Ak c3; clear c3
  cases A0 with
  | none =>
   have hn : l0 = [] := by
    cases l0 with
    | nil => rfl
    | cons x r =>
     obtain ⟨ad, he, _⟩ := HR0.out.2.2 Zq10
     cases he
   subst hn
   have q := fun w' : World => Lib.run_eql_slice_nil (P := Try.prog) w' 45 5 none ([] : List Int).length c0 0 0 Try.underlying45
   simp only [Option.isNone_none, List.length_nil] at q
   go_enter Try.func79, Try.ntmps79
   go_wp2
   go_ret
   exact ⟨_, rfl, Kd.R_nil _ _ _ _ _, Below.refl _ _⟩
  | some x0 =>
   have q := fun w' : World => Lib.run_eql_slice_nil (P := Try.prog) w' 45 5 (some x0) l0.length c0 0 0 Try.underlying45
   simp only [Option.isNone_some] at q
   obtain ⟨y5, hy5⟩ : ∃ y_ : List Int, y_ = [] := ⟨_, rfl⟩
   have Ny5 := Ak hy5; clear hy5
   obtain ⟨y7, hy7⟩ : ∃ y_ : List Int, y_ = y5 ++ l0 := ⟨_, rfl⟩
   have Ny7 := Ak hy7; clear hy7
   go_enter Try.func79, Try.ntmps79
   go_wp2_with (first | ((with_reducible refine gate_dst (N := 5) rfl ?_); refine Kd.R_lit (Kd.int .u8) _ 5 ?hg (N := 5) ?hd (xs := ([] : List Int)) (inner := []) (ok := fun _ => True) (okp := fun _ => True) ?hr ?hp (fun _ hk => hk) trivial (Below.refl _ _) (Nat.le_refl _) Zq10 ?_; (case hd | hg => rfl); (case hr => first | (go_simp; done) | (go_simp; rfl)); (case hp => exact (Reps.none _ _)); intro v5 w5 ho6 hb hg_ hnew_; clear hg_ hnew_; rw [← Ny5.out] at ho6; have n0_ := Ak (Kd.R_lower (base' := w.heap.size) ho6 (below_size Zq6)); have n2_ := Zq142; clear HB; have HO5 := n0_; have HB := n2_; clear n0_ n2_ hb ho6) | ((with_reducible refine gate_builtin (b := .append) (xs := #[.tmp 5, .tmp 6]) rfl ?_); at_builtin; refine Kd.R_append_rows (Kd.int .u8) (w0 := w) w.heap.size rfl (.tmp 5) (.tmp 6) 45 5 (.int .u8 0) 1 rfl Try.underlying45 info5 rfl Zq4 Zq1 v5 y5 l0 _ _ _ (fun _ => True) (fun _ => False) rfl rfl ?aO ?aR (fun _ _ h => h) (fun _ h => h.elim) (fun _ _ => trivial) ?aB ?aS ?aL ?_; (case aR => repeat (first | exact (Kd.C_below HR0.out HB.out) | (with_reducible refine Kd.C_alloc ?_ _) | (with_reducible refine Kd.C_drewN ?_ _) | (with_reducible refine Kd.C_drew ?_))); (case aB => exact Zq6); (case aO => exact (by (with_reducible repeat (first | apply Kd.R_alloc | apply Kd.R_drewN | apply Kd.R_drew)); exact HO5.out)); (case aS => exact (below_size Zq6)); (case aL => have := LMc3.out; rw [Ny5.out]; simp; omega); intro v7 w7 ho hb hg hat; rw [← Ny7.out] at ho; have n1_ := Ak (hb); have n2_ := Ak (ho); clear HB HO5; have HB := n1_; have HO7 := n2_; clear n1_ n2_ ho hb hg hat))
   go_ret
   exact ⟨_, rfl, by have e7 : y7 = l0 := (by rw [Ny7.out, Ny5.out]; rfl); rw [← e7]; (with_reducible repeat (first | apply Kd.R_alloc | apply Kd.R_drewN | apply Kd.R_drew)); exact HO7.out, Zq6⟩
 ·rw [if_neg c3] at h
  cases h
mutual
def tree_CloneNode.l0 : Nat → List (S63) → Int → Int → ByteArray → List (S63) → List (S27) → ByteArray → List (S63) → Option (ByteArray × (List (S63)) × (List (S27)))
 | 0, _, _, _, _, _, _, _, _ => none
 | k + 1, x12, x13, x14, xfl, xfm, xez, xdX, xaU => if x14 < x13 then (if 0 ≤ x14 then (if x14 < (x12.length : Int) then ((bytes_Clone.f ((rd_T63 x12 x14).f1)).bind fun tdg => (if xaU.length < 3518437208883 then (tree_CloneNode.l0 k x12 x13 (wrap64 (x14 + 1)) xfl xfm xez xdX (xaU ++ [(⟨(rd_T63 x12 x14).f0, tdg⟩ : S63)])) else (none))) else (none)) else (none)) else (tree_CloneNode.l1 k xez (xez.length : Int) 0 xdX xaU ([] : List (S27)))
def tree_CloneNode.l1 : Nat → List (S27) → Int → Int → ByteArray → List (S63) → List (S27) → Option (ByteArray × (List (S63)) × (List (S27)))
 | 0, _, _, _, _, _, _ => none
 | k + 1, x31, x32, x33, xdX, xaU, xbB => if x33 < x32 then (if 0 ≤ x33 then (if x33 < (x31.length : Int) then ((tree_CloneNode.f k ((rd_T27 x31 x33).f0) ((rd_T27 x31 x33).f1) ((rd_T27 x31 x33).f2)).bind fun btda => (if xbB.length < 2199023255552 then (tree_CloneNode.l1 k x31 x32 (wrap64 (x33 + 1)) xdX xaU (xbB ++ [(⟨btda.1, btda.2.1, btda.2.2⟩ : S27)])) else (none))) else (none)) else (none)) else (some (xdX, xaU, xbB))
def tree_CloneNode.f : Nat → ByteArray → List (S63) → List (S27) → Option (ByteArray × (List (S63)) × (List (S27)))
 | 0, _, _, _ => none
 | k + 1, a0_0, l0_1, l0_2 => tree_CloneNode.l0 k l0_1 (l0_1.length : Int) 0 a0_0 l0_1 l0_2 a0_0 ([] : List (S63))
end
def tree_CloneNode.T5 : Bool × List (List Nat × List Nat) := (true, [([], []), ([0], [0]), ([], []), ([2], [2]), ([], []), ([4], [4]), ([5], [5]), ([3, 6], [3, 6]), ([7], [7]), ([1, 8, 6], [1, 8]), ([0, 1, 2, 3, 4, 5, 6, 7, 8, 9], []), ([10, 9, 9, 0, 1, 2, 3, 4, 5, 6, 7, 8, 9], [9, 10])])
def tree_CloneNode.B5 : List Nat := [0, 1, 0, 4, 0, 16, 48, 124, 252, 511, 1023, 2047]
theorem tree_CloneNode.tab5 : rtab .any (opsOf Try.f58 5) = tree_CloneNode.T5 := by kernel_rfl
theorem tree_CloneNode.bits5 : waitsOk tree_CloneNode.T5.2 tree_CloneNode.B5 = true := by kernel_rfl
def tree_CloneNode.T10 : Bool × List (List Nat × List Nat) := (true, [([], []), ([0], [0]), ([], []), ([2], [2]), ([3], [3]), ([1, 4, 3], [1, 4]), ([0, 1, 2, 3, 4, 5], []), ([6, 5, 5, 0, 1, 2, 3, 4, 5], [5, 6])])
def tree_CloneNode.B10 : List Nat := [0, 1, 0, 4, 12, 31, 63, 127]
theorem tree_CloneNode.tab10 : rtab .any (opsOf Try.f58 10) = tree_CloneNode.T10 := by kernel_rfl
theorem tree_CloneNode.bits10 : waitsOk tree_CloneNode.T10.2 tree_CloneNode.B10 = true := by kernel_rfl
end Go.Proofs.Ytkopmkinlanhoaa.PB

namespace Go.Proofs.Ytkopmkinlanhoaa.PB
open Go.RowKit Go.Proofs.YtkopmkinlanhoaaW.PrintWords Go.Proofs.YtkopmkinlanhoaaW.PrintLast Go.Proofs.YtkopmkinlanhoaaW.PrintMore
attribute [local go_sem] max2_int min2_int max_two min_two max_three min_three max_four min_four
set_option maxHeartbeats 8000000 in
set_option maxRecDepth 100000 in
theorem tree_CloneNode.calls (k : Nat) : ∀ (a0_0 : ByteArray) (A0_1 : Option Addr) (c0_1 : Nat) (l0_1 : List (S63)) (A0_2 : Option Addr) (c0_2 : Nat) (l0_2 : List (S27)) (r1 : ByteArray) (r2 : List (S63)) (r3 : List (S27)) (w : World) (hr0_1 : Kd.C k63 w A0_1 l0_1.length l0_1) (hc0_1 : l0_1.length ≤ c0_1) (hr0_2 : Kd.C k27 w A0_2 l0_2.length l0_2) (hc0_2 : l0_2.length ≤ c0_2) (h : tree_CloneNode.f k a0_0 l0_1 l0_2 = some (r1, r2, r3)),
  Calls Try.prog 58 #[.agg #[.string a0_0, .slice A0_1 l0_1.length c0_1, .slice A0_2 l0_2.length c0_2]] w fun e w' => ∃ v1_ v2_ : Value, e = .returned (.agg #[.string r1, v1_, v2_]) ∧ Kd.S k63 63 w' w.heap.size (fun _ => True) v1_ r2 ∧ Kd.R k27 27 w' w.heap.size (fun k_ => some k_ ≠ (v1_ : Value).ownBlock) v2_ r3 ∧ Below w.heap.size w w' := by
 induction k using Nat.strongRecOn with
 | _ k ih =>
 intro a0_0 A0_1 c0_1 l0_1 A0_2 c0_2 l0_2 r1 r2 r3 w hr0_1 hc0_1 hr0_2 hc0_2 h
 cases k with
 | zero => exact absurd h (by simp [tree_CloneNode.f])
 | succ k =>
 simp only [tree_CloneNode.f] at h; have hu27 := Try.underlying27; have hu63 := Try.underlying63; have HR0_1 := Ak hr0_1; have HC0_1 := Ak hc0_1; clear hr0_1 hc0_1; have HR0_2 := Ak hr0_2; have HC0_2 := Ak hc0_2; clear hr0_2 hc0_2; have HB := Zq151; have H : (tree_CloneNode.l0 k l0_1 (l0_1.length : Int) 0 a0_0 l0_1 l0_2 a0_0 ([] : List (S63))) = some (r1, r2, r3) := h; clear h; have H' := Ak H; clear H
 go_enter Try.func58, Try.ntmps58
 go_wp2_with (first | ((with_reducible refine gate_dst (N := 1) rfl ?_); refine box_event ?hg (N := 1) ?hd (cs := #[.string a0_0, .slice A0_1 l0_1.length c0_1, .slice A0_2 l0_2.length c0_2]) (t := 27) ?hr ?_; (case hd | hg => rfl); (case hr => first | (go_simp; done) | (go_simp; rfl)); intro gbaw hg w2 hbox hb; have n0_ := Zq142; have n1_ := Ak (hbox); have n2_ := Ak ((by rw [hg]; exact (below_size Zq6) : w.heap.size ≤ gbaw)); have n3_ := Ak ((by rw [hg]; exact (below_size Zq6) : w.heap.size ≤ gbaw)); clear HB; have HB := n0_; have BKaw := n1_; have GWaw := n2_; have GEaw := n3_; clear n0_ n1_ n2_ n3_ hb hbox hg) | ((with_reducible refine gate_dst (N := 2) rfl ?_); refine box_event ?hg (N := 2) ?hd (cs := #[.string (⟨#[]⟩ : ByteArray), .slice none 0 0, .slice none 0 0]) (t := 27) ?hr ?_; (case hd | hg => rfl); (case hr => first | (go_simp; done) | (go_simp; rfl)); intro gbaH hg w3 hbox hb; have n0_ := Zq277; have n1_ := Ak (below_step (by repeat (first | (with_reducible first | exact HB.out | apply below_alloc | apply pw_below_drewN | apply below_drew1 | refine below_set ?_ GEaw.out) | exact HB.out)) hb); have n2_ := Ak (hbox); have n3_ := Ak ((by rw [hg]; exact (below_size (by repeat (first | (with_reducible first | exact HB.out | apply below_alloc | apply pw_below_drewN | apply below_drew1 | refine below_set ?_ GEaw.out) | exact HB.out))) : w.heap.size ≤ gbaH)); have n4_ := Ak ((by rw [hg]; exact (below_size (by repeat (first | (with_reducible first | exact HB.out | apply below_alloc | apply pw_below_drewN | apply below_drew1 | refine below_set ?_ GEaw.out) | exact HB.out))) : w.heap.size ≤ gbaH)); have n5_ := Ak ((by rw [hg]; exact Nat.ne_of_lt Zq191 : gbaw ≠ gbaH)); have n6_ := Ak ((by rw [hg]; exact Nat.ne_of_gt Zq191 : gbaH ≠ gbaw)); clear BKaw HB; have BKaw := n0_; have HB := n1_; have BKaH := n2_; have GWaH := n3_; have GEaH := n4_; have NB107_108 := n5_; have NB108_107 := n6_; clear n0_ n1_ n2_ n3_ n4_ n5_ n6_ hb hbox hg; have hnb4 := NB107_108.out; have hnc4 := NB108_107.out; have hcz5_0 : w3.cell? ⟨gbaw, 0, none⟩ = some (.string a0_0) := (blk_cell BKaw.out 0).trans rfl; have hcz5_1 : w3.cell? ⟨gbaw, 1, none⟩ = some (.slice A0_1 l0_1.length c0_1) := (blk_cell BKaw.out 1).trans rfl; have hcz5_2 : w3.cell? ⟨gbaw, 2, none⟩ = some (.slice A0_2 l0_2.length c0_2) := (blk_cell BKaw.out 2).trans rfl; have hfz5_0 := blk_frozen BKaw.out 0; have hfz5_1 := blk_frozen BKaw.out 1; have hfz5_2 := blk_frozen BKaw.out 2) | ((with_reducible refine gate_dst (N := 3) rfl ?_); refine box_event ?hg (N := 3) ?hd (cs := #[.string (⟨#[]⟩ : ByteArray), .slice none 0 0, .slice none 0 0]) (t := 27) ?hr ?_; (case hd | hg => rfl); (case hr => first | (go_simp; done) | (go_simp; rfl)); intro gbap hg w6 hbox hb; have n0_ := Zq277; have n1_ := Zq175; have n2_ := Ak (below_step Zq119 hb); have n3_ := Ak (hbox); have n4_ := Ak ((by rw [hg]; exact (below_size Zq119) : w.heap.size ≤ gbap)); have n5_ := Ak ((by rw [hg]; exact (below_size Zq119) : w.heap.size ≤ gbap)); have n6_ := Ak ((by rw [hg]; exact Nat.ne_of_lt Zq191 : gbaw ≠ gbap)); have n7_ := Ak ((by rw [hg]; exact Nat.ne_of_gt Zq191 : gbap ≠ gbaw)); have n8_ := Ak ((by rw [hg]; exact Nat.ne_of_lt Zq168 : gbaH ≠ gbap)); have n9_ := Ak ((by rw [hg]; exact Nat.ne_of_gt Zq168 : gbap ≠ gbaH)); clear BKaw BKaH HB; have BKaw := n0_; have BKaH := n1_; have HB := n2_; have BKap := n3_; have GWap := n4_; have GEap := n5_; have NB107_109 := n6_; have NB109_107 := n7_; have NB108_109 := n8_; have NB109_108 := n9_; clear n0_ n1_ n2_ n3_ n4_ n5_ n6_ n7_ n8_ n9_ hb hbox hg; have hnb7 := NB109_107.out; have hnc7 := NB107_109.out; have hnb8 := NB109_108.out; have hnc8 := NB108_109.out; have hcz9_0 : w6.cell? ⟨gbap, 0, none⟩ = some (.string (⟨#[]⟩ : ByteArray)) := (blk_cell BKap.out 0).trans rfl; have hcz9_1 : w6.cell? ⟨gbap, 1, none⟩ = some (.slice none 0 0) := (blk_cell BKap.out 1).trans rfl; have hcz9_2 : w6.cell? ⟨gbap, 2, none⟩ = some (.slice none 0 0) := (blk_cell BKap.out 2).trans rfl; have hfz9_0 := blk_frozen BKap.out 0; have hfz9_1 := blk_frozen BKap.out 1; have hfz9_2 := blk_frozen BKap.out 2; have hcz10_0 : w6.cell? ⟨gbaw, 0, none⟩ = some (.string a0_0) := (blk_cell BKaw.out 0).trans rfl; have hcz10_1 : w6.cell? ⟨gbaw, 1, none⟩ = some (.slice A0_1 l0_1.length c0_1) := (blk_cell BKaw.out 1).trans rfl; have hcz10_2 : w6.cell? ⟨gbaw, 2, none⟩ = some (.slice A0_2 l0_2.length c0_2) := (blk_cell BKaw.out 2).trans rfl; have hfz10_0 := blk_frozen BKaw.out 0; have hfz10_1 := blk_frozen BKaw.out 1; have hfz10_2 := blk_frozen BKaw.out 2))
 go_loopg [14] k (fun kq v14 w' => ∃ (x14_1 : Int) (xaU_1 : List (S63)) (u110001 : Value), v14 = .int .i64 x14_1 ∧ Aside0 (tree_CloneNode.l0 kq l0_1 (l0_1.length : Int) x14_1 a0_0 l0_1 l0_2 a0_0 xaU_1 = some (r1, r2, r3)) ∧ Aside0 (kq ≤ k) ∧ Aside0 (Kd.S k63 63 w' w.heap.size (fun _ => True) u110001 xaU_1) ∧ Aside0 (w'.heap[gbaw]? = some (.cells #[.string a0_0, (.slice A0_1 l0_1.length c0_1), (.slice A0_2 l0_2.length c0_2)] 27 (0, 0))) ∧ Aside0 (w'.heap[gbaH]? = some (.cells #[.string (⟨#[]⟩ : ByteArray), (.slice none 0 0), (.slice none 0 0)] 27 (0, 0))) ∧ Aside0 (w'.heap[gbap]? = some (.cells #[.string a0_0, u110001, (.slice none 0 0)] 27 (0, 0))) ∧ Aside0 (Below w.heap.size w w'))
 case atStart => exact ⟨(0), (([] : List (S63))), (.slice none 0 0), Zq7, H', ⟨Nat.le_refl _⟩, ⟨Zq102⟩, ⟨by (with_reducible repeat (first | refine blk_drewN ?_ _ | refine blk_drew ?_ | refine blk_alloc ?_ _)); refine blk_far ?_ NB107_109.out _; (with_reducible repeat (first | refine blk_drewN ?_ _ | refine blk_drew ?_ | refine blk_alloc ?_ _)); refine blk_far ?_ NB107_109.out _; (with_reducible repeat (first | refine blk_drewN ?_ _ | refine blk_drew ?_ | refine blk_alloc ?_ _)); refine blk_far ?_ NB107_109.out _; (with_reducible repeat (first | refine blk_drewN ?_ _ | refine blk_drew ?_ | refine blk_alloc ?_ _)); exact BKaw.out⟩, ⟨by (with_reducible repeat (first | refine blk_drewN ?_ _ | refine blk_drew ?_ | refine blk_alloc ?_ _)); refine blk_far ?_ NB108_109.out _; (with_reducible repeat (first | refine blk_drewN ?_ _ | refine blk_drew ?_ | refine blk_alloc ?_ _)); refine blk_far ?_ NB108_109.out _; (with_reducible repeat (first | refine blk_drewN ?_ _ | refine blk_drew ?_ | refine blk_alloc ?_ _)); refine blk_far ?_ NB108_109.out _; (with_reducible repeat (first | refine blk_drewN ?_ _ | refine blk_drew ?_ | refine blk_alloc ?_ _)); exact BKaH.out⟩, ⟨by (with_reducible repeat (first | refine blk_drewN ?_ _ | refine blk_drew ?_ | refine blk_alloc ?_ _)); refine blk_put (cs := #[.string a0_0, .slice none 0 0, .slice none 0 0]) ?_ 2 _ rfl; (with_reducible repeat (first | refine blk_drewN ?_ _ | refine blk_drew ?_ | refine blk_alloc ?_ _)); refine blk_put (cs := #[.string a0_0, .slice none 0 0, .slice none 0 0]) ?_ 1 _ rfl; (with_reducible repeat (first | refine blk_drewN ?_ _ | refine blk_drew ?_ | refine blk_alloc ?_ _)); refine blk_put (cs := #[.string (⟨#[]⟩ : ByteArray), .slice none 0 0, .slice none 0 0]) ?_ 0 _ rfl; (with_reducible repeat (first | refine blk_drewN ?_ _ | refine blk_drew ?_ | refine blk_alloc ?_ _)); exact BKap.out⟩, ⟨Zq62⟩⟩
 case round =>
  clear H'
  try clear p2
  try clear c4
  try clear c5
  try clear c7
  try clear c8
  try clear hcz10_0
  try clear hcz10_1
  try clear hcz10_2
  try clear hcz5_0
  try clear hcz5_1
  try clear hcz5_2
  try clear hcz9_0
  try clear hcz9_1
  try clear hcz9_2
  try clear hfz10_0
  try clear hfz10_1
  try clear hfz10_2
  try clear hfz5_0
  try clear hfz5_1
  try clear hfz5_2
  try clear hfz9_0
  try clear hfz9_1
  try clear hfz9_2
  obtain ⟨x14_1, xaU_1, u110001, rfl, HA, HK1, HO_aU, BKaw, BKaH, BKap, HB⟩ := hrel
  cases gk with
  | zero => exact absurd HA.out (by simp [tree_CloneNode.l0])
  | succ k1 =>
   have H := HA.out; clear HA; simp only [tree_CloneNode.l0] at H
   by_cases c11 : x14_1 < (l0_1.length : Int)
   ·rw [if_pos c11] at H; have c11b0 : decide (x14_1 < (l0_1.length : Int)) = true := decide_eq_true c11; clear c11
    by_cases c12 : 0 ≤ x14_1
    ·rw [if_pos c12] at H; have c12b0 : decide (0 ≤ x14_1) = true := decide_eq_true c12; clear c12
     by_cases c13 : x14_1 < (l0_1.length : Int)
     ·rw [if_pos c13] at H; have c13b0 : decide (x14_1 < (l0_1.length : Int)) = true := decide_eq_true c13; clear c13; replace H := Option.bind_eq_some_iff.mp H; obtain ⟨tdg, AdP, H⟩ := H; replace H : (if xaU_1.length < 3518437208883 then (tree_CloneNode.l0 k1 l0_1 (l0_1.length : Int) (wrap64 (x14_1 + 1)) a0_0 l0_1 l0_2 a0_0 (xaU_1 ++ [(⟨(rd_T63 l0_1 x14_1).f0, tdg⟩ : S63)])) else (none)) = some (r1, r2, r3) := H; have A14 := Ak AdP; clear AdP
      by_cases c15 : xaU_1.length < 3518437208883
      ·rw [if_pos c15] at H; have LMc15 := Ak c15; clear c15
       obtain ⟨ybR, hybR⟩ : ∃ y_ : List (S63), y_ = (xaU_1 ++ [(⟨(rd_T63 l0_1 x14_1).f0, tdg⟩ : S63)]) := ⟨_, rfl⟩
       replace H : (tree_CloneNode.l0 k1 l0_1 (l0_1.length : Int) (wrap64 (x14_1 + 1)) a0_0 l0_1 l0_2 a0_0 ybR) = some (r1, r2, r3) := by first | (rw [hybR]; with_reducible exact H) | (have H2_ := (Option.bind_some _ _).symm.trans H; rw [hybR]; with_reducible exact H2_) | (have H2_ := (Option.bind_some _ _).symm.trans H; with_reducible exact H2_) | with_reducible exact H | (rw [hybR]; exact H) | exact H
       have NybR := Ak hybR; clear hybR; have H' := Ak H; clear H; have p110 : 0 ≤ (x14_1 : Int) := of_decide_eq_true Zq5; have q110 : x14_1 < (l0_1.length : Int) := of_decide_eq_true Zq5; obtain ⟨adaO, AaO_1, caO_1, e110, hx110_0, hx110_1, hl110_1, hi110_1⟩ := at_T63 HR0_1.out x14_1 p110 q110
       cases e110
       replace hx110_0 := (HB.out.cell (World.block_lt_of_cell? w _ hx110_0)).trans hx110_0; replace hx110_1 := (HB.out.cell (World.block_lt_of_cell? w _ hx110_1)).trans hx110_1; have HRaO_1 := Ak hi110_1; have HCaO_1 := Ak hl110_1; clear hi110_1 hl110_1; replace p110 := eq_true p110; replace q110 := eq_true q110
       try go_wp2_with (first | ((with_reducible refine gate_dst (N := 5) rfl ?_); refine box_event ?hg (N := 5) ?hd (cs := #[.string (⟨#[]⟩ : ByteArray), .slice none 0 0]) (t := 63) ?hr ?_; (case hd | hg => rfl); (case hr => first | (go_simp; done) | (go_simp; rfl)); intro gbaS hg w16 hbox hb; have n0_ := Ak (Kd.S_below (Kd.S_elderB Zq63 gbaS (Nat.le_of_eq hg.symm)) hb); have n1_ := Zq268; have n2_ := Zq175; have n3_ := Ak (blk_below (g := gbap) (o := .cells #[.string a0_0, u110001, .slice none 0 0] 27 (0, 0)) Zq49 hb); have n4_ := Ak (below_step Zq62 hb); have n5_ := Ak (hbox); have n6_ := Ak ((by rw [hg]; exact (below_size Zq62) : w.heap.size ≤ gbaS)); have n7_ := Ak ((by rw [hg]; exact (below_size Zq62) : w.heap.size ≤ gbaS)); have n8_ := Ak ((by rw [hg]; exact Nat.ne_of_lt Zq281 : gbaw ≠ gbaS)); have n9_ := Ak ((by rw [hg]; exact Nat.ne_of_gt Zq281 : gbaS ≠ gbaw)); have n10_ := Ak ((by rw [hg]; exact Nat.ne_of_lt Zq168 : gbaH ≠ gbaS)); have n11_ := Ak ((by rw [hg]; exact Nat.ne_of_gt Zq168 : gbaS ≠ gbaH)); have n12_ := Ak ((by rw [hg]; exact Nat.ne_of_lt (blk_lt (g := gbap) (o := .cells #[.string a0_0, u110001, .slice none 0 0] 27 (0, 0)) Zq49) : gbap ≠ gbaS)); have n13_ := Ak ((by rw [hg]; exact Nat.ne_of_gt (blk_lt (g := gbap) (o := .cells #[.string a0_0, u110001, .slice none 0 0] 27 (0, 0)) Zq49) : gbaS ≠ gbap)); clear HO_aU BKaw BKaH BKap HB; have HO_aU := n0_; have BKaw := n1_; have BKaH := n2_; have BKap := n3_; have HB := n4_; have BKaS := n5_; have GWaS := n6_; have GEaS := n7_; have NB107_111 := n8_; have NB111_107 := n9_; have NB108_111 := n10_; have NB111_108 := n11_; have NB109_111 := n12_; have NB111_109 := n13_; clear n0_ n1_ n2_ n3_ n4_ n5_ n6_ n7_ n8_ n9_ n10_ n11_ n12_ n13_ hb hbox hg; have hnb17 := NB111_107.out; have hnc17 := NB107_111.out; have hnb18 := NB111_108.out; have hnc18 := NB108_111.out; have hnb19 := NB111_109.out; have hnc19 := NB109_111.out; have hcz20_0 : w16.cell? ⟨gbaS, 0, none⟩ = some (.string (⟨#[]⟩ : ByteArray)) := (blk_cell BKaS.out 0).trans rfl; have hcz20_1 : w16.cell? ⟨gbaS, 1, none⟩ = some (.slice none 0 0) := (blk_cell BKaS.out 1).trans rfl; have hfz20_0 := blk_frozen BKaS.out 0; have hfz20_1 := blk_frozen BKaS.out 1))
       have n0_ : Aside0 (Kd.S k63 63 ((w16.setCell ⟨gbaS, 0, none⟩ (.string ((rd_T63 l0_1 x14_1).f0))).setCell ⟨gbaS, 1, none⟩ (.slice AaO_1 ((rd_T63 l0_1 x14_1).f1).length caO_1)) w.heap.size (fun k_ => k_ ≠ gbaS) u110001 xaU_1) := ⟨by (with_reducible repeat (first | apply Kd.S_alloc | apply Kd.S_drewN | apply Kd.S_drew)); exact Kd.S_mono (Kd.S_far (p := ⟨gbaS, 1, none⟩) (Kd.S_far (p := ⟨gbaS, 0, none⟩) (Kd.S_mono HO_aU.out (fun k_ hk => (⟨hk, hk.2⟩ : _ ∧ k_ ≠ gbaS))) (fun _ hk => hk.2) (.string ((rd_T63 l0_1 x14_1).f0))) (fun _ hk => hk.2) (.slice AaO_1 ((rd_T63 l0_1 x14_1).f1).length caO_1)) (fun _ hk => hk.1.2)⟩
       have n1_ : Aside0 (((w16.setCell ⟨gbaS, 0, none⟩ (.string ((rd_T63 l0_1 x14_1).f0))).setCell ⟨gbaS, 1, none⟩ (.slice AaO_1 ((rd_T63 l0_1 x14_1).f1).length caO_1)).heap[gbaw]? = some (.cells #[.string a0_0, .slice (some adaO) l0_1.length c0_1, .slice A0_2 l0_2.length c0_2] 27 (0, 0))) := ⟨by (with_reducible repeat (first | refine blk_drewN ?_ _ | refine blk_drew ?_ | refine blk_alloc ?_ _)); refine blk_far ?_ NB107_111.out _; (with_reducible repeat (first | refine blk_drewN ?_ _ | refine blk_drew ?_ | refine blk_alloc ?_ _)); refine blk_far ?_ NB107_111.out _; (with_reducible repeat (first | refine blk_drewN ?_ _ | refine blk_drew ?_ | refine blk_alloc ?_ _)); exact BKaw.out⟩
       have n2_ : Aside0 (((w16.setCell ⟨gbaS, 0, none⟩ (.string ((rd_T63 l0_1 x14_1).f0))).setCell ⟨gbaS, 1, none⟩ (.slice AaO_1 ((rd_T63 l0_1 x14_1).f1).length caO_1)).heap[gbaH]? = some (.cells #[.string (⟨#[]⟩ : ByteArray), .slice none 0 0, .slice none 0 0] 27 (0, 0))) := ⟨by (with_reducible repeat (first | refine blk_drewN ?_ _ | refine blk_drew ?_ | refine blk_alloc ?_ _)); refine blk_far ?_ NB108_111.out _; (with_reducible repeat (first | refine blk_drewN ?_ _ | refine blk_drew ?_ | refine blk_alloc ?_ _)); refine blk_far ?_ NB108_111.out _; (with_reducible repeat (first | refine blk_drewN ?_ _ | refine blk_drew ?_ | refine blk_alloc ?_ _)); exact BKaH.out⟩
       have n3_ : Aside0 (((w16.setCell ⟨gbaS, 0, none⟩ (.string ((rd_T63 l0_1 x14_1).f0))).setCell ⟨gbaS, 1, none⟩ (.slice AaO_1 ((rd_T63 l0_1 x14_1).f1).length caO_1)).heap[gbap]? = some (.cells #[.string a0_0, u110001, .slice none 0 0] 27 (0, 0))) := ⟨by (with_reducible repeat (first | refine blk_drewN ?_ _ | refine blk_drew ?_ | refine blk_alloc ?_ _)); refine blk_far ?_ NB109_111.out _; (with_reducible repeat (first | refine blk_drewN ?_ _ | refine blk_drew ?_ | refine blk_alloc ?_ _)); refine blk_far ?_ NB109_111.out _; (with_reducible repeat (first | refine blk_drewN ?_ _ | refine blk_drew ?_ | refine blk_alloc ?_ _)); exact BKap.out⟩
       have n4_ : Aside0 (((w16.setCell ⟨gbaS, 0, none⟩ (.string ((rd_T63 l0_1 x14_1).f0))).setCell ⟨gbaS, 1, none⟩ (.slice AaO_1 ((rd_T63 l0_1 x14_1).f1).length caO_1)).heap[gbaS]? = some (.cells #[.string ((rd_T63 l0_1 x14_1).f0), .slice AaO_1 ((rd_T63 l0_1 x14_1).f1).length caO_1] 63 (0, 0))) := ⟨by (with_reducible repeat (first | refine blk_drewN ?_ _ | refine blk_drew ?_ | refine blk_alloc ?_ _)); refine blk_put (cs := #[.string ((rd_T63 l0_1 x14_1).f0), .slice none 0 0]) ?_ 1 _ rfl; (with_reducible repeat (first | refine blk_drewN ?_ _ | refine blk_drew ?_ | refine blk_alloc ?_ _)); refine blk_put (cs := #[.string (⟨#[]⟩ : ByteArray), .slice none 0 0]) ?_ 0 _ rfl; (with_reducible repeat (first | refine blk_drewN ?_ _ | refine blk_drew ?_ | refine blk_alloc ?_ _)); exact BKaS.out⟩
       have n5_ : Aside0 (Below w.heap.size w ((w16.setCell ⟨gbaS, 0, none⟩ (.string ((rd_T63 l0_1 x14_1).f0))).setCell ⟨gbaS, 1, none⟩ (.slice AaO_1 ((rd_T63 l0_1 x14_1).f1).length caO_1))) := ⟨Zq80⟩
       (try clear HO_aU)
       (try clear BKaw)
       (try clear BKaH)
       (try clear BKap)
       (try clear BKaS)
       (try clear HB)
       generalize ((w16.setCell ⟨gbaS, 0, none⟩ (.string ((rd_T63 l0_1 x14_1).f0))).setCell ⟨gbaS, 1, none⟩ (.slice AaO_1 ((rd_T63 l0_1 x14_1).f1).length caO_1)) = w21 at n0_ n1_ n2_ n3_ n4_ n5_ ⊢; have HO_aU := n0_; have BKaw := n1_; have BKaH := n2_; have BKap := n3_; have BKaS := n4_; have HB := n5_; clear n0_ n1_ n2_ n3_ n4_ n5_; have n0_ := Ak (Kd.S_drew HO_aU.out); have n1_ := Ak (blk_drew BKaw.out); have n2_ := Ak (blk_drew BKaH.out); have n3_ := Ak (blk_drew BKap.out); have n4_ := Ak (blk_drew BKaS.out); have n5_ := Zq208; clear HO_aU BKaw BKaH BKap BKaS HB; have HO_aU := n0_; have BKaw := n1_; have BKaH := n2_; have BKap := n3_; have BKaS := n4_; have HB := n5_; clear n0_ n1_ n2_ n3_ n4_ n5_; refine start_ (n := 12) (S := fun w' => w'.cell? ⟨gbap, 0, none⟩ = some (.string a0_0) ∧ w'.cell? ⟨gbap, 1, none⟩ = some (u110001) ∧ w'.cell? ⟨gbap, 2, none⟩ = some (.slice none 0 0) ∧ w'.cell? ⟨gbaS, 0, none⟩ = some (.string ((rd_T63 l0_1 x14_1).f0)) ∧ w'.cell? ⟨gbaS, 1, none⟩ = some (.slice AaO_1 ((rd_T63 l0_1 x14_1).f1).length caO_1)) (ds := [11]) #[false, false, false, false, false, false, false, false, false, false, false, false] Zq2 rfl rfl ⟨(blk_cell BKap.out 0).trans rfl, (blk_cell BKap.out 1).trans rfl, (blk_cell BKap.out 2).trans rfl, (blk_cell BKaS.out 0).trans rfl, (blk_cell BKaS.out 1).trans rfl⟩ (fun hHeld => ?_); refine with_tabW tree_CloneNode.tab5 tree_CloneNode.bits5 (fun HT_ HW_ => ?_); generalize w21.drew = w22 at HO_aU BKaw BKaH BKap BKaS HB hHeld ⊢; refine pure_ (i := 0) (N := some 18) (v := ?_) (a' := ?_) #[true, false, false, false, false, false, false, false, false, false, false, false] rfl rfl (any_of HT_.out Zq2) (fun _ _ _ h => h) (Or.inl ⟨Zq3, ?_⟩) ?_ ?_
       rotate_left
       ·intro w'
        go_simp
        with_reducible rfl
       rotate_left
       ·simp only [Sx]
        rfl
       refine pure_ (i := 2) (N := some 20) (v := ?_) (a' := ?_) #[true, false, true, false, false, false, false, false, false, false, false, false] rfl rfl (any_of HT_.out Zq2) (fun _ _ _ h => h) (Or.inl ⟨Zq3, ?_⟩) ?_ ?_
       rotate_left
       ·intro w'
        go_simp
        with_reducible rfl
       rotate_left
       ·simp only [Sx]
        rfl
       refine pure_ (i := 4) (N := some 22) (v := ?_) (a' := ?_) #[true, false, true, false, true, false, false, false, false, false, false, false] rfl rfl (any_of HT_.out Zq2) (fun _ _ _ h => h) (Or.inl ⟨Zq3, ?_⟩) ?_ ?_
       rotate_left
       ·intro w'
        go_simp
        with_reducible rfl
       rotate_left
       ·simp only [Sx]
        rfl
       refine take_ (i := 1) (N := some 19) (v := ?_) (a' := ?_) #[true, true, true, false, true, false, false, false, false, false, false, false] rfl rfl (take_ofW HT_.out HW_.out Zq2) (fun _ _ _ h => h) (Or.inl ⟨Zq3, ?_⟩) hHeld ?_ ?_
       rotate_left
       ·rintro w' ⟨s0, s1, s2, s3, s4⟩
        go_simp
        with_reducible rfl
       rotate_left
       ·simp only [Sx]
        rfl
       refine take_ (i := 3) (N := some 21) (v := ?_) (a' := ?_) #[true, true, true, true, true, false, false, false, false, false, false, false] rfl rfl (take_ofW HT_.out HW_.out Zq2) (fun _ _ _ h => h) (Or.inl ⟨Zq3, ?_⟩) hHeld ?_ ?_
       rotate_left
       ·rintro w' ⟨s0, s1, s2, s3, s4⟩
        go_simp
        with_reducible rfl
       rotate_left
       ·simp only [Sx]
        rfl
       refine take_ (i := 5) (N := some 23) (v := ?_) (a' := ?_) #[true, true, true, true, true, true, false, false, false, false, false, false] rfl rfl (take_ofW HT_.out HW_.out Zq2) (fun _ _ _ h => h) (Or.inl ⟨Zq3, ?_⟩) hHeld ?_ ?_
       rotate_left
       ·rintro w' ⟨s0, s1, s2, s3, s4⟩
        go_simp
        with_reducible rfl
       rotate_left
       ·simp only [Sx]
        rfl
       refine one_ (i := 6) (N := some 24) #[true, true, true, true, true, true, true, false, false, false, false, false] rfl rfl (one_of HT_.out Zq2) Zq4 (fun K hK => ?_); refine goes_ Try.func79 Zq2 rfl #[.slice AaO_1 ((rd_T63 l0_1 x14_1).f1).length caO_1] Zq3 rfl rfl Zq8 ?_; with_reducible refine (bytes_Clone.calls _ _ ((rd_T63 l0_1 x14_1).f1) tdg _ ?side1 ?side2 A14.out).mono ?_
       (case side1 => repeat (first | exact (Kd.C_below HRaO_1.out HB.out) | (with_reducible refine Kd.C_alloc ?_ _) | (with_reducible refine Kd.C_drewN ?_ _) | (with_reducible refine Kd.C_drew ?_)))
       (case side2 => exact HCaO_1.out)
       rintro e w23 ⟨v113, rfl, ho0, hb⟩
       refine ⟨_, rfl, ?_⟩; have n0_ := Ak (Kd.S_elder' Zq63 (Kd.R_base ho0) hb); have n1_ := Ak (Kd.R_lower ho0 (below_size Zq80)); have n2_ := Zq268; have n3_ := Zq175; have n4_ := Ak (blk_below (g := gbap) (o := .cells #[.string a0_0, u110001, .slice none 0 0] 27 (0, 0)) Zq49 hb); have n5_ := Ak (blk_below (g := gbaS) (o := .cells #[.string ((rd_T63 l0_1 x14_1).f0), .slice AaO_1 ((rd_T63 l0_1 x14_1).f1).length caO_1] 63 (0, 0)) (by (with_reducible repeat (first | refine blk_drewN ?_ _ | refine blk_drew ?_ | refine blk_alloc ?_ _)); exact BKaS.out) hb); have n6_ := Ak (below_step Zq80 hb); clear HO_aU BKaw BKaH BKap BKaS HB; have HO_aU := n0_; have HOef := n1_; have BKaw := n2_; have BKaH := n3_; have BKap := n4_; have BKaS := n5_; have HB := n6_; clear n0_ n1_ n2_ n3_ n4_ n5_ n6_
       (try clear hb)
       (try clear hb2)
       (try clear hk)
       (try clear hi)
       (try clear ho0)
       obtain ⟨Ao24, co24, eo24⟩ := Kd.R_slice HOef.out
       (first | subst eo24 | (injection eo24 with f1_ f2_ f3_; have f4_ := f1_.symm; have f5_ := f3_.symm; clear f1_ f2_ f3_; subst f4_; subst f5_))
       refine hK.out _ _ ⟨(blk_cell BKap.out 0).trans rfl, (blk_cell BKap.out 1).trans rfl, (blk_cell BKap.out 2).trans rfl, (blk_cell BKaS.out 0).trans rfl, (blk_cell BKaS.out 1).trans rfl⟩ (fun hHeld => ?_); clear hK K; refine norm_ (a' := ?_) ?_ ?_
       rotate_left
       ·show Act.put _ (some 24) _ = _
        simp only [Sx]
        rfl
       refine pure_ (i := 7) (N := some 25) (v := ?_) (a' := ?_) #[true, true, true, true, true, true, true, true, false, false, false, false] rfl rfl (any_of HT_.out Zq2) (fun _ _ _ h => h) (Or.inl ⟨Zq3, ?_⟩) ?_ ?_
       rotate_left
       ·intro w'
        go_simp
        with_reducible rfl
       rotate_left
       ·simp only [Sx]
        rfl
       refine one_ (i := 8) (N := some 26) #[true, true, true, true, true, true, true, true, true, false, false, false] rfl rfl (one_of HT_.out Zq2) Zq4 (fun K hK => ?_); refine value_ (w1 := ?_) (v := ?_) Zq3 rfl ?_ ?_
       rotate_left 2
       ·go_simp
        constructor
        ·rfl
        ·rfl
       refine hK.out _ _ ⟨(blk_cell (blk_alloc BKap.out _) 0).trans rfl, (blk_cell (blk_alloc BKap.out _) 1).trans rfl, (blk_cell (blk_alloc BKap.out _) 2).trans rfl, (blk_cell (blk_alloc BKaS.out _) 0).trans rfl, (blk_cell (blk_alloc BKaS.out _) 1).trans rfl⟩ (fun hHeld => ?_); clear hK K; refine norm_ (a' := ?_) ?_ ?_
       rotate_left
       ·show Act.put _ (some 26) _ = _
        simp only [Sx]
        rfl
       refine one_ (i := 9) (N := some 27) #[true, true, true, true, true, true, true, true, true, true, false, false] rfl rfl (one_of HT_.out Zq2) Zq4 (fun K hK => ?_); refine Kd.S_append_step k63 (w0 := w) w.heap.size Zq3 (.tmp 19) (.tmp 26) 24 63 (.agg #[(.string ⟨#[]⟩), (.slice none 0 0)]) 40 rfl Try.underlying24 info63 rfl Zq4 Zq1 u110001 xaU_1 (⟨(rd_T63 l0_1 x14_1).f0, tdg⟩ : S63) [.string ((rd_T63 l0_1 x14_1).f0), .slice Ao24 tdg.length co24] (fun k_ => k_ ≠ gbaS) (fun k_ => some k_ = (.slice Ao24 tdg.length co24 : Value).ownBlock) rfl rfl ?aP (fun k_ hk_ => ((Kd.R_mono (ok' := fun k_ => ((fun k_ => k_ ≠ gbaS)) k_ ∧ some k_ ≠ (u110001 : Value).ownBlock) (Kd.R_types (Kd.R_apart' (HOef.out) (Kd.S_typed HO_aU.out) Zq4) BKaS.out Zq4) (fun k_ hk => ⟨hk.2, hk.1.2⟩))).1 k_ hk_.symm) ?aF ?aO ?aB ?aS ?aL ?_
       (case aP => exact k63_mkM _ _ _ (⟨(rd_T63 l0_1 x14_1).f0, tdg⟩ : S63) (Kd.R_mono (Kd.R_tight rfl (Kd.R_mono (ok' := fun k_ => ((fun k_ => k_ ≠ gbaS)) k_ ∧ some k_ ≠ (u110001 : Value).ownBlock) (Kd.R_types (Kd.R_apart' (HOef.out) (Kd.S_typed HO_aU.out) Zq4) BKaS.out Zq4) (fun k_ hk => ⟨hk.2, hk.1.2⟩))) (fun _ h_ => h_)))
       (case aB => exact Zq80)
       (case aF => exact (fun k_ hk => Kd.freshB (g := gbaS) (o := .cells #[.string ((rd_T63 l0_1 x14_1).f0), .slice AaO_1 ((rd_T63 l0_1 x14_1).f1).length caO_1] 63 (0, 0)) (by (with_reducible repeat (first | refine blk_drewN ?_ _ | refine blk_drew ?_ | refine blk_alloc ?_ _)); exact BKaS.out) k_ hk))
       (case aO => exact (by (with_reducible repeat (first | apply Kd.S_alloc | apply Kd.S_drewN | apply Kd.S_drew)); exact Kd.S_mono HO_aU.out (fun k_ hk => ⟨hk.1, fun e_ => hk.2 e_⟩)))
       (case aS => exact (below_size Zq80))
       (case aL => have := LMc15.out; omega)
       intro v116 w25 ho hb hg hat; rw [← NybR.out] at ho; have n0_ := Ak (blk_grown (g := gbaw) (o := .cells #[.string a0_0, .slice (some adaO) l0_1.length c0_1, .slice A0_2 l0_2.length c0_2] 27 (0, 0)) Zq40 hg (Kd.S_ne HO_aU.out BKaw.out Zq4)); have n1_ := Ak (blk_grown (g := gbaH) (o := .cells #[.string (⟨#[]⟩ : ByteArray), .slice none 0 0, .slice none 0 0] 27 (0, 0)) Zq44 hg (Kd.S_ne HO_aU.out BKaH.out Zq4)); have n2_ := Ak (blk_grown (g := gbap) (o := .cells #[.string a0_0, u110001, .slice none 0 0] 27 (0, 0)) Zq49 hg (Kd.S_ne HO_aU.out BKap.out Zq4)); have n3_ := Ak (blk_grown (g := gbaS) (o := .cells #[.string ((rd_T63 l0_1 x14_1).f0), .slice AaO_1 ((rd_T63 l0_1 x14_1).f1).length caO_1] 63 (0, 0)) (by (with_reducible repeat (first | refine blk_drewN ?_ _ | refine blk_drew ?_ | refine blk_alloc ?_ _)); exact BKaS.out) hg (Kd.S_away HO_aU.out (fun _ hk => hk.1))); have n4_ := Ak (hb); have n5_ := Ak (ho); clear BKaw BKaH BKap BKaS HB HO_aU HOef; have BKaw := n0_; have BKaH := n1_; have BKap := n2_; have BKaS := n3_; have HB := n4_; have HOeZ := n5_; clear n0_ n1_ n2_ n3_ n4_ n5_ ho hb hg hat; obtain ⟨Ao26, co26, eo26⟩ := Kd.S_slice HOeZ.out
       (first | subst eo26 | (injection eo26 with f1_ f2_ f3_; have f4_ := f1_.symm; have f5_ := f3_.symm; clear f1_ f2_ f3_; subst f4_; subst f5_))
       refine hK.out _ _ ⟨(blk_cell BKap.out 0).trans rfl, (blk_cell BKap.out 1).trans rfl, (blk_cell BKap.out 2).trans rfl, (blk_cell BKaS.out 0).trans rfl, (blk_cell BKaS.out 1).trans rfl⟩ (fun hHeld => ?_); clear hK K; refine norm_ (a' := ?_) ?_ ?_
       rotate_left
       ·show Act.put _ (some 27) _ = _
        simp only [Sx]
        rfl
       refine pure_ (i := 10) (N := some 28) (v := ?_) (a' := ?_) #[true, true, true, true, true, true, true, true, true, true, true, false] rfl rfl (any_of HT_.out Zq2) (fun _ _ _ h => h) (Or.inl ⟨Zq3, ?_⟩) ?_ ?_
       rotate_left
       ·intro w'
        go_simp
        with_reducible rfl
       rotate_left
       ·simp only [Sx]
        rfl
       refine last_ (i := 11) (N := none) #[true, true, true, true, true, true, true, true, true, true, true, true] rfl rfl (one_of HT_.out Zq2) Zq4 (fun K hK => ?_); have hs27 : w25.cell? ⟨gbap, 1, none⟩ = some (u110001) := (blk_cell BKap.out 1).trans rfl; have hfs27 := blk_frozen BKap.out 1; have hns27_0 := NB107_109.out; have hns27_1 := NB108_109.out; have hns27_3 := NB111_109.out; have hms27_0 := NB109_107.out; have hms27_1 := NB109_108.out; have hms27_3 := NB109_111.out; refine skip_ (w1 := ?_) Zq3 rfl ?_ ?_
       rotate_left
       ·go_simp
        rfl
       refine hK.out _ _ ?_; clear hK K; refine done_ (done_of HT_.out Zq2) ?_
       try go_wp2
       go_roundg k1
       case measure => have := HK1.out; omega
       case rel => exact ⟨(wrap64 (x14_1 + 1)), (ybR), (.slice Ao26 ybR.length co26), Zq7, H', ⟨Zq27⟩, ⟨by (with_reducible repeat (first | apply Kd.S_alloc | apply Kd.S_drewN | apply Kd.S_drew)); exact Kd.S_mono (Kd.S_far (p := ⟨gbap, 1, none⟩) (Kd.S_types HOeZ.out BKap.out Zq4) (fun _ hk => hk.2) (.slice Ao26 ybR.length co26)) (fun _ hk => trivial)⟩, ⟨by (with_reducible repeat (first | refine blk_drewN ?_ _ | refine blk_drew ?_ | refine blk_alloc ?_ _)); refine blk_far ?_ NB107_109.out _; (with_reducible repeat (first | refine blk_drewN ?_ _ | refine blk_drew ?_ | refine blk_alloc ?_ _)); exact BKaw.out⟩, ⟨by (with_reducible repeat (first | refine blk_drewN ?_ _ | refine blk_drew ?_ | refine blk_alloc ?_ _)); refine blk_far ?_ NB108_109.out _; (with_reducible repeat (first | refine blk_drewN ?_ _ | refine blk_drew ?_ | refine blk_alloc ?_ _)); exact BKaH.out⟩, ⟨by (with_reducible repeat (first | refine blk_drewN ?_ _ | refine blk_drew ?_ | refine blk_alloc ?_ _)); refine blk_put (cs := #[.string a0_0, u110001, .slice none 0 0]) ?_ 1 _ rfl; (with_reducible repeat (first | refine blk_drewN ?_ _ | refine blk_drew ?_ | refine blk_alloc ?_ _)); exact BKap.out⟩, ⟨Zq80⟩⟩
      ·rw [if_neg c15] at H; exact absurd H Zq10
     ·rw [if_neg c13] at H; exact absurd H Zq10
    ·rw [if_neg c12] at H; exact absurd H Zq10
   ·rw [if_neg c11] at H; have c11b0 : decide (x14_1 < (l0_1.length : Int)) = false := decide_eq_false c11; clear c11; have H' := Ak H; clear H; have hnb28 := NB107_108.out; have hnc28 := NB108_107.out; have hnb29 := NB107_109.out; have hnc29 := NB109_107.out; have hcz30_0 : wr.cell? ⟨gbaw, 0, none⟩ = some (.string a0_0) := (blk_cell BKaw.out 0).trans rfl; have hcz30_1 : wr.cell? ⟨gbaw, 1, none⟩ = some (.slice A0_1 l0_1.length c0_1) := (blk_cell BKaw.out 1).trans rfl; have hcz30_2 : wr.cell? ⟨gbaw, 2, none⟩ = some (.slice A0_2 l0_2.length c0_2) := (blk_cell BKaw.out 2).trans rfl; have hfz30_0 := blk_frozen BKaw.out 0; have hfz30_1 := blk_frozen BKaw.out 1; have hfz30_2 := blk_frozen BKaw.out 2
    go_wp2
    go_loopg [33] k1 (fun kq v33 w' => ∃ (x33_2 : Int) (xbB_2 : List (S27)) (u110002 : Value), v33 = .int .i64 x33_2 ∧ Aside0 (tree_CloneNode.l1 kq l0_2 (l0_2.length : Int) x33_2 a0_0 xaU_1 xbB_2 = some (r1, r2, r3)) ∧ Aside0 (kq ≤ k1) ∧ Aside0 (Kd.S k63 63 w' w.heap.size (fun _ => True) u110001 xaU_1) ∧ Aside0 (Kd.R k27 27 w' w.heap.size (fun k_ => some k_ ≠ (u110001 : Value).ownBlock ∧ k_ ≠ gbaw ∧ k_ ≠ gbaH ∧ k_ ≠ gbap) u110002 xbB_2) ∧ Aside0 (w'.heap[gbaw]? = some (.cells #[.string a0_0, (.slice A0_1 l0_1.length c0_1), (.slice A0_2 l0_2.length c0_2)] 27 (0, 0))) ∧ Aside0 (w'.heap[gbaH]? = some (.cells #[.string (⟨#[]⟩ : ByteArray), (.slice none 0 0), (.slice none 0 0)] 27 (0, 0))) ∧ Aside0 (w'.heap[gbap]? = some (.cells #[.string a0_0, u110001, u110002] 27 (0, 0))) ∧ Aside0 (Below w.heap.size w w'))
    case atStart => exact ⟨(0), (([] : List (S27))), (.slice none 0 0), Zq7, H', ⟨Nat.le_refl _⟩, ⟨Zq63⟩, ⟨Zq34⟩, ⟨Zq40⟩, ⟨Zq44⟩, ⟨Zq49⟩, ⟨Zq62⟩⟩
    case round =>
     clear H'
     try clear c1
     try clear p1
     try clear q1
     try clear hx1
     try clear c2
     try clear p2
     try clear c4
     try clear c5
     try clear p6
     try clear c7
     try clear c8
     try clear c11
     try clear c11b0
     try clear p11
     try clear q11
     try clear hx11
     try clear c12
     try clear c12b0
     try clear c13
     try clear c13b0
     try clear c15
     try clear c17
     try clear c18
     try clear c19
     try clear c28
     try clear c29
     try clear hcz10_0
     try clear hcz10_1
     try clear hcz10_2
     try clear hcz20_0
     try clear hcz20_1
     try clear hcz30_0
     try clear hcz30_1
     try clear hcz30_2
     try clear hcz5_0
     try clear hcz5_1
     try clear hcz5_2
     try clear hcz9_0
     try clear hcz9_1
     try clear hcz9_2
     try clear hfz10_0
     try clear hfz10_1
     try clear hfz10_2
     try clear hfz20_0
     try clear hfz20_1
     try clear hfz30_0
     try clear hfz30_1
     try clear hfz30_2
     try clear hfz5_0
     try clear hfz5_1
     try clear hfz5_2
     try clear hfz9_0
     try clear hfz9_1
     try clear hfz9_2
     try clear hx110_0
     try clear hx110_1
     try clear p110
     try clear p2
     try clear q110
     obtain ⟨x33_2, xbB_2, u110002, rfl, HA, HK2, HO_aU, HO_bB, BKaw, BKaH, BKap, HB⟩ := hrel
     cases gk with
     | zero => exact absurd HA.out (by simp [tree_CloneNode.l1])
     | succ k2 =>
      have H := HA.out; clear HA; simp only [tree_CloneNode.l1] at H
      by_cases c31 : x33_2 < (l0_2.length : Int)
      ·rw [if_pos c31] at H; have c31b0 : decide (x33_2 < (l0_2.length : Int)) = true := decide_eq_true c31; clear c31
       by_cases c32 : 0 ≤ x33_2
       ·rw [if_pos c32] at H; have c32b0 : decide (0 ≤ x33_2) = true := decide_eq_true c32; clear c32
        by_cases c33 : x33_2 < (l0_2.length : Int)
        ·rw [if_pos c33] at H; have c33b0 : decide (x33_2 < (l0_2.length : Int)) = true := decide_eq_true c33; clear c33; replace H := Option.bind_eq_some_iff.mp H; obtain ⟨⟨tda, tdQ, tdR⟩, AdY, H⟩ := H; replace H : (if xbB_2.length < 2199023255552 then (tree_CloneNode.l1 k2 l0_2 (l0_2.length : Int) (wrap64 (x33_2 + 1)) a0_0 xaU_1 (xbB_2 ++ [(⟨tda, tdQ, tdR⟩ : S27)])) else (none)) = some (r1, r2, r3) := H; have A34 := Ak AdY; clear AdY
         by_cases c35 : xbB_2.length < 2199023255552
         ·rw [if_pos c35] at H; have LMc35 := Ak c35; clear c35
          obtain ⟨ycy, hycy⟩ : ∃ y_ : List (S27), y_ = (xbB_2 ++ [(⟨tda, tdQ, tdR⟩ : S27)]) := ⟨_, rfl⟩
          replace H : (tree_CloneNode.l1 k2 l0_2 (l0_2.length : Int) (wrap64 (x33_2 + 1)) a0_0 xaU_1 ycy) = some (r1, r2, r3) := by first | (rw [hycy]; with_reducible exact H) | (have H2_ := (Option.bind_some _ _).symm.trans H; rw [hycy]; with_reducible exact H2_) | (have H2_ := (Option.bind_some _ _).symm.trans H; with_reducible exact H2_) | with_reducible exact H | (rw [hycy]; exact H) | exact H
          have Nycy := Ak hycy; clear hycy; have H' := Ak H; clear H; have p118 : 0 ≤ (x33_2 : Int) := of_decide_eq_true Zq5; have q118 : x33_2 < (l0_2.length : Int) := of_decide_eq_true Zq5; obtain ⟨adaF, AaF_1, caF_1, AaF_2, caF_2, e118, hx118_0, hx118_1, hx118_2, hl118_1, hi118_1, hl118_2, hi118_2⟩ := at_T27 HR0_2.out x33_2 p118 q118
          cases e118
          replace hx118_0 := (HB.out.cell (World.block_lt_of_cell? w _ hx118_0)).trans hx118_0; replace hx118_1 := (HB.out.cell (World.block_lt_of_cell? w _ hx118_1)).trans hx118_1; replace hx118_2 := (HB.out.cell (World.block_lt_of_cell? w _ hx118_2)).trans hx118_2; have HRaF_1 := Ak hi118_1; have HCaF_1 := Ak hl118_1; clear hi118_1 hl118_1; have HRaF_2 := Ak hi118_2; have HCaF_2 := Ak hl118_2; clear hi118_2 hl118_2; replace p118 := eq_true p118; replace q118 := eq_true q118
          try go_wp2_with (first | ((with_reducible refine gate_dst (N := 7) rfl ?_); refine box_event ?hg (N := 7) ?hd (cs := #[.string (⟨#[]⟩ : ByteArray), .slice none 0 0, .slice none 0 0]) (t := 27) ?hr ?_; (case hd | hg => rfl); (case hr => first | (go_simp; done) | (go_simp; rfl)); intro gbaB hg w36 hbox hb; have n0_ := Ak (Kd.S_below Zq63 hb); have n1_ := Ak (Kd.R_below (Kd.R_elderB Zq103 gbaB (Nat.le_of_eq hg.symm)) hb); have n2_ := Zq269; have n3_ := Zq175; have n4_ := Ak (blk_below (g := gbap) (o := .cells #[.string a0_0, u110001, u110002] 27 (0, 0)) Zq49 hb); have n5_ := Ak (below_step Zq62 hb); have n6_ := Ak (hbox); have n7_ := Ak ((by rw [hg]; exact (below_size Zq62) : w.heap.size ≤ gbaB)); have n8_ := Ak ((by rw [hg]; exact (below_size Zq62) : w.heap.size ≤ gbaB)); have n9_ := Ak ((by rw [hg]; exact Nat.ne_of_lt Zq282 : gbaw ≠ gbaB)); have n10_ := Ak ((by rw [hg]; exact Nat.ne_of_gt Zq282 : gbaB ≠ gbaw)); have n11_ := Ak ((by rw [hg]; exact Nat.ne_of_lt Zq168 : gbaH ≠ gbaB)); have n12_ := Ak ((by rw [hg]; exact Nat.ne_of_gt Zq168 : gbaB ≠ gbaH)); have n13_ := Ak ((by rw [hg]; exact Nat.ne_of_lt (blk_lt (g := gbap) (o := .cells #[.string a0_0, u110001, u110002] 27 (0, 0)) Zq49) : gbap ≠ gbaB)); have n14_ := Ak ((by rw [hg]; exact Nat.ne_of_gt (blk_lt (g := gbap) (o := .cells #[.string a0_0, u110001, u110002] 27 (0, 0)) Zq49) : gbaB ≠ gbap)); clear HO_aU HO_bB BKaw BKaH BKap HB; have HO_aU := n0_; have HO_bB := n1_; have BKaw := n2_; have BKaH := n3_; have BKap := n4_; have HB := n5_; have BKaB := n6_; have GWaB := n7_; have GEaB := n8_; have NB107_119 := n9_; have NB119_107 := n10_; have NB108_119 := n11_; have NB119_108 := n12_; have NB109_119 := n13_; have NB119_109 := n14_; clear n0_ n1_ n2_ n3_ n4_ n5_ n6_ n7_ n8_ n9_ n10_ n11_ n12_ n13_ n14_ hb hbox hg; have hnb37 := NB119_107.out; have hnc37 := NB107_119.out; have hnb38 := NB119_108.out; have hnc38 := NB108_119.out; have hnb39 := NB119_109.out; have hnc39 := NB109_119.out; have hcz40_0 : w36.cell? ⟨gbaB, 0, none⟩ = some (.string (⟨#[]⟩ : ByteArray)) := (blk_cell BKaB.out 0).trans rfl; have hcz40_1 : w36.cell? ⟨gbaB, 1, none⟩ = some (.slice none 0 0) := (blk_cell BKaB.out 1).trans rfl; have hcz40_2 : w36.cell? ⟨gbaB, 2, none⟩ = some (.slice none 0 0) := (blk_cell BKaB.out 2).trans rfl; have hfz40_0 := blk_frozen BKaB.out 0; have hfz40_1 := blk_frozen BKaB.out 1; have hfz40_2 := blk_frozen BKaB.out 2))
          have n0_ : Aside0 (Kd.S k63 63 (((w36.setCell ⟨gbaB, 0, none⟩ (.string ((rd_T27 l0_2 x33_2).f0))).setCell ⟨gbaB, 1, none⟩ (.slice AaF_1 ((rd_T27 l0_2 x33_2).f1).length caF_1)).setCell ⟨gbaB, 2, none⟩ (.slice AaF_2 ((rd_T27 l0_2 x33_2).f2).length caF_2)) w.heap.size (fun _ => True) u110001 xaU_1) := ⟨by (with_reducible repeat (first | apply Kd.S_alloc | apply Kd.S_drewN | apply Kd.S_drew)); exact Kd.S_mono (Kd.S_far (p := ⟨gbaB, 2, none⟩) (Kd.S_far (p := ⟨gbaB, 1, none⟩) (Kd.S_far (p := ⟨gbaB, 0, none⟩) (Kd.S_types HO_aU.out BKaB.out Zq4) (fun _ hk => hk.2) (.string ((rd_T27 l0_2 x33_2).f0))) (fun _ hk => hk.2) (.slice AaF_1 ((rd_T27 l0_2 x33_2).f1).length caF_1)) (fun _ hk => hk.2) (.slice AaF_2 ((rd_T27 l0_2 x33_2).f2).length caF_2)) (fun _ hk => trivial)⟩
          have n1_ : Aside0 (Kd.R k27 27 (((w36.setCell ⟨gbaB, 0, none⟩ (.string ((rd_T27 l0_2 x33_2).f0))).setCell ⟨gbaB, 1, none⟩ (.slice AaF_1 ((rd_T27 l0_2 x33_2).f1).length caF_1)).setCell ⟨gbaB, 2, none⟩ (.slice AaF_2 ((rd_T27 l0_2 x33_2).f2).length caF_2)) w.heap.size (fun k_ => some k_ ≠ (u110001 : Value).ownBlock ∧ k_ ≠ gbaw ∧ k_ ≠ gbaH ∧ k_ ≠ gbap ∧ k_ ≠ gbaB) u110002 xbB_2) := ⟨by (with_reducible repeat (first | apply Kd.R_alloc | apply Kd.R_drewN | apply Kd.R_drew)); exact Kd.R_mono (Kd.R_far (p := ⟨gbaB, 2, none⟩) (Kd.R_far (p := ⟨gbaB, 1, none⟩) (Kd.R_far (p := ⟨gbaB, 0, none⟩) (Kd.R_mono HO_bB.out (fun k_ hk => (⟨hk, hk.2⟩ : _ ∧ k_ ≠ gbaB))) (fun _ hk => hk.2) (.string ((rd_T27 l0_2 x33_2).f0))) (fun _ hk => hk.2) (.slice AaF_1 ((rd_T27 l0_2 x33_2).f1).length caF_1)) (fun _ hk => hk.2) (.slice AaF_2 ((rd_T27 l0_2 x33_2).f2).length caF_2)) (fun _ hk => ⟨hk.1.1.1, ⟨hk.1.1.2.1, ⟨hk.1.1.2.2.1, ⟨hk.1.1.2.2.2, hk.1.2⟩⟩⟩⟩)⟩
          have n2_ : Aside0 ((((w36.setCell ⟨gbaB, 0, none⟩ (.string ((rd_T27 l0_2 x33_2).f0))).setCell ⟨gbaB, 1, none⟩ (.slice AaF_1 ((rd_T27 l0_2 x33_2).f1).length caF_1)).setCell ⟨gbaB, 2, none⟩ (.slice AaF_2 ((rd_T27 l0_2 x33_2).f2).length caF_2)).heap[gbaw]? = some (.cells #[.string a0_0, .slice A0_1 l0_1.length c0_1, .slice (some adaF) l0_2.length c0_2] 27 (0, 0))) := ⟨by (with_reducible repeat (first | refine blk_drewN ?_ _ | refine blk_drew ?_ | refine blk_alloc ?_ _)); refine blk_far ?_ NB107_119.out _; (with_reducible repeat (first | refine blk_drewN ?_ _ | refine blk_drew ?_ | refine blk_alloc ?_ _)); refine blk_far ?_ NB107_119.out _; (with_reducible repeat (first | refine blk_drewN ?_ _ | refine blk_drew ?_ | refine blk_alloc ?_ _)); refine blk_far ?_ NB107_119.out _; (with_reducible repeat (first | refine blk_drewN ?_ _ | refine blk_drew ?_ | refine blk_alloc ?_ _)); exact BKaw.out⟩
          have n3_ : Aside0 ((((w36.setCell ⟨gbaB, 0, none⟩ (.string ((rd_T27 l0_2 x33_2).f0))).setCell ⟨gbaB, 1, none⟩ (.slice AaF_1 ((rd_T27 l0_2 x33_2).f1).length caF_1)).setCell ⟨gbaB, 2, none⟩ (.slice AaF_2 ((rd_T27 l0_2 x33_2).f2).length caF_2)).heap[gbaH]? = some (.cells #[.string (⟨#[]⟩ : ByteArray), .slice none 0 0, .slice none 0 0] 27 (0, 0))) := ⟨by (with_reducible repeat (first | refine blk_drewN ?_ _ | refine blk_drew ?_ | refine blk_alloc ?_ _)); refine blk_far ?_ NB108_119.out _; (with_reducible repeat (first | refine blk_drewN ?_ _ | refine blk_drew ?_ | refine blk_alloc ?_ _)); refine blk_far ?_ NB108_119.out _; (with_reducible repeat (first | refine blk_drewN ?_ _ | refine blk_drew ?_ | refine blk_alloc ?_ _)); refine blk_far ?_ NB108_119.out _; (with_reducible repeat (first | refine blk_drewN ?_ _ | refine blk_drew ?_ | refine blk_alloc ?_ _)); exact BKaH.out⟩
          have n4_ : Aside0 ((((w36.setCell ⟨gbaB, 0, none⟩ (.string ((rd_T27 l0_2 x33_2).f0))).setCell ⟨gbaB, 1, none⟩ (.slice AaF_1 ((rd_T27 l0_2 x33_2).f1).length caF_1)).setCell ⟨gbaB, 2, none⟩ (.slice AaF_2 ((rd_T27 l0_2 x33_2).f2).length caF_2)).heap[gbap]? = some (.cells #[.string a0_0, u110001, u110002] 27 (0, 0))) := ⟨by (with_reducible repeat (first | refine blk_drewN ?_ _ | refine blk_drew ?_ | refine blk_alloc ?_ _)); refine blk_far ?_ NB109_119.out _; (with_reducible repeat (first | refine blk_drewN ?_ _ | refine blk_drew ?_ | refine blk_alloc ?_ _)); refine blk_far ?_ NB109_119.out _; (with_reducible repeat (first | refine blk_drewN ?_ _ | refine blk_drew ?_ | refine blk_alloc ?_ _)); refine blk_far ?_ NB109_119.out _; (with_reducible repeat (first | refine blk_drewN ?_ _ | refine blk_drew ?_ | refine blk_alloc ?_ _)); exact BKap.out⟩
          have n5_ : Aside0 ((((w36.setCell ⟨gbaB, 0, none⟩ (.string ((rd_T27 l0_2 x33_2).f0))).setCell ⟨gbaB, 1, none⟩ (.slice AaF_1 ((rd_T27 l0_2 x33_2).f1).length caF_1)).setCell ⟨gbaB, 2, none⟩ (.slice AaF_2 ((rd_T27 l0_2 x33_2).f2).length caF_2)).heap[gbaB]? = some (.cells #[.string ((rd_T27 l0_2 x33_2).f0), .slice AaF_1 ((rd_T27 l0_2 x33_2).f1).length caF_1, .slice AaF_2 ((rd_T27 l0_2 x33_2).f2).length caF_2] 27 (0, 0))) := ⟨by (with_reducible repeat (first | refine blk_drewN ?_ _ | refine blk_drew ?_ | refine blk_alloc ?_ _)); refine blk_put (cs := #[.string ((rd_T27 l0_2 x33_2).f0), .slice AaF_1 ((rd_T27 l0_2 x33_2).f1).length caF_1, .slice none 0 0]) ?_ 2 _ rfl; (with_reducible repeat (first | refine blk_drewN ?_ _ | refine blk_drew ?_ | refine blk_alloc ?_ _)); refine blk_put (cs := #[.string ((rd_T27 l0_2 x33_2).f0), .slice none 0 0, .slice none 0 0]) ?_ 1 _ rfl; (with_reducible repeat (first | refine blk_drewN ?_ _ | refine blk_drew ?_ | refine blk_alloc ?_ _)); refine blk_put (cs := #[.string (⟨#[]⟩ : ByteArray), .slice none 0 0, .slice none 0 0]) ?_ 0 _ rfl; (with_reducible repeat (first | refine blk_drewN ?_ _ | refine blk_drew ?_ | refine blk_alloc ?_ _)); exact BKaB.out⟩
          have n6_ : Aside0 (Below w.heap.size w (((w36.setCell ⟨gbaB, 0, none⟩ (.string ((rd_T27 l0_2 x33_2).f0))).setCell ⟨gbaB, 1, none⟩ (.slice AaF_1 ((rd_T27 l0_2 x33_2).f1).length caF_1)).setCell ⟨gbaB, 2, none⟩ (.slice AaF_2 ((rd_T27 l0_2 x33_2).f2).length caF_2))) := ⟨Zq73⟩
          (try clear HO_aU)
          (try clear HO_bB)
          (try clear BKaw)
          (try clear BKaH)
          (try clear BKap)
          (try clear BKaB)
          (try clear HB)
          generalize (((w36.setCell ⟨gbaB, 0, none⟩ (.string ((rd_T27 l0_2 x33_2).f0))).setCell ⟨gbaB, 1, none⟩ (.slice AaF_1 ((rd_T27 l0_2 x33_2).f1).length caF_1)).setCell ⟨gbaB, 2, none⟩ (.slice AaF_2 ((rd_T27 l0_2 x33_2).f2).length caF_2)) = w41 at n0_ n1_ n2_ n3_ n4_ n5_ n6_ ⊢; have HO_aU := n0_; have HO_bB := n1_; have BKaw := n2_; have BKaH := n3_; have BKap := n4_; have BKaB := n5_; have HB := n6_; clear n0_ n1_ n2_ n3_ n4_ n5_ n6_; have n0_ := Ak (Kd.S_drew HO_aU.out); have n1_ := Ak (Kd.R_drew HO_bB.out); have n2_ := Ak (blk_drew BKaw.out); have n3_ := Ak (blk_drew BKaH.out); have n4_ := Ak (blk_drew BKap.out); have n5_ := Ak (blk_drew BKaB.out); have n6_ := Zq208; clear HO_aU HO_bB BKaw BKaH BKap BKaB HB; have HO_aU := n0_; have HO_bB := n1_; have BKaw := n2_; have BKaH := n3_; have BKap := n4_; have BKaB := n5_; have HB := n6_; clear n0_ n1_ n2_ n3_ n4_ n5_ n6_; refine start_ (n := 8) (S := fun w' => w'.cell? ⟨gbap, 0, none⟩ = some (.string a0_0) ∧ w'.cell? ⟨gbap, 1, none⟩ = some (u110001) ∧ w'.cell? ⟨gbap, 2, none⟩ = some (u110002) ∧ w'.cell? ⟨gbaB, 0, none⟩ = some (.string ((rd_T27 l0_2 x33_2).f0)) ∧ w'.cell? ⟨gbaB, 1, none⟩ = some (.slice AaF_1 ((rd_T27 l0_2 x33_2).f1).length caF_1) ∧ w'.cell? ⟨gbaB, 2, none⟩ = some (.slice AaF_2 ((rd_T27 l0_2 x33_2).f2).length caF_2)) (ds := [7]) #[false, false, false, false, false, false, false, false] Zq2 rfl rfl ⟨(blk_cell BKap.out 0).trans rfl, (blk_cell BKap.out 1).trans rfl, (blk_cell BKap.out 2).trans rfl, (blk_cell BKaB.out 0).trans rfl, (blk_cell BKaB.out 1).trans rfl, (blk_cell BKaB.out 2).trans rfl⟩ (fun hHeld => ?_); refine with_tabW tree_CloneNode.tab10 tree_CloneNode.bits10 (fun HT_ HW_ => ?_); generalize w41.drew = w42 at HO_aU HO_bB BKaw BKaH BKap BKaB HB hHeld ⊢; refine pure_ (i := 0) (N := some 37) (v := ?_) (a' := ?_) #[true, false, false, false, false, false, false, false] rfl rfl (any_of HT_.out Zq2) (fun _ _ _ h => h) (Or.inl ⟨Zq3, ?_⟩) ?_ ?_
          rotate_left
          ·intro w'
           go_simp
           with_reducible rfl
          rotate_left
          ·simp only [Sx]
           rfl
          refine take_ (i := 1) (N := some 38) (v := ?_) (a' := ?_) #[true, true, false, false, false, false, false, false] rfl rfl (take_ofW HT_.out HW_.out Zq2) (fun _ _ _ h => h) (Or.inl ⟨Zq3, ?_⟩) hHeld ?_ ?_
          rotate_left
          ·rintro w' ⟨s0, s1, s2, s3, s4, s5⟩
           go_simp
           with_reducible rfl
          rotate_left
          ·simp only [Sx]
           rfl
          refine take_ (i := 2) (N := some 39) (v := ?_) (a' := ?_) #[true, true, true, false, false, false, false, false] rfl rfl (take_ofW HT_.out HW_.out Zq2) (fun _ _ _ h => h) (Or.inl ⟨Zq3, ?_⟩) hHeld ?_ ?_
          rotate_left
          ·rintro w' ⟨s0, s1, s2, s3, s4, s5⟩
           go_simp
           with_reducible rfl
          rotate_left
          ·simp only [Sx]
           rfl
          refine one_ (i := 3) (N := some 40) #[true, true, true, true, false, false, false, false] rfl rfl (one_of HT_.out Zq2) Zq4 (fun K hK => ?_); refine goes_ Try.func58 Zq2 rfl #[.agg #[.string ((rd_T27 l0_2 x33_2).f0), .slice AaF_1 ((rd_T27 l0_2 x33_2).f1).length caF_1, .slice AaF_2 ((rd_T27 l0_2 x33_2).f2).length caF_2]] Zq3 rfl rfl Zq8 ?_; with_reducible refine (ih k2 (by have := HK1.out; have := HK2.out; omega) ((rd_T27 l0_2 x33_2).f0) _ _ ((rd_T27 l0_2 x33_2).f1) _ _ ((rd_T27 l0_2 x33_2).f2) tda tdQ tdR _ ?side1 ?side2 ?side3 ?side4 A34.out).mono ?_
          (case side1 => repeat (first | exact (Kd.C_below HRaF_1.out HB.out) | (with_reducible refine Kd.C_alloc ?_ _) | (with_reducible refine Kd.C_drewN ?_ _) | (with_reducible refine Kd.C_drew ?_)))
          (case side2 => exact HCaF_1.out)
          (case side3 => repeat (first | exact (Kd.C_below HRaF_2.out HB.out) | (with_reducible refine Kd.C_alloc ?_ _) | (with_reducible refine Kd.C_drewN ?_ _) | (with_reducible refine Kd.C_drew ?_)))
          (case side4 => exact HCaF_2.out)
          rintro e w43 ⟨v122, v125, rfl, ho0, ho1, hb⟩
          refine ⟨_, rfl, ?_⟩; have n0_ := Ak (Kd.S_elder' Zq63 (Kd.S_base ho0) hb); have n1_ := Ak (Kd.R_mono (Kd.R_told (Kd.R_told (Kd.R_old Zq103 hb) (Kd.S_base ho0)) (Kd.R_base ho1)) (fun _ h_ => h_.1)); have n2_ := Ak (Kd.S_lower (Kd.S_new' ho0 (Kd.S_lt Zq63)) (below_size Zq73)); have n3_ := Ak (Kd.R_lower (Kd.R_newB (Kd.R_newB (Kd.R_newB (Kd.R_newB (Kd.R_new' (Kd.R_new' ho1 (Kd.S_lt Zq63)) (Kd.R_lt Zq103)) (g := gbaw) (o := .cells #[.string a0_0, .slice A0_1 l0_1.length c0_1, .slice (some adaF) l0_2.length c0_2] 27 (0, 0)) Zq40) (g := gbaH) (o := .cells #[.string (⟨#[]⟩ : ByteArray), .slice none 0 0, .slice none 0 0] 27 (0, 0)) Zq44) (g := gbap) (o := .cells #[.string a0_0, u110001, u110002] 27 (0, 0)) Zq49) (g := gbaB) (o := .cells #[.string ((rd_T27 l0_2 x33_2).f0), .slice AaF_1 ((rd_T27 l0_2 x33_2).f1).length caF_1, .slice AaF_2 ((rd_T27 l0_2 x33_2).f2).length caF_2] 27 (0, 0)) Zq104) (below_size Zq73)); have n4_ := Zq269; have n5_ := Zq175; have n6_ := Ak (blk_below (g := gbap) (o := .cells #[.string a0_0, u110001, u110002] 27 (0, 0)) Zq49 hb); have n7_ := Ak (blk_below (g := gbaB) (o := .cells #[.string ((rd_T27 l0_2 x33_2).f0), .slice AaF_1 ((rd_T27 l0_2 x33_2).f1).length caF_1, .slice AaF_2 ((rd_T27 l0_2 x33_2).f2).length caF_2] 27 (0, 0)) Zq104 hb); have n8_ := Ak (below_step Zq73 hb); clear HO_aU HO_bB BKaw BKaH BKap BKaB HB; have HO_aU := n0_; have HO_bB := n1_; have HOeA := n2_; have HObZ := n3_; have BKaw := n4_; have BKaH := n5_; have BKap := n6_; have BKaB := n7_; have HB := n8_; clear n0_ n1_ n2_ n3_ n4_ n5_ n6_ n7_ n8_
          (try clear hb)
          (try clear hb2)
          (try clear hk)
          (try clear hi)
          (try clear ho0)
          (try clear ho1)
          obtain ⟨Ao45, co45, eo45⟩ := Kd.S_slice HOeA.out
          (first | subst eo45 | (injection eo45 with f1_ f2_ f3_; have f4_ := f1_.symm; have f5_ := f3_.symm; clear f1_ f2_ f3_; subst f4_; subst f5_))
          obtain ⟨Ao46, co46, eo46⟩ := Kd.R_slice HObZ.out
          (first | subst eo46 | (injection eo46 with f1_ f2_ f3_; have f4_ := f1_.symm; have f5_ := f3_.symm; clear f1_ f2_ f3_; subst f4_; subst f5_))
          refine hK.out _ _ ⟨(blk_cell BKap.out 0).trans rfl, (blk_cell BKap.out 1).trans rfl, (blk_cell BKap.out 2).trans rfl, (blk_cell BKaB.out 0).trans rfl, (blk_cell BKaB.out 1).trans rfl, (blk_cell BKaB.out 2).trans rfl⟩ (fun hHeld => ?_); clear hK K; refine norm_ (a' := ?_) ?_ ?_
          rotate_left
          ·show Act.put _ (some 40) _ = _
           simp only [Sx]
           rfl
          refine one_ (i := 4) (N := some 41) #[true, true, true, true, true, false, false, false] rfl rfl (one_of HT_.out Zq2) Zq4 (fun K hK => ?_); refine value_ (w1 := ?_) (v := ?_) Zq3 rfl ?_ ?_
          rotate_left 2
          ·go_simp
           constructor
           ·rfl
           ·rfl
          refine hK.out _ _ ⟨(blk_cell (blk_alloc BKap.out _) 0).trans rfl, (blk_cell (blk_alloc BKap.out _) 1).trans rfl, (blk_cell (blk_alloc BKap.out _) 2).trans rfl, (blk_cell (blk_alloc BKaB.out _) 0).trans rfl, (blk_cell (blk_alloc BKaB.out _) 1).trans rfl, (blk_cell (blk_alloc BKaB.out _) 2).trans rfl⟩ (fun hHeld => ?_); clear hK K; refine norm_ (a' := ?_) ?_ ?_
          rotate_left
          ·show Act.put _ (some 41) _ = _
           simp only [Sx]
           rfl
          refine one_ (i := 5) (N := some 42) #[true, true, true, true, true, true, false, false] rfl rfl (one_of HT_.out Zq2) Zq4 (fun K hK => ?_); refine Kd.R_append_step k27 (w0 := w) w.heap.size Zq3 (.tmp 38) (.tmp 41) 25 27 (.agg #[(.string ⟨#[]⟩), (.slice none 0 0), (.slice none 0 0)]) 64 rfl Try.underlying25 info27 rfl Zq4 Zq1 u110002 xbB_2 (⟨tda, tdQ, tdR⟩ : S27) [.string tda, .slice Ao45 tdQ.length co45, .slice Ao46 tdR.length co46] (fun k_ => some k_ ≠ (u110001 : Value).ownBlock ∧ k_ ≠ gbaw ∧ k_ ≠ gbaH ∧ k_ ≠ gbap ∧ k_ ≠ gbaB) (fun k_ => ((fun k_ => some k_ ≠ (u110001 : Value).ownBlock ∧ k_ ≠ gbaw ∧ k_ ≠ gbaH ∧ k_ ≠ gbap ∧ k_ ≠ gbaB)) k_ ∧ some k_ ≠ (u110002 : Value).ownBlock) rfl rfl ?aP (fun _ hk => hk) ?aF ?aO ?aB ?aS ?aL ?_
          (case aP => exact k27_mkM _ _ _ (⟨tda, tdQ, tdR⟩ : S27) (Kd.R_mono (Kd.R_types (Kd.R_types (Kd.R_types (Kd.R_types (Kd.R_apart' ((Kd.S_R HOeA.out)) (Kd.R_typed HO_bB.out) Zq4) BKaw.out Zq4) BKaH.out Zq4) BKap.out Zq4) BKaB.out Zq4) (fun k_ hk => ⟨⟨hk.1.1.1.1.1.2, ⟨hk.1.1.1.2, ⟨hk.1.1.2, ⟨hk.1.2, hk.2⟩⟩⟩⟩, hk.1.1.1.1.2⟩)) (Kd.R_mono (HObZ.out) (fun k_ hk => ⟨⟨hk.1.1.1.1.1.2, ⟨hk.1.1.1.2, ⟨hk.1.1.2, ⟨hk.1.2, hk.2⟩⟩⟩⟩, hk.1.1.1.1.2⟩)))
          (case aB => exact Zq73)
          (case aF => exact (fun k_ hk => ⟨Kd.fresh' (Kd.S_lt Zq63) k_ hk, Kd.freshB (g := gbaw) (o := .cells #[.string a0_0, .slice A0_1 l0_1.length c0_1, .slice (some adaF) l0_2.length c0_2] 27 (0, 0)) Zq40 k_ hk, Kd.freshB (g := gbaH) (o := .cells #[.string (⟨#[]⟩ : ByteArray), .slice none 0 0, .slice none 0 0] 27 (0, 0)) Zq44 k_ hk, Kd.freshB (g := gbap) (o := .cells #[.string a0_0, u110001, u110002] 27 (0, 0)) Zq49 k_ hk, Kd.freshB (g := gbaB) (o := .cells #[.string ((rd_T27 l0_2 x33_2).f0), .slice AaF_1 ((rd_T27 l0_2 x33_2).f1).length caF_1, .slice AaF_2 ((rd_T27 l0_2 x33_2).f2).length caF_2] 27 (0, 0)) Zq104 k_ hk⟩))
          (case aO => exact (by (with_reducible repeat (first | apply Kd.R_alloc | apply Kd.R_drewN | apply Kd.R_drew)); exact Kd.R_mono HO_bB.out (fun _ hk => ⟨hk.1.1.1, ⟨hk.1.1.2.1, ⟨hk.1.1.2.2.1, ⟨hk.1.1.2.2.2.1, hk.1.1.2.2.2.2⟩⟩⟩⟩)))
          (case aS => exact (below_size Zq73))
          (case aL => have := LMc35.out; omega)
          intro v128 w44 ho hb hg hat; rw [← Nycy.out] at ho; have n0_ := Ak (Kd.S_over' Zq63 (Kd.R_typed Zq103) Zq4 hg); have n1_ := Ak (blk_grown (g := gbaw) (o := .cells #[.string a0_0, .slice A0_1 l0_1.length c0_1, .slice (some adaF) l0_2.length c0_2] 27 (0, 0)) Zq40 hg (Kd.R_away HO_bB.out (fun _ hk => hk.1.1.2.1))); have n2_ := Ak (blk_grown (g := gbaH) (o := .cells #[.string (⟨#[]⟩ : ByteArray), .slice none 0 0, .slice none 0 0] 27 (0, 0)) Zq44 hg (Kd.R_away HO_bB.out (fun _ hk => hk.1.1.2.2.1))); have n3_ := Ak (blk_grown (g := gbap) (o := .cells #[.string a0_0, u110001, u110002] 27 (0, 0)) Zq49 hg (Kd.R_away HO_bB.out (fun _ hk => hk.1.1.2.2.2.1))); have n4_ := Ak (blk_grown (g := gbaB) (o := .cells #[.string ((rd_T27 l0_2 x33_2).f0), .slice AaF_1 ((rd_T27 l0_2 x33_2).f1).length caF_1, .slice AaF_2 ((rd_T27 l0_2 x33_2).f2).length caF_2] 27 (0, 0)) Zq104 hg (Kd.R_away HO_bB.out (fun _ hk => hk.1.1.2.2.2.2))); have n5_ := Ak (hb); have n6_ := Ak (ho); clear HO_aU BKaw BKaH BKap BKaB HB HO_bB HOeA HObZ; have HO_aU := n0_; have BKaw := n1_; have BKaH := n2_; have BKap := n3_; have BKaB := n4_; have HB := n5_; have HOfa := n6_; clear n0_ n1_ n2_ n3_ n4_ n5_ n6_ ho hb hg hat; obtain ⟨Ao47, co47, eo47⟩ := Kd.R_slice HOfa.out
          (first | subst eo47 | (injection eo47 with f1_ f2_ f3_; have f4_ := f1_.symm; have f5_ := f3_.symm; clear f1_ f2_ f3_; subst f4_; subst f5_))
          refine hK.out _ _ ⟨(blk_cell BKap.out 0).trans rfl, (blk_cell BKap.out 1).trans rfl, (blk_cell BKap.out 2).trans rfl, (blk_cell BKaB.out 0).trans rfl, (blk_cell BKaB.out 1).trans rfl, (blk_cell BKaB.out 2).trans rfl⟩ (fun hHeld => ?_); clear hK K; refine norm_ (a' := ?_) ?_ ?_
          rotate_left
          ·show Act.put _ (some 42) _ = _
           simp only [Sx]
           rfl
          refine pure_ (i := 6) (N := some 43) (v := ?_) (a' := ?_) #[true, true, true, true, true, true, true, false] rfl rfl (any_of HT_.out Zq2) (fun _ _ _ h => h) (Or.inl ⟨Zq3, ?_⟩) ?_ ?_
          rotate_left
          ·intro w'
           go_simp
           with_reducible rfl
          rotate_left
          ·simp only [Sx]
           rfl
          refine last_ (i := 7) (N := none) #[true, true, true, true, true, true, true, true] rfl rfl (one_of HT_.out Zq2) Zq4 (fun K hK => ?_); have hs48 : w44.cell? ⟨gbap, 2, none⟩ = some (u110002) := (blk_cell BKap.out 2).trans rfl; have hfs48 := blk_frozen BKap.out 2; have hns48_0 := NB107_109.out; have hns48_1 := NB108_109.out; have hns48_3 := NB119_109.out; have hms48_0 := NB109_107.out; have hms48_1 := NB109_108.out; have hms48_3 := NB109_119.out; refine skip_ (w1 := ?_) Zq3 rfl ?_ ?_
          rotate_left
          ·go_simp
           rfl
          refine hK.out _ _ ?_; clear hK K; refine done_ (done_of HT_.out Zq2) ?_
          try go_wp2
          go_roundg k2
          case measure => have := HK1.out; have := HK2.out; omega
          case rel => exact ⟨(wrap64 (x33_2 + 1)), (ycy), (.slice Ao47 ycy.length co47), Zq7, H', ⟨by have := HK1.out; have := HK2.out; omega⟩, ⟨by (with_reducible repeat (first | apply Kd.S_alloc | apply Kd.S_drewN | apply Kd.S_drew)); exact Kd.S_mono (Kd.S_far (p := ⟨gbap, 2, none⟩) (Kd.S_types HO_aU.out BKap.out Zq4) (fun _ hk => hk.2) (.slice Ao47 ycy.length co47)) (fun _ hk => trivial)⟩, ⟨by (with_reducible repeat (first | apply Kd.R_alloc | apply Kd.R_drewN | apply Kd.R_drew)); exact Kd.R_mono (Kd.R_far (p := ⟨gbap, 2, none⟩) (Kd.R_mono HOfa.out (fun k_ hk => (⟨hk, hk.2.2.2.1⟩ : _ ∧ k_ ≠ gbap))) (fun _ hk => hk.2) (.slice Ao47 ycy.length co47)) (fun _ hk => ⟨hk.1.1, ⟨hk.1.2.1, ⟨hk.1.2.2.1, hk.1.2.2.2.1⟩⟩⟩)⟩, ⟨by (with_reducible repeat (first | refine blk_drewN ?_ _ | refine blk_drew ?_ | refine blk_alloc ?_ _)); refine blk_far ?_ NB107_109.out _; (with_reducible repeat (first | refine blk_drewN ?_ _ | refine blk_drew ?_ | refine blk_alloc ?_ _)); exact BKaw.out⟩, ⟨by (with_reducible repeat (first | refine blk_drewN ?_ _ | refine blk_drew ?_ | refine blk_alloc ?_ _)); refine blk_far ?_ NB108_109.out _; (with_reducible repeat (first | refine blk_drewN ?_ _ | refine blk_drew ?_ | refine blk_alloc ?_ _)); exact BKaH.out⟩, ⟨by (with_reducible repeat (first | refine blk_drewN ?_ _ | refine blk_drew ?_ | refine blk_alloc ?_ _)); refine blk_put (cs := #[.string a0_0, u110001, u110002]) ?_ 2 _ rfl; (with_reducible repeat (first | refine blk_drewN ?_ _ | refine blk_drew ?_ | refine blk_alloc ?_ _)); exact BKap.out⟩, ⟨Zq73⟩⟩
         ·rw [if_neg c35] at H; exact absurd H Zq10
        ·rw [if_neg c33] at H; exact absurd H Zq10
       ·rw [if_neg c32] at H; exact absurd H Zq10
      ·rw [if_neg c31] at H; have c31b0 : decide (x33_2 < (l0_2.length : Int)) = false := decide_eq_false c31; clear c31; simp only [Option.some.injEq, Prod.mk.injEq] at H; obtain ⟨rfl, rfl, rfl⟩ := H; have hnb49 := NB109_107.out; have hnc49 := NB107_109.out; have hnb50 := NB109_108.out; have hnc50 := NB108_109.out; have hcz51_0 : wr.cell? ⟨gbap, 0, none⟩ = some (.string a0_0) := (blk_cell BKap.out 0).trans rfl; have hcz51_1 : wr.cell? ⟨gbap, 1, none⟩ = some (u110001) := (blk_cell BKap.out 1).trans rfl; have hcz51_2 : wr.cell? ⟨gbap, 2, none⟩ = some (u110002) := (blk_cell BKap.out 2).trans rfl; have hfz51_0 := blk_frozen BKap.out 0; have hfz51_1 := blk_frozen BKap.out 1; have hfz51_2 := blk_frozen BKap.out 2; have hnb52 := NB108_107.out; have hnc52 := NB107_108.out; have hcz53_0 : wr.cell? ⟨gbaH, 0, none⟩ = some (.string (⟨#[]⟩ : ByteArray)) := (blk_cell BKaH.out 0).trans rfl; have hcz53_1 : wr.cell? ⟨gbaH, 1, none⟩ = some (.slice none 0 0) := (blk_cell BKaH.out 1).trans rfl; have hcz53_2 : wr.cell? ⟨gbaH, 2, none⟩ = some (.slice none 0 0) := (blk_cell BKaH.out 2).trans rfl; have hfz53_0 := blk_frozen BKaH.out 0; have hfz53_1 := blk_frozen BKaH.out 1; have hfz53_2 := blk_frozen BKaH.out 2; obtain ⟨Ao54, co54, eo54⟩ := Kd.S_slice HO_aU.out; subst eo54; obtain ⟨Ao55, co55, eo55⟩ := Kd.R_slice HO_bB.out; subst eo55
       go_wp2
       refine bodyPost_ret (results_cell_row rfl _ _ gbaH 27 #[.string a0_0, .slice Ao54 xaU_1.length co54, .slice Ao55 xbB_2.length co55] (0, 0) _ rfl (by (with_reducible repeat (first | refine blk_drewN ?_ _ | refine blk_drew ?_ | refine blk_alloc ?_ _)); refine blk_put (cs := #[.string a0_0, .slice Ao54 xaU_1.length co54, .slice none 0 0]) ?_ 2 _ rfl; (with_reducible repeat (first | refine blk_drewN ?_ _ | refine blk_drew ?_ | refine blk_alloc ?_ _)); refine blk_put (cs := #[.string a0_0, .slice none 0 0, .slice none 0 0]) ?_ 1 _ rfl; (with_reducible repeat (first | refine blk_drewN ?_ _ | refine blk_drew ?_ | refine blk_alloc ?_ _)); refine blk_put (cs := #[.string (⟨#[]⟩ : ByteArray), .slice none 0 0, .slice none 0 0]) ?_ 0 _ rfl; (with_reducible repeat (first | refine blk_drewN ?_ _ | refine blk_drew ?_ | refine blk_alloc ?_ _)); exact BKaH.out) Try.underlying27 rfl Zq2) rfl ?_
       exact ⟨_, _, Zq13, by (with_reducible repeat (first | apply Kd.S_alloc | apply Kd.S_drewN | apply Kd.S_drew)); exact Kd.S_mono (Kd.S_far (p := ⟨gbaH, 2, none⟩) (Kd.S_far (p := ⟨gbaH, 1, none⟩) (Kd.S_far (p := ⟨gbaH, 0, none⟩) (Kd.S_types HO_aU.out BKaH.out Zq4) (fun _ hk => hk.2) (.string a0_0)) (fun _ hk => hk.2) (.slice Ao54 xaU_1.length co54)) (fun _ hk => hk.2) (.slice Ao55 xbB_2.length co55)) (fun _ hk => trivial), by (with_reducible repeat (first | apply Kd.R_alloc | apply Kd.R_drewN | apply Kd.R_drew)); exact Kd.R_mono (Kd.R_far (p := ⟨gbaH, 2, none⟩) (Kd.R_far (p := ⟨gbaH, 1, none⟩) (Kd.R_far (p := ⟨gbaH, 0, none⟩) (Kd.R_mono HO_bB.out (fun k_ hk => (⟨hk, hk.2.2.1⟩ : _ ∧ k_ ≠ gbaH))) (fun _ hk => hk.2) (.string a0_0)) (fun _ hk => hk.2) (.slice Ao54 xaU_1.length co54)) (fun _ hk => hk.2) (.slice Ao55 xbB_2.length co55)) (fun _ hk => hk.1.1), Zq62⟩
end Go.Proofs.Ytkopmkinlanhoaa.PB

namespace Go.Proofs.Ytkopmkinlanhoaa.PB
open Go.RowKit Go.Proofs.YtkopmkinlanhoaaW.PrintWords Go.Proofs.YtkopmkinlanhoaaW.PrintLast Go.Proofs.YtkopmkinlanhoaaW.PrintMore
attribute [local go_sem] max2_int min2_int max_two min_two max_three min_three max_four min_four
def path_Get.l0 : Nat → List Int → Int → Int → ByteArray → List (S63) → List (S27) → Option (ByteArray × (List (S63)) × (List (S27)) × Int)
 | 0, _, _, _, _, _, _ => none
 | k + 1, x15, x16, x17, xcJ, xcn, xba => if x17 < x16 then (if 0 ≤ x17 then (if x17 < (x15.length : Int) then (if (rd x15 x17) < 0 then (some ((⟨#[]⟩ : ByteArray), ([] : List (S63)), ([] : List (S27)), 8)) else (if (rd x15 x17) ≥ (xba.length : Int) then (some ((⟨#[]⟩ : ByteArray), ([] : List (S63)), ([] : List (S27)), 8)) else (if 0 ≤ (rd x15 x17) then (if (rd x15 x17) < (xba.length : Int) then (path_Get.l0 k x15 x16 (wrap64 (x17 + 1)) ((rd_T27 xba (rd x15 x17)).f0) ((rd_T27 xba (rd x15 x17)).f1) ((rd_T27 xba (rd x15 x17)).f2)) else (none)) else (none)))) else (none)) else (none)) else ((tree_CloneNode.f k xcJ xcn xba).bind fun btcU => (some (btcU.1, btcU.2.1, btcU.2.2, 0)))
def path_Get.f (k : Nat) (a0_0 : Int) (l0_1 : List (S82)) (a0_2 : ByteArray) (l0_3 : List (S63)) (l0_4 : List (S27)) (l1 : List Int) : Option (ByteArray × (List (S63)) × (List (S27)) × Int) := if (l1.length : Int) > 16 then (some ((⟨#[]⟩ : ByteArray), ([] : List (S63)), ([] : List (S27)), 6)) else (path_Get.l0 k l1 (l1.length : Int) 0 a0_2 l0_3 l0_4)
set_option maxHeartbeats 8000000 in
set_option maxRecDepth 100000 in
theorem path_Get.calls (k : Nat) (a0_0 : Int) (A0_1 : Option Addr) (c0_1 : Nat) (l0_1 : List (S82)) (a0_2 : ByteArray) (P0_3_ : Nat → Prop) (A0_3 : Option Addr) (c0_3 : Nat) (l0_3 : List (S63)) (P0_4_ : Nat → Prop) (A0_4 : Option Addr) (c0_4 : Nat) (l0_4 : List (S27)) (A1 : Option Addr) (c1 : Nat) (l1 : List Int) (r1 : ByteArray) (r2 : List (S63)) (r3 : List (S27)) (r4 : Int) (w : World) (hr0_1 : Kd.C k82 w A0_1 l0_1.length l0_1) (hc0_1 : l0_1.length ≤ c0_1) (hs0_3 : Kd.V k63 63 w w.heap.size (fun k_ => P0_3_ k_) (.slice A0_3 l0_3.length c0_3) l0_3) (hs0_4 : Kd.V k27 27 w w.heap.size (fun k_ => P0_4_ k_) (.slice A0_4 l0_4.length c0_4) l0_4) (hr1 : Kd.C (Kd.int .i64) w A1 l1.length l1) (hc1 : l1.length ≤ c1) (h : path_Get.f k a0_0 l0_1 a0_2 l0_3 l0_4 l1 = some (r1, r2, r3, r4)) :
  Calls Try.prog 28 #[.agg #[.int .u32 a0_0, .slice A0_1 l0_1.length c0_1, .string a0_2, .slice A0_3 l0_3.length c0_3, .slice A0_4 l0_4.length c0_4], .slice A1 l1.length c1] w fun e w' => ∃ v1_ v2_ : Value, e = .returned (.tuple #[.agg #[.string r1, v1_, v2_], .int .i64 r4]) ∧ Kd.S k63 63 w' w.heap.size (fun k_ => (w.heap.size ≤ k_)) v1_ r2 ∧ Kd.R k27 27 w' w.heap.size (fun k_ => (w.heap.size ≤ k_) ∧ some k_ ≠ (v1_ : Value).ownBlock) v2_ r3 ∧ Below w.heap.size w w' := by
 have hu29 := Try.underlying29; have hu27 := Try.underlying27; have HR0_1 := Ak hr0_1; have HC0_1 := Ak hc0_1; clear hr0_1 hc0_1; have HO0_3 := Zq253; have HO0_4 := Zq254; have HR1 := Ak hr1; have HC1 := Ak hc1; clear hr1 hc1; have HB := Zq151; have H : (if (l1.length : Int) > 16 then (some ((⟨#[]⟩ : ByteArray), ([] : List (S63)), ([] : List (S27)), 6)) else (path_Get.l0 k l1 (l1.length : Int) 0 a0_2 l0_3 l0_4)) = some (r1, r2, r3, r4) := h; clear h
 by_cases c3 : (l1.length : Int) > 16
 ·rw [if_pos c3] at H; have c3b0 : decide (16 < (l1.length : Int)) = true := decide_eq_true c3; have c3b1 : decide (16 < l1.length) = true := decide_eq_true Zq1; clear c3; simp only [Option.some.injEq, Prod.mk.injEq] at H; obtain ⟨rfl, rfl, rfl, rfl⟩ := H
  go_enter Try.func28, Try.ntmps28
  go_wp2_with (first | ((with_reducible refine gate_dst (N := 2) rfl ?_); (try (refine gate_guard Zq3 ?_; dsimp only)); refine box_event ?hg (N := 2) ?hd (cs := #[.int .u32 a0_0, .slice A0_1 l0_1.length c0_1, .string a0_2, .slice A0_3 l0_3.length c0_3, .slice A0_4 l0_4.length c0_4]) (t := 29) ?hr ?_; (case hd | hg => rfl); (case hr => first | (go_simp; done) | (go_simp; rfl)); intro gbbe hg w4 hbox hb; have n0_ := Ak (Kd.V_below (Kd.V_elderB Zq68 gbbe (Nat.le_of_eq hg.symm)) hb); have n1_ := Ak (Kd.V_below (Kd.V_elderB Zq69 gbbe (Nat.le_of_eq hg.symm)) hb); have n2_ := Zq142; have n3_ := Ak (hbox); have n4_ := Zq242; have n5_ := Zq242; clear HO0_3 HO0_4 HB; have HO0_3 := n0_; have HO0_4 := n1_; have HB := n2_; have BKbe := n3_; have GWbe := n4_; have GEbe := n5_; clear n0_ n1_ n2_ n3_ n4_ n5_ hb hbox hg) | ((with_reducible refine gate_dst (N := 4) rfl ?_); (try (refine gate_guard Zq3 ?_; dsimp only)); refine box_event ?hg (N := 4) ?hd (cs := #[.string (⟨#[]⟩ : ByteArray), .slice none 0 0, .slice none 0 0]) (t := 27) ?hr ?_; (case hd | hg => rfl); (case hr => first | (go_simp; done) | (go_simp; rfl)); intro gbaD hg w5 hbox hb; have n0_ := Ak (Kd.V_below (Kd.V_elderB Zq68 gbaD (Nat.le_of_eq hg.symm)) hb); have n1_ := Ak (Kd.V_below (Kd.V_elderB Zq69 gbaD (Nat.le_of_eq hg.symm)) hb); have n2_ := Zq172; have n3_ := Ak (below_step Zq81 hb); have n4_ := Ak (hbox); have n5_ := Zq236; have n6_ := Zq236; have n7_ := Ak ((by rw [hg]; exact Nat.ne_of_lt Zq152 : gbbe ≠ gbaD)); have n8_ := Ak ((by rw [hg]; exact Nat.ne_of_gt Zq152 : gbaD ≠ gbbe)); clear HO0_3 HO0_4 BKbe HB; have HO0_3 := n0_; have HO0_4 := n1_; have BKbe := n2_; have HB := n3_; have BKaD := n4_; have GWaD := n5_; have GEaD := n6_; have NB130_131 := n7_; have NB131_130 := n8_; clear n0_ n1_ n2_ n3_ n4_ n5_ n6_ n7_ n8_ hb hbox hg; have hnb6 := NB131_130.out; have hnc6 := NB130_131.out; have hcz7_0 : w5.cell? ⟨gbaD, 0, none⟩ = some (.string (⟨#[]⟩ : ByteArray)) := (blk_cell BKaD.out 0).trans rfl; have hcz7_1 : w5.cell? ⟨gbaD, 1, none⟩ = some (.slice none 0 0) := (blk_cell BKaD.out 1).trans rfl; have hcz7_2 : w5.cell? ⟨gbaD, 2, none⟩ = some (.slice none 0 0) := (blk_cell BKaD.out 2).trans rfl; have hfz7_0 := blk_frozen BKaD.out 0; have hfz7_1 := blk_frozen BKaD.out 1; have hfz7_2 := blk_frozen BKaD.out 2))
  refine bodyPost_ret (results_ct rfl _ _ gbaD 27 #[.string (⟨#[]⟩ : ByteArray), .slice none 0 0, .slice none 0 0] (0, 0) _ rfl (by (with_reducible repeat (first | refine blk_drewN ?_ _ | refine blk_drew ?_ | refine blk_alloc ?_ _)); refine blk_put (cs := #[.string (⟨#[]⟩ : ByteArray), .slice none 0 0, .slice none 0 0]) ?_ 2 _ rfl; (with_reducible repeat (first | refine blk_drewN ?_ _ | refine blk_drew ?_ | refine blk_alloc ?_ _)); refine blk_put (cs := #[.string (⟨#[]⟩ : ByteArray), .slice none 0 0, .slice none 0 0]) ?_ 1 _ rfl; (with_reducible repeat (first | refine blk_drewN ?_ _ | refine blk_drew ?_ | refine blk_alloc ?_ _)); refine blk_put (cs := #[.string (⟨#[]⟩ : ByteArray), .slice none 0 0, .slice none 0 0]) ?_ 0 _ rfl; (with_reducible repeat (first | refine blk_drewN ?_ _ | refine blk_drew ?_ | refine blk_alloc ?_ _)); exact BKaD.out) Try.underlying27 rfl Zq2) rfl ?_
  exact ⟨_, _, Zq13, Zq102, Zq34, Zq105⟩
 ·rw [if_neg c3] at H; have c3b0 : decide (16 < (l1.length : Int)) = false := decide_eq_false c3; have c3b1 : decide (16 < l1.length) = false := decide_eq_false Zq1; clear c3; have H' := Ak H; clear H
  go_enter Try.func28, Try.ntmps28
  go_wp2_with (first | ((with_reducible refine gate_dst (N := 2) rfl ?_); (try (refine gate_guard Zq3 ?_; dsimp only)); refine box_event ?hg (N := 2) ?hd (cs := #[.int .u32 a0_0, .slice A0_1 l0_1.length c0_1, .string a0_2, .slice A0_3 l0_3.length c0_3, .slice A0_4 l0_4.length c0_4]) (t := 29) ?hr ?_; (case hd | hg => rfl); (case hr => first | (go_simp; done) | (go_simp; rfl)); intro gbbe hg w8 hbox hb; have n0_ := Ak (Kd.V_below (Kd.V_elderB Zq68 gbbe (Nat.le_of_eq hg.symm)) hb); have n1_ := Ak (Kd.V_below (Kd.V_elderB Zq69 gbbe (Nat.le_of_eq hg.symm)) hb); have n2_ := Zq142; have n3_ := Ak (hbox); have n4_ := Zq242; have n5_ := Zq242; clear HO0_3 HO0_4 HB; have HO0_3 := n0_; have HO0_4 := n1_; have HB := n2_; have BKbe := n3_; have GWbe := n4_; have GEbe := n5_; clear n0_ n1_ n2_ n3_ n4_ n5_ hb hbox hg) | ((with_reducible refine gate_dst (N := 4) rfl ?_); (try (refine gate_guard Zq3 ?_; dsimp only)); refine box_event ?hg (N := 4) ?hd (cs := #[.string (⟨#[]⟩ : ByteArray), .slice none 0 0, .slice none 0 0]) (t := 27) ?hr ?_; (case hd | hg => rfl); (case hr => first | (go_simp; done) | (go_simp; rfl)); intro gbaD hg w9 hbox hb; have n0_ := Ak (Kd.V_below (Kd.V_elderB Zq68 gbaD (Nat.le_of_eq hg.symm)) hb); have n1_ := Ak (Kd.V_below (Kd.V_elderB Zq69 gbaD (Nat.le_of_eq hg.symm)) hb); have n2_ := Zq172; have n3_ := Ak (below_step Zq81 hb); have n4_ := Ak (hbox); have n5_ := Zq236; have n6_ := Zq236; have n7_ := Ak ((by rw [hg]; exact Nat.ne_of_lt Zq152 : gbbe ≠ gbaD)); have n8_ := Ak ((by rw [hg]; exact Nat.ne_of_gt Zq152 : gbaD ≠ gbbe)); clear HO0_3 HO0_4 BKbe HB; have HO0_3 := n0_; have HO0_4 := n1_; have BKbe := n2_; have HB := n3_; have BKaD := n4_; have GWaD := n5_; have GEaD := n6_; have NB130_131 := n7_; have NB131_130 := n8_; clear n0_ n1_ n2_ n3_ n4_ n5_ n6_ n7_ n8_ hb hbox hg; have hnb10 := NB130_131.out; have hnc10 := NB131_130.out; have hcz11_0 : w9.cell? ⟨gbbe, 0, none⟩ = some (.int .u32 a0_0) := (blk_cell BKbe.out 0).trans rfl; have hcz11_1 : w9.cell? ⟨gbbe, 1, none⟩ = some (.slice A0_1 l0_1.length c0_1) := (blk_cell BKbe.out 1).trans rfl; have hcz11_2 : w9.cell? ⟨gbbe, 2, none⟩ = some (.string a0_2) := (blk_cell BKbe.out 2).trans rfl; have hcz11_3 : w9.cell? ⟨gbbe, 3, none⟩ = some (.slice A0_3 l0_3.length c0_3) := (blk_cell BKbe.out 3).trans rfl; have hcz11_4 : w9.cell? ⟨gbbe, 4, none⟩ = some (.slice A0_4 l0_4.length c0_4) := (blk_cell BKbe.out 4).trans rfl; have hfz11_0 := blk_frozen BKbe.out 0; have hfz11_1 := blk_frozen BKbe.out 1; have hfz11_2 := blk_frozen BKbe.out 2; have hfz11_3 := blk_frozen BKbe.out 3; have hfz11_4 := blk_frozen BKbe.out 4) | ((with_reducible refine gate_dst (N := 6) rfl ?_); (try (refine gate_guard Zq3 ?_; dsimp only)); refine box_event ?hg (N := 6) ?hd (cs := #[.string (⟨#[]⟩ : ByteArray), .slice none 0 0, .slice none 0 0]) (t := 27) ?hr ?_; (case hd | hg => rfl); (case hr => first | (go_simp; done) | (go_simp; rfl)); intro gbax hg w12 hbox hb; have n0_ := Ak (Kd.V_below (Kd.V_elderB Zq68 gbax (Nat.le_of_eq hg.symm)) hb); have n1_ := Ak (Kd.V_below (Kd.V_elderB Zq69 gbax (Nat.le_of_eq hg.symm)) hb); have n2_ := Zq172; have n3_ := Ak (blk_below (g := gbaD) (o := .cells #[.string (⟨#[]⟩ : ByteArray), .slice none 0 0, .slice none 0 0] 27 (0, 0)) Zq90 hb); have n4_ := Ak (below_step Zq105 hb); have n5_ := Ak (hbox); have n6_ := Ak ((by rw [hg]; exact (below_size Zq105) : w.heap.size ≤ gbax)); have n7_ := Ak ((by rw [hg]; exact (below_size Zq105) : w.heap.size ≤ gbax)); have n8_ := Ak ((by rw [hg]; exact Nat.ne_of_lt Zq152 : gbbe ≠ gbax)); have n9_ := Ak ((by rw [hg]; exact Nat.ne_of_gt Zq152 : gbax ≠ gbbe)); have n10_ := Ak ((by rw [hg]; exact Nat.ne_of_lt (blk_lt (g := gbaD) (o := .cells #[.string (⟨#[]⟩ : ByteArray), .slice none 0 0, .slice none 0 0] 27 (0, 0)) Zq90) : gbaD ≠ gbax)); have n11_ := Ak ((by rw [hg]; exact Nat.ne_of_gt (blk_lt (g := gbaD) (o := .cells #[.string (⟨#[]⟩ : ByteArray), .slice none 0 0, .slice none 0 0] 27 (0, 0)) Zq90) : gbax ≠ gbaD)); clear HO0_3 HO0_4 BKbe BKaD HB; have HO0_3 := n0_; have HO0_4 := n1_; have BKbe := n2_; have BKaD := n3_; have HB := n4_; have BKax := n5_; have GWax := n6_; have GEax := n7_; have NB130_132 := n8_; have NB132_130 := n9_; have NB131_132 := n10_; have NB132_131 := n11_; clear n0_ n1_ n2_ n3_ n4_ n5_ n6_ n7_ n8_ n9_ n10_ n11_ hb hbox hg; have hnb13 := NB132_130.out; have hnc13 := NB130_132.out; have hnb14 := NB132_131.out; have hnc14 := NB131_132.out; have hcz15_0 : w12.cell? ⟨gbax, 0, none⟩ = some (.string (⟨#[]⟩ : ByteArray)) := (blk_cell BKax.out 0).trans rfl; have hcz15_1 : w12.cell? ⟨gbax, 1, none⟩ = some (.slice none 0 0) := (blk_cell BKax.out 1).trans rfl; have hcz15_2 : w12.cell? ⟨gbax, 2, none⟩ = some (.slice none 0 0) := (blk_cell BKax.out 2).trans rfl; have hfz15_0 := blk_frozen BKax.out 0; have hfz15_1 := blk_frozen BKax.out 1; have hfz15_2 := blk_frozen BKax.out 2))
  go_loopg [17] k (fun kq v17 w' => ∃ (x17_1 : Int) (xcV_1 : ByteArray) (xcJ_1 : ByteArray) (xcn_1 : List (S63)) (xba_1 : List (S27)) (u133001 : Value) (u133002 : Value), v17 = .int .i64 x17_1 ∧ Aside0 (path_Get.l0 kq l1 (l1.length : Int) x17_1 xcJ_1 xcn_1 xba_1 = some (r1, r2, r3, r4)) ∧ Aside0 (kq ≤ k) ∧ Aside0 (Kd.V k63 63 w' w.heap.size (fun k_ => ((P0_3_ k_ ∨ P0_4_ k_) ∨ w.heap.size ≤ k_) ∧ k_ ≠ gbbe ∧ k_ ≠ gbaD ∧ k_ ≠ gbax) (.slice A0_3 l0_3.length c0_3) l0_3) ∧ Aside0 (Kd.V k27 27 w' w.heap.size (fun k_ => ((P0_3_ k_ ∨ P0_4_ k_) ∨ w.heap.size ≤ k_) ∧ k_ ≠ gbbe ∧ k_ ≠ gbaD ∧ k_ ≠ gbax) (.slice A0_4 l0_4.length c0_4) l0_4) ∧ Aside0 (Kd.V k63 63 w' w.heap.size (fun k_ => ((P0_3_ k_ ∨ P0_4_ k_) ∨ w.heap.size ≤ k_) ∧ k_ ≠ gbbe ∧ k_ ≠ gbaD ∧ k_ ≠ gbax) u133001 xcn_1) ∧ Aside0 (Kd.V k27 27 w' w.heap.size (fun k_ => ((P0_3_ k_ ∨ P0_4_ k_) ∨ w.heap.size ≤ k_) ∧ k_ ≠ gbbe ∧ k_ ≠ gbaD ∧ k_ ≠ gbax) u133002 xba_1) ∧ Aside0 (w'.heap[gbbe]? = some (.cells #[.int .u32 a0_0, (.slice A0_1 l0_1.length c0_1), .string a0_2, (.slice A0_3 l0_3.length c0_3), (.slice A0_4 l0_4.length c0_4)] 29 (0, 0))) ∧ Aside0 (w'.heap[gbaD]? = some (.cells #[.string xcV_1, (.slice none 0 0), (.slice none 0 0)] 27 (0, 0))) ∧ Aside0 (w'.heap[gbax]? = some (.cells #[.string xcJ_1, u133001, u133002] 27 (0, 0))) ∧ Aside0 (Below w.heap.size w w'))
  case atStart => exact ⟨(0), ((⟨#[]⟩ : ByteArray)), (a0_2), (l0_3), (l0_4), (.slice A0_3 l0_3.length c0_3), (.slice A0_4 l0_4.length c0_4), Zq7, H', ⟨Nat.le_refl _⟩, ⟨by (with_reducible repeat (first | apply Kd.V_alloc | apply Kd.V_drewN | apply Kd.V_drew)); exact Kd.V_mono (Kd.V_far (p := ⟨gbax, 2, none⟩) (Kd.V_far (p := ⟨gbax, 1, none⟩) (Kd.V_far (p := ⟨gbax, 0, none⟩) (Kd.V_mono HO0_3.out (fun k_ hk => (⟨hk, hk.2⟩ : _ ∧ k_ ≠ gbax))) (fun _ hk => hk.2) (.string a0_2)) (fun _ hk => hk.2) (.slice A0_3 l0_3.length c0_3)) (fun _ hk => hk.2) (.slice A0_4 l0_4.length c0_4)) (fun _ hk => ⟨hk.1.1.1.1, ⟨hk.1.1.1.2, ⟨hk.1.1.2, hk.1.2⟩⟩⟩)⟩, ⟨by (with_reducible repeat (first | apply Kd.V_alloc | apply Kd.V_drewN | apply Kd.V_drew)); exact Kd.V_mono (Kd.V_far (p := ⟨gbax, 2, none⟩) (Kd.V_far (p := ⟨gbax, 1, none⟩) (Kd.V_far (p := ⟨gbax, 0, none⟩) (Kd.V_mono HO0_4.out (fun k_ hk => (⟨hk, hk.2⟩ : _ ∧ k_ ≠ gbax))) (fun _ hk => hk.2) (.string a0_2)) (fun _ hk => hk.2) (.slice A0_3 l0_3.length c0_3)) (fun _ hk => hk.2) (.slice A0_4 l0_4.length c0_4)) (fun _ hk => ⟨hk.1.1.1.1, ⟨hk.1.1.1.2, ⟨hk.1.1.2, hk.1.2⟩⟩⟩)⟩, ⟨by (with_reducible repeat (first | apply Kd.V_alloc | apply Kd.V_drewN | apply Kd.V_drew)); exact Kd.V_mono (Kd.V_far (p := ⟨gbax, 2, none⟩) (Kd.V_far (p := ⟨gbax, 1, none⟩) (Kd.V_far (p := ⟨gbax, 0, none⟩) (Kd.V_mono HO0_3.out (fun k_ hk => (⟨hk, hk.2⟩ : _ ∧ k_ ≠ gbax))) (fun _ hk => hk.2) (.string a0_2)) (fun _ hk => hk.2) (.slice A0_3 l0_3.length c0_3)) (fun _ hk => hk.2) (.slice A0_4 l0_4.length c0_4)) (fun _ hk => ⟨hk.1.1.1.1, ⟨hk.1.1.1.2, ⟨hk.1.1.2, hk.1.2⟩⟩⟩)⟩, ⟨by (with_reducible repeat (first | apply Kd.V_alloc | apply Kd.V_drewN | apply Kd.V_drew)); exact Kd.V_mono (Kd.V_far (p := ⟨gbax, 2, none⟩) (Kd.V_far (p := ⟨gbax, 1, none⟩) (Kd.V_far (p := ⟨gbax, 0, none⟩) (Kd.V_mono HO0_4.out (fun k_ hk => (⟨hk, hk.2⟩ : _ ∧ k_ ≠ gbax))) (fun _ hk => hk.2) (.string a0_2)) (fun _ hk => hk.2) (.slice A0_3 l0_3.length c0_3)) (fun _ hk => hk.2) (.slice A0_4 l0_4.length c0_4)) (fun _ hk => ⟨hk.1.1.1.1, ⟨hk.1.1.1.2, ⟨hk.1.1.2, hk.1.2⟩⟩⟩)⟩, ⟨by (with_reducible repeat (first | refine blk_drewN ?_ _ | refine blk_drew ?_ | refine blk_alloc ?_ _)); refine blk_far ?_ NB130_132.out _; (with_reducible repeat (first | refine blk_drewN ?_ _ | refine blk_drew ?_ | refine blk_alloc ?_ _)); refine blk_far ?_ NB130_132.out _; (with_reducible repeat (first | refine blk_drewN ?_ _ | refine blk_drew ?_ | refine blk_alloc ?_ _)); refine blk_far ?_ NB130_132.out _; (with_reducible repeat (first | refine blk_drewN ?_ _ | refine blk_drew ?_ | refine blk_alloc ?_ _)); exact BKbe.out⟩, ⟨by (with_reducible repeat (first | refine blk_drewN ?_ _ | refine blk_drew ?_ | refine blk_alloc ?_ _)); refine blk_far ?_ NB131_132.out _; (with_reducible repeat (first | refine blk_drewN ?_ _ | refine blk_drew ?_ | refine blk_alloc ?_ _)); refine blk_far ?_ NB131_132.out _; (with_reducible repeat (first | refine blk_drewN ?_ _ | refine blk_drew ?_ | refine blk_alloc ?_ _)); refine blk_far ?_ NB131_132.out _; (with_reducible repeat (first | refine blk_drewN ?_ _ | refine blk_drew ?_ | refine blk_alloc ?_ _)); exact BKaD.out⟩, ⟨by (with_reducible repeat (first | refine blk_drewN ?_ _ | refine blk_drew ?_ | refine blk_alloc ?_ _)); refine blk_put (cs := #[.string a0_2, .slice A0_3 l0_3.length c0_3, .slice none 0 0]) ?_ 2 _ rfl; (with_reducible repeat (first | refine blk_drewN ?_ _ | refine blk_drew ?_ | refine blk_alloc ?_ _)); refine blk_put (cs := #[.string a0_2, .slice none 0 0, .slice none 0 0]) ?_ 1 _ rfl; (with_reducible repeat (first | refine blk_drewN ?_ _ | refine blk_drew ?_ | refine blk_alloc ?_ _)); refine blk_put (cs := #[.string (⟨#[]⟩ : ByteArray), .slice none 0 0, .slice none 0 0]) ?_ 0 _ rfl; (with_reducible repeat (first | refine blk_drewN ?_ _ | refine blk_drew ?_ | refine blk_alloc ?_ _)); exact BKax.out⟩, ⟨Zq59⟩⟩
  case round =>
   clear H'
   try clear c1
   try clear c2
   try clear p2
   try clear c3
   try clear c3b0
   try clear c3b1
   try clear c6
   try clear c10
   try clear c13
   try clear c14
   try clear hcz11_0
   try clear hcz11_1
   try clear hcz11_2
   try clear hcz11_3
   try clear hcz11_4
   try clear hcz15_0
   try clear hcz15_1
   try clear hcz15_2
   try clear hcz7_0
   try clear hcz7_1
   try clear hcz7_2
   try clear hfz11_0
   try clear hfz11_1
   try clear hfz11_2
   try clear hfz11_3
   try clear hfz11_4
   try clear hfz15_0
   try clear hfz15_1
   try clear hfz15_2
   try clear hfz7_0
   try clear hfz7_1
   try clear hfz7_2
   obtain ⟨x17_1, xcV_1, xcJ_1, xcn_1, xba_1, u133001, u133002, rfl, HA, HK1, HO_eg, HO_eh, HO_cn, HO_ba, BKbe, BKaD, BKax, HB⟩ := hrel
   cases gk with
   | zero => exact absurd HA.out (by simp [path_Get.l0])
   | succ k1 =>
    have H := HA.out; clear HA; simp only [path_Get.l0] at H
    by_cases c16 : x17_1 < (l1.length : Int)
    ·rw [if_pos c16] at H; have c16b0 : decide (x17_1 < (l1.length : Int)) = true := decide_eq_true c16; clear c16
     by_cases c17 : 0 ≤ x17_1
     ·rw [if_pos c17] at H; have c17b0 : decide (0 ≤ x17_1) = true := decide_eq_true c17; clear c17
      by_cases c18 : x17_1 < (l1.length : Int)
      ·rw [if_pos c18] at H; have c18b0 : decide (x17_1 < (l1.length : Int)) = true := decide_eq_true c18; clear c18
       by_cases c19 : (rd l1 x17_1) < 0
       ·rw [if_pos c19] at H; have c19b0 : decide ((rd l1 x17_1) < 0) = true := decide_eq_true c19; clear c19; simp only [Option.some.injEq, Prod.mk.injEq] at H; obtain ⟨rfl, rfl, rfl, rfl⟩ := H; have p133 : 0 ≤ (x17_1 : Int) := of_decide_eq_true Zq5; have q133 : x17_1 < (l1.length : Int) := of_decide_eq_true Zq5; obtain ⟨adbj, e133, hx133_0⟩ := Kd.at_int HR1.out x17_1 p133 q133
        cases e133
        replace hx133_0 := (HB.out.cell (World.block_lt_of_cell? w _ hx133_0)).trans hx133_0; replace p133 := eq_true p133; replace q133 := eq_true q133; have hnb20 := NB131_130.out; have hnc20 := NB130_131.out; have hnb21 := NB131_132.out; have hnc21 := NB132_131.out; have hcz22_0 : wr.cell? ⟨gbaD, 0, none⟩ = some (.string xcV_1) := (blk_cell BKaD.out 0).trans rfl; have hcz22_1 : wr.cell? ⟨gbaD, 1, none⟩ = some (.slice none 0 0) := (blk_cell BKaD.out 1).trans rfl; have hcz22_2 : wr.cell? ⟨gbaD, 2, none⟩ = some (.slice none 0 0) := (blk_cell BKaD.out 2).trans rfl; have hfz22_0 := blk_frozen BKaD.out 0; have hfz22_1 := blk_frozen BKaD.out 1; have hfz22_2 := blk_frozen BKaD.out 2
        go_wp2
        refine bodyPost_ret (results_ct rfl _ _ gbaD 27 #[.string (⟨#[]⟩ : ByteArray), .slice none 0 0, .slice none 0 0] (0, 0) _ rfl (by (with_reducible repeat (first | refine blk_drewN ?_ _ | refine blk_drew ?_ | refine blk_alloc ?_ _)); refine blk_put (cs := #[.string (⟨#[]⟩ : ByteArray), .slice none 0 0, .slice none 0 0]) ?_ 2 _ rfl; (with_reducible repeat (first | refine blk_drewN ?_ _ | refine blk_drew ?_ | refine blk_alloc ?_ _)); refine blk_put (cs := #[.string (⟨#[]⟩ : ByteArray), .slice none 0 0, .slice none 0 0]) ?_ 1 _ rfl; (with_reducible repeat (first | refine blk_drewN ?_ _ | refine blk_drew ?_ | refine blk_alloc ?_ _)); refine blk_put (cs := #[.string xcV_1, .slice none 0 0, .slice none 0 0]) ?_ 0 _ rfl; (with_reducible repeat (first | refine blk_drewN ?_ _ | refine blk_drew ?_ | refine blk_alloc ?_ _)); exact BKaD.out) Try.underlying27 rfl Zq2) rfl ?_
        exact ⟨_, _, Zq13, Zq102, Zq34, Zq59⟩
       ·rw [if_neg c19] at H; have c19b0 : decide ((rd l1 x17_1) < 0) = false := decide_eq_false c19; clear c19
        by_cases c23 : (rd l1 x17_1) ≥ (xba_1.length : Int)
        ·rw [if_pos c23] at H; have c23b0 : decide ((xba_1.length : Int) ≤ (rd l1 x17_1)) = true := decide_eq_true c23; clear c23; simp only [Option.some.injEq, Prod.mk.injEq] at H; obtain ⟨rfl, rfl, rfl, rfl⟩ := H; have p133 : 0 ≤ (x17_1 : Int) := of_decide_eq_true Zq5; have q133 : x17_1 < (l1.length : Int) := of_decide_eq_true Zq5; obtain ⟨adbj, e133, hx133_0⟩ := Kd.at_int HR1.out x17_1 p133 q133
         cases e133
         replace hx133_0 := (HB.out.cell (World.block_lt_of_cell? w _ hx133_0)).trans hx133_0; replace p133 := eq_true p133; replace q133 := eq_true q133; have hnb24 := NB132_130.out; have hnc24 := NB130_132.out; have hnb25 := NB132_131.out; have hnc25 := NB131_132.out; have hcz26_0 : wr.cell? ⟨gbax, 0, none⟩ = some (.string xcJ_1) := (blk_cell BKax.out 0).trans rfl; have hcz26_1 : wr.cell? ⟨gbax, 1, none⟩ = some (u133001) := (blk_cell BKax.out 1).trans rfl; have hcz26_2 : wr.cell? ⟨gbax, 2, none⟩ = some (u133002) := (blk_cell BKax.out 2).trans rfl; have hfz26_0 := blk_frozen BKax.out 0; have hfz26_1 := blk_frozen BKax.out 1; have hfz26_2 := blk_frozen BKax.out 2; obtain ⟨Ao27, co27, eo27⟩ := Kd.V_slice HO_ba.out; subst eo27; have hnb28 := NB131_130.out; have hnc28 := NB130_131.out; have hcz29_0 : wr.cell? ⟨gbaD, 0, none⟩ = some (.string xcV_1) := (blk_cell BKaD.out 0).trans rfl; have hcz29_1 : wr.cell? ⟨gbaD, 1, none⟩ = some (.slice none 0 0) := (blk_cell BKaD.out 1).trans rfl; have hcz29_2 : wr.cell? ⟨gbaD, 2, none⟩ = some (.slice none 0 0) := (blk_cell BKaD.out 2).trans rfl; have hfz29_0 := blk_frozen BKaD.out 0; have hfz29_1 := blk_frozen BKaD.out 1; have hfz29_2 := blk_frozen BKaD.out 2
         go_wp2
         refine bodyPost_ret (results_ct rfl _ _ gbaD 27 #[.string (⟨#[]⟩ : ByteArray), .slice none 0 0, .slice none 0 0] (0, 0) _ rfl (by (with_reducible repeat (first | refine blk_drewN ?_ _ | refine blk_drew ?_ | refine blk_alloc ?_ _)); refine blk_put (cs := #[.string (⟨#[]⟩ : ByteArray), .slice none 0 0, .slice none 0 0]) ?_ 2 _ rfl; (with_reducible repeat (first | refine blk_drewN ?_ _ | refine blk_drew ?_ | refine blk_alloc ?_ _)); refine blk_put (cs := #[.string (⟨#[]⟩ : ByteArray), .slice none 0 0, .slice none 0 0]) ?_ 1 _ rfl; (with_reducible repeat (first | refine blk_drewN ?_ _ | refine blk_drew ?_ | refine blk_alloc ?_ _)); refine blk_put (cs := #[.string xcV_1, .slice none 0 0, .slice none 0 0]) ?_ 0 _ rfl; (with_reducible repeat (first | refine blk_drewN ?_ _ | refine blk_drew ?_ | refine blk_alloc ?_ _)); exact BKaD.out) Try.underlying27 rfl Zq2) rfl ?_
         exact ⟨_, _, Zq13, Zq102, Zq34, Zq59⟩
        ·rw [if_neg c23] at H; have c23b0 : decide ((xba_1.length : Int) ≤ (rd l1 x17_1)) = false := decide_eq_false c23; clear c23
         by_cases c30 : 0 ≤ (rd l1 x17_1)
         ·rw [if_pos c30] at H; have c30b0 : decide (0 ≤ (rd l1 x17_1)) = true := decide_eq_true c30; clear c30
          by_cases c31 : (rd l1 x17_1) < (xba_1.length : Int)
          ·rw [if_pos c31] at H; have c31b0 : decide ((rd l1 x17_1) < (xba_1.length : Int)) = true := decide_eq_true c31; clear c31; have H' := Ak H; clear H; have p133 : 0 ≤ (x17_1 : Int) := of_decide_eq_true Zq5; have q133 : x17_1 < (l1.length : Int) := of_decide_eq_true Zq5; obtain ⟨adbj, e133, hx133_0⟩ := Kd.at_int HR1.out x17_1 p133 q133
           cases e133
           replace hx133_0 := (HB.out.cell (World.block_lt_of_cell? w _ hx133_0)).trans hx133_0; replace p133 := eq_true p133; replace q133 := eq_true q133; have hnb32 := NB132_130.out; have hnc32 := NB130_132.out; have hnb33 := NB132_131.out; have hnc33 := NB131_132.out; have hcz34_0 : wr.cell? ⟨gbax, 0, none⟩ = some (.string xcJ_1) := (blk_cell BKax.out 0).trans rfl; have hcz34_1 : wr.cell? ⟨gbax, 1, none⟩ = some (u133001) := (blk_cell BKax.out 1).trans rfl; have hcz34_2 : wr.cell? ⟨gbax, 2, none⟩ = some (u133002) := (blk_cell BKax.out 2).trans rfl; have hfz34_0 := blk_frozen BKax.out 0; have hfz34_1 := blk_frozen BKax.out 1; have hfz34_2 := blk_frozen BKax.out 2; obtain ⟨Ao35, co35, eo35⟩ := Kd.V_slice HO_ba.out; subst eo35; have p134 : 0 ≤ ((rd l1 x17_1) : Int) := of_decide_eq_true Zq5; have q134 : (rd l1 x17_1) < (xba_1.length : Int) := of_decide_eq_true Zq5; obtain ⟨adbI, AbI_1, cbI_1, AbI_2, cbI_2, e134, hx134_0, hx134_1, hx134_2, hl134_1, hi134_1, hl134_2, hi134_2⟩ := at_T27 (Kd.V_reads' HO_ba.out).2.2 (rd l1 x17_1) p134 q134
           cases e134
           obtain ⟨ce134, hce134, hMe134, hcc134⟩ := Kd.V_get HO_ba.out z27 (rd l1 x17_1) p134 (by first | exact q134 | exact of_decide_eq_true Zq5 | (have e_ := (Kd.V_reads' HO_ba.out).1; omega)); obtain ⟨ua134_1, uc134_1, ua134_2, uc134_2, rfl, ul134_1, ge134_1, ul134_2, ge134_2⟩ := k27_openF hMe134; have hv134_1 := hcc134 1 _ rfl; rw [add_field _ _ 1 Zq1] at hv134_1; replace hv134_1 := Option.some.inj (hv134_1.symm.trans hx134_1); injection hv134_1 with hva_ hvn_ hvc_; rw [hva_] at ge134_1; rw [hvc_] at ul134_1; have HL134_1 := Ak (show Kd.V k63 63 _ w.heap.size _ _ ((rd_T27 xba_1 (rd l1 x17_1)).f1) from Kd.V_mk ul134_1 ge134_1); clear hva_ hvn_ hvc_ ge134_1 ul134_1; have hv134_2 := hcc134 2 _ rfl; rw [add_field _ _ 2 Zq1] at hv134_2; replace hv134_2 := Option.some.inj (hv134_2.symm.trans hx134_2); injection hv134_2 with hva_ hvn_ hvc_; rw [hva_] at ge134_2; rw [hvc_] at ul134_2; have HL134_2 := Ak (show Kd.V k27 27 _ w.heap.size _ _ ((rd_T27 xba_1 (rd l1 x17_1)).f2) from Kd.V_mk ul134_2 ge134_2); clear hva_ hvn_ hvc_ ge134_2 ul134_2 hcc134 hce134; have HRbI_1 := Ak hi134_1; have HCbI_1 := Ak hl134_1; clear hi134_1 hl134_1; have HRbI_2 := Ak hi134_2; have HCbI_2 := Ak hl134_2; clear hi134_2 hl134_2; replace p134 := eq_true p134; replace q134 := eq_true q134
           go_wp2
           go_roundg k1
           case measure => have := HK1.out; omega
           case rel => exact ⟨(wrap64 (x17_1 + 1)), (xcV_1), ((rd_T27 xba_1 (rd l1 x17_1)).f0), ((rd_T27 xba_1 (rd l1 x17_1)).f1), ((rd_T27 xba_1 (rd l1 x17_1)).f2), (.slice AbI_1 ((rd_T27 xba_1 (rd l1 x17_1)).f1).length cbI_1), (.slice AbI_2 ((rd_T27 xba_1 (rd l1 x17_1)).f2).length cbI_2), Zq7, H', ⟨Zq27⟩, ⟨by (with_reducible repeat (first | apply Kd.V_alloc | apply Kd.V_drewN | apply Kd.V_drew)); exact Kd.V_mono (Kd.V_far (p := ⟨gbax, 2, none⟩) (Kd.V_far (p := ⟨gbax, 1, none⟩) (Kd.V_far (p := ⟨gbax, 0, none⟩) (Kd.V_mono HO_eg.out (fun k_ hk => (⟨hk, hk.2.2.2⟩ : _ ∧ k_ ≠ gbax))) (fun _ hk => hk.2) (.string ((rd_T27 xba_1 (rd l1 x17_1)).f0))) (fun _ hk => hk.2) (.slice AbI_1 ((rd_T27 xba_1 (rd l1 x17_1)).f1).length cbI_1)) (fun _ hk => hk.2) (.slice AbI_2 ((rd_T27 xba_1 (rd l1 x17_1)).f2).length cbI_2)) (fun _ hk => ⟨hk.1.1, ⟨hk.1.2.1, ⟨hk.1.2.2.1, hk.1.2.2.2⟩⟩⟩)⟩, ⟨by (with_reducible repeat (first | apply Kd.V_alloc | apply Kd.V_drewN | apply Kd.V_drew)); exact Kd.V_mono (Kd.V_far (p := ⟨gbax, 2, none⟩) (Kd.V_far (p := ⟨gbax, 1, none⟩) (Kd.V_far (p := ⟨gbax, 0, none⟩) (Kd.V_mono HO_eh.out (fun k_ hk => (⟨hk, hk.2.2.2⟩ : _ ∧ k_ ≠ gbax))) (fun _ hk => hk.2) (.string ((rd_T27 xba_1 (rd l1 x17_1)).f0))) (fun _ hk => hk.2) (.slice AbI_1 ((rd_T27 xba_1 (rd l1 x17_1)).f1).length cbI_1)) (fun _ hk => hk.2) (.slice AbI_2 ((rd_T27 xba_1 (rd l1 x17_1)).f2).length cbI_2)) (fun _ hk => ⟨hk.1.1, ⟨hk.1.2.1, ⟨hk.1.2.2.1, hk.1.2.2.2⟩⟩⟩)⟩, ⟨by (with_reducible repeat (first | apply Kd.V_alloc | apply Kd.V_drewN | apply Kd.V_drew)); exact Kd.V_mono (Kd.V_far (p := ⟨gbax, 2, none⟩) (Kd.V_far (p := ⟨gbax, 1, none⟩) (Kd.V_far (p := ⟨gbax, 0, none⟩) (Kd.V_mono HL134_1.out (fun k_ hk => (⟨hk, hk.2.2.2⟩ : _ ∧ k_ ≠ gbax))) (fun _ hk => hk.2) (.string ((rd_T27 xba_1 (rd l1 x17_1)).f0))) (fun _ hk => hk.2) (.slice AbI_1 ((rd_T27 xba_1 (rd l1 x17_1)).f1).length cbI_1)) (fun _ hk => hk.2) (.slice AbI_2 ((rd_T27 xba_1 (rd l1 x17_1)).f2).length cbI_2)) (fun _ hk => ⟨hk.1.1, ⟨hk.1.2.1, ⟨hk.1.2.2.1, hk.1.2.2.2⟩⟩⟩)⟩, ⟨by (with_reducible repeat (first | apply Kd.V_alloc | apply Kd.V_drewN | apply Kd.V_drew)); exact Kd.V_mono (Kd.V_far (p := ⟨gbax, 2, none⟩) (Kd.V_far (p := ⟨gbax, 1, none⟩) (Kd.V_far (p := ⟨gbax, 0, none⟩) (Kd.V_mono HL134_2.out (fun k_ hk => (⟨hk, hk.2.2.2⟩ : _ ∧ k_ ≠ gbax))) (fun _ hk => hk.2) (.string ((rd_T27 xba_1 (rd l1 x17_1)).f0))) (fun _ hk => hk.2) (.slice AbI_1 ((rd_T27 xba_1 (rd l1 x17_1)).f1).length cbI_1)) (fun _ hk => hk.2) (.slice AbI_2 ((rd_T27 xba_1 (rd l1 x17_1)).f2).length cbI_2)) (fun _ hk => ⟨hk.1.1, ⟨hk.1.2.1, ⟨hk.1.2.2.1, hk.1.2.2.2⟩⟩⟩)⟩, ⟨by (with_reducible repeat (first | refine blk_drewN ?_ _ | refine blk_drew ?_ | refine blk_alloc ?_ _)); refine blk_far ?_ NB130_132.out _; (with_reducible repeat (first | refine blk_drewN ?_ _ | refine blk_drew ?_ | refine blk_alloc ?_ _)); refine blk_far ?_ NB130_132.out _; (with_reducible repeat (first | refine blk_drewN ?_ _ | refine blk_drew ?_ | refine blk_alloc ?_ _)); refine blk_far ?_ NB130_132.out _; (with_reducible repeat (first | refine blk_drewN ?_ _ | refine blk_drew ?_ | refine blk_alloc ?_ _)); exact BKbe.out⟩, ⟨by (with_reducible repeat (first | refine blk_drewN ?_ _ | refine blk_drew ?_ | refine blk_alloc ?_ _)); refine blk_far ?_ NB131_132.out _; (with_reducible repeat (first | refine blk_drewN ?_ _ | refine blk_drew ?_ | refine blk_alloc ?_ _)); refine blk_far ?_ NB131_132.out _; (with_reducible repeat (first | refine blk_drewN ?_ _ | refine blk_drew ?_ | refine blk_alloc ?_ _)); refine blk_far ?_ NB131_132.out _; (with_reducible repeat (first | refine blk_drewN ?_ _ | refine blk_drew ?_ | refine blk_alloc ?_ _)); exact BKaD.out⟩, ⟨by (with_reducible repeat (first | refine blk_drewN ?_ _ | refine blk_drew ?_ | refine blk_alloc ?_ _)); refine blk_put (cs := #[.string ((rd_T27 xba_1 (rd l1 x17_1)).f0), .slice AbI_1 ((rd_T27 xba_1 (rd l1 x17_1)).f1).length cbI_1, .slice (some adbI) xba_1.length co35]) ?_ 2 _ rfl; (with_reducible repeat (first | refine blk_drewN ?_ _ | refine blk_drew ?_ | refine blk_alloc ?_ _)); refine blk_put (cs := #[.string ((rd_T27 xba_1 (rd l1 x17_1)).f0), u133001, .slice (some adbI) xba_1.length co35]) ?_ 1 _ rfl; (with_reducible repeat (first | refine blk_drewN ?_ _ | refine blk_drew ?_ | refine blk_alloc ?_ _)); refine blk_put (cs := #[.string xcJ_1, u133001, .slice (some adbI) xba_1.length co35]) ?_ 0 _ rfl; (with_reducible repeat (first | refine blk_drewN ?_ _ | refine blk_drew ?_ | refine blk_alloc ?_ _)); exact BKax.out⟩, ⟨Zq59⟩⟩
          ·rw [if_neg c31] at H; exact absurd H Zq10
         ·rw [if_neg c30] at H; exact absurd H Zq10
      ·rw [if_neg c18] at H; exact absurd H Zq10
     ·rw [if_neg c17] at H; exact absurd H Zq10
    ·rw [if_neg c16] at H; have c16b0 : decide (x17_1 < (l1.length : Int)) = false := decide_eq_false c16; clear c16; replace H := Option.bind_eq_some_iff.mp H; obtain ⟨⟨tcU, tdS, tdZ⟩, Afb, H⟩ := H; replace H : (some (tcU, tdS, tdZ, 0)) = some (r1, r2, r3, r4) := H; have A36 := Ak Afb; clear Afb; simp only [Option.some.injEq, Prod.mk.injEq] at H; obtain ⟨rfl, rfl, rfl, rfl⟩ := H; have hnb37 := NB132_130.out; have hnc37 := NB130_132.out; have hnb38 := NB132_131.out; have hnc38 := NB131_132.out; have hcz39_0 : wr.cell? ⟨gbax, 0, none⟩ = some (.string xcJ_1) := (blk_cell BKax.out 0).trans rfl; have hcz39_1 : wr.cell? ⟨gbax, 1, none⟩ = some (u133001) := (blk_cell BKax.out 1).trans rfl; have hcz39_2 : wr.cell? ⟨gbax, 2, none⟩ = some (u133002) := (blk_cell BKax.out 2).trans rfl; have hfz39_0 := blk_frozen BKax.out 0; have hfz39_1 := blk_frozen BKax.out 1; have hfz39_2 := blk_frozen BKax.out 2; obtain ⟨Ao40, co40, eo40⟩ := Kd.V_slice HO_cn.out; subst eo40; obtain ⟨Ao41, co41, eo41⟩ := Kd.V_slice HO_ba.out; subst eo41
     go_wp2_with (first | ((with_reducible refine gate_callee (f := 58) rfl ?_); refine goesL_ (some 38) rfl rfl Try.func58 Zq2 rfl #[.agg #[.string xcJ_1, .slice Ao40 xcn_1.length co40, .slice Ao41 xba_1.length co41]] rfl Zq8 ?_; (with_reducible refine (tree_CloneNode.calls k1 xcJ_1 _ _ xcn_1 _ _ xba_1 tcU tdS tdZ _ ?side1 ?side2 ?side3 ?side4 A36.out).mono ?_); (case side1 => repeat (first | exact (Kd.V_reads' HO_cn.out).2.2 | (with_reducible refine Kd.C_alloc ?_ _) | (with_reducible refine Kd.C_drewN ?_ _) | (with_reducible refine Kd.C_drew ?_))); (case side2 => exact (Kd.V_reads' HO_cn.out).2.1); (case side3 => repeat (first | exact (Kd.V_reads' HO_ba.out).2.2 | (with_reducible refine Kd.C_alloc ?_ _) | (with_reducible refine Kd.C_drewN ?_ _) | (with_reducible refine Kd.C_drew ?_))); (case side4 => exact (Kd.V_reads' HO_ba.out).2.1); rintro e w42 ⟨v137, v140, rfl, ho0, ho1, hb⟩; refine ⟨_, rfl, ?_⟩; have n0_ := Ak (Kd.V_mono (Kd.V_told (Kd.V_told (Kd.V_old (by (with_reducible repeat (first | apply Kd.V_alloc | apply Kd.V_drewN | apply Kd.V_drew)); exact HO_eg.out) hb) (Kd.S_base ho0)) (Kd.R_base ho1)) (fun _ h_ => h_.1)); have n1_ := Ak (Kd.V_mono (Kd.V_told (Kd.V_told (Kd.V_old (by (with_reducible repeat (first | apply Kd.V_alloc | apply Kd.V_drewN | apply Kd.V_drew)); exact HO_eh.out) hb) (Kd.S_base ho0)) (Kd.R_base ho1)) (fun _ h_ => h_.1)); have n2_ := Ak (Kd.V_mono (Kd.V_told (Kd.V_told (Kd.V_old (by (with_reducible repeat (first | apply Kd.V_alloc | apply Kd.V_drewN | apply Kd.V_drew)); exact HO_cn.out) hb) (Kd.S_base ho0)) (Kd.R_base ho1)) (fun _ h_ => h_.1)); have n3_ := Ak (Kd.V_mono (Kd.V_told (Kd.V_told (Kd.V_old (by (with_reducible repeat (first | apply Kd.V_alloc | apply Kd.V_drewN | apply Kd.V_drew)); exact HO_ba.out) hb) (Kd.S_base ho0)) (Kd.R_base ho1)) (fun _ h_ => h_.1)); have n4_ := Ak (Kd.S_lower (Kd.S_newM (M := fun k_ => (w.heap.size ≤ k_)) ho0 (below_size Zq59) (fun k_ h_ => h_)) (below_size Zq59)); have n5_ := Ak (Kd.R_lower (Kd.R_newB (Kd.R_newB (Kd.R_newM (M := fun k_ => (w.heap.size ≤ k_)) ho1 (below_size Zq59) (fun k_ h_ => h_)) (g := gbaD) (o := .cells #[.string xcV_1, .slice none 0 0, .slice none 0 0] 27 (0, 0)) Zq90) (g := gbax) (o := .cells #[.string xcJ_1, .slice Ao40 xcn_1.length co40, .slice Ao41 xba_1.length co41] 27 (0, 0)) (by (with_reducible repeat (first | refine blk_drewN ?_ _ | refine blk_drew ?_ | refine blk_alloc ?_ _)); exact BKax.out)) (below_size Zq59)); have n6_ := Zq172; have n7_ := Ak (blk_below (g := gbaD) (o := .cells #[.string xcV_1, .slice none 0 0, .slice none 0 0] 27 (0, 0)) Zq90 hb); have n8_ := Ak (blk_below (g := gbax) (o := .cells #[.string xcJ_1, .slice Ao40 xcn_1.length co40, .slice Ao41 xba_1.length co41] 27 (0, 0)) (by (with_reducible repeat (first | refine blk_drewN ?_ _ | refine blk_drew ?_ | refine blk_alloc ?_ _)); exact BKax.out) hb); have n9_ := Ak (below_step Zq59 hb); clear HO_eg HO_eh HO_cn HO_ba BKbe BKaD BKax HB; have HO_eg := n0_; have HO_eh := n1_; have HO_cn := n2_; have HO_ba := n3_; have HOfc := n4_; have HOdT := n5_; have BKbe := n6_; have BKaD := n7_; have BKax := n8_; have HB := n9_; clear n0_ n1_ n2_ n3_ n4_ n5_ n6_ n7_ n8_ n9_; (try clear hb); (try clear hb2); (try clear hk); (try clear hi); (try clear ho0); (try clear ho1); have hnb43 := NB131_130.out; have hnc43 := NB130_131.out; have hcz44_0 : w42.cell? ⟨gbaD, 0, none⟩ = some (.string xcV_1) := (blk_cell BKaD.out 0).trans rfl; have hcz44_1 : w42.cell? ⟨gbaD, 1, none⟩ = some (.slice none 0 0) := (blk_cell BKaD.out 1).trans rfl; have hcz44_2 : w42.cell? ⟨gbaD, 2, none⟩ = some (.slice none 0 0) := (blk_cell BKaD.out 2).trans rfl; have hfz44_0 := blk_frozen BKaD.out 0; have hfz44_1 := blk_frozen BKaD.out 1; have hfz44_2 := blk_frozen BKaD.out 2; obtain ⟨Ao45, co45, eo45⟩ := Kd.S_slice HOfc.out; subst eo45; obtain ⟨Ao46, co46, eo46⟩ := Kd.R_slice HOdT.out; subst eo46))
     refine bodyPost_ret (results_ct rfl _ _ gbaD 27 #[.string tcU, .slice Ao45 tdS.length co45, .slice Ao46 tdZ.length co46] (0, 0) _ rfl (by (with_reducible repeat (first | refine blk_drewN ?_ _ | refine blk_drew ?_ | refine blk_alloc ?_ _)); refine blk_put (cs := #[.string tcU, .slice Ao45 tdS.length co45, .slice none 0 0]) ?_ 2 _ rfl; (with_reducible repeat (first | refine blk_drewN ?_ _ | refine blk_drew ?_ | refine blk_alloc ?_ _)); refine blk_put (cs := #[.string tcU, .slice none 0 0, .slice none 0 0]) ?_ 1 _ rfl; (with_reducible repeat (first | refine blk_drewN ?_ _ | refine blk_drew ?_ | refine blk_alloc ?_ _)); refine blk_put (cs := #[.string xcV_1, .slice none 0 0, .slice none 0 0]) ?_ 0 _ rfl; (with_reducible repeat (first | refine blk_drewN ?_ _ | refine blk_drew ?_ | refine blk_alloc ?_ _)); exact BKaD.out) Try.underlying27 rfl Zq2) rfl ?_
     exact ⟨_, _, Zq13, by (with_reducible repeat (first | apply Kd.S_alloc | apply Kd.S_drewN | apply Kd.S_drew)); exact Kd.S_mono (Kd.S_far (p := ⟨gbaD, 2, none⟩) (Kd.S_far (p := ⟨gbaD, 1, none⟩) (Kd.S_far (p := ⟨gbaD, 0, none⟩) (Kd.S_types HOfc.out BKaD.out Zq4) (fun _ hk => hk.2) (.string tcU)) (fun _ hk => hk.2) (.slice Ao45 tdS.length co45)) (fun _ hk => hk.2) (.slice Ao46 tdZ.length co46)) (fun _ hk => hk.1.1), by (with_reducible repeat (first | apply Kd.R_alloc | apply Kd.R_drewN | apply Kd.R_drew)); exact Kd.R_mono (Kd.R_far (p := ⟨gbaD, 2, none⟩) (Kd.R_far (p := ⟨gbaD, 1, none⟩) (Kd.R_far (p := ⟨gbaD, 0, none⟩) (Kd.R_mono HOdT.out (fun k_ hk => (⟨hk, hk.1.2⟩ : _ ∧ k_ ≠ gbaD))) (fun _ hk => hk.2) (.string tcU)) (fun _ hk => hk.2) (.slice Ao45 tdS.length co45)) (fun _ hk => hk.2) (.slice Ao46 tdZ.length co46)) (fun _ hk => ⟨hk.1.1.1.1, hk.1.1.1.2⟩), Zq59⟩
set_option maxRecDepth 100000 in
theorem words_part.yes (ad : Addr) (m c : Nat) (i q : Int) (w : World) (h0 : 0 ≤ i) (h1 : i ≤ (m : Int)) (h2 : q ≤ (m : Int) - i) (hq : 0 < q) (hc : m ≤ c) (hm : m ≤ 9223372036854775807) :
  Calls Try.prog 62 #[.slice (some ad) m c, .int .i64 i, .int .i64 q] w fun e w' => e = .returned (.slice (if c = i.toNat then some ad else (some ad).map (·.add (i.toNat * 1))) ((i + q).toNat - i.toNat) (c - i.toNat)) ∧ w' = w := by
 have f1 : decide (i < 0) = false := by simp; omega
 have f2 : decide ((m : Int) < i) = false := by simp; omega
 have f3 : decide ((m : Int) - i < q) = false := by simp; omega
 obtain ⟨i0, hi0, _, hsz, _⟩ := info_parts info5; have hcut := cut_mid 45 5 .i64 .i64 Try.underlying45 hi0 1 hsz (some ad) m c i (i + q) h0 Zq1 Zq1 hc
 go_enter Try.func62, Try.ntmps62
 go_wp2
 go_ret
 exact ⟨rfl, rfl⟩
set_option maxRecDepth 100000 in
theorem words_part.no (B : Option Addr) (m c : Nat) (i q : Int) (w : World) (h : i < 0 ∨ (m : Int) < i ∨ (m : Int) - i < q) (hq : 0 < q) (hq1 : q ≤ 100) (hm : m ≤ 9223372036854775807) :
  Calls Try.prog 62 #[.slice B m c, .int .i64 i, .int .i64 q] w fun e w' => e = .returned (.slice none 0 0) ∧ w' = w := by
 by_cases a1 : i < 0
 ·have f1 : decide (i < 0) = true := by simp; omega
  clear h
  go_enter Try.func62, Try.ntmps62
  go_wp2
  go_ret
  exact ⟨rfl, rfl⟩
 ·have f1 : decide (i < 0) = false := by simp; omega
  by_cases a2 : (m : Int) < i
  ·have f2 : decide ((m : Int) < i) = true := by simp; omega
   clear h
   go_enter Try.func62, Try.ntmps62
   go_wp2
   go_ret
   exact ⟨rfl, rfl⟩
  ·have f2 : decide ((m : Int) < i) = false := by simp; omega
   have f3 : decide ((m : Int) - i < q) = true := by simp; omega
   clear h
   go_enter Try.func62, Try.ntmps62
   go_wp2
   go_ret
   exact ⟨rfl, rfl⟩
def words_number.l0 : Nat → Int → List Int → Int → Int → Option (Int)
 | 0, _, _, _, _ => none
 | k + 1, x3, x6, x7, x8 => if x8 < x7 then (if 0 ≤ x8 then (if x8 < (x6.length : Int) then (words_number.l0 k (Go.bits .or .u64 (IntKind.u64.wrap (x3 * 256)) (IntKind.u64.wrap (rd x6 x8))) x6 x7 (wrap64 (x8 + 1))) else (none)) else (none)) else (some x3)
def words_number.f (k : Nat) (l0 : List Int) : Option (Int) := words_number.l0 k 0 l0 (l0.length : Int) 0
set_option maxHeartbeats 8000000 in
set_option maxRecDepth 100000 in
theorem words_number.calls (k : Nat) (A0 : Option Addr) (c0 : Nat) (l0 : List Int) (r : Int) (w : World) (hr0 : Kd.C (Kd.int .u8) w A0 l0.length l0) (hc0 : l0.length ≤ c0) (h : words_number.f k l0 = some r) :
  Calls Try.prog 63 #[.slice A0 l0.length c0] w fun e w' => e = .returned (.int .u64 r) ∧ Drawn0 w w' := by
 have HR0 := Ak hr0; have HC0 := Ak hc0; clear hr0 hc0; have H : (words_number.l0 k 0 l0 (l0.length : Int) 0) = some r := h; clear h; have H' := Ak H; clear H
 go_enter Try.func63, Try.ntmps63
 go_wp2
 go_loopg [3, 8] k (fun kq v3 v8 w' => ∃ (x3_1 : Int) (x8_1 : Int), v3 = .int .u64 x3_1 ∧ v8 = .int .i64 x8_1 ∧ Aside0 (words_number.l0 kq x3_1 l0 (l0.length : Int) x8_1 = some r) ∧ Aside0 (kq ≤ k) ∧ Drawn0 w w')
 case atStart => exact ⟨(0), (0), Zq7, Zq7, H', ⟨Nat.le_refl _⟩, Zq9⟩
 case round =>
  clear H'; obtain ⟨x3_1, x8_1, rfl, rfl, HA, HK1, ⟨m1, rfl⟩⟩ := hrel
  cases gk with
  | zero => exact absurd HA.out (by simp [words_number.l0])
  | succ k1 =>
   have H := HA.out; clear HA; simp only [words_number.l0] at H
   by_cases c2 : x8_1 < (l0.length : Int)
   ·rw [if_pos c2] at H; have c2b0 : decide (x8_1 < (l0.length : Int)) = true := decide_eq_true c2; clear c2
    by_cases c3 : 0 ≤ x8_1
    ·rw [if_pos c3] at H; have c3b0 : decide (0 ≤ x8_1) = true := decide_eq_true c3; clear c3
     by_cases c4 : x8_1 < (l0.length : Int)
     ·rw [if_pos c4] at H; have c4b0 : decide (x8_1 < (l0.length : Int)) = true := decide_eq_true c4; clear c4; have H' := Ak H; clear H; have p142 : 0 ≤ (x8_1 : Int) := of_decide_eq_true Zq5; have q142 : x8_1 < (l0.length : Int) := of_decide_eq_true Zq5; obtain ⟨adbC, e142, hx142_0⟩ := Kd.at_int HR0.out x8_1 p142 q142
      cases e142
      replace p142 := eq_true p142; replace q142 := eq_true q142
      go_wp2
      go_roundg k1
      case measure => have := HK1.out; omega
      case rel => exact ⟨(Go.bits .or .u64 (IntKind.u64.wrap (x3_1 * 256)) (IntKind.u64.wrap (rd l0 x8_1))), (wrap64 (x8_1 + 1)), Zq7, Zq7, H', ⟨Zq27⟩, Zq9⟩
     ·rw [if_neg c4] at H; exact absurd H Zq10
    ·rw [if_neg c3] at H; exact absurd H Zq10
   ·rw [if_neg c2] at H; have c2b0 : decide (x8_1 < (l0.length : Int)) = false := decide_eq_false c2; clear c2; obtain rfl := Option.some.inj H
    go_wp2
    go_ret
    exact ⟨Zq7, Zq9⟩
def numb (l : List Int) : Int := l.foldl (fun v c => Go.bits .or .u64 (IntKind.u64.wrap (v * 256)) (IntKind.u64.wrap c)) 0
theorem numb_loop (l : List Int) (hl : l.length ≤ 9223372036854775806) (d : Nat) : ∀ (k : Nat) (v : Int) (i : Nat), i + d = l.length → d < k →
  words_number.l0 k v l (l.length : Int) (i : Int) = some ((l.drop i).foldl (fun v c => Go.bits .or .u64 (IntKind.u64.wrap (v * 256)) (IntKind.u64.wrap c)) v) := by
 induction d with
 | zero =>
  intro k v i hi hk
  obtain ⟨k, rfl⟩ : ∃ m, k = m + 1 := ⟨k - 1, Zq1⟩
  simp only [words_number.l0]; rw [if_neg Zq1, List.drop_of_length_le Zq1]
  rfl
 | succ d ih =>
  intro k v i hi hk
  obtain ⟨k, rfl⟩ : ∃ m, k = m + 1 := ⟨k - 1, Zq1⟩
  simp only [words_number.l0]
  have hw : wrap64 ((i : Int) + 1) = ((i + 1 : Nat) : Int) := by unfold wrap64; omega
  rw [if_pos Zq1, if_pos Zq1, if_pos Zq1, hw, ih k _ (i + 1) Zq1 Zq1, List.drop_eq_getElem_cons (by omega : i < l.length), List.foldl_cons]
  simp [rd, List.getD_eq_getElem?_getD, List.getElem?_eq_getElem (by omega : i < l.length)]
theorem numb_f (l : List Int) (hl : l.length ≤ 9223372036854775806) : words_number.f (l.length + 1) l = some (numb l) := by
 have h := numb_loop l hl l.length (l.length + 1) 0 0 Zq1 Zq1
 simpa [words_number.f, numb] using h
def words_Get.f (l0 : List Int) (a1 : Int) : Option (Int × Bool) := if 0 ≤ a1 ∧ 4 ≤ (l0.length : Int) - a1 then (some (numb ((l0.take (a1 + 4).toNat).drop a1.toNat) % 4294967296, true)) else (some (0, false))
set_option maxRecDepth 100000 in
theorem words_Get.calls (A0 : Option Addr) (c0 : Nat) (l0 : List Int) (a1 : Int) (r1 : Int) (r2 : Bool) (w : World) (hr0 : Kd.C (Kd.int .u8) w A0 l0.length l0) (hc0 : l0.length ≤ c0) (h : words_Get.f l0 a1 = some (r1, r2)) :
  Calls Try.prog 34 #[.slice A0 l0.length c0, .int .i64 a1] w fun e w' => e = .returned (.tuple #[.int .u32 r1, .bool r2]) ∧ Drawn0 w w' := by
 have hm : l0.length ≤ 9223372036854775807 := hr0.2.1; unfold words_Get.f at h
 by_cases c : 0 ≤ a1 ∧ 4 ≤ (l0.length : Int) - a1
 ·rw [if_pos c] at h; simp only [Option.some.injEq, Prod.mk.injEq] at h; obtain ⟨rfl, rfl⟩ := h; obtain ⟨ad, rfl, _⟩ := hr0.2.2 Zq1; have hmid := Kd.C_mid (lo := a1.toNat) (hi := (a1 + 4).toNat) hr0 Zq1 Zq1 hc0
  have hlen : ((l0.take (a1 + 4).toNat).drop a1.toNat).length = 4 := by simp; omega
  obtain ⟨y, hy⟩ : ∃ y, y = (l0.take (a1 + 4).toNat).drop a1.toNat := ⟨_, rfl⟩
  rw [← hy] at hmid hlen
  have hsub : (a1 + 4).toNat - a1.toNat = y.length := by rw [hlen]; omega
  have h0 := c.1; have h1 := c.2
  have hno : c0 ≠ a1.toNat := by omega
  have Hp := words_part.yes ad l0.length c0 a1 4 w h0 Zq1 h1 Zq4 hc0 hm; rw [if_neg hno, hsub] at Hp; rw [if_neg hno] at hmid
  have hq : y.length ≤ c0 - a1.toNat := by rw [hlen]; omega
  have Hn := words_number.calls (y.length + 1) ((some ad).map (·.add (a1.toNat * 1))) (c0 - a1.toNat) y (numb y) w hmid hq (numb_f y Zq50); have Hy := Ak hy; clear hy c h0 h1 hno hmid hq hr0 hsub hlen
  obtain ⟨B, hB⟩ : ∃ B, B = ad.add (a1.toNat * 1) := ⟨_, rfl⟩
  simp only [Option.map_some] at Hp Hn; rw [← hB] at Hp Hn; clear hB
  have q := fun w' : World => run_neq_slice_nil_any (P := Try.prog) w' 45 5 (some B) y.length (c0 - a1.toNat) 0 0 Try.underlying45
  simp only [Option.isNone_some, Bool.not_false] at q
  go_enter Try.func34, Try.ntmps34
  go_wp2_with (first | (go_at_call 62; refine Hp.mono ?_; rintro e w' ⟨rfl, rfl⟩) | (go_at_call 63; refine Hn.mono ?_; rintro e w' ⟨rfl, ⟨nd, rfl⟩⟩))
  go_ret2
  exact ⟨by rw [Hy.out]; rfl, ⟨⟨_, rfl⟩⟩⟩
 ·rw [if_neg c] at h; simp only [Option.some.injEq, Prod.mk.injEq] at h; obtain ⟨rfl, rfl⟩ := h; have Hn := words_number.calls 1 none 0 [] 0 w ⟨rfl, Zq4, fun h0 => absurd h0 Zq4⟩ (Nat.le_refl 0) Zq4
  have q := fun w' : World => run_neq_slice_nil_any (P := Try.prog) w' 45 5 none 0 0 0 0 Try.underlying45
  simp only [Option.isNone_none, Bool.not_true] at q; simp only [List.length_nil] at Hn; have Hp := words_part.no A0 l0.length c0 a1 4 w Zq1 Zq4 Zq4 hm; clear c hr0
  go_enter Try.func34, Try.ntmps34
  go_wp2_with (first | (go_at_call 62; refine Hp.mono ?_; rintro e w' ⟨rfl, rfl⟩) | (go_at_call 63; refine Hn.mono ?_; rintro e w' ⟨rfl, ⟨nd, rfl⟩⟩))
  go_ret2
  exact ⟨rfl, ⟨⟨_, rfl⟩⟩⟩
def tree_Find.l0 : Nat → ByteArray → List (S63) → Int → Int → Option (List Int × Bool)
 | 0, _, _, _, _ => none
 | k + 1, x1, x9, x10, x11 => if x11 < x10 then (if 0 ≤ x11 then (if x11 < (x9.length : Int) then (if ((rd_T63 x9 x11).f0).toList = x1.toList then ((bytes_Clone.f ((rd_T63 x9 x11).f1)).bind fun tei => (some (tei, true))) else (tree_Find.l0 k x1 x9 x10 (wrap64 (x11 + 1)))) else (none)) else (none)) else (some (([] : List Int), false))
def tree_Find.f (k : Nat) (a0_0 : ByteArray) (l0_1 : List (S63)) (l0_2 : List (S27)) (a1 : ByteArray) : Option (List Int × Bool) := tree_Find.l0 k a1 l0_1 (l0_1.length : Int) 0
set_option maxHeartbeats 8000000 in
set_option maxRecDepth 100000 in
theorem tree_Find.calls (k : Nat) (a0_0 : ByteArray) (A0_1 : Option Addr) (c0_1 : Nat) (l0_1 : List (S63)) (A0_2 : Option Addr) (c0_2 : Nat) (l0_2 : List (S27)) (a1 : ByteArray) (r1 : List Int) (r2 : Bool) (w : World) (hr0_1 : Kd.C k63 w A0_1 l0_1.length l0_1) (hc0_1 : l0_1.length ≤ c0_1) (hr0_2 : Kd.C k27 w A0_2 l0_2.length l0_2) (hc0_2 : l0_2.length ≤ c0_2) (h : tree_Find.f k a0_0 l0_1 l0_2 a1 = some (r1, r2)) :
  Calls Try.prog 59 #[.agg #[.string a0_0, .slice A0_1 l0_1.length c0_1, .slice A0_2 l0_2.length c0_2], .string a1] w fun e w' => ∃ v0_ : Value, e = .returned (.tuple #[v0_, .bool r2]) ∧ Kd.R (Kd.int .u8) 5 w' w.heap.size (fun _ => True) v0_ r1 ∧ Below w.heap.size w w' := by
 have hu27 := Try.underlying27; have hu63 := Try.underlying63; have HR0_1 := Ak hr0_1; have HC0_1 := Ak hc0_1; clear hr0_1 hc0_1; have HR0_2 := Ak hr0_2; have HC0_2 := Ak hc0_2; clear hr0_2 hc0_2; have HB := Zq151; have H : (tree_Find.l0 k a1 l0_1 (l0_1.length : Int) 0) = some (r1, r2) := h; clear h; have H' := Ak H; clear H
 go_enter Try.func59, Try.ntmps59
 go_wp2_with (first | ((with_reducible refine gate_dst (N := 2) rfl ?_); refine box_event ?hg (N := 2) ?hd (cs := #[.string a0_0, .slice A0_1 l0_1.length c0_1, .slice A0_2 l0_2.length c0_2]) (t := 27) ?hr ?_; (case hd | hg => rfl); (case hr => first | (go_simp; done) | (go_simp; rfl)); intro gbbH hg w3 hbox hb; have n0_ := Zq142; have n1_ := Ak (hbox); have n2_ := Ak ((by rw [hg]; exact (below_size Zq6) : w.heap.size ≤ gbbH)); have n3_ := Ak ((by rw [hg]; exact (below_size Zq6) : w.heap.size ≤ gbbH)); clear HB; have HB := n0_; have BKbH := n1_; have GWbH := n2_; have GEbH := n3_; clear n0_ n1_ n2_ n3_ hb hbox hg; have hcz4_0 : w3.cell? ⟨gbbH, 0, none⟩ = some (.string a0_0) := (blk_cell BKbH.out 0).trans rfl; have hcz4_1 : w3.cell? ⟨gbbH, 1, none⟩ = some (.slice A0_1 l0_1.length c0_1) := (blk_cell BKbH.out 1).trans rfl; have hcz4_2 : w3.cell? ⟨gbbH, 2, none⟩ = some (.slice A0_2 l0_2.length c0_2) := (blk_cell BKbH.out 2).trans rfl; have hfz4_0 := blk_frozen BKbH.out 0; have hfz4_1 := blk_frozen BKbH.out 1; have hfz4_2 := blk_frozen BKbH.out 2))
 go_loopg [11] k (fun kq v11 w' => ∃ (x11_1 : Int), v11 = .int .i64 x11_1 ∧ Aside0 (tree_Find.l0 kq a1 l0_1 (l0_1.length : Int) x11_1 = some (r1, r2)) ∧ Aside0 (kq ≤ k) ∧ Aside0 (w'.heap[gbbH]? = some (.cells #[.string a0_0, (.slice A0_1 l0_1.length c0_1), (.slice A0_2 l0_2.length c0_2)] 27 (0, 0))) ∧ Aside0 (Below w.heap.size w w'))
 case atStart => exact ⟨(0), Zq7, H', ⟨Nat.le_refl _⟩, ⟨Zq74⟩, ⟨Zq70⟩⟩
 case round =>
  clear H'
  try clear p2
  try clear hcz4_0
  try clear hcz4_1
  try clear hcz4_2
  try clear hfz4_0
  try clear hfz4_1
  try clear hfz4_2
  obtain ⟨x11_1, rfl, HA, HK1, BKbH, HB⟩ := hrel
  cases gk with
  | zero => exact absurd HA.out (by simp [tree_Find.l0])
  | succ k1 =>
   have H := HA.out; clear HA; simp only [tree_Find.l0] at H
   by_cases c5 : x11_1 < (l0_1.length : Int)
   ·rw [if_pos c5] at H; have c5b0 : decide (x11_1 < (l0_1.length : Int)) = true := decide_eq_true c5; clear c5
    by_cases c6 : 0 ≤ x11_1
    ·rw [if_pos c6] at H; have c6b0 : decide (0 ≤ x11_1) = true := decide_eq_true c6; clear c6
     by_cases c7 : x11_1 < (l0_1.length : Int)
     ·rw [if_pos c7] at H; have c7b0 : decide (x11_1 < (l0_1.length : Int)) = true := decide_eq_true c7; clear c7
      by_cases c8 : ((rd_T63 l0_1 x11_1).f0).toList = a1.toList
      ·rw [if_pos c8] at H; have c8b0 : (((rd_T63 l0_1 x11_1).f0).toList == a1.toList) = true := beq_iff_eq.mpr c8; have c8b1 : (((rd_T63 l0_1 x11_1).f0).toList != a1.toList) = false := bne_eq_false_iff_eq.mpr c8; clear c8; replace H := Option.bind_eq_some_iff.mp H; obtain ⟨tei, A90, H⟩ := H; replace H : (some (tei, true)) = some (r1, r2) := H; have A9 := Ak A90; clear A90; simp only [Option.some.injEq, Prod.mk.injEq] at H; obtain ⟨rfl, rfl⟩ := H; have p144 : 0 ≤ (x11_1 : Int) := of_decide_eq_true Zq5; have q144 : x11_1 < (l0_1.length : Int) := of_decide_eq_true Zq5; obtain ⟨adce, Ace_1, cce_1, e144, hx144_0, hx144_1, hl144_1, hi144_1⟩ := at_T63 HR0_1.out x11_1 p144 q144
       cases e144
       replace hx144_0 := (HB.out.cell (World.block_lt_of_cell? w _ hx144_0)).trans hx144_0; replace hx144_1 := (HB.out.cell (World.block_lt_of_cell? w _ hx144_1)).trans hx144_1; have HRce_1 := Ak hi144_1; have HCce_1 := Ak hl144_1; clear hi144_1 hl144_1; replace p144 := eq_true p144; replace q144 := eq_true q144
       go_wp2_with (first | ((with_reducible refine gate_dst (N := 7) rfl ?_); refine box_event ?hg (N := 7) ?hd (cs := #[.string (⟨#[]⟩ : ByteArray), .slice none 0 0]) (t := 63) ?hr ?_; (case hd | hg => rfl); (case hr => first | (go_simp; done) | (go_simp; rfl)); intro gbbM hg w10 hbox hb; have n0_ := Zq270; have n1_ := Ak (below_step Zq70 hb); have n2_ := Ak (hbox); have n3_ := Zq237; have n4_ := Zq237; have n5_ := Ak ((by rw [hg]; exact Nat.ne_of_lt Zq190 : gbbH ≠ gbbM)); have n6_ := Ak ((by rw [hg]; exact Nat.ne_of_gt Zq190 : gbbM ≠ gbbH)); clear BKbH HB; have BKbH := n0_; have HB := n1_; have BKbM := n2_; have GWbM := n3_; have GEbM := n4_; have NB143_145 := n5_; have NB145_143 := n6_; clear n0_ n1_ n2_ n3_ n4_ n5_ n6_ hb hbox hg; have hnb11 := NB145_143.out; have hnc11 := NB143_145.out; have hcz12_0 : w10.cell? ⟨gbbM, 0, none⟩ = some (.string (⟨#[]⟩ : ByteArray)) := (blk_cell BKbM.out 0).trans rfl; have hcz12_1 : w10.cell? ⟨gbbM, 1, none⟩ = some (.slice none 0 0) := (blk_cell BKbM.out 1).trans rfl; have hfz12_0 := blk_frozen BKbM.out 0; have hfz12_1 := blk_frozen BKbM.out 1) | ((with_reducible refine gate_callee (f := 79) rfl ?_); refine goesL_ (some 21) rfl rfl Try.func79 Zq2 rfl #[.slice Ace_1 ((rd_T63 l0_1 x11_1).f1).length cce_1] rfl Zq8 ?_; (with_reducible refine (bytes_Clone.calls _ _ ((rd_T63 l0_1 x11_1).f1) tei _ ?side1 ?side2 A9.out).mono ?_); (case side1 => exact Kd.C_below HRce_1.out Zq91); (case side2 => exact HCce_1.out); rintro e w13 ⟨v147, rfl, ho0, hb⟩; refine ⟨_, rfl, ?_⟩; have n0_ := Ak (Kd.R_lower ho0 (below_size Zq91)); have n1_ := Ak (blk_below (g := gbbH) (o := .cells #[.string a0_0, .slice (some adce) l0_1.length c0_1, .slice A0_2 l0_2.length c0_2] 27 (0, 0)) (by (with_reducible repeat (first | refine blk_drewN ?_ _ | refine blk_drew ?_ | refine blk_alloc ?_ _)); refine blk_far ?_ NB143_145.out _; (with_reducible repeat (first | refine blk_drewN ?_ _ | refine blk_drew ?_ | refine blk_alloc ?_ _)); refine blk_far ?_ NB143_145.out _; (with_reducible repeat (first | refine blk_drewN ?_ _ | refine blk_drew ?_ | refine blk_alloc ?_ _)); exact BKbH.out) hb); have n2_ := Ak (blk_below (g := gbbM) (o := .cells #[.string ((rd_T63 l0_1 x11_1).f0), .slice Ace_1 ((rd_T63 l0_1 x11_1).f1).length cce_1] 63 (0, 0)) (by (with_reducible repeat (first | refine blk_drewN ?_ _ | refine blk_drew ?_ | refine blk_alloc ?_ _)); refine blk_put (cs := #[.string ((rd_T63 l0_1 x11_1).f0), .slice none 0 0]) ?_ 1 _ rfl; (with_reducible repeat (first | refine blk_drewN ?_ _ | refine blk_drew ?_ | refine blk_alloc ?_ _)); refine blk_put (cs := #[.string (⟨#[]⟩ : ByteArray), .slice none 0 0]) ?_ 0 _ rfl; (with_reducible repeat (first | refine blk_drewN ?_ _ | refine blk_drew ?_ | refine blk_alloc ?_ _)); exact BKbM.out) hb); have n3_ := Ak (below_step Zq91 hb); clear BKbH BKbM HB; have HOfn := n0_; have BKbH := n1_; have BKbM := n2_; have HB := n3_; clear n0_ n1_ n2_ n3_; (try clear hb); (try clear hb2); (try clear hk); (try clear hi); (try clear ho0)))
       go_ret2
       exact ⟨_, Zq13, by (with_reducible repeat (first | apply Kd.R_alloc | apply Kd.R_drewN | apply Kd.R_drew)); exact HOfn.out, Zq91⟩
      ·rw [if_neg c8] at H; have c8b0 : (((rd_T63 l0_1 x11_1).f0).toList == a1.toList) = false := beq_eq_false_iff_ne.mpr c8; have c8b1 : (((rd_T63 l0_1 x11_1).f0).toList != a1.toList) = true := bne_iff_ne.mpr c8; have H' := Ak H; clear H; have p144 : 0 ≤ (x11_1 : Int) := of_decide_eq_true Zq5; have q144 : x11_1 < (l0_1.length : Int) := of_decide_eq_true Zq5; obtain ⟨adce, Ace_1, cce_1, e144, hx144_0, hx144_1, hl144_1, hi144_1⟩ := at_T63 HR0_1.out x11_1 p144 q144
       cases e144
       replace hx144_0 := (HB.out.cell (World.block_lt_of_cell? w _ hx144_0)).trans hx144_0; replace hx144_1 := (HB.out.cell (World.block_lt_of_cell? w _ hx144_1)).trans hx144_1; have HRce_1 := Ak hi144_1; have HCce_1 := Ak hl144_1; clear hi144_1 hl144_1; replace p144 := eq_true p144; replace q144 := eq_true q144
       go_wp2_with (first | ((with_reducible refine gate_dst (N := 7) rfl ?_); refine box_event ?hg (N := 7) ?hd (cs := #[.string (⟨#[]⟩ : ByteArray), .slice none 0 0]) (t := 63) ?hr ?_; (case hd | hg => rfl); (case hr => first | (go_simp; done) | (go_simp; rfl)); intro gbbM hg w14 hbox hb; have n0_ := Zq270; have n1_ := Ak (below_step Zq70 hb); have n2_ := Ak (hbox); have n3_ := Zq237; have n4_ := Zq237; have n5_ := Ak ((by rw [hg]; exact Nat.ne_of_lt Zq190 : gbbH ≠ gbbM)); have n6_ := Ak ((by rw [hg]; exact Nat.ne_of_gt Zq190 : gbbM ≠ gbbH)); clear BKbH HB; have BKbH := n0_; have HB := n1_; have BKbM := n2_; have GWbM := n3_; have GEbM := n4_; have NB143_145 := n5_; have NB145_143 := n6_; clear n0_ n1_ n2_ n3_ n4_ n5_ n6_ hb hbox hg; have hnb15 := NB145_143.out; have hnc15 := NB143_145.out; have hcz16_0 : w14.cell? ⟨gbbM, 0, none⟩ = some (.string (⟨#[]⟩ : ByteArray)) := (blk_cell BKbM.out 0).trans rfl; have hcz16_1 : w14.cell? ⟨gbbM, 1, none⟩ = some (.slice none 0 0) := (blk_cell BKbM.out 1).trans rfl; have hfz16_0 := blk_frozen BKbM.out 0; have hfz16_1 := blk_frozen BKbM.out 1))
       go_roundg k1
       case measure => have := HK1.out; omega
       case rel => exact ⟨(wrap64 (x11_1 + 1)), Zq7, H', ⟨Zq27⟩, ⟨by (with_reducible repeat (first | refine blk_drewN ?_ _ | refine blk_drew ?_ | refine blk_alloc ?_ _)); refine blk_far ?_ NB143_145.out _; (with_reducible repeat (first | refine blk_drewN ?_ _ | refine blk_drew ?_ | refine blk_alloc ?_ _)); refine blk_far ?_ NB143_145.out _; (with_reducible repeat (first | refine blk_drewN ?_ _ | refine blk_drew ?_ | refine blk_alloc ?_ _)); exact BKbH.out⟩, ⟨Zq91⟩⟩
     ·rw [if_neg c7] at H; exact absurd H Zq10
    ·rw [if_neg c6] at H; exact absurd H Zq10
   ·rw [if_neg c5] at H; have c5b0 : decide (x11_1 < (l0_1.length : Int)) = false := decide_eq_false c5; clear c5; simp only [Option.some.injEq, Prod.mk.injEq] at H; obtain ⟨rfl, rfl⟩ := H
    go_wp2
    go_ret2
    exact ⟨_, Zq13, Zq34, Zq70⟩
def prop_One.f (k : Nat) (a0_0 : ByteArray) (l0_1 : List (S63)) (l0_2 : List (S27)) (a1 : ByteArray) : Option (Int × Bool × Int) := (tree_Find.f k a0_0 l0_1 l0_2 a1).bind fun btbF => (if btbF.2 = true then ((words_Get.f btbF.1 0).bind fun btck => (if btck.2 = true then (if (btbF.1.length : Int) = 4 then (some (btck.1, true, 0)) else (some (0, false, 4))) else (some (0, false, 4)))) else (some (0, false, 0)))
end Go.Proofs.Ytkopmkinlanhoaa.PB

namespace Go.Proofs.Ytkopmkinlanhoaa.PB
open Go.RowKit Go.Proofs.YtkopmkinlanhoaaW.PrintWords Go.Proofs.YtkopmkinlanhoaaW.PrintLast Go.Proofs.YtkopmkinlanhoaaW.PrintMore
attribute [local go_sem] max2_int min2_int max_two min_two max_three min_three max_four min_four
set_option maxHeartbeats 8000000 in
set_option maxRecDepth 100000 in
theorem prop_One.calls (k : Nat) (a0_0 : ByteArray) (A0_1 : Option Addr) (c0_1 : Nat) (l0_1 : List (S63)) (A0_2 : Option Addr) (c0_2 : Nat) (l0_2 : List (S27)) (a1 : ByteArray) (r1 : Int) (r2 : Bool) (r3 : Int) (w : World) (hr0_1 : Kd.C k63 w A0_1 l0_1.length l0_1) (hc0_1 : l0_1.length ≤ c0_1) (hr0_2 : Kd.C k27 w A0_2 l0_2.length l0_2) (hc0_2 : l0_2.length ≤ c0_2) (h : prop_One.f k a0_0 l0_1 l0_2 a1 = some (r1, r2, r3)) :
  Calls Try.prog 56 #[.agg #[.string a0_0, .slice A0_1 l0_1.length c0_1, .slice A0_2 l0_2.length c0_2], .string a1] w fun e w' => e = .returned (.tuple #[.int .u32 r1, .bool r2, .int .i64 r3]) ∧ Below w.heap.size w w' := by
 have hu27 := Try.underlying27; have HR0_1 := Ak hr0_1; have HC0_1 := Ak hc0_1; clear hr0_1 hc0_1; have HR0_2 := Ak hr0_2; have HC0_2 := Ak hc0_2; clear hr0_2 hc0_2; have HB := Zq151; have H : ((tree_Find.f k a0_0 l0_1 l0_2 a1).bind fun btbF => (if btbF.2 = true then ((words_Get.f btbF.1 0).bind fun btck => (if btck.2 = true then (if (btbF.1.length : Int) = 4 then (some (btck.1, true, 0)) else (some (0, false, 4))) else (some (0, false, 4)))) else (some (0, false, 0)))) = some (r1, r2, r3) := h; clear h; replace H := Option.bind_eq_some_iff.mp H; obtain ⟨⟨tbF, tfd⟩, A30, H⟩ := H; replace H : (if tfd = true then ((words_Get.f tbF 0).bind fun btck => (if btck.2 = true then (if (tbF.length : Int) = 4 then (some (btck.1, true, 0)) else (some (0, false, 4))) else (some (0, false, 4)))) else (some (0, false, 0))) = some (r1, r2, r3) := H; have A3 := Ak A30; clear A30
 by_cases c4 : tfd = true
 ·subst c4
  have H1 : ((words_Get.f tbF 0).bind fun btck => (if btck.2 = true then (if (tbF.length : Int) = 4 then (some (btck.1, true, 0)) else (some (0, false, 4))) else (some (0, false, 4)))) = some (r1, r2, r3) := by rw [if_pos rfl] at H; exact H
  clear H; have H := H1; clear H1; replace H := Option.bind_eq_some_iff.mp H; obtain ⟨⟨tck, tfe⟩, A50, H⟩ := H; replace H : (if tfe = true then (if (tbF.length : Int) = 4 then (some (tck, true, 0)) else (some (0, false, 4))) else (some (0, false, 4))) = some (r1, r2, r3) := H; have A5 := Ak A50; clear A50
  by_cases c6 : tfe = true
  ·subst c6
   have H1 : (if (tbF.length : Int) = 4 then (some (tck, true, 0)) else (some (0, false, 4))) = some (r1, r2, r3) := by rw [if_pos rfl] at H; exact H
   clear H; have H := H1; clear H1
   by_cases c7 : (tbF.length : Int) = 4
   ·rw [if_pos c7] at H; have c7b0 : ((tbF.length : Int) == 4) = true := beq_iff_eq.mpr c7; have c7b1 : ((tbF.length : Int) != 4) = false := bne_eq_false_iff_eq.mpr c7; clear c7; simp only [Option.some.injEq, Prod.mk.injEq] at H; obtain ⟨rfl, rfl, rfl⟩ := H
    go_enter Try.func56, Try.ntmps56
    go_wp2_with (first | ((with_reducible refine gate_dst (N := 2) rfl ?_); (try (refine gate_guard Zq3 ?_; dsimp only)); refine box_event ?hg (N := 2) ?hd (cs := #[.string a0_0, .slice A0_1 l0_1.length c0_1, .slice A0_2 l0_2.length c0_2]) (t := 27) ?hr ?_; (case hd | hg => rfl); (case hr => first | (go_simp; done) | (go_simp; rfl)); intro gbaV hg w8 hbox hb; have n0_ := Zq142; have n1_ := Ak (hbox); have n2_ := Zq182; have n3_ := Zq182; clear HB; have HB := n0_; have BKaV := n1_; have GWaV := n2_; have GEaV := n3_; clear n0_ n1_ n2_ n3_ hb hbox hg; have hcz9_0 : w8.cell? ⟨gbaV, 0, none⟩ = some (.string a0_0) := (blk_cell BKaV.out 0).trans rfl; have hcz9_1 : w8.cell? ⟨gbaV, 1, none⟩ = some (.slice A0_1 l0_1.length c0_1) := (blk_cell BKaV.out 1).trans rfl; have hcz9_2 : w8.cell? ⟨gbaV, 2, none⟩ = some (.slice A0_2 l0_2.length c0_2) := (blk_cell BKaV.out 2).trans rfl; have hfz9_0 := blk_frozen BKaV.out 0; have hfz9_1 := blk_frozen BKaV.out 1; have hfz9_2 := blk_frozen BKaV.out 2) | ((with_reducible refine gate_callee (f := 59) rfl ?_); refine goesL_ (some 14) rfl rfl Try.func59 Zq2 rfl #[.agg #[.string a0_0, .slice A0_1 l0_1.length c0_1, .slice A0_2 l0_2.length c0_2], .string a1] rfl Zq8 ?_; (with_reducible refine (tree_Find.calls k a0_0 _ _ l0_1 _ _ l0_2 a1 tbF true _ ?side1 ?side2 ?side3 ?side4 A3.out).mono ?_); (case side1 => repeat (first | exact Zq138 | (with_reducible refine Kd.C_alloc ?_ _) | (with_reducible refine Kd.C_drewN ?_ _) | (with_reducible refine Kd.C_drew ?_))); (case side2 => exact HC0_1.out); (case side3 => repeat (first | exact Zq161 | (with_reducible refine Kd.C_alloc ?_ _) | (with_reducible refine Kd.C_drewN ?_ _) | (with_reducible refine Kd.C_drew ?_))); (case side4 => exact HC0_2.out); rintro e w10 ⟨v151, rfl, ho0, hb⟩; refine ⟨_, rfl, ?_⟩; have n0_ := Ak (Kd.R_lower ho0 (below_size Zq55)); have n1_ := Zq187; have n2_ := Ak (below_step Zq55 hb); clear BKaV HB; have HOcL := n0_; have BKaV := n1_; have HB := n2_; clear n0_ n1_ n2_; (try clear hb); (try clear hb2); (try clear hk); (try clear hi); (try clear ho0); obtain ⟨Ao11, co11, eo11⟩ := Kd.R_slice HOcL.out; subst eo11) | ((with_reducible refine gate_callee (f := 34) rfl ?_); refine goesL_ (some 21) rfl rfl Try.func34 Zq2 rfl #[.slice Ao11 tbF.length co11, .int .i64 0] rfl Zq8 ?_; (with_reducible refine (words_Get.calls _ _ tbF 0 tck true _ ?side1 ?side2 A5.out).mono ?_); (case side1 => repeat (first | exact (Kd.R_reads' HOcL.out).2.2 | (with_reducible refine Kd.C_alloc ?_ _) | (with_reducible refine Kd.C_drewN ?_ _) | (with_reducible refine Kd.C_drew ?_))); (case side2 => exact (Kd.R_reads' HOcL.out).2.1); rintro e w' ⟨rfl, ⟨nd, rfl⟩⟩; refine ⟨_, rfl, ?_⟩))
    go_ret3
    exact ⟨Zq13, Zq55⟩
   ·rw [if_neg c7] at H; have c7b0 : ((tbF.length : Int) == 4) = false := beq_eq_false_iff_ne.mpr c7; have c7b1 : ((tbF.length : Int) != 4) = true := bne_iff_ne.mpr c7; simp only [Option.some.injEq, Prod.mk.injEq] at H; obtain ⟨rfl, rfl, rfl⟩ := H
    go_enter Try.func56, Try.ntmps56
    go_wp2_with (first | ((with_reducible refine gate_dst (N := 2) rfl ?_); (try (refine gate_guard Zq3 ?_; dsimp only)); refine box_event ?hg (N := 2) ?hd (cs := #[.string a0_0, .slice A0_1 l0_1.length c0_1, .slice A0_2 l0_2.length c0_2]) (t := 27) ?hr ?_; (case hd | hg => rfl); (case hr => first | (go_simp; done) | (go_simp; rfl)); intro gbaV hg w12 hbox hb; have n0_ := Zq142; have n1_ := Ak (hbox); have n2_ := Zq182; have n3_ := Zq182; clear HB; have HB := n0_; have BKaV := n1_; have GWaV := n2_; have GEaV := n3_; clear n0_ n1_ n2_ n3_ hb hbox hg; have hcz13_0 : w12.cell? ⟨gbaV, 0, none⟩ = some (.string a0_0) := (blk_cell BKaV.out 0).trans rfl; have hcz13_1 : w12.cell? ⟨gbaV, 1, none⟩ = some (.slice A0_1 l0_1.length c0_1) := (blk_cell BKaV.out 1).trans rfl; have hcz13_2 : w12.cell? ⟨gbaV, 2, none⟩ = some (.slice A0_2 l0_2.length c0_2) := (blk_cell BKaV.out 2).trans rfl; have hfz13_0 := blk_frozen BKaV.out 0; have hfz13_1 := blk_frozen BKaV.out 1; have hfz13_2 := blk_frozen BKaV.out 2) | ((with_reducible refine gate_callee (f := 59) rfl ?_); refine goesL_ (some 14) rfl rfl Try.func59 Zq2 rfl #[.agg #[.string a0_0, .slice A0_1 l0_1.length c0_1, .slice A0_2 l0_2.length c0_2], .string a1] rfl Zq8 ?_; (with_reducible refine (tree_Find.calls k a0_0 _ _ l0_1 _ _ l0_2 a1 tbF true _ ?side1 ?side2 ?side3 ?side4 A3.out).mono ?_); (case side1 => repeat (first | exact Zq138 | (with_reducible refine Kd.C_alloc ?_ _) | (with_reducible refine Kd.C_drewN ?_ _) | (with_reducible refine Kd.C_drew ?_))); (case side2 => exact HC0_1.out); (case side3 => repeat (first | exact Zq161 | (with_reducible refine Kd.C_alloc ?_ _) | (with_reducible refine Kd.C_drewN ?_ _) | (with_reducible refine Kd.C_drew ?_))); (case side4 => exact HC0_2.out); rintro e w14 ⟨v151, rfl, ho0, hb⟩; refine ⟨_, rfl, ?_⟩; have n0_ := Ak (Kd.R_lower ho0 (below_size Zq55)); have n1_ := Zq187; have n2_ := Ak (below_step Zq55 hb); clear BKaV HB; have HOcL := n0_; have BKaV := n1_; have HB := n2_; clear n0_ n1_ n2_; (try clear hb); (try clear hb2); (try clear hk); (try clear hi); (try clear ho0); obtain ⟨Ao15, co15, eo15⟩ := Kd.R_slice HOcL.out; subst eo15) | ((with_reducible refine gate_callee (f := 34) rfl ?_); refine goesL_ (some 21) rfl rfl Try.func34 Zq2 rfl #[.slice Ao15 tbF.length co15, .int .i64 0] rfl Zq8 ?_; (with_reducible refine (words_Get.calls _ _ tbF 0 tck true _ ?side1 ?side2 A5.out).mono ?_); (case side1 => repeat (first | exact (Kd.R_reads' HOcL.out).2.2 | (with_reducible refine Kd.C_alloc ?_ _) | (with_reducible refine Kd.C_drewN ?_ _) | (with_reducible refine Kd.C_drew ?_))); (case side2 => exact (Kd.R_reads' HOcL.out).2.1); rintro e w' ⟨rfl, ⟨nd, rfl⟩⟩; refine ⟨_, rfl, ?_⟩))
    go_ret3
    exact ⟨Zq13, Zq55⟩
  ·replace c6 := Bool.eq_false_iff.mpr c6; subst c6
   have H1 : (some (0, false, 4)) = some (r1, r2, r3) := by rw [if_neg (show ¬ (false = true) by decide)] at H; exact H
   clear H; have H := H1; clear H1; simp only [Option.some.injEq, Prod.mk.injEq] at H; obtain ⟨rfl, rfl, rfl⟩ := H
   go_enter Try.func56, Try.ntmps56
   go_wp2_with (first | ((with_reducible refine gate_dst (N := 2) rfl ?_); (try (refine gate_guard Zq3 ?_; dsimp only)); refine box_event ?hg (N := 2) ?hd (cs := #[.string a0_0, .slice A0_1 l0_1.length c0_1, .slice A0_2 l0_2.length c0_2]) (t := 27) ?hr ?_; (case hd | hg => rfl); (case hr => first | (go_simp; done) | (go_simp; rfl)); intro gbaV hg w16 hbox hb; have n0_ := Zq142; have n1_ := Ak (hbox); have n2_ := Zq182; have n3_ := Zq182; clear HB; have HB := n0_; have BKaV := n1_; have GWaV := n2_; have GEaV := n3_; clear n0_ n1_ n2_ n3_ hb hbox hg; have hcz17_0 : w16.cell? ⟨gbaV, 0, none⟩ = some (.string a0_0) := (blk_cell BKaV.out 0).trans rfl; have hcz17_1 : w16.cell? ⟨gbaV, 1, none⟩ = some (.slice A0_1 l0_1.length c0_1) := (blk_cell BKaV.out 1).trans rfl; have hcz17_2 : w16.cell? ⟨gbaV, 2, none⟩ = some (.slice A0_2 l0_2.length c0_2) := (blk_cell BKaV.out 2).trans rfl; have hfz17_0 := blk_frozen BKaV.out 0; have hfz17_1 := blk_frozen BKaV.out 1; have hfz17_2 := blk_frozen BKaV.out 2) | ((with_reducible refine gate_callee (f := 59) rfl ?_); refine goesL_ (some 14) rfl rfl Try.func59 Zq2 rfl #[.agg #[.string a0_0, .slice A0_1 l0_1.length c0_1, .slice A0_2 l0_2.length c0_2], .string a1] rfl Zq8 ?_; (with_reducible refine (tree_Find.calls k a0_0 _ _ l0_1 _ _ l0_2 a1 tbF true _ ?side1 ?side2 ?side3 ?side4 A3.out).mono ?_); (case side1 => repeat (first | exact Zq138 | (with_reducible refine Kd.C_alloc ?_ _) | (with_reducible refine Kd.C_drewN ?_ _) | (with_reducible refine Kd.C_drew ?_))); (case side2 => exact HC0_1.out); (case side3 => repeat (first | exact Zq161 | (with_reducible refine Kd.C_alloc ?_ _) | (with_reducible refine Kd.C_drewN ?_ _) | (with_reducible refine Kd.C_drew ?_))); (case side4 => exact HC0_2.out); rintro e w18 ⟨v151, rfl, ho0, hb⟩; refine ⟨_, rfl, ?_⟩; have n0_ := Ak (Kd.R_lower ho0 (below_size Zq55)); have n1_ := Zq187; have n2_ := Ak (below_step Zq55 hb); clear BKaV HB; have HOcL := n0_; have BKaV := n1_; have HB := n2_; clear n0_ n1_ n2_; (try clear hb); (try clear hb2); (try clear hk); (try clear hi); (try clear ho0); obtain ⟨Ao19, co19, eo19⟩ := Kd.R_slice HOcL.out; subst eo19) | ((with_reducible refine gate_callee (f := 34) rfl ?_); refine goesL_ (some 21) rfl rfl Try.func34 Zq2 rfl #[.slice Ao19 tbF.length co19, .int .i64 0] rfl Zq8 ?_; (with_reducible refine (words_Get.calls _ _ tbF 0 tck false _ ?side1 ?side2 A5.out).mono ?_); (case side1 => repeat (first | exact (Kd.R_reads' HOcL.out).2.2 | (with_reducible refine Kd.C_alloc ?_ _) | (with_reducible refine Kd.C_drewN ?_ _) | (with_reducible refine Kd.C_drew ?_))); (case side2 => exact (Kd.R_reads' HOcL.out).2.1); rintro e w' ⟨rfl, ⟨nd, rfl⟩⟩; refine ⟨_, rfl, ?_⟩))
   go_ret3
   exact ⟨Zq13, Zq55⟩
 ·replace c4 := Bool.eq_false_iff.mpr c4; subst c4
  have H1 : (some (0, false, 0)) = some (r1, r2, r3) := by rw [if_neg (show ¬ (false = true) by decide)] at H; exact H
  clear H; have H := H1; clear H1; simp only [Option.some.injEq, Prod.mk.injEq] at H; obtain ⟨rfl, rfl, rfl⟩ := H
  go_enter Try.func56, Try.ntmps56
  go_wp2_with (first | ((with_reducible refine gate_dst (N := 2) rfl ?_); (try (refine gate_guard Zq3 ?_; dsimp only)); refine box_event ?hg (N := 2) ?hd (cs := #[.string a0_0, .slice A0_1 l0_1.length c0_1, .slice A0_2 l0_2.length c0_2]) (t := 27) ?hr ?_; (case hd | hg => rfl); (case hr => first | (go_simp; done) | (go_simp; rfl)); intro gbaV hg w20 hbox hb; have n0_ := Zq142; have n1_ := Ak (hbox); have n2_ := Zq182; have n3_ := Zq182; clear HB; have HB := n0_; have BKaV := n1_; have GWaV := n2_; have GEaV := n3_; clear n0_ n1_ n2_ n3_ hb hbox hg; have hcz21_0 : w20.cell? ⟨gbaV, 0, none⟩ = some (.string a0_0) := (blk_cell BKaV.out 0).trans rfl; have hcz21_1 : w20.cell? ⟨gbaV, 1, none⟩ = some (.slice A0_1 l0_1.length c0_1) := (blk_cell BKaV.out 1).trans rfl; have hcz21_2 : w20.cell? ⟨gbaV, 2, none⟩ = some (.slice A0_2 l0_2.length c0_2) := (blk_cell BKaV.out 2).trans rfl; have hfz21_0 := blk_frozen BKaV.out 0; have hfz21_1 := blk_frozen BKaV.out 1; have hfz21_2 := blk_frozen BKaV.out 2) | ((with_reducible refine gate_callee (f := 59) rfl ?_); refine goesL_ (some 14) rfl rfl Try.func59 Zq2 rfl #[.agg #[.string a0_0, .slice A0_1 l0_1.length c0_1, .slice A0_2 l0_2.length c0_2], .string a1] rfl Zq8 ?_; (with_reducible refine (tree_Find.calls k a0_0 _ _ l0_1 _ _ l0_2 a1 tbF false _ ?side1 ?side2 ?side3 ?side4 A3.out).mono ?_); (case side1 => repeat (first | exact Zq138 | (with_reducible refine Kd.C_alloc ?_ _) | (with_reducible refine Kd.C_drewN ?_ _) | (with_reducible refine Kd.C_drew ?_))); (case side2 => exact HC0_1.out); (case side3 => repeat (first | exact Zq161 | (with_reducible refine Kd.C_alloc ?_ _) | (with_reducible refine Kd.C_drewN ?_ _) | (with_reducible refine Kd.C_drew ?_))); (case side4 => exact HC0_2.out); rintro e w22 ⟨v151, rfl, ho0, hb⟩; refine ⟨_, rfl, ?_⟩; have n0_ := Ak (Kd.R_lower ho0 (below_size Zq55)); have n1_ := Zq187; have n2_ := Ak (below_step Zq55 hb); clear BKaV HB; have HOcL := n0_; have BKaV := n1_; have HB := n2_; clear n0_ n1_ n2_; (try clear hb); (try clear hb2); (try clear hk); (try clear hi); (try clear ho0)))
  go_ret3
  exact ⟨Zq13, Zq55⟩
def slices_Clone_int_int.f (l0 : List Int) : Option (List Int) := if l0.length < 17592186044416 then (some l0) else (none)
set_option maxRecDepth 100000 in
theorem slices_Clone_int_int.calls (A0 : Option Addr) (c0 : Nat) (l0 : List Int) (r : List Int) (w : World) (hr0 : Kd.C (Kd.int .i64) w A0 l0.length l0) (hc0 : l0.length ≤ c0) (h : slices_Clone_int_int.f l0 = some r) :
  Calls Try.prog 30 #[.slice A0 l0.length c0] w fun e w' => ∃ v0_ : Value, e = .returned (v0_) ∧ Kd.R (Kd.int .i64) 3 w' w.heap.size (fun _ => True) v0_ r ∧ Below w.heap.size w w' := by
 unfold slices_Clone_int_int.f at h
 by_cases c3 : l0.length < 17592186044416
 ·rw [if_pos c3] at h; injection h with h; subst h; have HR0 := Ak hr0; have HC0 := Ak hc0; clear hr0 hc0; have HB := Zq151; have LMc3 := Ak c3; clear c3
  cases A0 with
  | none =>
   have hn : l0 = [] := by
    cases l0 with
    | nil => rfl
    | cons x r =>
     obtain ⟨ad, he, _⟩ := HR0.out.2.2 Zq10
     cases he
   subst hn
   have q := fun w' : World => Lib.run_eql_slice_nil (P := Try.prog) w' 30 3 none ([] : List Int).length c0 0 0 Try.underlying30
   simp only [Option.isNone_none, List.length_nil] at q
   go_enter Try.func30, Try.ntmps30
   go_wp2
   go_ret
   exact ⟨_, rfl, Kd.R_nil _ _ _ _ _, Below.refl _ _⟩
  | some x0 =>
   have q := fun w' : World => Lib.run_eql_slice_nil (P := Try.prog) w' 30 3 (some x0) l0.length c0 0 0 Try.underlying30
   simp only [Option.isNone_some] at q
   obtain ⟨y5, hy5⟩ : ∃ y_ : List Int, y_ = [] := ⟨_, rfl⟩
   have Ny5 := Ak hy5; clear hy5
   obtain ⟨y7, hy7⟩ : ∃ y_ : List Int, y_ = y5 ++ l0 := ⟨_, rfl⟩
   have Ny7 := Ak hy7; clear hy7
   go_enter Try.func30, Try.ntmps30
   go_wp2_with (first | ((with_reducible refine gate_dst (N := 5) rfl ?_); refine Kd.R_lit (Kd.int .i64) _ 3 ?hg (N := 5) ?hd (xs := ([] : List Int)) (inner := []) (ok := fun _ => True) (okp := fun _ => True) ?hr ?hp (fun _ hk => hk) trivial (Below.refl _ _) (Nat.le_refl _) Zq10 ?_; (case hd | hg => rfl); (case hr => first | (go_simp; done) | (go_simp; rfl)); (case hp => exact (Reps.none _ _)); intro v5 w5 ho6 hb hg_ hnew_; clear hg_ hnew_; rw [← Ny5.out] at ho6; have n0_ := Ak (Kd.R_lower (base' := w.heap.size) ho6 (below_size Zq6)); have n2_ := Zq142; clear HB; have HO5 := n0_; have HB := n2_; clear n0_ n2_ hb ho6) | ((with_reducible refine gate_builtin (b := .append) (xs := #[.tmp 5, .tmp 6]) rfl ?_); at_builtin; refine Kd.R_append_rows (Kd.int .i64) (w0 := w) w.heap.size rfl (.tmp 5) (.tmp 6) 30 3 (.int .i64 0) 8 rfl Try.underlying30 info3 rfl Zq4 Zq1 v5 y5 l0 _ _ _ (fun _ => True) (fun _ => False) rfl rfl ?aO ?aR (fun _ _ h => h) (fun _ h => h.elim) (fun _ _ => trivial) ?aB ?aS ?aL ?_; (case aR => repeat (first | exact (Kd.C_below HR0.out HB.out) | (with_reducible refine Kd.C_alloc ?_ _) | (with_reducible refine Kd.C_drewN ?_ _) | (with_reducible refine Kd.C_drew ?_))); (case aB => exact Zq6); (case aO => exact (by (with_reducible repeat (first | apply Kd.R_alloc | apply Kd.R_drewN | apply Kd.R_drew)); exact HO5.out)); (case aS => exact (below_size Zq6)); (case aL => have := LMc3.out; rw [Ny5.out]; simp; omega); intro v7 w7 ho hb hg hat; rw [← Ny7.out] at ho; have n1_ := Ak (hb); have n2_ := Ak (ho); clear HB HO5; have HB := n1_; have HO7 := n2_; clear n1_ n2_ ho hb hg hat))
   go_ret
   exact ⟨_, rfl, by have e7 : y7 = l0 := (by rw [Ny7.out, Ny5.out]; rfl); rw [← e7]; (with_reducible repeat (first | apply Kd.R_alloc | apply Kd.R_drewN | apply Kd.R_drew)); exact HO7.out, Zq6⟩
 ·rw [if_neg c3] at h
  cases h
def MapH (w : World) (b : Nat) (hs : List Int) : Prop := ∃ D : DataW Unit, w.ownsMap Try.prog 22 (plainElem Try.prog 4) b hs.length D ∧ Maps.IsMap D ∧ ∀ h : Int, (Lit.int .u32 h).wf = true → D.atKey (.int .u32 h) (.lit (.bool false)) = .lit (.bool (decide (h ∈ hs)))
theorem plainElem_bool_inv {H : Type} {P : Program} {e : TypeId} (he : P.underlying e = some .bool) {v : Value} {z : DataW H × List MemPlace} (h : plainElem P e v = some z) : ∃ a, v = .bool a ∧ z = (.lit (.bool a), []) := by
 unfold plainElem at h; rw [he] at h
 cases v <;> simp at h
 exact ⟨_, rfl, h.symm⟩
theorem zero_bool (w : World) : (zeroValue 4).run Try.prog w = .ok (.bool false) w := by kernel_rfl
theorem MapH.made (w : World) : MapH (w.alloc (.map #[] 0)) w.heap.size [] := ⟨.map [], World.ownsMap_made _ _ _ _, ⟨_, rfl⟩, fun h _ => by simp [DataW.atKey]⟩
theorem MapH.lt {w : World} {b : Nat} {hs : List Int} (h : MapH w b hs) : b < w.heap.size := h.choose_spec.1.lt
theorem MapH.same {w w' : World} {b : Nat} {hs : List Int} (h : MapH w b hs) (hk : w'.heap[b]? = w.heap[b]?) : MapH w' b hs := by
 obtain ⟨D, ⟨es, clock, hb, F, hs, hD⟩, hm, hat⟩ := h
 exact ⟨D, ⟨es, clock, hk.trans hb, F, hs, hD⟩, hm, hat⟩
theorem MapH.look {w : World} {b : Nat} {hs : List Int} (h : MapH w b hs) (x : Int) (hx : (Lit.int .u32 x).wf = true) : (Instr.lookup 151 (.map (some b)) (.int .u32 x) false).run Try.prog w = .ok (.bool (decide (x ∈ hs))) w := by
 obtain ⟨D, ho, _, hat⟩ := h; obtain ⟨v, ps, hrun, hv⟩ := ho.lookup (Maps.int_keyed Try.underlying22) Try.underlying151 (zero_bool _) (plainElem_bool Try.underlying4 false) (Maps.keyOf_int_mk Try.underlying22 hx); rw [hat x hx] at hv; obtain ⟨a, rfl, hz⟩ := plainElem_bool_inv Try.underlying4 hv; rw [hrun]; simp only [Prod.mk.injEq, DataW.lit.injEq, Lit.bool.injEq] at hz; rw [hz.1]
theorem MapH.put {w : World} {b : Nat} {hs : List Int} (h : MapH w b hs) (hn : hs.length < maxLen) (x : Int) (hx : (Lit.int .u32 x).wf = true) : ∃ w', (Instr.mapUpdate 151 (.map (some b)) (.int .u32 x) (.bool true)).run Try.prog w = .ok () w' ∧ MapH w' b (hs ++ [x]) ∧ w.grownBy w' (some b) := by
 obtain ⟨D, ho, hm, hat⟩ := h; obtain ⟨w', hrun, ho', hg⟩ := ho.update (Maps.int_keyed Try.underlying22) Try.underlying151 hn (Maps.keyOf_int_mk Try.underlying22 hx) (plainElem_bool Try.underlying4 true); refine ⟨w', hrun, ⟨_, by rw [List.length_append]; exact ho', ?_, fun y hy => ?_⟩, hg⟩
 ·obtain ⟨es, rfl⟩ := hm
  exact ⟨_, rfl⟩
 ·by_cases e : y = x
  ·subst e; rw [Maps.atKey_put_same hm (by simp [WideAt.IsKeyLit])]
   simp
  ·rw [Maps.atKey_put_other (by simpa using e), hat y hy]
   simp [e]
structure OfS (ok : Nat → Prop) (w0 w W : World) (b : Nat) (vl0 vl : Value) (l : List S137) (hs : List Int) : Prop where
 st : w0.heap.size ≤ b ∧ b < w.heap.size
 bel : Below w0.heap.size w0 W
 kept : Kept w W (fun k => k = b ∨ vl0.ownBlock = some k)
 own : Kd.S k137 137 W w0.heap.size ok vl l
 okb : ∀ k, ok k → k ≠ b
 vown : ∀ k, vl.ownBlock = some k → vl0.ownBlock = some k ∨ w.heap.size ≤ k
 map : MapH W b hs
section
variable {ok ok' : Nat → Prop} {w0 w W W2 : World} {b : Nat} {vl0 vl v1 : Value} {l r : List S137} {hs hs' : List Int}
theorem OfS.below (h : OfS ok w0 w W b vl0 vl l hs) (hb : Below W.heap.size W W2) : OfS ok w0 w W2 b vl0 vl l hs :=
 ⟨h.st, h.bel.trans (hb.mono h.bel.size), h.kept.below hb, Kd.S_below h.own hb, h.okb, h.vown, h.map.same (hb.block b h.map.lt)⟩
theorem OfS.old (h : OfS ok w0 w W b vl0 vl l hs) : OfS (fun k => k ≠ b ∧ k < W.heap.size) w0 w W b vl0 vl l hs :=
 ⟨h.st, h.bel, h.kept, Kd.S_mono (Kd.S_bound h.own) (fun k hk => ⟨h.okb k hk.1, hk.2.2.1⟩), fun k hk => hk.1, h.vown, h.map⟩
theorem OfS.grown {row : Option Nat} (h : OfS ok w0 w W b vl0 vl l hs) (hg : W.grownBy W2 row) (hw : ∀ k, row = some k → w.heap.size ≤ k) (hgo : ∀ k, ok k → k < W.heap.size → row ≠ some k) : OfS ok w0 w W2 b vl0 vl l hs := by
 have h1 := h.st
 exact ⟨h.st, h.bel.grown hg h.bel.size (fun k hk => by have := hw k hk; omega), Kept.of_grown hg h.kept (fun k hk => .inr (hw k hk)), Kd.S_step h.own (fun k ho hlt => hg.block k hlt (fun e => hgo k ho hlt e.symm)), h.okb, h.vown, h.map.same (hg.block b h.map.lt (fun e => by have := hw b e.symm; omega))⟩
theorem OfS.start (h : OfS ok w0 w W b vl0 vl l hs) : OfS (fun k => k ≠ b) w0 W W b vl vl l hs := ⟨⟨h.st.1, h.map.lt⟩, h.bel, Kept.refl _ _, Kd.S_mono h.own h.okb, fun _ h => h, fun _ hk => .inl hk, h.map⟩
theorem OfS.put (h : OfS ok w0 w W b vl0 vl l hs) (hm : MapH W2 b hs') (hg : W.grownBy W2 (some b)) : OfS ok w0 w W2 b vl0 vl l hs' :=
 ⟨h.st, h.bel.grown hg h.bel.size (fun k hk => by injection hk with hk; have := h.st.1; omega), Kept.of_grown hg h.kept (fun k hk => .inl (.inl (by injection hk with hk; exact hk.symm))), Kd.S_step h.own (fun k ho hlt => hg.block k hlt (fun e => h.okb k ho (Option.some.inj e))), h.okb, h.vown, hm⟩
theorem OfS.ne (h : OfS ok w0 w W b vl0 vl l hs) : some b ≠ vl.ownBlock := Kd.S_away h.own h.okb
theorem OfS.appended (h : OfS ok w0 w W b vl0 vl l hs) (ho : Kd.S k137 137 W2 w0.heap.size ok' v1 r) (hok : ∀ k, ok' k → k ≠ b) (hb : Below w0.heap.size w0 W2) (hg : W.grownBy W2 vl.ownBlock) (hat : v1.ownBlock = vl.ownBlock ∨ ∃ b', v1.ownBlock = some b' ∧ W.heap.size ≤ b') : OfS ok' w0 w W2 b vl0 v1 r hs := by
 refine ⟨h.st, hb, Kept.of_grown hg h.kept (fun k hk => (h.vown k hk).imp .inr id), ho, hok, fun k hk => ?_, h.map.same (hg.block b h.map.lt h.ne)⟩
 rcases hat with hat | ⟨b', hat, hle⟩
 ·exact h.vown k (hat ▸ hk)
 ·have h2 := h.kept.1; rw [hat] at hk; injection hk with hk
  exact .inr Zq1
structure OfR (w0 w W : World) (b : Nat) (vl0 : Value) (e : Int) (v : Value) (r : List S137) : Prop where
 bel : Below w0.heap.size w0 W
 kept : Kept w W (fun k => k = b ∨ vl0.ownBlock = some k)
 own : Kd.S k137 137 W w0.heap.size (fun k => k ≠ b) v r
 vown : ∀ k, v.ownBlock = some k → vl0.ownBlock = some k ∨ w.heap.size ≤ k
 map : e = 0 → MapH W b (r.map (·.f0))
theorem OfS.err (h : OfS ok w0 w W b vl0 vl l hs) {e : Int} (he : e ≠ 0) : OfR w0 w W b vl0 e (.slice none 0 0) [] :=
 ⟨h.bel, h.kept, Kd.S_nil _ _ _ _ _, fun k hk => (by simp [Value.ownBlock] at hk), fun h0 => absurd h0 he⟩
theorem OfS.fine (h : OfS ok w0 w W b vl0 vl l (l.map (·.f0))) : OfR w0 w W b vl0 0 vl l := ⟨h.bel, h.kept, Kd.S_mono h.own h.okb, h.vown, fun _ => h.map⟩
theorem OfR.next {e : Int} (h : OfR w0 W W2 b vl e v1 r) (hS : OfS ok w0 w W b vl0 vl l hs) (he : e = 0) : OfS (fun k => k ≠ b) w0 w W2 b vl0 v1 r (r.map (·.f0)) := by
 refine ⟨hS.st, h.bel, hS.kept.then_ h.kept (fun k hk => ?_), h.own, fun k hk => hk, fun k hk => ?_, h.map he⟩
 ·rcases hk with hk | hk
  ·exact .inl (.inl hk)
  ·exact (hS.vown k hk).imp .inr id
 ·rcases h.vown k hk with hk | hk
  ·exact hS.vown k hk
  ·exact .inr (Nat.le_trans hS.kept.1 hk)
theorem OfR.fail {e : Int} (h : OfR w0 W W2 b vl e v1 r) (hS : OfS ok w0 w W b vl0 vl l hs) (he : e ≠ 0) : OfR w0 w W2 b vl0 e (.slice none 0 0) [] := by
 refine ⟨h.bel, hS.kept.then_ h.kept (fun k hk => ?_), Kd.S_nil _ _ _ _ _, fun k hk => (by simp [Value.ownBlock] at hk), fun h0 => absurd h0 he⟩
 rcases hk with hk | hk
 ·exact .inl (.inl hk)
 ·exact (hS.vown k hk).imp .inr id
end
theorem grown_set (W : World) (g o : Nat) (u : Value) : W.grownBy (W.setCell ⟨g, o, none⟩ u) (some g) :=
 ⟨rfl, rfl, rfl, by simp [World.setCell], fun k hk hne => Below.heap_setCell W ⟨g, o, none⟩ u k (fun e => hne (by rw [e]))⟩
theorem wpList_mapH {ops : Array Oper} {rest : List Oper} {o : Oper} {a : Act} {Q : Exit → Act → World → Prop} (W : World) (hg : o.guard = none) (m x v : Operand) (hop : o.op = Op.mapUpdate 151 m x v)
  (b : Nat) (hs : List Int) (hm : a.eval m = .map (some b)) (h : MapH W b hs) (hn : hs.length < maxLen) (y : Int) (hx : a.eval x = .int .u32 y) (hy : (Lit.int .u32 y).wf = true) (hv : a.eval v = .bool true)
  (hK : ∀ w', MapH w' b (hs ++ [y]) → W.grownBy w' (some b) → wpList Try.prog ops Q rest (a.put o.dst undef) w') : wpList Try.prog ops Q (o :: rest) a W := by
 refine wpList_plain hg fun K' hK' => ?_
 obtain ⟨w', hrun, r1, r2⟩ := h.put hn y hy; unfold Oper.wp
 simp [execOp, hop, hm, hx, hv, hrun, Result.andThen]
 exact hK' _ _ (hK w' r1 r2)
mutual
def handle_of.l0 : Nat → List Int → List S137 → List S27 → Int → Int → Option (List S137 × Int)
 | 0, _, _, _, _, _ => none
 | k + 1, pl, l, ks, n, i => if i < n then (if 0 ≤ i then (if i < (ks.length : Int) then (slices_Clone_int_int.f pl).bind fun c => (if c.length + 1 < 17592186044416 then (handle_of.f k (rd_T27 ks i).f0 (rd_T27 ks i).f1 (rd_T27 ks i).f2 (c ++ [i]) l).bind fun t => (if t.2 = 0 then handle_of.l0 k pl t.1 ks n (wrap64 (i + 1)) else some ([], t.2)) else none) else none) else none) else some (l, 0)
def handle_of.f : Nat → ByteArray → List S63 → List S27 → List Int → List S137 → Option (List S137 × Int)
 | 0, _, _, _, _, _ => none
 | k + 1, nm, ps, ks, pl, l => (prop_One.f k nm ps ks ⟨#[112, 104, 97, 110, 100, 108, 101]⟩).bind fun o => (if o.2.2 = 0 then (if o.2.1 = true then (if o.1 < 1 then some ([], 11) else if 4294967294 < o.1 then some ([], 11) else if o.1 ∈ l.map (·.f0) then some ([], 9) else (slices_Clone_int_int.f pl).bind fun c => (if l.length + 1 < 4294967296 then handle_of.l0 k pl (l ++ [⟨o.1, c⟩]) ks (ks.length : Int) 0 else none)) else handle_of.l0 k pl l ks (ks.length : Int) 0) else some ([], o.2.2))
end
def handle_of.T14 : Bool × List (List Nat × List Nat) := (true, [([], []), ([], []), ([1], [1]), ([], []), ([3], [3]), ([2, 4, 2], [2, 4]), ([], []), ([], []), ([0, 5, 6, 7, 5], [0, 5, 6, 7]), ([8], [8]), ([9], [9]), ([9], [9]), ([10, 8, 0, 1, 2, 3, 4, 5, 6, 7, 8, 9, 10], [6, 10]), ([11, 12, 0, 1, 2, 3, 4, 5, 6, 7, 8, 9, 10, 11, 12], [11])])
def handle_of.B14 : List Nat := [0, 0, 2, 0, 8, 30, 0, 0, 255, 511, 1023, 1023, 2047, 8191]
theorem handle_of.tab14 : rtab .any (opsOf Try.f94 14) = handle_of.T14 := by kernel_rfl
theorem handle_of.bits14 : waitsOk handle_of.T14.2 handle_of.B14 = true := by kernel_rfl
end Go.Proofs.Ytkopmkinlanhoaa.PB

namespace Go.Proofs.Ytkopmkinlanhoaa.PB
open Go.RowKit Go.Proofs.YtkopmkinlanhoaaW.PrintWords Go.Proofs.YtkopmkinlanhoaaW.PrintLast Go.Proofs.YtkopmkinlanhoaaW.PrintMore
attribute [local go_sem] max2_int min2_int max_two min_two max_three min_three max_four min_four
set_option maxHeartbeats 8000000 in
set_option maxRecDepth 100000 in
theorem handle_of.calls (k : Nat) : ∀ (nm : ByteArray) (A1 : Option Addr) (c1 : Nat) (lp : List S63) (A2 : Option Addr) (c2 : Nat) (lk : List S27) (Ap : Option Addr) (cp : Nat) (pl : List Int) (vl : Value) (l : List S137) (b : Nat) (r : List S137) (e : Int) (w0 w : World)
  (hr1 : Kd.C k63 w0 A1 lp.length lp) (hc1 : lp.length ≤ c1) (hr2 : Kd.C k27 w0 A2 lk.length lk) (hc2 : lk.length ≤ c2) (hpl : ∀ W', Kept w W' (fun k => k = b ∨ vl.ownBlock = some k) → Kd.C (Kd.int .i64) W' Ap pl.length pl) (hcp : pl.length ≤ cp)
  (hS : OfS (fun k => k ≠ b) w0 w w b vl vl l (l.map (·.f0))) (h : handle_of.f k nm lp lk pl l = some (r, e)),
  Calls Try.prog 94 #[.agg #[.string nm, .slice A1 lp.length c1, .slice A2 lk.length c2], .slice Ap pl.length cp, vl, .map (some b)] w fun en w' => ∃ v, en = .returned (.tuple #[v, .int .i64 e]) ∧ OfR w0 w w' b vl e v r := by
 induction k using Nat.strongRecOn with
 | _ k ih =>
 intro nm A1 c1 lp A2 c2 lk Ap cp pl vl l b r e w0 w hr1 hc1 hr2 hc2 hpl hcp hS h
 cases k with
 | zero => exact absurd h (by simp [handle_of.f])
 | succ k =>
 simp only [handle_of.f] at h; obtain ⟨⟨x1, x2, x3⟩, hOne, H⟩ := Option.bind_eq_some_iff.mp h; clear h; simp only at H; have hu27 := Try.underlying27
 have qOne := fun W (hb : Below w0.heap.size w0 W) => prop_One.calls k nm A1 c1 lp A2 c2 lk ⟨#[112, 104, 97, 110, 100, 108, 101]⟩ x1 x2 x3 W (Kd.C_below hr1 hb) hc1 (Kd.C_below hr2 hb) hc2 hOne
 have QO := Ak qOne; have HR2 := Ak hr2; have HC2 := Ak hc2; have HPL := Ak hpl; have HCP := Ak hcp; have HS := Ak hS; clear qOne hOne hr1 hr2 hc2 hpl hcp hS hc1
 by_cases d3 : x3 = 0
 ·subst d3; rw [if_pos rfl] at H
  cases x2 with
  | false =>
   rw [if_neg Zq4] at H; have H' := Ak H; clear H
   go_enter Try.func94, Try.ntmps94
   go_wp2_with (first | ((with_reducible refine gate_dst (N := 4) rfl ?_); refine box_event ?hg (N := 4) ?hd (cs := #[.string nm, .slice A1 lp.length c1, .slice A2 lk.length c2]) (t := 27) ?hr ?_; (case hd | hg => rfl); (case hr => first | (go_simp; done) | (go_simp; rfl)); intro g0 hg w3 hbox hb; have n0_ := Ak (HS.out.below hb); have BK := Ak hbox; have GE := Zq197; clear HS; have HS := n0_; clear n0_ hb hbox hg; have hc0 := (blk_cell BK.out 0).trans rfl; have hc1 := (blk_cell BK.out 1).trans rfl; have hc2 := (blk_cell BK.out 2).trans rfl; have hz0 := blk_frozen BK.out 0; have hz1 := blk_frozen BK.out 1; have hz2 := blk_frozen BK.out 2) | (go_at_call 56; refine (QO.out _ HS.out.bel).mono ?_; rintro en w4 ⟨rfl, hb⟩; have n0_ := Ak (HS.out.below hb); have n1_ := Zq181; clear HS BK hc0 hc1 hc2 hz0 hz1 hz2; have HS := n0_; have BK := n1_; clear n0_ n1_ hb; have hc0 := (blk_cell BK.out 0).trans rfl; have hc1 := (blk_cell BK.out 1).trans rfl; have hc2 := (blk_cell BK.out 2).trans rfl; have hz0 := blk_frozen BK.out 0; have hz1 := blk_frozen BK.out 1; have hz2 := blk_frozen BK.out 2))
   go_loopg [2, 56] k (fun kq v2 v56 w' => ∃ (l' : List S137) (i : Int), v56 = .int .i64 i ∧ Aside0 (handle_of.l0 kq pl l' lk (lk.length : Int) i = some (r, e)) ∧ Aside0 (kq ≤ k) ∧ Aside0 (OfS (fun k_ => k_ ≠ b) w0 w w' b vl v2 l' (l'.map (·.f0))) ∧ Aside0 (w'.heap[g0]? = some (.cells #[.string nm, .slice A1 lp.length c1, .slice A2 lk.length c2] 27 (0, 0))))
   case atStart => exact ⟨_, 0, Zq7, H', ⟨Nat.le_refl _⟩, HS, BK⟩
   case round =>
    clear H' HS BK
    (try clear hc0); (try clear hc1); (try clear hc2); (try clear hz0); (try clear hz1); (try clear hz2)
    obtain ⟨l', i, rfl, HA, HK1, HS, BK⟩ := hrel
    cases gk with
    | zero => exact absurd HA.out (by simp [handle_of.l0])
    | succ k1 =>
     have H := HA.out; clear HA; simp only [handle_of.l0] at H
     by_cases c7 : i < (lk.length : Int)
     ·rw [if_pos c7] at H; have c7b0 : decide (i < (lk.length : Int)) = true := decide_eq_true c7
      by_cases c8 : 0 ≤ i
      ·rw [if_pos c8, if_pos c7] at H; have c8b0 : decide (0 ≤ i) = true := decide_eq_true c8; obtain ⟨c, hcl, H⟩ := Option.bind_eq_some_iff.mp H
       by_cases c11 : c.length + 1 < 17592186044416
       ·rw [if_pos c11] at H; obtain ⟨⟨r1, e1⟩, hrec, H⟩ := Option.bind_eq_some_iff.mp H; have HCL := Ak hcl; have HREC := Ak hrec; have LM := Ak c11
        have HN : Aside0 ((if e1 = 0 then handle_of.l0 k1 pl r1 lk (lk.length : Int) (wrap64 (i + 1)) else some ([], e1)) = some (r, e)) := ⟨H⟩
        clear hcl hrec c11 H; obtain ⟨adx, Ax1, cx1, Ax2, cx2, ex, hx0, hx1, hx2, hl1, hi1, hl2, hi2⟩ := at_T27 HR2.out i c8 c7
        cases ex
        replace hx0 := (HS.out.bel.cell (World.block_lt_of_cell? w0 _ hx0)).trans hx0; replace hx1 := (HS.out.bel.cell (World.block_lt_of_cell? w0 _ hx1)).trans hx1; replace hx2 := (HS.out.bel.cell (World.block_lt_of_cell? w0 _ hx2)).trans hx2; have HX1 := Ak hi1; have HY1 := Ak hl1; have HX2 := Ak hi2; have HY2 := Ak hl2; clear hi1 hl1 hi2 hl2
        obtain ⟨xn, hxn⟩ : ∃ x_, x_ = rd_T27 lk i := ⟨_, rfl⟩
        rw [← hxn] at HREC HX1 HX2 HY1 HY2 hx0 hx1 hx2; clear hxn; have p294 := eq_true c8; have q294 := eq_true c7; clear c7 c8
        go_wp2_with ((with_reducible refine gate_dst (N := 14) rfl ?_); refine box_event ?hg (N := 14) ?hd (cs := #[.string (⟨#[]⟩ : ByteArray), .slice none 0 0, .slice none 0 0]) (t := 27) ?hr ?_; (case hd | hg => rfl); (case hr => first | (go_simp; done) | (go_simp; rfl)); intro g1 hg w14 hbox hb; have n0_ := Ak (HS.out.old.below hb); have n1_ := Zq181; have GB := Zq264; have BX := Ak hbox; have LK := Ak (HS.out.kept.1); have LO := Ak (Kd.S_lt HS.out.own); clear HS BK; have HS := n0_; have BK := n1_; clear n0_ n1_ hb hbox hg; have hy0 := (blk_cell BX.out 0).trans rfl; have hy1 := (blk_cell BX.out 1).trans rfl; have hy2 := (blk_cell BX.out 2).trans rfl; have hyz0 := blk_frozen BX.out 0; have hyz1 := blk_frozen BX.out 1; have hyz2 := blk_frozen BX.out 2)
        clear hx0 hx1 hx2 hy0 hy1 hy2 hyz0 hyz1 hyz2 c7b0 c8b0 p294 q294
        have n0_ : Aside0 (OfS (fun k_ => k_ ≠ b ∧ k_ < wr.heap.size) w0 w (((w14.setCell ⟨g1, 0, none⟩ (.string xn.f0)).setCell ⟨g1, 1, none⟩ (.slice Ax1 xn.f1.length cx1)).setCell ⟨g1, 2, none⟩ (.slice Ax2 xn.f2.length cx2)) b vl _ l' (l'.map (·.f0))) := ⟨((HS.out.grown (grown_set _ g1 0 _) (fun k_ hk_ => by injection hk_ with hk_; have := GB.out.1; omega) (fun k_ ho_ _ e_ => by injection e_ with e_; have := GB.out.2.2; have := ho_.2; omega)).grown (grown_set _ g1 1 _) (fun k_ hk_ => by injection hk_ with hk_; have := GB.out.1; omega) (fun k_ ho_ _ e_ => by injection e_ with e_; have := GB.out.2.2; have := ho_.2; omega)).grown (grown_set _ g1 2 _) (fun k_ hk_ => by injection hk_ with hk_; have := GB.out.1; omega) (fun k_ ho_ _ e_ => by injection e_ with e_; have := GB.out.2.2; have := ho_.2; omega)⟩
        have n1_ : Aside0 ((((w14.setCell ⟨g1, 0, none⟩ (.string xn.f0)).setCell ⟨g1, 1, none⟩ (.slice Ax1 xn.f1.length cx1)).setCell ⟨g1, 2, none⟩ (.slice Ax2 xn.f2.length cx2)).heap[g0]? = some (.cells #[.string nm, .slice A1 lp.length c1, .slice (some adx) lk.length c2] 27 (0, 0))) := ⟨blk_far (blk_far (blk_far BK.out GB.out.2.1 _) GB.out.2.1 _) GB.out.2.1 _⟩
        have n2_ : Aside0 ((((w14.setCell ⟨g1, 0, none⟩ (.string xn.f0)).setCell ⟨g1, 1, none⟩ (.slice Ax1 xn.f1.length cx1)).setCell ⟨g1, 2, none⟩ (.slice Ax2 xn.f2.length cx2)).heap[g1]? = some (.cells #[.string xn.f0, .slice Ax1 xn.f1.length cx1, .slice Ax2 xn.f2.length cx2] 27 (0, 0))) := ⟨blk_put (cs := #[.string xn.f0, .slice Ax1 xn.f1.length cx1, .slice none 0 0]) Zq263 2 _ rfl⟩
        clear HS BK BX; generalize (((w14.setCell ⟨g1, 0, none⟩ (.string xn.f0)).setCell ⟨g1, 1, none⟩ (.slice Ax1 xn.f1.length cx1)).setCell ⟨g1, 2, none⟩ (.slice Ax2 xn.f2.length cx2)) = w18 at n0_ n1_ n2_ ⊢; have HS := Ak (n0_.out.below (below_drew1 (Below.refl _ _))); have BK := Ak (blk_drew n1_.out); have BX := Ak (blk_drew n2_.out); clear n0_ n1_ n2_; refine start_ (n := 14) (S := fun w' => w'.cell? ⟨g1, 0, none⟩ = some (.string xn.f0) ∧ w'.cell? ⟨g1, 1, none⟩ = some (.slice Ax1 xn.f1.length cx1) ∧ w'.cell? ⟨g1, 2, none⟩ = some (.slice Ax2 xn.f2.length cx2)) (ds := []) #[false, false, false, false, false, false, false, false, false, false, false, false, false, false] Zq2 rfl rfl ⟨(blk_cell BX.out 0).trans rfl, (blk_cell BX.out 1).trans rfl, (blk_cell BX.out 2).trans rfl⟩ (fun hHeld => ?_); refine with_tabW handle_of.tab14 handle_of.bits14 (fun HT_ HW_ => ?_); generalize w18.drew = w19 at HS BK BX hHeld ⊢; refine pure_ (i := 1) (N := some 63) (v := ?_) (a' := ?_) #[false, true, false, false, false, false, false, false, false, false, false, false, false, false] rfl rfl (any_of HT_.out Zq2) (fun _ _ _ h => h) (Or.inl ⟨Zq3, ?_⟩) ?_ ?_
        rotate_left
        ·intro w'
         go_simp
         with_reducible rfl
        rotate_left
        ·simp only [Sx]
         rfl
        refine pure_ (i := 3) (N := some 65) (v := ?_) (a' := ?_) #[false, true, false, true, false, false, false, false, false, false, false, false, false, false] rfl rfl (any_of HT_.out Zq2) (fun _ _ _ h => h) (Or.inl ⟨Zq3, ?_⟩) ?_ ?_
        rotate_left
        ·intro w'
         go_simp
         with_reducible rfl
        rotate_left
        ·simp only [Sx]
         rfl
        refine pure_ (i := 6) (N := some 68) (v := ?_) (a' := ?_) #[false, true, false, true, false, false, true, false, false, false, false, false, false, false] rfl rfl (any_of HT_.out Zq2) (fun _ _ _ h => h) (Or.inl ⟨Zq3, ?_⟩) ?_ ?_
        rotate_left
        ·intro w'
         go_simp
         with_reducible rfl
        rotate_left
        ·simp only [Sx]
         rfl
        refine pure_ (i := 7) (N := some 69) (v := ?_) (a' := ?_) #[false, true, false, true, false, false, true, true, false, false, false, false, false, false] rfl rfl (any_of HT_.out Zq2) (fun _ _ _ h => h) (Or.inl ⟨Zq3, ?_⟩) ?_ ?_
        rotate_left
        ·intro w'
         go_simp
         with_reducible rfl
        rotate_left
        ·simp only [Sx]
         rfl
        refine take_ (i := 0) (N := some 62) (v := ?_) (a' := ?_) #[true, true, false, true, false, false, true, true, false, false, false, false, false, false] rfl rfl (take_ofW HT_.out HW_.out Zq2) (fun _ _ _ h => h) (Or.inl ⟨Zq3, ?_⟩) hHeld ?_ ?_
        rotate_left
        ·rintro w' ⟨s0, s1, s2⟩
         go_simp
         with_reducible rfl
        rotate_left
        ·simp only [Sx]
         rfl
        refine join_ (σ := Value × Value) 7 #[true, true, true, true, true, false, true, true, false, false, false, false, false, false] (fun s_ => [(64, s_.1), (66, s_.2)]) (fun s_ w' => (w'.cell? ⟨g1, 0, none⟩ = some (.string xn.f0) ∧ w'.cell? ⟨g1, 1, none⟩ = some (.slice Ax1 xn.f1.length cx1) ∧ w'.cell? ⟨g1, 2, none⟩ = some (.slice Ax2 xn.f2.length cx2)) ∧ OfS (fun k_ => k_ ≠ b ∧ k_ < wr.heap.size) w0 w w' b vl u2 l' (l'.map (·.f0)) ∧ w'.heap[g0]? = some (.cells #[.string nm, .slice A1 lp.length c1, .slice (some adx) lk.length c2] 27 (0, 0)) ∧ w'.heap[g1]? = some (.cells #[.string xn.f0, .slice Ax1 xn.f1.length cx1, .slice Ax2 xn.f2.length cx2] 27 (0, 0)) ∧ Kd.R (Kd.int .i64) 3 w' w0.heap.size (fun k_ => wr.heap.size ≤ k_) s_.1 c ∧ Kd.R (Kd.int .i64) 3 w' w0.heap.size (fun k_ => wr.heap.size ≤ k_) s_.2 [i]) ?_ ?_
        rotate_left
        ·intro hCont; refine two_ (i := 2) (j := 4) (Ni := some 64) (Nj := some 66) #[true, true, true, true, false, false, true, true, false, false, false, false, false, false] #[true, true, false, true, true, false, true, true, false, false, false, false, false, false] rfl rfl rfl rfl (two_of HT_.out Zq2) Zq4 Zq4 (fun K hK => ?_) (fun K hK => ?_)
         ·skip
          refine goes_ Try.func30 Zq2 rfl #[.slice Ap pl.length cp] Zq3 rfl rfl Zq82 ?_; with_reducible refine (slices_Clone_int_int.calls Ap cp pl c _ (HPL.out _ HS.out.kept) HCP.out HCL.out).mono ?_
          rintro en w20 ⟨v297, rfl, ho, hb⟩
          refine ⟨_, rfl, ?_⟩; have n0_ := Ak (HS.out.below hb); have n1_ := Zq181; have n2_ := Zq234; have HObN := Zq160; clear HS BK BX; have HS := n0_; have BK := n1_; have BX := n2_; clear n0_ n1_ n2_ hb ho; refine hK.out _ _ ⟨(blk_cell BX.out 0).trans rfl, (blk_cell BX.out 1).trans rfl, (blk_cell BX.out 2).trans rfl⟩ (fun hHeld => ?_); clear hK K; refine norm_ (a' := ?_) ?_ ?_
          rotate_left
          ·show Act.put _ (some 64) _ = _
           simp only [Sx]
           rfl
          refine one_ (i := 4) (N := some 66) #[true, true, true, true, true, false, true, true, false, false, false, false, false, false] rfl rfl (one_of HT_.out Zq2) Zq4 (fun K hK => ?_); refine Kd.R_lit_step (Kd.int .i64) _ 3 ?hg (N := 66) ?hd (xs := ([i] : List Int)) (inner := [.int .i64 i]) (ok := fun _ => True) (okp := fun _ => True) ?hr ?hp (fun _ hk => hk) trivial (Below.refl _ _) (Nat.le_refl _) Zq10 ?_; (case hd | hg => rfl); (case hr => first | (go_simp; done) | (go_simp; rfl)); (case hp => exact (Reps.one (show Kd.M (Kd.int .i64) _ _ _ i [.int .i64 i] from rfl) (Reps.none _ _))); intro v300 w21 ho hb hg_ hnew_; clear hg_ hnew_; have n0_ := Ak (HS.out.below hb); have n1_ := Zq181; have n2_ := Zq234; have HObU := Zq159; have n3_ := Ak (Kd.R_below HObN.out hb); clear HS BK BX HObN; have HS := n0_; have BK := n1_; have BX := n2_; have HObN := n3_; clear n0_ n1_ n2_ n3_ hb ho; refine hK.out _ _ ⟨(blk_cell BX.out 0).trans rfl, (blk_cell BX.out 1).trans rfl, (blk_cell BX.out 2).trans rfl⟩ (fun hHeld => ?_); clear hK K; refine norm_ (a' := ?_) ?_ ?_
          rotate_left
          ·show Act.put _ (some 66) _ = _
           simp only [Sx]
           rfl
          exact norm_ Zq60 (hCont (v297, v300) _ ⟨hHeld, HS.out, BK.out, BX.out, HObN.out, HObU.out⟩)
         ·skip
          refine Kd.R_lit_step (Kd.int .i64) _ 3 ?hg (N := 66) ?hd (xs := ([i] : List Int)) (inner := [.int .i64 i]) (ok := fun _ => True) (okp := fun _ => True) ?hr ?hp (fun _ hk => hk) trivial (Below.refl _ _) (Nat.le_refl _) Zq10 ?_; (case hd | hg => rfl); (case hr => first | (go_simp; done) | (go_simp; rfl)); (case hp => exact (Reps.one (show Kd.M (Kd.int .i64) _ _ _ i [.int .i64 i] from rfl) (Reps.none _ _))); intro v300 w21 ho hb hg_ hnew_; clear hg_ hnew_; have n0_ := Ak (HS.out.below hb); have n1_ := Zq181; have n2_ := Zq234; have HObU := Zq159; clear HS BK BX; have HS := n0_; have BK := n1_; have BX := n2_; clear n0_ n1_ n2_ hb ho; refine hK.out _ _ ⟨(blk_cell BX.out 0).trans rfl, (blk_cell BX.out 1).trans rfl, (blk_cell BX.out 2).trans rfl⟩ (fun hHeld => ?_); clear hK K; refine norm_ (a' := ?_) ?_ ?_
          rotate_left
          ·show Act.put _ (some 66) _ = _
           simp only [Sx]
           rfl
          refine one_ (i := 2) (N := some 64) #[true, true, true, true, true, false, true, true, false, false, false, false, false, false] rfl rfl (one_of HT_.out Zq2) Zq4 (fun K hK => ?_); refine goes_ Try.func30 Zq2 rfl #[.slice Ap pl.length cp] Zq3 rfl rfl Zq82 ?_; with_reducible refine (slices_Clone_int_int.calls Ap cp pl c _ (HPL.out _ HS.out.kept) HCP.out HCL.out).mono ?_
          rintro en w20 ⟨v297, rfl, ho, hb⟩
          refine ⟨_, rfl, ?_⟩; have n0_ := Ak (HS.out.below hb); have n1_ := Zq181; have n2_ := Zq234; have HObN := Zq160; have n3_ := Ak (Kd.R_below HObU.out hb); clear HS BK BX HObU; have HS := n0_; have BK := n1_; have BX := n2_; have HObU := n3_; clear n0_ n1_ n2_ n3_ hb ho; refine hK.out _ _ ⟨(blk_cell BX.out 0).trans rfl, (blk_cell BX.out 1).trans rfl, (blk_cell BX.out 2).trans rfl⟩ (fun hHeld => ?_); clear hK K; refine norm_ (a' := ?_) ?_ ?_
          rotate_left
          ·show Act.put _ (some 64) _ = _
           simp only [Sx]
           rfl
          exact norm_ Zq60 (hCont (v297, v300) _ ⟨hHeld, HS.out, BK.out, BX.out, HObN.out, HObU.out⟩)
        clear HS BK BX hHeld
        rintro ⟨v297, v300⟩ w23 ⟨hHeld, h0_, h1_, h2_, h3_, h4_⟩
        have HS := Ak h0_; have BK := Ak h1_; have BX := Ak h2_; have HObN := Ak h3_; have HObU := Ak h4_; clear h0_ h1_ h2_ h3_ h4_; simp only at HObN HObU; obtain ⟨Ao25, co25, eo25⟩ := Kd.R_slice HObU.out; subst eo25; refine norm_ (a' := ?_) ?_ ?_
        rotate_left
        ·simp only [putAll, Act.put, List.setIfInBounds_toArray, List.set_cons_zero, List.set_cons_succ]
         rfl
        refine one_ (i := 5) (N := some 67) #[true, true, true, true, true, true, true, true, false, false, false, false, false, false] rfl rfl (one_of HT_.out Zq2) Zq4 (fun K hK => ?_); refine Kd.R_append_rows_step (Kd.int .i64) (w0 := w0) w0.heap.size Zq3 (.tmp 64) (.tmp 66) 30 3 (.int .i64 0) 8 rfl Try.underlying30 info3 rfl Zq4 Zq1 v297 c [i] _ _ _ (fun k_ => wr.heap.size ≤ k_) (fun _ => False) rfl rfl HObN.out (Kd.R_reads' HObU.out).2.2 (fun _ _ h => h) (fun _ h => h.elim) (fun k_ hk_ => Nat.le_trans (Nat.le_trans GB.out.2.2 (Nat.le_of_lt (blk_lt BX.out))) hk_) HS.out.bel HS.out.bel.size ?aL ?_
        (case aL => have := LM.out; simp only [List.length_cons, List.length_nil]; omega)
        intro v303 w24 ho hb hg hat; have n0_ := Zq274; have n1_ := Ak (blk_grown BK.out hg (Kd.R_ne HObN.out BK.out Zq4)); have n2_ := Ak (blk_grown BX.out hg (Kd.R_ne HObN.out BX.out Zq4)); have HObD := Ak ho; clear HS BK BX HObN HObU; have HS := n0_; have BK := n1_; have BX := n2_; clear n0_ n1_ n2_ ho hb hg hat; obtain ⟨Ao26, co26, eo26⟩ := Kd.R_slice HObD.out; subst eo26; refine hK.out _ _ ⟨(blk_cell BX.out 0).trans rfl, (blk_cell BX.out 1).trans rfl, (blk_cell BX.out 2).trans rfl⟩ (fun hHeld => ?_); clear hK K; refine norm_ (a' := ?_) ?_ ?_
        rotate_left
        ·show Act.put _ (some 67) _ = _
         simp only [Sx]
         rfl
        refine one_ (i := 8) (N := some 70) #[true, true, true, true, true, true, true, true, true, false, false, false, false, false] rfl rfl (one_of HT_.out Zq2) Zq4 (fun K hK => ?_); refine goes_ Try.func94 Zq2 rfl #[.agg #[.string xn.f0, .slice Ax1 xn.f1.length cx1, .slice Ax2 xn.f2.length cx2], .slice Ao26 (c ++ [i]).length co26, u2, .map (some b)] Zq3 rfl rfl Zq82 ?_; with_reducible refine (ih k1 Zq27 xn.f0 Ax1 cx1 xn.f1 Ax2 cx2 xn.f2 Ao26 co26 (c ++ [i]) u2 l' b r1 e1 w0 _ HX1.out HY1.out HX2.out HY2.out ?pl ?cp HS.out.start HREC.out).mono ?_
        (case pl => exact Kd.C_kept_own HObD.out (fun k_ hk_ h_ => h_.elim (fun e_ => by have := HS.out.st.2; have := LK.out; omega) (fun e_ => by have := LO.out k_ e_; omega)))
        (case cp => exact (Kd.R_reads' HObD.out).2.1)
        rintro en w27 ⟨v306, rfl, hR⟩
        refine ⟨_, rfl, ?_⟩; have HR := Ak hR; have HSC := HS; have n1_ := Zq265; have n2_ := Zq259; clear HS BK BX HObD hR; have BK := n1_; have BX := n2_; clear n1_ n2_; refine hK.out _ _ ⟨(blk_cell BX.out 0).trans rfl, (blk_cell BX.out 1).trans rfl, (blk_cell BX.out 2).trans rfl⟩ (fun hHeld => ?_); clear hK K; refine norm_ (a' := ?_) ?_ ?_
        rotate_left
        ·show Act.put _ (some 70) _ = _
         simp only [Sx]
         rfl
        refine pure_ (i := 9) (N := some 61) (v := ?_) (a' := ?_) #[true, true, true, true, true, true, true, true, true, true, false, false, false, false] rfl rfl (any_of HT_.out Zq2) (fun _ _ _ h => h) (Or.inl ⟨Zq3, ?_⟩) ?_ ?_
        rotate_left
        ·intro w'
         go_simp
         with_reducible rfl
        rotate_left
        ·simp only [Sx]
         rfl
        refine pure_ (i := 10) (N := some 71) (v := ?_) (a' := ?_) #[true, true, true, true, true, true, true, true, true, true, true, false, false, false] rfl rfl (any_of HT_.out Zq2) (fun _ _ _ h => h) (Or.inl ⟨Zq3, ?_⟩) ?_ ?_
        rotate_left
        ·intro w'
         go_simp
         with_reducible rfl
        rotate_left
        ·simp only [Sx]
         rfl
        refine pure_ (i := 11) (N := some 72) (v := ?_) (a' := ?_) #[true, true, true, true, true, true, true, true, true, true, true, true, false, false] rfl rfl (any_of HT_.out Zq2) (fun _ _ _ h => h) (Or.inl ⟨Zq3, ?_⟩) ?_ ?_
        rotate_left
        ·intro w'
         go_simp
         with_reducible rfl
        rotate_left
        ·simp only [Sx]
         rfl
        refine pure_ (i := 12) (N := some 2) (v := ?_) (a' := ?_) #[true, true, true, true, true, true, true, true, true, true, true, true, true, false] rfl rfl (any_of HT_.out Zq2) (fun _ _ _ h => h) (Or.inl ⟨Zq3, ?_⟩) ?_ ?_
        rotate_left
        ·intro w'
         go_simp
         with_reducible rfl
        rotate_left
        ·simp only [Sx]
         rfl
        refine pure_ (i := 13) (N := some 12) (v := ?_) (a' := ?_) #[true, true, true, true, true, true, true, true, true, true, true, true, true, true] rfl rfl (any_of HT_.out Zq2) (fun _ _ _ h => h) (Or.inl ⟨Zq3, ?_⟩) ?_ ?_
        rotate_left
        ·intro w'
         go_simp
         with_reducible rfl
        rotate_left
        ·simp only [Sx]
         rfl
        refine done_ (done_of HT_.out Zq2) ?_; clear hHeld HT_ HW_
        by_cases z : e1 = 0
        ·subst z; have H' := Ak (show handle_of.l0 k1 pl r1 lk (lk.length : Int) (wrap64 (i + 1)) = some (r, e) from HN.out); clear HN
         try go_wp2
         go_roundg k1
         case measure => have := HK1.out; omega
         case rel => exact ⟨r1, (wrap64 (i + 1)), Zq7, H', ⟨Zq27⟩, ⟨HR.out.next HSC.out rfl⟩, BK⟩
        ·have HN2 := HN.out; rw [if_neg z] at HN2; simp only [Option.some.injEq, Prod.mk.injEq] at HN2; obtain ⟨rfl, rfl⟩ := HN2; have zb : (e1 == 0) = false := beq_eq_false_iff_ne.mpr z; have zc : (e1 != 0) = true := bne_iff_ne.mpr z; have Z := Ak z; clear HN z
         go_wp2
         go_ret2
         exact ⟨_, rfl, HR.out.fail HSC.out Z.out⟩
       ·rw [if_neg c11] at H
        cases H
      ·rw [if_neg c8] at H
       cases H
     ·rw [if_neg c7] at H; have c7b0 : decide (i < (lk.length : Int)) = false := decide_eq_false c7; clear c7; simp only [Option.some.injEq, Prod.mk.injEq] at H; obtain ⟨rfl, rfl⟩ := H
      go_wp2
      go_ret2
      exact ⟨_, rfl, HS.out.fine⟩
  | true =>
   rw [if_pos rfl] at H
   by_cases d1 : x1 < 1
   ·rw [if_pos d1] at H; have d1b : decide (x1 < 1) = true := decide_eq_true d1; simp only [Option.some.injEq, Prod.mk.injEq] at H; obtain ⟨rfl, rfl⟩ := H; clear d1
    go_enter Try.func94, Try.ntmps94
    go_wp2_with (first | ((with_reducible refine gate_dst (N := 4) rfl ?_); refine box_event ?hg (N := 4) ?hd (cs := #[.string nm, .slice A1 lp.length c1, .slice A2 lk.length c2]) (t := 27) ?hr ?_; (case hd | hg => rfl); (case hr => first | (go_simp; done) | (go_simp; rfl)); intro g0 hg w3 hbox hb; have n0_ := Ak (HS.out.below hb); have BK := Ak hbox; have GE := Zq197; clear HS; have HS := n0_; clear n0_ hb hbox hg; have hc0 := (blk_cell BK.out 0).trans rfl; have hc1 := (blk_cell BK.out 1).trans rfl; have hc2 := (blk_cell BK.out 2).trans rfl; have hz0 := blk_frozen BK.out 0; have hz1 := blk_frozen BK.out 1; have hz2 := blk_frozen BK.out 2) | (go_at_call 56; refine (QO.out _ HS.out.bel).mono ?_; rintro en w4 ⟨rfl, hb⟩; have n0_ := Ak (HS.out.below hb); have n1_ := Zq181; clear HS BK hc0 hc1 hc2 hz0 hz1 hz2; have HS := n0_; have BK := n1_; clear n0_ n1_ hb; have hc0 := (blk_cell BK.out 0).trans rfl; have hc1 := (blk_cell BK.out 1).trans rfl; have hc2 := (blk_cell BK.out 2).trans rfl; have hz0 := blk_frozen BK.out 0; have hz1 := blk_frozen BK.out 1; have hz2 := blk_frozen BK.out 2))
    go_ret2
    exact ⟨_, rfl, HS.out.err Zq4⟩
   rw [if_neg d1] at H; have d1b : decide (x1 < 1) = false := decide_eq_false d1
   by_cases d2 : 4294967294 < x1
   ·rw [if_pos d2] at H; have d2b : decide (4294967294 < x1) = true := decide_eq_true d2; simp only [Option.some.injEq, Prod.mk.injEq] at H; obtain ⟨rfl, rfl⟩ := H; clear d1 d2
    go_enter Try.func94, Try.ntmps94
    go_wp2_with (first | ((with_reducible refine gate_dst (N := 4) rfl ?_); refine box_event ?hg (N := 4) ?hd (cs := #[.string nm, .slice A1 lp.length c1, .slice A2 lk.length c2]) (t := 27) ?hr ?_; (case hd | hg => rfl); (case hr => first | (go_simp; done) | (go_simp; rfl)); intro g0 hg w3 hbox hb; have n0_ := Ak (HS.out.below hb); have BK := Ak hbox; have GE := Zq197; clear HS; have HS := n0_; clear n0_ hb hbox hg; have hc0 := (blk_cell BK.out 0).trans rfl; have hc1 := (blk_cell BK.out 1).trans rfl; have hc2 := (blk_cell BK.out 2).trans rfl; have hz0 := blk_frozen BK.out 0; have hz1 := blk_frozen BK.out 1; have hz2 := blk_frozen BK.out 2) | (go_at_call 56; refine (QO.out _ HS.out.bel).mono ?_; rintro en w4 ⟨rfl, hb⟩; have n0_ := Ak (HS.out.below hb); have n1_ := Zq181; clear HS BK hc0 hc1 hc2 hz0 hz1 hz2; have HS := n0_; have BK := n1_; clear n0_ n1_ hb; have hc0 := (blk_cell BK.out 0).trans rfl; have hc1 := (blk_cell BK.out 1).trans rfl; have hc2 := (blk_cell BK.out 2).trans rfl; have hz0 := blk_frozen BK.out 0; have hz1 := blk_frozen BK.out 1; have hz2 := blk_frozen BK.out 2))
    go_ret2
    exact ⟨_, rfl, HS.out.err Zq4⟩
   rw [if_neg d2] at H; have d2b : decide (4294967294 < x1) = false := decide_eq_false d2
   have hwf : (Lit.int .u32 x1).wf = true := by simp [Lit.wf, IntKind.min, IntKind.max, IntKind.signed, IntKind.bits]; omega
   clear d1 d2
   by_cases d4 : x1 ∈ l.map (·.f0)
   ·rw [if_pos d4] at H; have d4b : decide (x1 ∈ l.map (·.f0)) = true := decide_eq_true d4; simp only [Option.some.injEq, Prod.mk.injEq] at H; obtain ⟨rfl, rfl⟩ := H; have QL := Ak (fun W (h : MapH W b (l.map (·.f0))) => d4b ▸ h.look x1 hwf); clear d4 d4b hwf
    go_enter Try.func94, Try.ntmps94
    go_wp2_with (first | ((with_reducible refine gate_dst (N := 4) rfl ?_); refine box_event ?hg (N := 4) ?hd (cs := #[.string nm, .slice A1 lp.length c1, .slice A2 lk.length c2]) (t := 27) ?hr ?_; (case hd | hg => rfl); (case hr => first | (go_simp; done) | (go_simp; rfl)); intro g0 hg w3 hbox hb; have n0_ := Ak (HS.out.below hb); have BK := Ak hbox; have GE := Zq197; clear HS; have HS := n0_; clear n0_ hb hbox hg; have hc0 := (blk_cell BK.out 0).trans rfl; have hc1 := (blk_cell BK.out 1).trans rfl; have hc2 := (blk_cell BK.out 2).trans rfl; have hz0 := blk_frozen BK.out 0; have hz1 := blk_frozen BK.out 1; have hz2 := blk_frozen BK.out 2) | (go_at_call 56; refine (QO.out _ HS.out.bel).mono ?_; rintro en w4 ⟨rfl, hb⟩; have n0_ := Ak (HS.out.below hb); have n1_ := Zq181; clear HS BK hc0 hc1 hc2 hz0 hz1 hz2; have HS := n0_; have BK := n1_; clear n0_ n1_ hb; have hc0 := (blk_cell BK.out 0).trans rfl; have hc1 := (blk_cell BK.out 1).trans rfl; have hc2 := (blk_cell BK.out 2).trans rfl; have hz0 := blk_frozen BK.out 0; have hz1 := blk_frozen BK.out 1; have hz2 := blk_frozen BK.out 2; have ql := QL.out _ HS.out.map))
    go_ret2
    exact ⟨_, rfl, HS.out.err Zq4⟩
   rw [if_neg d4] at H; have d4b : decide (x1 ∈ l.map (·.f0)) = false := decide_eq_false d4; have QL := Ak (fun W (h : MapH W b (l.map (·.f0))) => d4b ▸ h.look x1 hwf); have HWF := Ak hwf; clear d4 d4b hwf; obtain ⟨c, hcl, H⟩ := Option.bind_eq_some_iff.mp H
   by_cases d5 : l.length + 1 < 4294967296
   ·rw [if_pos d5] at H; have LMl := Ak d5; have HCL := Ak hcl; have H' := Ak H; clear H d5 hcl
    go_enter Try.func94, Try.ntmps94
    go_wp2_with (first | ((with_reducible refine gate_dst (N := 4) rfl ?_); refine box_event ?hg (N := 4) ?hd (cs := #[.string nm, .slice A1 lp.length c1, .slice A2 lk.length c2]) (t := 27) ?hr ?_; (case hd | hg => rfl); (case hr => first | (go_simp; done) | (go_simp; rfl)); intro g0 hg w3 hbox hb; have n0_ := Ak (HS.out.below hb); have BK := Ak hbox; have GE := Zq197; clear HS; have HS := n0_; clear n0_ hb hbox hg; have hc0 := (blk_cell BK.out 0).trans rfl; have hc1 := (blk_cell BK.out 1).trans rfl; have hc2 := (blk_cell BK.out 2).trans rfl; have hz0 := blk_frozen BK.out 0; have hz1 := blk_frozen BK.out 1; have hz2 := blk_frozen BK.out 2) | (go_at_call 56; refine (QO.out _ HS.out.bel).mono ?_; rintro en w4 ⟨rfl, hb⟩; have n0_ := Ak (HS.out.below hb); have n1_ := Zq181; clear HS BK hc0 hc1 hc2 hz0 hz1 hz2; have HS := n0_; have BK := n1_; clear n0_ n1_ hb; have hc0 := (blk_cell BK.out 0).trans rfl; have hc1 := (blk_cell BK.out 1).trans rfl; have hc2 := (blk_cell BK.out 2).trans rfl; have hz0 := blk_frozen BK.out 0; have hz1 := blk_frozen BK.out 1; have hz2 := blk_frozen BK.out 2; have ql := QL.out _ HS.out.map) | (at_mapUpdate; refine wpList_mapH _ rfl _ _ _ rfl b (l.map (·.f0)) rfl HS.out.map (by rw [List.length_map]; have := LMl.out; unfold maxLen; omega) x1 rfl HWF.out rfl ?_; intro w5 hm hg; have n0_ := Ak (HS.out.put hm hg); have n1_ := Ak (blk_grown BK.out hg (fun e_ => by injection e_ with e_; have := GE.out; have := HS.out.st.2; omega)); clear HS BK hc0 hc1 hc2 hz0 hz1 hz2 ql; have HS := n0_; have BK := n1_; clear n0_ n1_ hm hg) | (go_at_call 30; refine (slices_Clone_int_int.calls Ap cp pl c _ (HPL.out _ HS.out.kept) HCP.out HCL.out).mono ?_; rintro en w6 ⟨vc, rfl, ho, hb⟩; have n0_ := Ak (HS.out.old.below hb); have n1_ := Zq181; have HO := Ak (Kd.R_lower (Kd.R_mono (ok' := fun k_ => w5.heap.size ≤ k_) (Kd.R_bound ho) (fun k_ hk_ => hk_.2.1)) HS.out.bel.size); have HQ := Ak (show b < w5.heap.size ∧ ∀ k_, vl.ownBlock = some k_ → k_ < w5.heap.size from ⟨HS.out.map.lt, Kd.S_lt HS.out.own⟩); clear HS BK; have HS := n0_; have BK := n1_; clear n0_ n1_ hb ho; obtain ⟨Ao, co, eo⟩ := Kd.R_slice HO.out; subst eo) | ((with_reducible refine gate_builtin (b := .append) (xs := #[.tmp 46, .tmp 51]) rfl ?_); at_builtin; refine Kd.S_append k137 (w0 := w0) w0.heap.size rfl (.tmp 46) (.tmp 51) 133 137 (.agg #[(.int .u32 0), (.slice none 0 0)]) 32 rfl Try.underlying133 info137 rfl Zq4 Zq1 vl l (⟨x1, c⟩ : S137) [.int .u32 x1, .slice Ao c.length co] (fun k_ => k_ ≠ b) (fun k_ => w5.heap.size ≤ k_) rfl rfl ?aP ?aK ?aF ?aO HS.out.bel HS.out.bel.size ?aL ?_; (case aP => exact k137_mkM _ _ _ (⟨x1, c⟩ : S137) HO.out); (case aK => exact fun k_ hk_ => ⟨by have := HQ.out.1; omega, fun e_ => by have := HQ.out.2 k_ e_.symm; omega⟩); (case aF => exact fun k_ hk_ => by have := HS.out.map.lt; omega); (case aO => exact Kd.S_mono HS.out.own (fun k_ hk_ => ⟨hk_.1, by have := hk_.2; omega⟩)); (case aL => have := LMl.out; omega); intro v7 w7 ho hb hg hat; have n0_ := Ak (HS.out.appended ho (fun _ h => h) hb hg hat); have n1_ := Ak (blk_grown BK.out hg (Kd.S_ne HS.out.own BK.out Zq4)); clear HS BK; have HS : Aside0 (OfS (fun k_ => k_ ≠ b) w0 w w7 b vl v7 (l ++ [(⟨x1, c⟩ : S137)]) ((l ++ [(⟨x1, c⟩ : S137)]).map (·.f0))) := ⟨by rw [List.map_append]; exact n0_.out⟩; have BK := n1_; clear n0_ n1_ ho hb hg hat; have hc0 := (blk_cell BK.out 0).trans rfl; have hc1 := (blk_cell BK.out 1).trans rfl; have hc2 := (blk_cell BK.out 2).trans rfl; have hz0 := blk_frozen BK.out 0; have hz1 := blk_frozen BK.out 1; have hz2 := blk_frozen BK.out 2))
    go_loopg [2, 56] k (fun kq v2 v56 w' => ∃ (l' : List S137) (i : Int), v56 = .int .i64 i ∧ Aside0 (handle_of.l0 kq pl l' lk (lk.length : Int) i = some (r, e)) ∧ Aside0 (kq ≤ k) ∧ Aside0 (OfS (fun k_ => k_ ≠ b) w0 w w' b vl v2 l' (l'.map (·.f0))) ∧ Aside0 (w'.heap[g0]? = some (.cells #[.string nm, .slice A1 lp.length c1, .slice A2 lk.length c2] 27 (0, 0))))
    case atStart => exact ⟨_, 0, Zq7, H', ⟨Nat.le_refl _⟩, HS, BK⟩
    case round =>
     clear H' HS BK
     (try clear hc0); (try clear hc1); (try clear hc2); (try clear hz0); (try clear hz1); (try clear hz2)
     obtain ⟨l', i, rfl, HA, HK1, HS, BK⟩ := hrel
     cases gk with
     | zero => exact absurd HA.out (by simp [handle_of.l0])
     | succ k1 =>
      have H := HA.out; clear HA; simp only [handle_of.l0] at H
      by_cases c7 : i < (lk.length : Int)
      ·rw [if_pos c7] at H; have c7b0 : decide (i < (lk.length : Int)) = true := decide_eq_true c7
       by_cases c8 : 0 ≤ i
       ·rw [if_pos c8, if_pos c7] at H; have c8b0 : decide (0 ≤ i) = true := decide_eq_true c8; obtain ⟨c, hcl, H⟩ := Option.bind_eq_some_iff.mp H
        by_cases c11 : c.length + 1 < 17592186044416
        ·rw [if_pos c11] at H; obtain ⟨⟨r1, e1⟩, hrec, H⟩ := Option.bind_eq_some_iff.mp H; have HCL := Ak hcl; have HREC := Ak hrec; have LM := Ak c11
         have HN : Aside0 ((if e1 = 0 then handle_of.l0 k1 pl r1 lk (lk.length : Int) (wrap64 (i + 1)) else some ([], e1)) = some (r, e)) := ⟨H⟩
         clear hcl hrec c11 H; obtain ⟨adx, Ax1, cx1, Ax2, cx2, ex, hx0, hx1, hx2, hl1, hi1, hl2, hi2⟩ := at_T27 HR2.out i c8 c7
         cases ex
         replace hx0 := (HS.out.bel.cell (World.block_lt_of_cell? w0 _ hx0)).trans hx0; replace hx1 := (HS.out.bel.cell (World.block_lt_of_cell? w0 _ hx1)).trans hx1; replace hx2 := (HS.out.bel.cell (World.block_lt_of_cell? w0 _ hx2)).trans hx2; have HX1 := Ak hi1; have HY1 := Ak hl1; have HX2 := Ak hi2; have HY2 := Ak hl2; clear hi1 hl1 hi2 hl2
         obtain ⟨xn, hxn⟩ : ∃ x_, x_ = rd_T27 lk i := ⟨_, rfl⟩
         rw [← hxn] at HREC HX1 HX2 HY1 HY2 hx0 hx1 hx2; clear hxn; have p294 := eq_true c8; have q294 := eq_true c7; clear c7 c8
         go_wp2_with ((with_reducible refine gate_dst (N := 14) rfl ?_); refine box_event ?hg (N := 14) ?hd (cs := #[.string (⟨#[]⟩ : ByteArray), .slice none 0 0, .slice none 0 0]) (t := 27) ?hr ?_; (case hd | hg => rfl); (case hr => first | (go_simp; done) | (go_simp; rfl)); intro g1 hg w14 hbox hb; have n0_ := Ak (HS.out.old.below hb); have n1_ := Zq181; have GB := Zq264; have BX := Ak hbox; have LK := Ak (HS.out.kept.1); have LO := Ak (Kd.S_lt HS.out.own); clear HS BK; have HS := n0_; have BK := n1_; clear n0_ n1_ hb hbox hg; have hy0 := (blk_cell BX.out 0).trans rfl; have hy1 := (blk_cell BX.out 1).trans rfl; have hy2 := (blk_cell BX.out 2).trans rfl; have hyz0 := blk_frozen BX.out 0; have hyz1 := blk_frozen BX.out 1; have hyz2 := blk_frozen BX.out 2)
         clear hx0 hx1 hx2 hy0 hy1 hy2 hyz0 hyz1 hyz2 c7b0 c8b0 p294 q294
         have n0_ : Aside0 (OfS (fun k_ => k_ ≠ b ∧ k_ < wr.heap.size) w0 w (((w14.setCell ⟨g1, 0, none⟩ (.string xn.f0)).setCell ⟨g1, 1, none⟩ (.slice Ax1 xn.f1.length cx1)).setCell ⟨g1, 2, none⟩ (.slice Ax2 xn.f2.length cx2)) b vl _ l' (l'.map (·.f0))) := ⟨((HS.out.grown (grown_set _ g1 0 _) (fun k_ hk_ => by injection hk_ with hk_; have := GB.out.1; omega) (fun k_ ho_ _ e_ => by injection e_ with e_; have := GB.out.2.2; have := ho_.2; omega)).grown (grown_set _ g1 1 _) (fun k_ hk_ => by injection hk_ with hk_; have := GB.out.1; omega) (fun k_ ho_ _ e_ => by injection e_ with e_; have := GB.out.2.2; have := ho_.2; omega)).grown (grown_set _ g1 2 _) (fun k_ hk_ => by injection hk_ with hk_; have := GB.out.1; omega) (fun k_ ho_ _ e_ => by injection e_ with e_; have := GB.out.2.2; have := ho_.2; omega)⟩
         have n1_ : Aside0 ((((w14.setCell ⟨g1, 0, none⟩ (.string xn.f0)).setCell ⟨g1, 1, none⟩ (.slice Ax1 xn.f1.length cx1)).setCell ⟨g1, 2, none⟩ (.slice Ax2 xn.f2.length cx2)).heap[g0]? = some (.cells #[.string nm, .slice A1 lp.length c1, .slice (some adx) lk.length c2] 27 (0, 0))) := ⟨blk_far (blk_far (blk_far BK.out GB.out.2.1 _) GB.out.2.1 _) GB.out.2.1 _⟩
         have n2_ : Aside0 ((((w14.setCell ⟨g1, 0, none⟩ (.string xn.f0)).setCell ⟨g1, 1, none⟩ (.slice Ax1 xn.f1.length cx1)).setCell ⟨g1, 2, none⟩ (.slice Ax2 xn.f2.length cx2)).heap[g1]? = some (.cells #[.string xn.f0, .slice Ax1 xn.f1.length cx1, .slice Ax2 xn.f2.length cx2] 27 (0, 0))) := ⟨blk_put (cs := #[.string xn.f0, .slice Ax1 xn.f1.length cx1, .slice none 0 0]) Zq263 2 _ rfl⟩
         clear HS BK BX; generalize (((w14.setCell ⟨g1, 0, none⟩ (.string xn.f0)).setCell ⟨g1, 1, none⟩ (.slice Ax1 xn.f1.length cx1)).setCell ⟨g1, 2, none⟩ (.slice Ax2 xn.f2.length cx2)) = w18 at n0_ n1_ n2_ ⊢; have HS := Ak (n0_.out.below (below_drew1 (Below.refl _ _))); have BK := Ak (blk_drew n1_.out); have BX := Ak (blk_drew n2_.out); clear n0_ n1_ n2_; refine start_ (n := 14) (S := fun w' => w'.cell? ⟨g1, 0, none⟩ = some (.string xn.f0) ∧ w'.cell? ⟨g1, 1, none⟩ = some (.slice Ax1 xn.f1.length cx1) ∧ w'.cell? ⟨g1, 2, none⟩ = some (.slice Ax2 xn.f2.length cx2)) (ds := []) #[false, false, false, false, false, false, false, false, false, false, false, false, false, false] Zq2 rfl rfl ⟨(blk_cell BX.out 0).trans rfl, (blk_cell BX.out 1).trans rfl, (blk_cell BX.out 2).trans rfl⟩ (fun hHeld => ?_); refine with_tabW handle_of.tab14 handle_of.bits14 (fun HT_ HW_ => ?_); generalize w18.drew = w19 at HS BK BX hHeld ⊢; refine pure_ (i := 1) (N := some 63) (v := ?_) (a' := ?_) #[false, true, false, false, false, false, false, false, false, false, false, false, false, false] rfl rfl (any_of HT_.out Zq2) (fun _ _ _ h => h) (Or.inl ⟨Zq3, ?_⟩) ?_ ?_
         rotate_left
         ·intro w'
          go_simp
          with_reducible rfl
         rotate_left
         ·simp only [Sx]
          rfl
         refine pure_ (i := 3) (N := some 65) (v := ?_) (a' := ?_) #[false, true, false, true, false, false, false, false, false, false, false, false, false, false] rfl rfl (any_of HT_.out Zq2) (fun _ _ _ h => h) (Or.inl ⟨Zq3, ?_⟩) ?_ ?_
         rotate_left
         ·intro w'
          go_simp
          with_reducible rfl
         rotate_left
         ·simp only [Sx]
          rfl
         refine pure_ (i := 6) (N := some 68) (v := ?_) (a' := ?_) #[false, true, false, true, false, false, true, false, false, false, false, false, false, false] rfl rfl (any_of HT_.out Zq2) (fun _ _ _ h => h) (Or.inl ⟨Zq3, ?_⟩) ?_ ?_
         rotate_left
         ·intro w'
          go_simp
          with_reducible rfl
         rotate_left
         ·simp only [Sx]
          rfl
         refine pure_ (i := 7) (N := some 69) (v := ?_) (a' := ?_) #[false, true, false, true, false, false, true, true, false, false, false, false, false, false] rfl rfl (any_of HT_.out Zq2) (fun _ _ _ h => h) (Or.inl ⟨Zq3, ?_⟩) ?_ ?_
         rotate_left
         ·intro w'
          go_simp
          with_reducible rfl
         rotate_left
         ·simp only [Sx]
          rfl
         refine take_ (i := 0) (N := some 62) (v := ?_) (a' := ?_) #[true, true, false, true, false, false, true, true, false, false, false, false, false, false] rfl rfl (take_ofW HT_.out HW_.out Zq2) (fun _ _ _ h => h) (Or.inl ⟨Zq3, ?_⟩) hHeld ?_ ?_
         rotate_left
         ·rintro w' ⟨s0, s1, s2⟩
          go_simp
          with_reducible rfl
         rotate_left
         ·simp only [Sx]
          rfl
         refine join_ (σ := Value × Value) 7 #[true, true, true, true, true, false, true, true, false, false, false, false, false, false] (fun s_ => [(64, s_.1), (66, s_.2)]) (fun s_ w' => (w'.cell? ⟨g1, 0, none⟩ = some (.string xn.f0) ∧ w'.cell? ⟨g1, 1, none⟩ = some (.slice Ax1 xn.f1.length cx1) ∧ w'.cell? ⟨g1, 2, none⟩ = some (.slice Ax2 xn.f2.length cx2)) ∧ OfS (fun k_ => k_ ≠ b ∧ k_ < wr.heap.size) w0 w w' b vl u2 l' (l'.map (·.f0)) ∧ w'.heap[g0]? = some (.cells #[.string nm, .slice A1 lp.length c1, .slice (some adx) lk.length c2] 27 (0, 0)) ∧ w'.heap[g1]? = some (.cells #[.string xn.f0, .slice Ax1 xn.f1.length cx1, .slice Ax2 xn.f2.length cx2] 27 (0, 0)) ∧ Kd.R (Kd.int .i64) 3 w' w0.heap.size (fun k_ => wr.heap.size ≤ k_) s_.1 c ∧ Kd.R (Kd.int .i64) 3 w' w0.heap.size (fun k_ => wr.heap.size ≤ k_) s_.2 [i]) ?_ ?_
         rotate_left
         ·intro hCont; refine two_ (i := 2) (j := 4) (Ni := some 64) (Nj := some 66) #[true, true, true, true, false, false, true, true, false, false, false, false, false, false] #[true, true, false, true, true, false, true, true, false, false, false, false, false, false] rfl rfl rfl rfl (two_of HT_.out Zq2) Zq4 Zq4 (fun K hK => ?_) (fun K hK => ?_)
          ·skip
           refine goes_ Try.func30 Zq2 rfl #[.slice Ap pl.length cp] Zq3 rfl rfl Zq82 ?_; with_reducible refine (slices_Clone_int_int.calls Ap cp pl c _ (HPL.out _ HS.out.kept) HCP.out HCL.out).mono ?_
           rintro en w20 ⟨v297, rfl, ho, hb⟩
           refine ⟨_, rfl, ?_⟩; have n0_ := Ak (HS.out.below hb); have n1_ := Zq181; have n2_ := Zq234; have HObN := Zq160; clear HS BK BX; have HS := n0_; have BK := n1_; have BX := n2_; clear n0_ n1_ n2_ hb ho; refine hK.out _ _ ⟨(blk_cell BX.out 0).trans rfl, (blk_cell BX.out 1).trans rfl, (blk_cell BX.out 2).trans rfl⟩ (fun hHeld => ?_); clear hK K; refine norm_ (a' := ?_) ?_ ?_
           rotate_left
           ·show Act.put _ (some 64) _ = _
            simp only [Sx]
            rfl
           refine one_ (i := 4) (N := some 66) #[true, true, true, true, true, false, true, true, false, false, false, false, false, false] rfl rfl (one_of HT_.out Zq2) Zq4 (fun K hK => ?_); refine Kd.R_lit_step (Kd.int .i64) _ 3 ?hg (N := 66) ?hd (xs := ([i] : List Int)) (inner := [.int .i64 i]) (ok := fun _ => True) (okp := fun _ => True) ?hr ?hp (fun _ hk => hk) trivial (Below.refl _ _) (Nat.le_refl _) Zq10 ?_; (case hd | hg => rfl); (case hr => first | (go_simp; done) | (go_simp; rfl)); (case hp => exact (Reps.one (show Kd.M (Kd.int .i64) _ _ _ i [.int .i64 i] from rfl) (Reps.none _ _))); intro v300 w21 ho hb hg_ hnew_; clear hg_ hnew_; have n0_ := Ak (HS.out.below hb); have n1_ := Zq181; have n2_ := Zq234; have HObU := Zq159; have n3_ := Ak (Kd.R_below HObN.out hb); clear HS BK BX HObN; have HS := n0_; have BK := n1_; have BX := n2_; have HObN := n3_; clear n0_ n1_ n2_ n3_ hb ho; refine hK.out _ _ ⟨(blk_cell BX.out 0).trans rfl, (blk_cell BX.out 1).trans rfl, (blk_cell BX.out 2).trans rfl⟩ (fun hHeld => ?_); clear hK K; refine norm_ (a' := ?_) ?_ ?_
           rotate_left
           ·show Act.put _ (some 66) _ = _
            simp only [Sx]
            rfl
           exact norm_ Zq60 (hCont (v297, v300) _ ⟨hHeld, HS.out, BK.out, BX.out, HObN.out, HObU.out⟩)
          ·skip
           refine Kd.R_lit_step (Kd.int .i64) _ 3 ?hg (N := 66) ?hd (xs := ([i] : List Int)) (inner := [.int .i64 i]) (ok := fun _ => True) (okp := fun _ => True) ?hr ?hp (fun _ hk => hk) trivial (Below.refl _ _) (Nat.le_refl _) Zq10 ?_; (case hd | hg => rfl); (case hr => first | (go_simp; done) | (go_simp; rfl)); (case hp => exact (Reps.one (show Kd.M (Kd.int .i64) _ _ _ i [.int .i64 i] from rfl) (Reps.none _ _))); intro v300 w21 ho hb hg_ hnew_; clear hg_ hnew_; have n0_ := Ak (HS.out.below hb); have n1_ := Zq181; have n2_ := Zq234; have HObU := Zq159; clear HS BK BX; have HS := n0_; have BK := n1_; have BX := n2_; clear n0_ n1_ n2_ hb ho; refine hK.out _ _ ⟨(blk_cell BX.out 0).trans rfl, (blk_cell BX.out 1).trans rfl, (blk_cell BX.out 2).trans rfl⟩ (fun hHeld => ?_); clear hK K; refine norm_ (a' := ?_) ?_ ?_
           rotate_left
           ·show Act.put _ (some 66) _ = _
            simp only [Sx]
            rfl
           refine one_ (i := 2) (N := some 64) #[true, true, true, true, true, false, true, true, false, false, false, false, false, false] rfl rfl (one_of HT_.out Zq2) Zq4 (fun K hK => ?_); refine goes_ Try.func30 Zq2 rfl #[.slice Ap pl.length cp] Zq3 rfl rfl Zq82 ?_; with_reducible refine (slices_Clone_int_int.calls Ap cp pl c _ (HPL.out _ HS.out.kept) HCP.out HCL.out).mono ?_
           rintro en w20 ⟨v297, rfl, ho, hb⟩
           refine ⟨_, rfl, ?_⟩; have n0_ := Ak (HS.out.below hb); have n1_ := Zq181; have n2_ := Zq234; have HObN := Zq160; have n3_ := Ak (Kd.R_below HObU.out hb); clear HS BK BX HObU; have HS := n0_; have BK := n1_; have BX := n2_; have HObU := n3_; clear n0_ n1_ n2_ n3_ hb ho; refine hK.out _ _ ⟨(blk_cell BX.out 0).trans rfl, (blk_cell BX.out 1).trans rfl, (blk_cell BX.out 2).trans rfl⟩ (fun hHeld => ?_); clear hK K; refine norm_ (a' := ?_) ?_ ?_
           rotate_left
           ·show Act.put _ (some 64) _ = _
            simp only [Sx]
            rfl
           exact norm_ Zq60 (hCont (v297, v300) _ ⟨hHeld, HS.out, BK.out, BX.out, HObN.out, HObU.out⟩)
         clear HS BK BX hHeld
         rintro ⟨v297, v300⟩ w23 ⟨hHeld, h0_, h1_, h2_, h3_, h4_⟩
         have HS := Ak h0_; have BK := Ak h1_; have BX := Ak h2_; have HObN := Ak h3_; have HObU := Ak h4_; clear h0_ h1_ h2_ h3_ h4_; simp only at HObN HObU; obtain ⟨Ao25, co25, eo25⟩ := Kd.R_slice HObU.out; subst eo25; refine norm_ (a' := ?_) ?_ ?_
         rotate_left
         ·simp only [putAll, Act.put, List.setIfInBounds_toArray, List.set_cons_zero, List.set_cons_succ]
          rfl
         refine one_ (i := 5) (N := some 67) #[true, true, true, true, true, true, true, true, false, false, false, false, false, false] rfl rfl (one_of HT_.out Zq2) Zq4 (fun K hK => ?_); refine Kd.R_append_rows_step (Kd.int .i64) (w0 := w0) w0.heap.size Zq3 (.tmp 64) (.tmp 66) 30 3 (.int .i64 0) 8 rfl Try.underlying30 info3 rfl Zq4 Zq1 v297 c [i] _ _ _ (fun k_ => wr.heap.size ≤ k_) (fun _ => False) rfl rfl HObN.out (Kd.R_reads' HObU.out).2.2 (fun _ _ h => h) (fun _ h => h.elim) (fun k_ hk_ => Nat.le_trans (Nat.le_trans GB.out.2.2 (Nat.le_of_lt (blk_lt BX.out))) hk_) HS.out.bel HS.out.bel.size ?aL ?_
         (case aL => have := LM.out; simp only [List.length_cons, List.length_nil]; omega)
         intro v303 w24 ho hb hg hat; have n0_ := Zq274; have n1_ := Ak (blk_grown BK.out hg (Kd.R_ne HObN.out BK.out Zq4)); have n2_ := Ak (blk_grown BX.out hg (Kd.R_ne HObN.out BX.out Zq4)); have HObD := Ak ho; clear HS BK BX HObN HObU; have HS := n0_; have BK := n1_; have BX := n2_; clear n0_ n1_ n2_ ho hb hg hat; obtain ⟨Ao26, co26, eo26⟩ := Kd.R_slice HObD.out; subst eo26; refine hK.out _ _ ⟨(blk_cell BX.out 0).trans rfl, (blk_cell BX.out 1).trans rfl, (blk_cell BX.out 2).trans rfl⟩ (fun hHeld => ?_); clear hK K; refine norm_ (a' := ?_) ?_ ?_
         rotate_left
         ·show Act.put _ (some 67) _ = _
          simp only [Sx]
          rfl
         refine one_ (i := 8) (N := some 70) #[true, true, true, true, true, true, true, true, true, false, false, false, false, false] rfl rfl (one_of HT_.out Zq2) Zq4 (fun K hK => ?_); refine goes_ Try.func94 Zq2 rfl #[.agg #[.string xn.f0, .slice Ax1 xn.f1.length cx1, .slice Ax2 xn.f2.length cx2], .slice Ao26 (c ++ [i]).length co26, u2, .map (some b)] Zq3 rfl rfl Zq82 ?_; with_reducible refine (ih k1 Zq27 xn.f0 Ax1 cx1 xn.f1 Ax2 cx2 xn.f2 Ao26 co26 (c ++ [i]) u2 l' b r1 e1 w0 _ HX1.out HY1.out HX2.out HY2.out ?pl ?cp HS.out.start HREC.out).mono ?_
         (case pl => exact Kd.C_kept_own HObD.out (fun k_ hk_ h_ => h_.elim (fun e_ => by have := HS.out.st.2; have := LK.out; omega) (fun e_ => by have := LO.out k_ e_; omega)))
         (case cp => exact (Kd.R_reads' HObD.out).2.1)
         rintro en w27 ⟨v306, rfl, hR⟩
         refine ⟨_, rfl, ?_⟩; have HR := Ak hR; have HSC := HS; have n1_ := Zq265; have n2_ := Zq259; clear HS BK BX HObD hR; have BK := n1_; have BX := n2_; clear n1_ n2_; refine hK.out _ _ ⟨(blk_cell BX.out 0).trans rfl, (blk_cell BX.out 1).trans rfl, (blk_cell BX.out 2).trans rfl⟩ (fun hHeld => ?_); clear hK K; refine norm_ (a' := ?_) ?_ ?_
         rotate_left
         ·show Act.put _ (some 70) _ = _
          simp only [Sx]
          rfl
         refine pure_ (i := 9) (N := some 61) (v := ?_) (a' := ?_) #[true, true, true, true, true, true, true, true, true, true, false, false, false, false] rfl rfl (any_of HT_.out Zq2) (fun _ _ _ h => h) (Or.inl ⟨Zq3, ?_⟩) ?_ ?_
         rotate_left
         ·intro w'
          go_simp
          with_reducible rfl
         rotate_left
         ·simp only [Sx]
          rfl
         refine pure_ (i := 10) (N := some 71) (v := ?_) (a' := ?_) #[true, true, true, true, true, true, true, true, true, true, true, false, false, false] rfl rfl (any_of HT_.out Zq2) (fun _ _ _ h => h) (Or.inl ⟨Zq3, ?_⟩) ?_ ?_
         rotate_left
         ·intro w'
          go_simp
          with_reducible rfl
         rotate_left
         ·simp only [Sx]
          rfl
         refine pure_ (i := 11) (N := some 72) (v := ?_) (a' := ?_) #[true, true, true, true, true, true, true, true, true, true, true, true, false, false] rfl rfl (any_of HT_.out Zq2) (fun _ _ _ h => h) (Or.inl ⟨Zq3, ?_⟩) ?_ ?_
         rotate_left
         ·intro w'
          go_simp
          with_reducible rfl
         rotate_left
         ·simp only [Sx]
          rfl
         refine pure_ (i := 12) (N := some 2) (v := ?_) (a' := ?_) #[true, true, true, true, true, true, true, true, true, true, true, true, true, false] rfl rfl (any_of HT_.out Zq2) (fun _ _ _ h => h) (Or.inl ⟨Zq3, ?_⟩) ?_ ?_
         rotate_left
         ·intro w'
          go_simp
          with_reducible rfl
         rotate_left
         ·simp only [Sx]
          rfl
         refine pure_ (i := 13) (N := some 12) (v := ?_) (a' := ?_) #[true, true, true, true, true, true, true, true, true, true, true, true, true, true] rfl rfl (any_of HT_.out Zq2) (fun _ _ _ h => h) (Or.inl ⟨Zq3, ?_⟩) ?_ ?_
         rotate_left
         ·intro w'
          go_simp
          with_reducible rfl
         rotate_left
         ·simp only [Sx]
          rfl
         refine done_ (done_of HT_.out Zq2) ?_; clear hHeld HT_ HW_
         by_cases z : e1 = 0
         ·subst z; have H' := Ak (show handle_of.l0 k1 pl r1 lk (lk.length : Int) (wrap64 (i + 1)) = some (r, e) from HN.out); clear HN
          try go_wp2
          go_roundg k1
          case measure => have := HK1.out; omega
          case rel => exact ⟨r1, (wrap64 (i + 1)), Zq7, H', ⟨Zq27⟩, ⟨HR.out.next HSC.out rfl⟩, BK⟩
         ·have HN2 := HN.out; rw [if_neg z] at HN2; simp only [Option.some.injEq, Prod.mk.injEq] at HN2; obtain ⟨rfl, rfl⟩ := HN2; have zb : (e1 == 0) = false := beq_eq_false_iff_ne.mpr z; have zc : (e1 != 0) = true := bne_iff_ne.mpr z; have Z := Ak z; clear HN z
          go_wp2
          go_ret2
          exact ⟨_, rfl, HR.out.fail HSC.out Z.out⟩
        ·rw [if_neg c11] at H
         cases H
       ·rw [if_neg c8] at H
        cases H
      ·rw [if_neg c7] at H; have c7b0 : decide (i < (lk.length : Int)) = false := decide_eq_false c7; clear c7; simp only [Option.some.injEq, Prod.mk.injEq] at H; obtain ⟨rfl, rfl⟩ := H
       go_wp2
       go_ret2
       exact ⟨_, rfl, HS.out.fine⟩
   ·rw [if_neg d5] at H
    cases H
 ·rw [if_neg d3] at H; simp only [Option.some.injEq, Prod.mk.injEq] at H; obtain ⟨rfl, rfl⟩ := H; have d3b : (x3 == 0) = false := beq_eq_false_iff_ne.mpr d3; have d3c : (x3 != 0) = true := bne_iff_ne.mpr d3; have D3 := Ak d3; clear d3
  go_enter Try.func94, Try.ntmps94
  go_wp2_with (first | ((with_reducible refine gate_dst (N := 4) rfl ?_); refine box_event ?hg (N := 4) ?hd (cs := #[.string nm, .slice A1 lp.length c1, .slice A2 lk.length c2]) (t := 27) ?hr ?_; (case hd | hg => rfl); (case hr => first | (go_simp; done) | (go_simp; rfl)); intro g0 hg w3 hbox hb; have n0_ := Ak (HS.out.below hb); have BK := Ak hbox; have GE := Zq197; clear HS; have HS := n0_; clear n0_ hb hbox hg; have hc0 := (blk_cell BK.out 0).trans rfl; have hc1 := (blk_cell BK.out 1).trans rfl; have hc2 := (blk_cell BK.out 2).trans rfl; have hz0 := blk_frozen BK.out 0; have hz1 := blk_frozen BK.out 1; have hz2 := blk_frozen BK.out 2) | (go_at_call 56; refine (QO.out _ HS.out.bel).mono ?_; rintro en w4 ⟨rfl, hb⟩; have n0_ := Ak (HS.out.below hb); have n1_ := Zq181; clear HS BK hc0 hc1 hc2 hz0 hz1 hz2; have HS := n0_; have BK := n1_; clear n0_ n1_ hb; have hc0 := (blk_cell BK.out 0).trans rfl; have hc1 := (blk_cell BK.out 1).trans rfl; have hc2 := (blk_cell BK.out 2).trans rfl; have hz0 := blk_frozen BK.out 0; have hz1 := blk_frozen BK.out 1; have hz2 := blk_frozen BK.out 2))
  go_ret2
  exact ⟨_, rfl, HS.out.err D3.out⟩
def handle_Index.f (k : Nat) (a0_0 : Int) (l0_1 : List (S82)) (a0_2 : ByteArray) (l0_3 : List (S63)) (l0_4 : List (S27)) : Option (List S137 × Int) := handle_of.f k a0_2 l0_3 l0_4 [] []
set_option maxRecDepth 100000 in
theorem handle_Index.calls (k : Nat) (a0_0 : Int) (A0_1 : Option Addr) (c0_1 : Nat) (l0_1 : List (S82)) (a0_2 : ByteArray) (A0_3 : Option Addr) (c0_3 : Nat) (l0_3 : List (S63)) (A0_4 : Option Addr) (c0_4 : Nat) (l0_4 : List (S27)) (r1 : List S137) (r2 : Int) (w : World) (hr0_1 : Kd.C k82 w A0_1 l0_1.length l0_1) (hc0_1 : l0_1.length ≤ c0_1) (hr0_3 : Kd.C k63 w A0_3 l0_3.length l0_3) (hc0_3 : l0_3.length ≤ c0_3) (hr0_4 : Kd.C k27 w A0_4 l0_4.length l0_4) (hc0_4 : l0_4.length ≤ c0_4) (h : handle_Index.f k a0_0 l0_1 a0_2 l0_3 l0_4 = some (r1, r2)) :
  Calls Try.prog 78 #[.agg #[.int .u32 a0_0, .slice A0_1 l0_1.length c0_1, .string a0_2, .slice A0_3 l0_3.length c0_3, .slice A0_4 l0_4.length c0_4]] w fun e w' => ∃ v0_ : Value, e = .returned (.tuple #[v0_, .int .i64 r2]) ∧ Kd.S k137 137 w' w.heap.size (fun _ => True) v0_ r1 ∧ Below w.heap.size w w' := by
 have hu27 := Try.underlying27; have hu29 := Try.underlying29; have hmm := @run_makeMap Try.prog; have QO := Ak (fun (w3 : World) (hb : Below w.heap.size w w3) => handle_of.calls k a0_2 A0_3 c0_3 l0_3 A0_4 c0_4 l0_4 none 0 [] (.slice none 0 0) [] w3.heap.size r1 r2 w (w3.alloc (.map #[] 0)) hr0_3 hc0_3 hr0_4 hc0_4 (fun W' _ => Kd.C_nil _ _) (Nat.le_refl 0) ⟨⟨hb.size, (MapH.made w3).lt⟩, below_alloc hb _, Kept.refl _ _, Kd.S_nil _ _ _ _ _, fun _ h => h, fun k_ hk_ => (by simp [Value.ownBlock] at hk_), MapH.made w3⟩ h); clear hr0_1 hc0_1 hr0_3 hc0_3 hr0_4 hc0_4 h
 go_enter Try.func78, Try.ntmps78
 go_wp2_with (first | ((with_reducible refine gate_dst (N := 1) rfl ?_); refine box_event ?hg (N := 1) ?hd (cs := #[.int .u32 a0_0, .slice A0_1 l0_1.length c0_1, .string a0_2, .slice A0_3 l0_3.length c0_3, .slice A0_4 l0_4.length c0_4]) (t := 29) ?hr ?_; (case hd | hg => rfl); (case hr => first | (go_simp; done) | (go_simp; rfl)); intro g0 hg w3 hbox hb; have HB := Ak hb; have hc2 := (blk_cell hbox 2).trans rfl; have hc3 := (blk_cell hbox 3).trans rfl; have hc4 := (blk_cell hbox 4).trans rfl; clear hb hbox hg) | (go_at_call 94; refine (QO.out w3 HB.out).mono ?_; rintro en w5 ⟨v, rfl, hR⟩; have HR := Ak hR; clear hR))
 go_ret2
 exact ⟨_, rfl, Kd.S_mono HR.out.own (fun _ _ => trivial), HR.out.bel⟩
def handle_Find.l0 : Nat → Int → List (S137) → Int → Int → Option (List Int × Int)
 | 0, _, _, _, _ => none
 | k + 1, x1, x18, x19, x20 => if x20 < x19 then (if 0 ≤ x20 then (if x20 < (x18.length : Int) then (if ((rd_T137 x18 x20).f0) = x1 then (some ((rd_T137 x18 x20).f1, 0)) else (handle_Find.l0 k x1 x18 x19 (wrap64 (x20 + 1)))) else (none)) else (none)) else (some (([] : List Int), 11))
def handle_Find.f (k : Nat) (a0_0 : Int) (l0_1 : List (S82)) (a0_2 : ByteArray) (l0_3 : List (S63)) (l0_4 : List (S27)) (a1 : Int) : Option (List Int × Int) := (handle_Index.f k a0_0 l0_1 a0_2 l0_3 l0_4).bind fun btbf => (if btbf.2 = 0 then (handle_Find.l0 k a1 btbf.1 (btbf.1.length : Int) 0) else (some (([] : List Int), btbf.2)))
end Go.Proofs.Ytkopmkinlanhoaa.PB
