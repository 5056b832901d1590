/- XlateParts: texts of this session's, and what the kit's print laid for this seat, as far as the law's row uses them (Dict, Shelf, PXx0, PXx0, PXx0, PXx0). -/
import Derived.Shelf.Small.Strs
import Derived.Shelf.Strings.Search1
import Derived.Shelf.Strings.Search2
import Derived.Shelf.Strings.Cut
import Derived.Shelf.LaysM
import Derived.Shelf.Strings.Shaped
import Derived.Test.YteejaaeglfpcmabProg
import Derived.WalkSpells
import Derived.Test.YteejaaeglfpcmabRows
import Derived.ChangeArms
import Derived.DataReads
import Derived.Deep.Slices
import Derived.Lib.EndianBits
import Derived.Lib.PathFns
import Derived.ProofKit
import Derived.OpenShut
import Derived.ShutString
import Derived.ChangeOld
import Derived.JoinedCond
import Derived.Deep.CondSized
import Derived.Test.YteejaaeglfpcmabZXlateParts0
set_option linter.unusedVariables false
set_option linter.unusedSimpArgs false
namespace Go.Proofs
variable {p : Prop}
theorem Ak (h : p) : @YteejaaeglfpcmabW.PrintWords.Aside0 p := ⟨h⟩
theorem Sx : (∀ (a : Act) (v : Value) (d : Tmp), a.put (some d) v = { tmps := a.tmps.setIfInBounds d v, defers := a.defers }) ∧ (∀ (a : Act) (v : Value), a.put none v = a) ∧ (∀ (l : List Value) (i : Nat) (a : Value), l.toArray.setIfInBounds i a = (l.set i a).toArray) ∧ (∀ {x : Value} {xs : List Value} {i : Nat} {a : Value}, (x :: xs).set (i + 1) a = x :: xs.set i a) ∧ (∀ {x : Value} {xs : List Value} {a : Value}, (x :: xs).set 0 a = a :: xs) ∧ (∀ n : Int, IntKind.i64.wrap n = Go.RowKit.wrap64 n) ∧ (∀ n : Int, IntKind.i32.wrap n = Go.RowKit.wrap32 n) := ⟨fun _ _ _ => rfl, fun _ _ => rfl, List.setIfInBounds_toArray, List.set_cons_succ, List.set_cons_zero, YteejaaeglfpcmabW.PrintLast.i64_w, YteejaaeglfpcmabW.PrintLast.i32_w⟩
theorem Zq1 (h : p := by omega) : p := h
theorem Zq2 (h : p := by kernel_rfl) : p := h
theorem Zq3 (h : p := by rfl) : p := h
theorem Zq4 (h : p := by first | (with_reducible assumption) | assumption) : p := h
theorem Zq5 (h : p := by repeat (first | (with_reducible first | exact HB.out | apply below_alloc | apply pw_below_drewN | apply below_drew1) | exact HB.out)) : p := h
theorem Zq6 (h : p := by first | rfl | (simp; done) | (simp [*]; done)) : p := h
theorem Zq7 (h : p := by decide) : p := h
theorem Zq8 (h : p := by simp) : p := h
theorem Zq9 (h : p := by (try simp only [List.map_toArray, List.map_cons, List.map_nil]); first | done | rfl | (simp only [List.length_drop, List.length_take]; rfl)) : p := h
theorem Zq10 (h : p := by first | rfl | (simp [errW_none, errW_some] <;> rfl) | (simp [*, errW_none, errW_some] <;> rfl)) : p := h
theorem Zq11 (h : p := by repeat (first | exact Drawn0.refl _ | apply Drawn0.step)) : p := h
theorem Zq12 (h : p := by (with_reducible repeat (first | refine blk_drewN ?_ _ | refine blk_drew ?_ | refine blk_alloc ?_ _)); exact BKac.out) : p := h
theorem Zq13 (h : p := by first | omega | exact Nat.le_refl _) : p := h
theorem Zq14 (h : p := by repeat (first | (with_reducible first | exact HB.out | apply below_alloc | apply pw_below_drewN | apply below_drew1 | refine below_set ?_ GEaG.out | refine below_set ?_ GEap.out) | exact HB.out)) : p := h
theorem Zq15 (h : p := by repeat (first | (with_reducible first | exact HB.out | apply below_alloc | apply pw_below_drewN | apply below_drew1 | refine below_set ?_ GEad.out) | exact HB.out)) : p := h
theorem Zq16 (h : p := by (with_reducible repeat (first | refine blk_drewN ?_ _ | refine blk_drew ?_ | refine blk_alloc ?_ _)); exact BKaG.out) : p := h
theorem Zq17 (h : p := by (with_reducible repeat (first | refine blk_drewN ?_ _ | refine blk_drew ?_ | refine blk_alloc ?_ _)); exact BKae.out) : p := h
theorem Zq18 (h : p := by repeat (first | (with_reducible first | exact HB.out | apply below_alloc | apply pw_below_drewN | apply below_drew1 | refine below_set ?_ GEab.out) | exact HB.out)) : p := h
theorem Zq19 (h : p := by repeat (first | (with_reducible first | exact HB.out | apply below_alloc | apply pw_below_drewN | apply below_drew1 | refine below_set ?_ GEae.out | refine below_set ?_ GEak.out) | exact HB.out)) : p := h
theorem Zq20 (h : p := by (with_reducible repeat (first | refine blk_drewN ?_ _ | refine blk_drew ?_ | refine blk_alloc ?_ _)); exact BKaf.out) : p := h
theorem Zq21 (h : p := by (with_reducible repeat (first | refine blk_drewN ?_ _ | refine blk_drew ?_ | refine blk_alloc ?_ _)); exact BKak.out) : p := h
theorem Zq22 (h : p := by (with_reducible repeat (first | refine blk_drewN ?_ _ | refine blk_drew ?_ | refine blk_alloc ?_ _)); exact BKad.out) : p := h
theorem Zq23 (h : p := by (with_reducible repeat (first | refine blk_drewN ?_ _ | refine blk_drew ?_ | refine blk_alloc ?_ _)); exact BKab.out) : p := h
theorem Zq24 (h : p := by (with_reducible repeat (first | refine blk_drewN ?_ _ | refine blk_drew ?_ | refine blk_alloc ?_ _)); exact BKaP.out) : p := h
theorem Zq25 (h : p := by repeat (first | (with_reducible first | exact HB.out | apply below_alloc | apply pw_below_drewN | apply below_drew1 | refine below_set ?_ GEbb.out | refine below_set ?_ GEaR.out) | exact HB.out)) : p := h
theorem Zq26 (h : p := by have := HK1.out; omega) : p := h
theorem Zq27 (h : p := by (with_reducible repeat (first | refine blk_drewN ?_ _ | refine blk_drew ?_ | refine blk_alloc ?_ _)); exact BKar.out) : p := h
theorem Zq28 (h : p := by repeat (first | (with_reducible first | exact HB.out | apply below_alloc | apply pw_below_drewN | apply below_drew1 | refine below_set ?_ GEaP.out | refine below_set ?_ GEaW.out) | exact HB.out)) : p := h
theorem Zq29 (h : p := by (with_reducible repeat (first | refine blk_drewN ?_ _ | refine blk_drew ?_ | refine blk_alloc ?_ _)); exact BKbb.out) : p := h
theorem Zq30 (h : p := by repeat (first | (with_reducible first | exact HB.out | apply below_alloc | apply pw_below_drewN | apply below_drew1 | refine below_set ?_ GEac.out | refine below_set ?_ GEaf.out) | exact HB.out)) : p := h
theorem Zq31 (h : p := by repeat (first | (with_reducible first | exact HB.out | apply below_alloc | apply pw_below_drewN | apply below_drew1 | refine below_set ?_ GEae.out | refine below_set ?_ GEak.out | refine below_set ?_ GEaa.out) | exact HB.out)) : p := h
theorem Zq32 (h : p := by first | exact Kd.R_nil _ _ _ _ _ | exact Kd.N_nil _ _ _ _ _ | exact Kd.V_nil _ _ _ _ _ | exact Kd.Q_nil _ _ _ _ _ | exact Kd.S_nil _ _ _ _ _) : p := h
theorem Zq33 (h : p := by (with_reducible repeat (first | refine blk_drewN ?_ _ | refine blk_drew ?_ | refine blk_alloc ?_ _)); exact BKap.out) : p := h
theorem Zq34 (h : p := by repeat (first | (with_reducible first | exact HB.out | apply below_alloc | apply pw_below_drewN | apply below_drew1 | refine below_set ?_ GEau.out) | exact HB.out)) : p := h
theorem Zq35 (h : p := by repeat (first | (with_reducible first | exact HB.out | apply below_alloc | apply pw_below_drewN | apply below_drew1 | refine below_set ?_ GEac.out | refine below_set ?_ GEaf.out | refine below_set ?_ GEaj.out) | exact HB.out)) : p := h
theorem Zq36 (h : p := by (with_reducible repeat (first | refine blk_drewN ?_ _ | refine blk_drew ?_ | refine blk_alloc ?_ _)); exact BKaA.out) : p := h
theorem Zq37 (h : p := by (with_reducible repeat (first | refine blk_drewN ?_ _ | refine blk_drew ?_ | refine blk_alloc ?_ _)); exact BKaW.out) : p := h
theorem Zq38 (h : p := by repeat (first | (with_reducible first | exact HB.out | apply below_alloc | apply pw_below_drewN | apply below_drew1 | refine below_set ?_ GEae.out) | exact HB.out)) : p := h
theorem Zq39 (h : p := by (with_reducible repeat (first | apply Kd.S_alloc | apply Kd.S_drewN | apply Kd.S_drew)); exact HO_aL.out) : p := h
theorem Zq40 (h : p := by rw [e_]; exact GWac.out) : p := h
theorem Zq41 (h : p := by repeat (first | (with_reducible first | exact HB.out | apply below_alloc | apply pw_below_drewN | apply below_drew1 | refine below_set ?_ GEax.out) | exact HB.out)) : p := h
theorem Zq42 (h : p := by (with_reducible repeat (first | refine blk_drewN ?_ _ | refine blk_drew ?_ | refine blk_alloc ?_ _)); exact BKam.out) : p := h
theorem Zq43 (h : p := by repeat (first | (with_reducible first | exact HB.out | apply below_alloc | apply pw_below_drewN | apply below_drew1 | refine below_set ?_ GEal.out) | exact HB.out)) : p := h
theorem Zq44 (h : p := by (with_reducible repeat (first | refine blk_drewN ?_ _ | refine blk_drew ?_ | refine blk_alloc ?_ _)); exact BKaR.out) : p := h
theorem Zq45 (h : p := by repeat (first | (with_reducible first | exact HB.out | apply below_alloc | apply pw_below_drewN | apply below_drew1 | refine below_set ?_ GEac.out) | exact HB.out)) : p := h
theorem Zq46 (h : p := by repeat (first | (with_reducible first | exact HB.out | apply below_alloc | apply pw_below_drewN | apply below_drew1 | refine below_set ?_ GEaT.out) | exact HB.out)) : p := h
theorem Zq47 (h : p := by repeat (first | (with_reducible first | exact HB.out | apply below_alloc | apply pw_below_drewN | apply below_drew1 | refine below_set ?_ GEaG.out) | exact HB.out)) : p := h
theorem Zq48 (h : p := by (with_reducible repeat (first | apply Kd.R_alloc | apply Kd.R_drewN | apply Kd.R_drew)); exact HO_aM.out) : p := h
theorem Zq49 (h : p := by rw [e_]; exact GWaf.out) : p := h
theorem Zq50 (h : p := by (with_reducible repeat (first | refine blk_drewN ?_ _ | refine blk_drew ?_ | refine blk_alloc ?_ _)); exact BKau.out) : p := h
theorem Zq51 (h : p := by repeat (first | (with_reducible first | exact HB.out | apply below_alloc | apply pw_below_drewN | apply below_drew1 | refine below_set ?_ GEaI.out | refine below_set ?_ GEaQ.out) | exact HB.out)) : p := h
theorem Zq52 (h : p := by (with_reducible repeat (first | refine blk_drewN ?_ _ | refine blk_drew ?_ | refine blk_alloc ?_ _)); exact BKaj.out) : p := h
theorem Zq53 (h : p := by (with_reducible repeat (first | refine blk_drewN ?_ _ | refine blk_drew ?_ | refine blk_alloc ?_ _)); exact BKba.out) : p := h
theorem Zq54 (h : p := by repeat (first | (with_reducible first | exact HB.out | apply below_alloc | apply pw_below_drewN | apply below_drew1 | refine below_set ?_ GEba.out | refine below_set ?_ GEaC.out | refine below_set ?_ GEaz.out) | exact HB.out)) : p := h
theorem Zq55 (h : p := by repeat (first | (with_reducible first | exact HB.out | apply below_alloc | apply pw_below_drewN | apply below_drew1 | refine below_set ?_ GEaH.out) | exact HB.out)) : p := h
theorem Zq56 (h : p := by repeat (first | (with_reducible first | exact HB.out | apply below_alloc | apply pw_below_drewN | apply below_drew1 | refine below_set ?_ GEar.out | refine below_set ?_ GEaA.out | refine below_set ?_ GEam.out) | exact HB.out)) : p := h
theorem Zq57 (h : p := by (with_reducible repeat (first | apply Kd.S_alloc | apply Kd.S_drewN | apply Kd.S_drew)); exact HO_aS.out) : p := h
theorem Zq58 (h : p := by have := HJ4.out; have := HK2.out; have := HK3.out; have := HK4.out; have := HK5.out; omega) : p := h
theorem Zq59 (h : p := by (with_reducible repeat (first | refine blk_drewN ?_ _ | refine blk_drew ?_ | refine blk_alloc ?_ _)); exact BKal.out) : p := h
theorem Zq60 (h : p := by (with_reducible repeat (first | apply Kd.V_alloc | apply Kd.V_drewN | apply Kd.V_drew)); exact HO0_3.out) : p := h
theorem Zq61 (h : p := by (with_reducible repeat (first | apply Kd.V_alloc | apply Kd.V_drewN | apply Kd.V_drew)); exact HO0_4.out) : p := h
theorem Zq62 (h : p := by repeat (first | (with_reducible first | exact HB.out | apply below_alloc | apply pw_below_drewN | apply below_drew1 | refine below_set ?_ GEbq.out) | exact HB.out)) : p := h
theorem Zq63 (h : p := by repeat (first | (with_reducible first | exact HB.out | apply below_alloc | apply pw_below_drewN | apply below_drew1 | refine below_set ?_ GEaO.out) | exact HB.out)) : p := h
theorem Zq64 (h : p := by (with_reducible repeat (first | apply Kd.R_alloc | apply Kd.R_drewN | apply Kd.R_drew)); exact HOco.out) : p := h
theorem Zq65 (h : p := by (with_reducible repeat (first | apply Kd.R_alloc | apply Kd.R_drewN | apply Kd.R_drew)); exact HO_16.out) : p := h
theorem Zq66 (h : p := by repeat (first | (with_reducible first | exact HB.out | apply below_alloc | apply pw_below_drewN | apply below_drew1 | refine below_set ?_ GEaP.out | refine below_set ?_ GEaW.out | refine below_set ?_ GEav.out) | exact HB.out)) : p := h
theorem Zq67 (h : p := by simp only [putAll, Act.put, List.setIfInBounds_toArray, List.set_cons_zero, List.set_cons_succ]) : p := h
theorem Zq68 (h : p := by (with_reducible repeat (first | refine blk_drewN ?_ _ | refine blk_drew ?_ | refine blk_alloc ?_ _)); exact BKaa.out) : p := h
theorem Zq69 (h : p := by repeat (first | (with_reducible first | exact HB.out | apply below_alloc | apply pw_below_drewN | apply below_drew1 | refine below_set ?_ GEar.out | refine below_set ?_ GEaA.out | refine below_set ?_ GEam.out | refine below_set ?_ GEaB.out) | exact HB.out)) : p := h
theorem Zq70 (h : p := by have := HK1.out; have := HK2.out; omega) : p := h
theorem Zq71 (h : p := by (with_reducible repeat (first | refine blk_drewN ?_ _ | refine blk_drew ?_ | refine blk_alloc ?_ _)); exact BKbq.out) : p := h
theorem Zq72 (h : p := by (with_reducible repeat (first | refine blk_drewN ?_ _ | refine blk_drew ?_ | refine blk_alloc ?_ _)); exact BKaH.out) : p := h
theorem Zq73 (h : p := by (with_reducible repeat (first | refine blk_drewN ?_ _ | refine blk_drew ?_ | refine blk_alloc ?_ _)); exact BKax.out) : p := h
theorem Zq74 (h : p := by (with_reducible repeat (first | apply Kd.V_alloc | apply Kd.V_drewN | apply Kd.V_drew)); exact HObv.out) : p := h
theorem Zq75 (h : p := by (with_reducible repeat (first | apply Kd.V_alloc | apply Kd.V_drewN | apply Kd.V_drew)); exact HObw.out) : p := h
theorem Zq76 (h : p := by repeat (first | (with_reducible first | exact HB.out | apply below_alloc | apply pw_below_drewN | apply below_drew1 | refine below_set ?_ GEar.out | refine below_set ?_ GEaA.out | refine below_set ?_ GEam.out | refine below_set ?_ GEaN.out) | exact HB.out)) : p := h
theorem Zq77 (h : p := by repeat (first | (with_reducible first | exact HB.out | apply below_alloc | apply pw_below_drewN | apply below_drew1 | refine below_set ?_ GEba.out) | exact HB.out)) : p := h
theorem Zq78 (h : p := by repeat (first | (with_reducible first | exact HB.out | apply below_alloc | apply pw_below_drewN | apply below_drew1 | refine below_set ?_ GEbJ.out) | exact HB.out)) : p := h
theorem Zq79 (h : p := by (with_reducible repeat (first | apply Kd.Q_alloc | apply Kd.Q_drewN | apply Kd.Q_drew)); exact HO_14.out) : p := h
theorem Zq80 (h : p := by repeat (first | (with_reducible first | exact HB.out | apply below_alloc | apply pw_below_drewN | apply below_drew1 | refine below_set ?_ GEaP.out) | exact HB.out)) : p := h
theorem Zq81 (h : p := by repeat (first | (with_reducible first | exact HB.out | apply below_alloc | apply pw_below_drewN | apply below_drew1 | refine below_set ?_ GEaY.out) | exact HB.out)) : p := h
theorem Zq82 (h : p := by repeat (first | (with_reducible first | exact HB.out | apply below_alloc | apply pw_below_drewN | apply below_drew1 | refine below_set ?_ GEbK.out) | exact HB.out)) : p := h
theorem Zq83 (h : p := by repeat (first | (with_reducible first | exact HB.out | apply below_alloc | apply pw_below_drewN | apply below_drew1 | refine below_set ?_ GEbc.out) | exact HB.out)) : p := h
theorem Zq84 (h : p := by repeat (first | (with_reducible first | exact HB.out | apply below_alloc | apply pw_below_drewN | apply below_drew1 | refine below_set ?_ GEbb.out) | exact HB.out)) : p := h
theorem Zq85 (h : p := by (with_reducible repeat (first | refine blk_drewN ?_ _ | refine blk_drew ?_ | refine blk_alloc ?_ _)); exact BKaV.out) : p := h
theorem Zq86 (h : p := by (with_reducible repeat (first | refine blk_drewN ?_ _ | refine blk_drew ?_ | refine blk_alloc ?_ _)); exact BKaC.out) : p := h
theorem Zq87 (h : p := by repeat (first | (with_reducible first | exact HB.out | apply below_alloc | apply pw_below_drewN | apply below_drew1 | refine below_set ?_ GEbq.out | refine below_set ?_ GEbx.out) | exact HB.out)) : p := h
theorem Zq88 (h : p := by (with_reducible repeat (first | refine blk_drewN ?_ _ | refine blk_drew ?_ | refine blk_alloc ?_ _)); exact BKaO.out) : p := h
theorem Zq89 (h : p := by (with_reducible repeat (first | refine blk_drewN ?_ _ | refine blk_drew ?_ | refine blk_alloc ?_ _)); exact BKaY.out) : p := h
theorem Zq90 (h : p := by repeat (first | (with_reducible first | exact HB.out | apply below_alloc | apply pw_below_drewN | apply below_drew1 | refine below_set ?_ GEaV.out | refine below_set ?_ GEaF.out | refine below_set ?_ GEaq.out) | exact HB.out)) : p := h
theorem Zq91 (h : p := by (with_reducible repeat (first | refine blk_drewN ?_ _ | refine blk_drew ?_ | refine blk_alloc ?_ _)); exact BKaI.out) : p := h
theorem Zq92 (h : p := by (with_reducible repeat (first | apply Kd.R_alloc | apply Kd.R_drewN | apply Kd.R_drew)); exact HO_10.out) : p := h
theorem Zq93 (h : p := by (with_reducible repeat (first | apply Kd.V_alloc | apply Kd.V_drewN | apply Kd.V_drew)); exact HO_cy.out) : p := h
theorem Zq94 (h : p := by (with_reducible repeat (first | apply Kd.V_alloc | apply Kd.V_drewN | apply Kd.V_drew)); exact HO_cz.out) : p := h
theorem Zq95 (h : p := by (with_reducible repeat (first | apply Kd.V_alloc | apply Kd.V_drewN | apply Kd.V_drew)); exact HO_cA.out) : p := h
theorem Zq96 (h : p := by (with_reducible repeat (first | apply Kd.V_alloc | apply Kd.V_drewN | apply Kd.V_drew)); exact HO_cB.out) : p := h
theorem Zq97 (h : p := by first | exact Kd.S_nil _ _ _ _ _ | exact Kd.N_nil _ _ _ _ _ | exact Kd.V_nil _ _ _ _ _ | exact Kd.Q_nil _ _ _ _ _ | exact Kd.R_nil _ _ _ _ _) : p := h
theorem Zq98 (h : p := by (with_reducible repeat (first | apply Kd.R_alloc | apply Kd.R_drewN | apply Kd.R_drew)); exact HO_bl.out) : p := h
theorem Zq99 (h : p := by (with_reducible repeat (first | refine blk_drewN ?_ _ | refine blk_drew ?_ | refine blk_alloc ?_ _)); exact BKaB.out) : p := h
theorem Zq100 (h : p := by repeat (first | (with_reducible first | exact HB.out | apply below_alloc | apply pw_below_drewN | apply below_drew1 | refine below_set ?_ GEba.out | refine below_set ?_ GEaC.out) | exact HB.out)) : p := h
theorem Zq101 (h : p := by (with_reducible repeat (first | refine blk_drewN ?_ _ | refine blk_drew ?_ | refine blk_alloc ?_ _)); exact BKaT.out) : p := h
theorem Zq102 (h : p := by (with_reducible repeat (first | apply Kd.R_alloc | apply Kd.R_drewN | apply Kd.R_drew)); exact HO_4.out) : p := h
theorem Zq103 (h : p := by (with_reducible repeat (first | apply Kd.R_alloc | apply Kd.R_drewN | apply Kd.R_drew)); exact HO_26.out) : p := h
theorem Zq104 (h : p := by (with_reducible repeat (first | apply Kd.R_alloc | apply Kd.R_drewN | apply Kd.R_drew)); exact (Kd.R_mono (Kd.R_far (p := ⟨gbav, 2, none⟩) (Kd.R_far (p := ⟨gbav, 1, none⟩) (Kd.R_far (p := ⟨gbav, 0, none⟩) (Kd.R_mono HO_26.out (fun k_ hk => (⟨hk, hk.2⟩ : _ ∧ k_ ≠ gbav))) (fun _ hk => hk.2) (.int .u64 ((rd_T46 taE x28_1).f0))) (fun _ hk => hk.2) (.int .u64 ((rd_T46 taE x28_1).f1))) (fun _ hk => hk.2) (.int .u64 ((rd_T46 taE x28_1).f2))) (fun _ h_ => h_.1))) : p := h
theorem Zq105 (h : p := by (with_reducible repeat (first | refine blk_drewN ?_ _ | refine blk_drew ?_ | refine blk_alloc ?_ _)); refine blk_far ?_ NB240_248.out _; (with_reducible repeat (first | refine blk_drewN ?_ _ | refine blk_drew ?_ | refine blk_alloc ?_ _)); refine blk_far ?_ NB240_248.out _; (with_reducible repeat (first | refine blk_drewN ?_ _ | refine blk_drew ?_ | refine blk_alloc ?_ _)); refine blk_far ?_ NB240_248.out _; (with_reducible repeat (first | refine blk_drewN ?_ _ | refine blk_drew ?_ | refine blk_alloc ?_ _)); exact BKaP.out) : p := h
theorem Zq106 (h : p := by (with_reducible repeat (first | refine blk_drewN ?_ _ | refine blk_drew ?_ | refine blk_alloc ?_ _)); refine blk_far ?_ NB241_248.out _; (with_reducible repeat (first | refine blk_drewN ?_ _ | refine blk_drew ?_ | refine blk_alloc ?_ _)); refine blk_far ?_ NB241_248.out _; (with_reducible repeat (first | refine blk_drewN ?_ _ | refine blk_drew ?_ | refine blk_alloc ?_ _)); refine blk_far ?_ NB241_248.out _; (with_reducible repeat (first | refine blk_drewN ?_ _ | refine blk_drew ?_ | refine blk_alloc ?_ _)); exact BKaW.out) : p := h
theorem Zq107 (h : p := by (with_reducible repeat (first | refine blk_drewN ?_ _ | refine blk_drew ?_ | refine blk_alloc ?_ _)); refine blk_put (cs := #[.int .u64 ((rd_T46 taE x28_1).f0), .int .u64 ((rd_T46 taE x28_1).f1), .int .u64 0]) ?_ 2 _ rfl; (with_reducible repeat (first | refine blk_drewN ?_ _ | refine blk_drew ?_ | refine blk_alloc ?_ _)); refine blk_put (cs := #[.int .u64 ((rd_T46 taE x28_1).f0), .int .u64 0, .int .u64 0]) ?_ 1 _ rfl; (with_reducible repeat (first | refine blk_drewN ?_ _ | refine blk_drew ?_ | refine blk_alloc ?_ _)); refine blk_put (cs := #[.int .u64 0, .int .u64 0, .int .u64 0]) ?_ 0 _ rfl; (with_reducible repeat (first | refine blk_drewN ?_ _ | refine blk_drew ?_ | refine blk_alloc ?_ _)); exact BKav.out) : p := h
theorem Zq108 (h : p := by (with_reducible repeat (first | apply Kd.S_alloc | apply Kd.S_drewN | apply Kd.S_drew)); exact Kd.S_mono HObG.out (fun _ hk => hk.2)) : p := h
theorem Zq109 (h : p := by (with_reducible repeat (first | apply Kd.R_alloc | apply Kd.R_drewN | apply Kd.R_drew)); exact Kd.R_mono HObH.out (fun _ hk => ⟨hk.1.1.1.1, ⟨hk.1.1.1.2, ⟨hk.1.1.2, ⟨hk.1.2, hk.2⟩⟩⟩⟩)) : p := h
theorem Zq110 (h : p := by (with_reducible repeat (first | apply Kd.S_alloc | apply Kd.S_drewN | apply Kd.S_drew)); exact Kd.S_mono HO_aL.out (fun _ hk => hk.2)) : p := h
theorem Zq111 (h : p := by repeat (first | (with_reducible first | exact HB.out | apply below_alloc | apply pw_below_drewN | apply below_drew1 | refine below_set ?_ GEaU.out) | exact HB.out)) : p := h
theorem Zq112 (h : p := by repeat (first | (with_reducible first | exact HB.out | apply below_alloc | apply pw_below_drewN | apply below_drew1 | refine below_set ?_ GEbo.out) | exact HB.out)) : p := h
theorem Zq113 (h : p := by (with_reducible repeat (first | refine blk_drewN ?_ _ | refine blk_drew ?_ | refine blk_alloc ?_ _)); exact BKbc.out) : p := h
theorem Zq114 (h : p := by (try simp only [List.map_toArray, List.map_cons, List.map_nil]); first | done | (rw [hlr52]; rfl) | (rw [hlr53]; rfl) | (rw [hlr54]; rfl) | rfl | (simp only [List.length_drop, List.length_take]; rfl)) : p := h
theorem Zq115 (h : p := by repeat (first | (with_reducible first | exact HB.out | apply below_alloc | apply pw_below_drewN | apply below_drew1 | refine below_set ?_ GEar.out | refine below_set ?_ GEaA.out) | exact HB.out)) : p := h
theorem Zq116 (h : p := by repeat (first | (with_reducible first | exact HB.out | apply below_alloc | apply pw_below_drewN | apply below_drew1 | refine below_set ?_ GEaV.out | refine below_set ?_ GEaF.out) | exact HB.out)) : p := h
theorem Zq117 (h : p := by (try simp only [List.map_toArray, List.map_cons, List.map_nil]); first | done | (rw [show (l1.take ((ji16) : Int).toNat).length = (ji16).toNat from (by rw [List.length_take]; have h_ : ((ji16) : Int) ≤ (l1.length : Int) := of_decide_eq_true Zq4; omega)] <;> rfl) | (simp only [hji16]; rfl) | rfl | (simp only [List.length_drop, List.length_take]; rfl)) : p := h
theorem Zq118 (h : p := by exact Aside0.mk (blk_below (g := gbab) (o := .cells #[.int .u32 a0_0, .slice A0_1 l0_1.length c0_1, .string a0_2, .slice A0_3 l0_3.length c0_3, .slice A0_4 l0_4.length c0_4] 35 (0, 0)) Zq23 hb)) : p := h
theorem Zq119 (h : p := by exact Aside0.mk (blk_below (g := gbae) (o := .cells #[.int .u32 a0_0, .slice A0_1 l0_1.length c0_1, .string a0_2, .slice A0_3 l0_3.length c0_3, .slice A0_4 l0_4.length c0_4] 35 (0, 0)) Zq17 hb)) : p := h
theorem Zq120 (h : p := by exact Aside0.mk (blk_below (g := gbaG) (o := .cells #[.string a0_0, .slice A0_1 l0_1.length c0_1, .slice A0_2 l0_2.length c0_2] 30 (0, 0)) Zq16 hb)) : p := h
theorem Zq121 (h : p := by exact blk_lt (g := gbae) (o := .cells #[.int .u32 a0_0, .slice A0_1 l0_1.length c0_1, .string a0_2, .slice A0_3 l0_3.length c0_3, .slice A0_4 l0_4.length c0_4] 35 (0, 0)) Zq17) : p := h
theorem Zq122 (h : p := by exact Aside0.mk (below_step Zq5 hb)) : p := h
theorem Zq123 (h : p := by exact Aside0.mk (blk_below (g := gbac) (o := .cells #[.int .u32 a0_0, .slice A0_1 l0_1.length c0_1, .string a0_2, .slice A0_3 l0_3.length c0_3, .slice A0_4 l0_4.length c0_4] 35 (0, 0)) Zq12 hb)) : p := h
theorem Zq124 (h : p := by exact Aside0.mk (blk_below (g := gbap) (o := .cells #[.string a1_0, .slice A1_1 l1_1.length c1_1, .slice A1_2 l1_2.length c1_2] 30 (0, 0)) Zq33 hb)) : p := h
theorem Zq125 (h : p := by exact blk_lt (g := gbaP) (o := .cells #[.string a0_0, .slice A0_1 l0_1.length c0_1, .slice A0_2 l0_2.length c0_2] 30 (0, 0)) Zq24) : p := h
theorem Zq126 (h : p := by exact Kd.C_below HR0_1.out HB.out) : p := h
theorem Zq127 (h : p := by exact Kd.freshB (g := gbac) (o := .cells #[.int .u32 a0_0, .slice A0_1 l0_1.length c0_1, .string a0_2, .slice A0_3 l0_3.length c0_3, .slice A0_4 l0_4.length c0_4] 35 (0, 0)) Zq12 k_ hn_) : p := h
theorem Zq128 (h : p := by exact blk_lt (g := gbac) (o := .cells #[.int .u32 a0_0, .slice A0_1 l0_1.length c0_1, .string a0_2, .slice A0_3 l0_3.length c0_3, .slice A0_4 l0_4.length c0_4] 35 (0, 0)) Zq12) : p := h
theorem Zq129 (h : p := by exact Aside0.mk (Below.refl w.heap.size w)) : p := h
theorem Zq130 (h : p := by exact Aside0.mk (blk_below (g := gbau) (o := .cells #[.int .u64 a0_0, .int .u64 a0_1] 67 (0, 0)) Zq50 hb)) : p := h
theorem Zq131 (h : p := by exact Aside0.mk (blk_below (g := gbaP) (o := .cells #[.string a0_0, .slice A0_1 l0_1.length c0_1, .slice A0_2 l0_2.length c0_2] 30 (0, 0)) Zq24 hb)) : p := h
theorem Zq132 (h : p := by exact blk_lt (g := gbaG) (o := .cells #[.string a0_0, .slice A0_1 l0_1.length c0_1, .slice A0_2 l0_2.length c0_2] 30 (0, 0)) Zq16) : p := h
theorem Zq133 (h : p := by exact blk_lt (g := gbaW) (o := .cells #[.string a1_0, .slice A1_1 l1_1.length c1_1, .slice A1_2 l1_2.length c1_2] 30 (0, 0)) Zq37) : p := h
theorem Zq134 (h : p := by exact blk_lt (g := gbba) (o := .cells #[.int .u32 a0_0, .slice A0_1 l0_1.length c0_1, .string a0_2, .slice A0_3 l0_3.length c0_3, .slice A0_4 l0_4.length c0_4] 35 (0, 0)) Zq53) : p := h
theorem Zq135 (h : p := by exact Aside0.mk (blk_below (g := gbbb) (o := .cells #[.string a0_0, .slice A0_1 l0_1.length c0_1, .slice A0_2 l0_2.length c0_2] 30 (0, 0)) Zq29 hb)) : p := h
theorem Zq136 (h : p := by exact Aside0.mk ((by rw [hg]; exact (below_size Zq5) : w.heap.size ≤ gbau))) : p := h
theorem Zq137 (h : p := by exact Aside0.mk ((by rw [hg]; exact (below_size Zq5) : w.heap.size ≤ gbad))) : p := h
theorem Zq138 (h : p := by exact Aside0.mk (blk_below (g := gbad) (o := .cells #[.string a0_0, .slice A0_1 l0_1.length c0_1, .slice (some adbt) l0_2.length c0_2] 30 (0, 0)) Zq22 hb)) : p := h
theorem Zq139 (h : p := by exact Aside0.mk (blk_below (g := gbak) (o := .cells #[.string xbE_1, u260001, u260002] 30 (0, 0)) Zq21 hb)) : p := h
theorem Zq140 (h : p := by exact Aside0.mk (blk_below (g := gbaW) (o := .cells #[.string a1_0, .slice A1_1 l1_1.length c1_1, .slice A1_2 l1_2.length c1_2] 30 (0, 0)) Zq37 hb)) : p := h
theorem Zq141 (h : p := by exact Aside0.mk (blk_below (g := gbaf) (o := .cells #[.string tbp, .slice Ao19 tbk.length co19, .slice Ao21 tbn.length co21] 30 (0, 0)) Zq20 hb)) : p := h
theorem Zq142 (h : p := by exact Kd.C_below HR0_2.out HB.out) : p := h
theorem Zq143 (h : p := by exact blk_lt (g := gbak) (o := .cells #[.string xbE_1, u260001, u260002] 30 (0, 0)) Zq21) : p := h
theorem Zq144 (h : p := by exact blk_lt (g := gbaA) (o := .cells #[.string (⟨#[]⟩ : ByteArray), .slice none 0 0, .slice none 0 0] 30 (0, 0)) Zq36) : p := h
theorem Zq145 (h : p := by exact Aside0.mk (blk_below (g := gbaO) (o := .cells #[.string a0_0, .slice A0_1 l0_1.length c0_1, .slice A0_2 l0_2.length c0_2] 30 (0, 0)) Zq88 hb)) : p := h
theorem Zq146 (h : p := by exact Aside0.mk (blk_below (g := gbba) (o := .cells #[.int .u32 a0_0, .slice A0_1 l0_1.length c0_1, .string a0_2, .slice A0_3 l0_3.length c0_3, .slice A0_4 l0_4.length c0_4] 35 (0, 0)) Zq53 hb)) : p := h
theorem Zq147 (h : p := by exact Aside0.mk (blk_below (g := gbav) (o := .cells #[.int .u64 ((rd_T46 taE x28_1).f0), .int .u64 ((rd_T46 taE x28_1).f1), .int .u64 ((rd_T46 taE x28_1).f2)] 46 (0, 0)) Zq107 hb)) : p := h
theorem Zq148 (h : p := by exact Aside0.mk (blk_below (g := gbaA) (o := .cells #[.string (⟨#[]⟩ : ByteArray), .slice none 0 0, .slice none 0 0] 30 (0, 0)) Zq36 hb)) : p := h
theorem Zq149 (h : p := by exact blk_lt (g := gbaV) (o := .cells #[.int .u32 a0_0, .slice A0_1 l0_1.length c0_1, .string a0_2, .slice A0_3 l0_3.length c0_3, .slice A0_4 l0_4.length c0_4] 35 (0, 0)) Zq85) : p := h
theorem Zq150 (h : p := by exact Aside0.mk ((by rw [hg]; exact (below_size Zq47) : w.heap.size ≤ gbap))) : p := h
theorem Zq151 (h : p := by exact Aside0.mk ((by rw [hg]; exact (below_size Zq28) : w.heap.size ≤ gbav))) : p := h
theorem Zq152 (h : p := by exact Aside0.mk ((by rw [hg]; exact (below_size Zq19) : w.heap.size ≤ gbaa))) : p := h
theorem Zq153 (h : p := by exact Aside0.mk ((by rw [hg]; exact (below_size Zq5) : w.heap.size ≤ gbaT))) : p := h
theorem Zq154 (h : p := by exact Aside0.mk ((by rw [hg]; exact (below_size Zq5) : w.heap.size ≤ gbaG))) : p := h
theorem Zq155 (h : p := by exact Aside0.mk ((by rw [hg]; exact (below_size Zq5) : w.heap.size ≤ gbax))) : p := h
theorem Zq156 (h : p := by exact Aside0.mk (below_step Zq18 hb)) : p := h
theorem Zq157 (h : p := by exact Kd.C_below HR0_3.out HB.out) : p := h
theorem Zq158 (h : p := by exact Kd.C_below HR0_4.out HB.out) : p := h
theorem Zq159 (h : p := by exact Aside0.mk (blk_below (g := gbaT) (o := .cells #[.string a0_0, .slice A0_1 l0_1.length c0_1, .slice A0_2 l0_2.length c0_2] 30 (0, 0)) Zq101 hb)) : p := h
theorem Zq160 (h : p := by exact Aside0.mk (blk_below (g := gbaP) (o := .cells #[.string a0_0, .slice A0_1 l0_1.length c0_1, .slice A0_2 l0_2.length c0_2] 30 (0, 0)) Zq105 hb)) : p := h
theorem Zq161 (h : p := by exact Aside0.mk (blk_below (g := gbaW) (o := .cells #[.string a1_0, .slice A1_1 l1_1.length c1_1, .slice A1_2 l1_2.length c1_2] 30 (0, 0)) Zq106 hb)) : p := h
theorem Zq162 (h : p := by exact Aside0.mk (blk_below (g := gbbc) (o := .cells #[.string a0_0, .slice A0_1 l0_1.length c0_1, .slice A0_2 l0_2.length c0_2] 30 (0, 0)) Zq113 hb)) : p := h
theorem Zq163 (h : p := by exact Aside0.mk (blk_below (g := gbax) (o := .cells #[.string a0_0, .slice A0_1 l0_1.length c0_1, .slice A0_2 l0_2.length c0_2] 30 (0, 0)) Zq73 hb)) : p := h
theorem Zq164 (h : p := by exact Aside0.mk (below_drew1 HB.out)) : p := h
theorem Zq165 (h : p := by exact Kd.freshB (g := gbaf) (o := .cells #[.string tbp, .slice Ao19 tbk.length co19, .slice Ao21 tbn.length co21] 30 (0, 0)) Zq20 k_ hn_) : p := h
theorem Zq166 (h : p := by exact blk_lt (g := gbbq) (o := .cells #[.string a0_0, .slice (some adbZ) l0_1.length c0_1, .slice A0_2 l0_2.length c0_2] 30 (0, 0)) Zq71) : p := h
theorem Zq167 (h : p := by exact Aside0.mk (Kd.R_lower (Kd.R_newB (Kd.R_newB (Kd.R_new' (Kd.R_new' (Kd.R_mono (ok' := fun k_ => some k_ ≠ (v263 : Value).ownBlock) ho1 (fun _ hk_ => hk_.2)) (Kd.S_lt Zq39)) (Kd.R_lt Zq48)) (g := gbak) (o := .cells #[.string xbE_1, u260001, u260002] 30 (0, 0)) Zq21) (g := gbaa) (o := .cells #[.string (⟨#[]⟩ : ByteArray), .slice none 0 0, .slice none 0 0] 30 (0, 0)) Zq68) (below_size Zq31))) : p := h
theorem Zq168 (h : p := by exact blk_lt (g := gbar) (o := .cells #[.string a0_0, .slice A0_1 l0_1.length c0_1, .slice A0_2 l0_2.length c0_2] 30 (0, 0)) Zq27) : p := h
theorem Zq169 (h : p := by exact blk_lt (g := gbbb) (o := .cells #[.string a0_0, .slice A0_1 l0_1.length c0_1, .slice A0_2 l0_2.length c0_2] 30 (0, 0)) Zq29) : p := h
theorem Zq170 (h : p := by exact blk_lt (g := gbaf) (o := .cells #[.string tbp, .slice Ao19 tbk.length co19, .slice Ao21 tbn.length co21] 30 (0, 0)) Zq20) : p := h
theorem Zq171 (h : p := by exact Aside0.mk (blk_below (g := gbal) (o := .cells #[.int .u32 a0_0, .slice A0_1 l0_1.length c0_1, .string a0_2, .slice A0_3 l0_3.length c0_3, .slice A0_4 l0_4.length c0_4] 35 (0, 0)) Zq59 hb)) : p := h
theorem Zq172 (h : p := by exact Aside0.mk ((by rw [hg]; exact (below_size Zq5) : w.heap.size ≤ gbaO))) : p := h
theorem Zq173 (h : p := by exact Aside0.mk ((by rw [hg]; exact (below_size Zq5) : w.heap.size ≤ gbaH))) : p := h
theorem Zq174 (h : p := by exact Aside0.mk ((by rw [hg]; exact (below_size Zq5) : w.heap.size ≤ gbaY))) : p := h
theorem Zq175 (h : p := by exact Aside0.mk (Kd.R_mono (Kd.R_told (Kd.R_told (Kd.R_old Zq48 hb) (Kd.S_base ho0)) (Kd.R_base ho1)) (fun _ h_ => h_.1))) : p := h
theorem Zq176 (h : p := by exact Kd.C_below HR1_1.out HB.out) : p := h
theorem Zq177 (h : p := by exact Kd.C_below HR1_2.out HB.out) : p := h
theorem Zq178 (h : p := by exact Aside0.mk (below_step Zq14 hb)) : p := h
theorem Zq179 (h : p := by exact Aside0.mk (below_step Zq34 hb)) : p := h
theorem Zq180 (h : p := by exact Aside0.mk (blk_below (g := gbaH) (o := .cells #[.string a0_0, .slice A0_1 l0_1.length c0_1, .slice (some adbQ) l0_2.length c0_2] 30 (0, 0)) Zq72 hb)) : p := h
theorem Zq181 (h : p := by exact Aside0.mk (blk_below (g := gbaY) (o := .cells #[.string a0_0, .slice A0_1 l0_1.length c0_1, .slice (some adbR) l0_2.length c0_2] 30 (0, 0)) Zq89 hb)) : p := h
theorem Zq182 (h : p := by exact Aside0.mk (blk_below (g := gbax) (o := .cells #[.string a0_0, .slice (some adbC) l0_1.length c0_1, .slice A0_2 l0_2.length c0_2] 30 (0, 0)) Zq73 hb)) : p := h
theorem Zq183 (h : p := by exact Aside0.mk (blk_below (g := gbaR) (o := .cells #[.string a1_0, .slice (some adbX) l1_1.length c1_1, .slice A1_2 l1_2.length c1_2] 30 (0, 0)) Zq44 hb)) : p := h
theorem Zq184 (h : p := by exact Aside0.mk (Kd.R_lower (Kd.R_newB (Kd.R_new' (Kd.R_new' (Kd.R_mono (ok' := fun k_ => some k_ ≠ (v263 : Value).ownBlock) ho1 (fun _ hk_ => hk_.2)) (Kd.S_lt Zq39)) (Kd.R_lt Zq48)) (g := gbak) (o := .cells #[.string xbE_1, u260001, u260002] 30 (0, 0)) Zq21) (below_size Zq19))) : p := h
theorem Zq185 (h : p := by exact Aside0.mk (Kd.R_below (Kd.R_elderB Zq103 gbav (Nat.le_of_eq hg.symm)) hb)) : p := h
theorem Zq186 (h : p := by exact Aside0.mk (Kd.R_below (Kd.R_elderB Zq48 gbaa (Nat.le_of_eq hg.symm)) hb)) : p := h
theorem Zq187 (h : p := by exact Aside0.mk ((by rw [hg]; exact (below_size Zq77) : w.heap.size ≤ gbaC))) : p := h
theorem Zq188 (h : p := by exact Aside0.mk ((by rw [hg]; exact (below_size Zq62) : w.heap.size ≤ gbbx))) : p := h
theorem Zq189 (h : p := by exact Aside0.mk ((by rw [hg]; exact (below_size Zq80) : w.heap.size ≤ gbaW))) : p := h
theorem Zq190 (h : p := by exact Aside0.mk ((by rw [hg]; exact (below_size Zq38) : w.heap.size ≤ gbak))) : p := h
theorem Zq191 (h : p := by exact Aside0.mk ((by rw [hg]; exact (below_size Zq84) : w.heap.size ≤ gbaR))) : p := h
theorem Zq192 (h : p := by exact Aside0.mk ((by rw [hg]; exact (below_size Zq45) : w.heap.size ≤ gbaf))) : p := h
theorem Zq193 (h : p := by exact Aside0.mk ((by rw [hg]; exact (below_size Zq30) : w.heap.size ≤ gbaj))) : p := h
theorem Zq194 (h : p := by exact Aside0.mk ((by rw [hg]; exact (below_size Zq5) : w.heap.size ≤ gbba))) : p := h
theorem Zq195 (h : p := by exact Aside0.mk ((by rw [hg]; exact (below_size Zq5) : w.heap.size ≤ gbbM))) : p := h
theorem Zq196 (h : p := by exact Aside0.mk ((by rw [hg]; exact (below_size Zq5) : w.heap.size ≤ gbaP))) : p := h
theorem Zq197 (h : p := by exact Aside0.mk ((by rw [hg]; exact (below_size Zq5) : w.heap.size ≤ gbae))) : p := h
theorem Zq198 (h : p := by exact Aside0.mk ((by rw [hg]; exact (below_size Zq5) : w.heap.size ≤ gbaU))) : p := h
theorem Zq199 (h : p := by exact Aside0.mk ((by rw [hg]; exact (below_size Zq5) : w.heap.size ≤ gbal))) : p := h
theorem Zq200 (h : p := by exact Aside0.mk ((by rw [hg]; exact (below_size Zq5) : w.heap.size ≤ gbbc))) : p := h
theorem Zq201 (h : p := by exact Aside0.mk ((by rw [hg]; exact (below_size Zq5) : w.heap.size ≤ gbbb))) : p := h
theorem Zq202 (h : p := by exact Aside0.mk (blk_below (g := gbaV) (o := .cells #[.int .u32 a0_0, .slice A0_1 l0_1.length c0_1, .string a0_2, .slice A0_3 l0_3.length c0_3, .slice A0_4 l0_4.length c0_4] 35 (0, 0)) Zq85 hb)) : p := h
theorem Zq203 (h : p := by exact Aside0.mk (show Kd.V k77 77 w w.heap.size (fun k_ => ((P0_3_ k_ ∨ P0_4_ k_) ∨ w.heap.size ≤ k_)) (.slice A0_3 l0_3.length c0_3) l0_3 from Kd.V_mono hs0_3 (fun k_ hk => .inl (.inl hk)))) : p := h
theorem Zq204 (h : p := by exact Aside0.mk (show Kd.V k30 30 w w.heap.size (fun k_ => ((P0_3_ k_ ∨ P0_4_ k_) ∨ w.heap.size ≤ k_)) (.slice A0_4 l0_4.length c0_4) l0_4 from Kd.V_mono hs0_4 (fun k_ hk => .inl (.inr hk)))) : p := h
theorem Zq205 (h : p := by exact Aside0.mk (below_step Zq41 hb)) : p := h
theorem Zq206 (h : p := by exact Aside0.mk (Kd.R_below (Kd.R_elderB (by (with_reducible repeat (first | apply Kd.R_alloc | apply Kd.R_drewN | apply Kd.R_drew)); exact HOdp.out) gbak (Nat.le_of_eq hg.symm)) hb)) : p := h
theorem Zq207 (h : p := by exact Aside0.mk (Kd.R_below (Kd.R_elderB (by (with_reducible repeat (first | apply Kd.R_alloc | apply Kd.R_drewN | apply Kd.R_drew)); exact HObH.out) gbaa (Nat.le_of_eq hg.symm)) hb)) : p := h
theorem Zq208 (h : p := by exact Aside0.mk (Kd.R_lower ho0 (below_size Zq14))) : p := h
theorem Zq209 (h : p := by exact Kd.C_below HRbt_1.out HB.out) : p := h
theorem Zq210 (h : p := by exact Kd.C_below HRbt_2.out HB.out) : p := h
theorem Zq211 (h : p := by exact Aside0.mk (blk_below (g := gbar) (o := .cells #[.string a0_0, .slice (some adbm) l0_1.length c0_1, .slice A0_2 l0_2.length c0_2] 30 (0, 0)) Zq27 hb)) : p := h
theorem Zq212 (h : p := by exact Aside0.mk (blk_below (g := gbar) (o := .cells #[.string a0_0, .slice A0_1 l0_1.length c0_1, .slice (some aday) l0_2.length c0_2] 30 (0, 0)) Zq27 hb)) : p := h
theorem Zq213 (h : p := by exact Aside0.mk (blk_below (g := gbbq) (o := .cells #[.string a0_0, .slice (some adbZ) l0_1.length c0_1, .slice A0_2 l0_2.length c0_2] 30 (0, 0)) Zq71 hb)) : p := h
theorem Zq214 (h : p := by exact Aside0.mk (below_step Zq28 hb)) : p := h
theorem Zq215 (h : p := by exact Aside0.mk (below_step Zq19 hb)) : p := h
theorem Zq216 (h : p := by exact Aside0.mk (below_step Zq15 hb)) : p := h
theorem Zq217 (h : p := by exact Aside0.mk (blk_below (g := gbar) (o := .cells #[.string a0_0, .slice A0_1 l0_1.length c0_1, .slice A0_2 l0_2.length c0_2] 30 (0, 0)) Zq27 hb)) : p := h
theorem Zq218 (h : p := by exact Aside0.mk (blk_below (g := gbaR) (o := .cells #[.string a1_0, .slice A1_1 l1_1.length c1_1, .slice A1_2 l1_2.length c1_2] 30 (0, 0)) Zq44 hb)) : p := h
theorem Zq219 (h : p := by exact Aside0.mk (blk_below (g := gbaj) (o := .cells #[.string tbr, .slice Ao30 tbF.length co30, .slice Ao32 tbI.length co32] 30 (0, 0)) Zq52 hb)) : p := h
theorem Zq220 (h : p := by exact Aside0.mk (Kd.S_elder' Zq39 (Kd.S_base ho0) hb)) : p := h
theorem Zq221 (h : p := by exact Aside0.mk (Kd.S_below (by (with_reducible repeat (first | apply Kd.S_alloc | apply Kd.S_drewN | apply Kd.S_drew)); exact HOdn.out) hb)) : p := h
theorem Zq222 (h : p := by exact Aside0.mk (Kd.S_below (by (with_reducible repeat (first | apply Kd.S_alloc | apply Kd.S_drewN | apply Kd.S_drew)); exact HObG.out) hb)) : p := h
theorem Zq223 (h : p := by exact blk_lt (g := gbar) (o := .cells #[.string a0_0, .slice (some adbm) l0_1.length c0_1, .slice A0_2 l0_2.length c0_2] 30 (0, 0)) Zq27) : p := h
theorem Zq224 (h : p := by exact blk_lt (g := gbar) (o := .cells #[.string a0_0, .slice A0_1 l0_1.length c0_1, .slice (some aday) l0_2.length c0_2] 30 (0, 0)) Zq27) : p := h
theorem Zq225 (h : p := by exact Aside0.mk (Kd.R_below (by (with_reducible repeat (first | apply Kd.R_alloc | apply Kd.R_drewN | apply Kd.R_drew)); exact HO_7.out) hb)) : p := h
theorem Zq226 (h : p := by exact Aside0.mk (blk_below (g := gbaa) (o := .cells #[.string (⟨#[]⟩ : ByteArray), .slice none 0 0, .slice none 0 0] 30 (0, 0)) Zq68 hb)) : p := h
theorem Zq227 (h : p := by exact Aside0.mk (Kd.R_lower (Kd.R_mono (ok' := fun k_ => some k_ ≠ (v253 : Value).ownBlock) ho1 (fun _ hk_ => hk_.2)) (below_size Zq38))) : p := h
theorem Zq228 (h : p := by exact Aside0.mk (Kd.S_lower (Kd.S_new' (Kd.S_mono (ok' := fun k_ => True) ho0 (fun _ hk_ => trivial)) (Kd.S_lt Zq39)) (below_size Zq19))) : p := h
theorem Zq229 (h : p := by exact Aside0.mk (Kd.S_lower (Kd.S_new' (Kd.S_mono (ok' := fun k_ => True) ho0 (fun _ hk_ => trivial)) (Kd.S_lt Zq39)) (below_size Zq31))) : p := h
theorem Zq230 (h : p := by exact Kd.freshB (g := gbaf) (o := .cells #[.string (⟨#[]⟩ : ByteArray), .slice none 0 0, .slice none 0 0] 30 (0, 0)) Zq20 k_ hn_) : p := h
theorem Zq231 (h : p := by exact Kd.freshB (g := gbaj) (o := .cells #[.string (⟨#[]⟩ : ByteArray), .slice none 0 0, .slice none 0 0] 30 (0, 0)) Zq52 k_ hn_) : p := h
theorem Zq232 (h : p := by exact Aside0.mk ((by rw [hg]; exact Nat.ne_of_lt Zq132 : gbaG ≠ gbap))) : p := h
theorem Zq233 (h : p := by exact Aside0.mk ((by rw [hg]; exact Nat.ne_of_gt Zq132 : gbap ≠ gbaG))) : p := h
theorem Zq234 (h : p := by exact Aside0.mk ((by rw [hg]; exact Nat.ne_of_lt Zq125 : gbaP ≠ gbav))) : p := h
theorem Zq235 (h : p := by exact Aside0.mk ((by rw [hg]; exact Nat.ne_of_gt Zq125 : gbav ≠ gbaP))) : p := h
theorem Zq236 (h : p := by exact Aside0.mk ((by rw [hg]; exact Nat.ne_of_lt Zq133 : gbaW ≠ gbav))) : p := h
theorem Zq237 (h : p := by exact Aside0.mk ((by rw [hg]; exact Nat.ne_of_gt Zq133 : gbav ≠ gbaW))) : p := h
theorem Zq238 (h : p := by exact Aside0.mk ((by rw [hg]; exact Nat.ne_of_lt Zq121 : gbae ≠ gbaa))) : p := h
theorem Zq239 (h : p := by exact Aside0.mk ((by rw [hg]; exact Nat.ne_of_gt Zq121 : gbaa ≠ gbae))) : p := h
theorem Zq240 (h : p := by exact Aside0.mk ((by rw [hg]; exact Nat.ne_of_lt Zq143 : gbak ≠ gbaa))) : p := h
theorem Zq241 (h : p := by exact Aside0.mk ((by rw [hg]; exact Nat.ne_of_gt Zq143 : gbaa ≠ gbak))) : p := h
end Go.Proofs

namespace Go.Proofs
open Go.Shelf
def Try.lays137_ren : Go.Shelf.Ren := ⟨fun | 137 => 84 | 217 => 95 | 266 => 102 | n => n, fun | 9 => 9 | 5 => 5 | 3 => 3 | n => n, fun | n => n⟩
theorem Try.lays137 : Go.Proofs.Lays.n137 Try.prog Try.lays137_ren := {
  mixed := by kernel_rfl
  f137 := Try.func84.trans (congrArg some (by kernel_rfl))
  f217 := Try.func95.trans (congrArg some (by kernel_rfl))
  f266 := Try.func102.trans (congrArg some (by kernel_rfl))
  t3 := Try.underlying3
  a3 := Try.isAgg3
  z3 := Try.sizeOf3
  v3 := Try.zeroValue3
  t5 := Try.underlying5
  a5 := Try.isAgg5
  z5 := Try.sizeOf5
  v5 := Try.zeroValue5
  t9 := Try.underlying9
  a9 := Try.isAgg9
  z9 := Try.sizeOf9
  v9 := Try.zeroValue9 }
open Go.RowKit in
theorem Try.strings_IndexByte (s : ByteArray) (c : Int) (w : World) :
    Calls Try.prog 84 #[.string s, .int .u8 c] w fun e w' => e = .returned (.int .i64 (Lib.indexByte s.data.toList c.toNat.toUInt8)) ∧ w' = w := Any.strings_IndexByte Try.lays137 s c w
end Go.Proofs

namespace Go.Proofs.Yteejaaeglfpcmab.PX
open Go.RowKit Go.Proofs.YteejaaeglfpcmabW.PrintWords Go.Proofs.YteejaaeglfpcmabW.PrintLast Go.Proofs.YteejaaeglfpcmabW.PrintMore
attribute [local go_sem] max2_int min2_int max_two min_two max_three min_three max_four min_four
def errW : Option Int → Value
 | none => .nilIface
 | some c => .iface 0 (.int .i64 c)
theorem errW_none : errW none = .nilIface := rfl
theorem errW_some (c : Int) : errW (some c) = .iface 0 (.int .i64 c) := rfl
theorem info3 : (Try.prog.info? 3).map (fun i => (i.zero, i.size, i.bytes)) = some (some (.int .i64 0), 1, 8) := by kernel_rfl
theorem info5 : (Try.prog.info? 5).map (fun i => (i.zero, i.size, i.bytes)) = some (some (.int .u8 0), 1, 1) := by kernel_rfl
theorem info30 : (Try.prog.info? 30).map (fun i => (i.zero, i.size, i.bytes)) = some (some (.agg #[(.string ⟨#[]⟩), (.slice none 0 0), (.slice none 0 0)]), 3, 64) := by kernel_rfl
theorem info32 : (Try.prog.info? 32).map (fun i => (i.zero, i.size, i.bytes)) = some (some (.int .u32 0), 1, 4) := by kernel_rfl
theorem info45 : (Try.prog.info? 45).map (fun i => (i.zero, i.size, i.bytes)) = some (some (.agg #[(.int .u64 0), (.int .u64 0), (.int .u64 0)]), 3, 24) := by kernel_rfl
theorem info46 : (Try.prog.info? 46).map (fun i => (i.zero, i.size, i.bytes)) = some (some (.agg #[(.int .u64 0), (.int .u64 0), (.int .u64 0)]), 3, 24) := by kernel_rfl
theorem info77 : (Try.prog.info? 77).map (fun i => (i.zero, i.size, i.bytes)) = some (some (.agg #[(.string ⟨#[]⟩), (.slice none 0 0)]), 2, 40) := by kernel_rfl
structure S77 where
 f0 : ByteArray
 f1 : (List Int)
def z77 : S77 := ⟨(⟨#[]⟩ : ByteArray), ([] : List Int)⟩
def k77 : Kd S77 := Kd.iso (Kd.pair Kd.string (Kd.slice 5 (Kd.int .u8))) (fun x : S77 => (x.f0, x.f1))
theorem k77_heap : Kd.Heap k77 := Kd.heap_iso _ (Kd.heap_pair Kd.heap_string (Kd.heap_slice 5 (Kd.heap_int .u8)))
theorem k77_open {w : World} {x : S77} {cs : List Value} (h : k77.K w x cs) : ∃ A1 c1, cs = [.string x.f0, .slice A1 x.f1.length c1] ∧ x.f1.length ≤ c1 ∧ (Kd.int .u8).C w A1 x.f1.length x.f1 := by
 obtain ⟨_, _, rfl, rfl, ⟨A1, c1, rfl, l1, g1⟩⟩ := h
 exact ⟨A1, c1, rfl, l1, g1⟩
theorem k77_mkM (w : World) (base : Nat) (ok : Nat → Prop) (x : S77) {v1 : Value} (g1 : (Kd.int .u8).R 5 w base ok v1 x.f1) : k77.M w base ok x [.string x.f0, v1] := ⟨[.string x.f0], [v1], rfl, rfl, ⟨v1, rfl, g1⟩⟩
def rd_T77 (xs : List S77) (i : Int) : S77 := xs.getD i.toNat z77
theorem at_T77 {w : World} {A : Option Addr} {n : Nat} {xs : List S77} (h : Kd.C k77 w A n xs) (i : Int) (h0 : 0 ≤ i) (h1 : i < n) : ∃ ad A1 c1, A = some ad ∧ w.cell? (ad.add (i.toNat * 2)) = some (.string (rd_T77 xs i).f0) ∧ w.cell? ⟨(ad.add (i.toNat * 2)).block, (ad.add (i.toNat * 2)).off + 1, none⟩ = some (.slice A1 (rd_T77 xs i).f1.length c1) ∧ (rd_T77 xs i).f1.length ≤ c1 ∧ (Kd.int .u8).C w A1 (rd_T77 xs i).f1.length (rd_T77 xs i).f1 := by
 obtain ⟨ad, c, e, _, hK, hc0⟩ := Kd.C_get h z77 i h0 h1; have hc : ∀ j u, c[j]? = some u → w.cell? (ad.add (i.toNat * 2 + j)) = some u := hc0; obtain ⟨A1, c1, rfl, l1, g1⟩ := k77_open hK
 exact ⟨ad, A1, c1, e, hc 0 _ rfl, by rw [← add_field _ _ 1 Zq1]; exact hc 1 _ rfl, l1, g1⟩
structure S30 where
 f0 : ByteArray
 f1 : (List S77)
 f2 : (List S30)
def z30 : S30 := ⟨(⟨#[]⟩ : ByteArray), ([] : List S77), ([] : List S30)⟩
def F30 (d : Kd S30) : Kd S30 := Kd.iso (Kd.pair Kd.string (Kd.pair (Kd.slice 77 k77) (Kd.slice 30 d))) (fun x : S30 => (x.f0, x.f1, x.f2))
theorem mono30 : Kd.Mono F30 := Kd.mono_iso _ (Kd.mono_pair (Kd.mono_const _) (Kd.mono_pair (Kd.mono_const _) (Kd.mono_slice 30 Kd.mono_id)))
theorem sub30 : Kd.Sub F30 [5, 30, 77] := Kd.sub_iso _ (Kd.sub_pair (Kd.sub_const _ Zq7) (Kd.sub_pair (Kd.sub_const _ Zq7) (Kd.sub_slice 30 Zq7 Kd.sub_id)))
theorem sz30 : ∀ n, (Kd.upto F30 3 [5, 30, 77] n).sz = 3 := Kd.upto_sz (fun _ => rfl)
def k30 : Kd S30 := Kd.fix F30 3 [5, 30, 77] sz30 (Kd.upto_E sub30)
theorem k30_heap : Kd.Heap k30 := Kd.heap_fix (fun _ h_ => Kd.heap_iso _ (Kd.heap_pair Kd.heap_string (Kd.heap_pair (Kd.heap_slice 77 k77_heap) (Kd.heap_slice 30 h_))))
theorem k30_open {w : World} {x : S30} {cs : List Value} (h : k30.K w x cs) : ∃ A1 c1 A2 c2, cs = [.string x.f0, .slice A1 x.f1.length c1, .slice A2 x.f2.length c2] ∧ x.f1.length ≤ c1 ∧ k77.C w A1 x.f1.length x.f1 ∧ x.f2.length ≤ c2 ∧ k30.C w A2 x.f2.length x.f2 := by
 obtain ⟨n, h⟩ := h
 cases n with
 | zero => exact h.elim
 | succ n =>
  obtain ⟨_, _, rfl, rfl, ⟨_, _, rfl, ⟨A1, c1, rfl, l1, g1⟩, ⟨A2, c2, rfl, l2, g2⟩⟩⟩ := h
  exact ⟨A1, c1, A2, c2, rfl, l1, g1, l2, Kd.fix_C g2⟩
theorem k30_mk (w : World) (x : S30) {A1 : Option Addr} {c1 : Nat} (l1 : x.f1.length ≤ c1) (g1 : k77.C w A1 x.f1.length x.f1) {A2 : Option Addr} {c2 : Nat} (l2 : x.f2.length ≤ c2) (g2 : k30.C w A2 x.f2.length x.f2) : k30.K w x [.string x.f0, .slice A1 x.f1.length c1, .slice A2 x.f2.length c2] := by
 obtain ⟨n2, q2⟩ := Kd.fix_C_back mono30 g2; have r2 := Kd.upto_C_le mono30 sz30 (show n2 ≤ n2 by omega) q2
 exact ⟨n2 + 1, ⟨[.string x.f0], [.slice A1 x.f1.length c1, .slice A2 x.f2.length c2], rfl, rfl, ⟨[.slice A1 x.f1.length c1], [.slice A2 x.f2.length c2], rfl, ⟨A1, c1, rfl, l1, g1⟩, ⟨A2, c2, rfl, l2, r2⟩⟩⟩⟩
theorem k30_mkM (w : World) (base : Nat) (ok : Nat → Prop) (x : S30) {v1 : Value} (g1 : k77.R 77 w base ok v1 x.f1) {v2 : Value} (g2 : k30.R 30 w base ok v2 x.f2) : k30.M w base ok x [.string x.f0, v1, v2] := by
 obtain ⟨n2, q2⟩ := Kd.fix_R_back mono30 g2; have r2 := Kd.upto_R_le mono30 sz30 (show n2 ≤ n2 by omega) q2
 exact ⟨n2 + 1, ⟨[.string x.f0], [v1, v2], rfl, rfl, ⟨[v1], [v2], rfl, ⟨v1, rfl, g1⟩, ⟨v2, rfl, r2⟩⟩⟩⟩
theorem k30_openF {W : World} {ok : Nat → Prop} {x : S30} {cs : List Value} (h : Kd.FK k30 W ok x cs) : ∃ A1 c1 A2 c2, cs = [.string x.f0, .slice A1 x.f1.length c1, .slice A2 x.f2.length c2] ∧ x.f1.length ≤ c1 ∧ Kd.F k77 W ok A1 x.f1.length x.f1 ∧ x.f2.length ≤ c2 ∧ Kd.F k30 W ok A2 x.f2.length x.f2 := by
 obtain ⟨A1, c1, A2, c2, rfl, l1, _, l2, _⟩ := k30_open (Kd.FK_now h)
 exact ⟨A1, c1, A2, c2, rfl, l1, (fun W' hW => by obtain ⟨A1_, c1_, A2_, c2_, he, l1_, g1_, l2_, g2_⟩ := k30_open (h W' hW); injection (Option.some.inj (show some (Value.slice A1 x.f1.length c1) = some (Value.slice A1_ x.f1.length c1_) from congrArg (fun l => l[1]?) he)) with ha_ _ _; rw [ha_]; exact g1_), l2, (fun W' hW => by obtain ⟨A1_, c1_, A2_, c2_, he, l1_, g1_, l2_, g2_⟩ := k30_open (h W' hW); injection (Option.some.inj (show some (Value.slice A2 x.f2.length c2) = some (Value.slice A2_ x.f2.length c2_) from congrArg (fun l => l[2]?) he)) with ha_ _ _; rw [ha_]; exact g2_)⟩
def rd_T30 (xs : List S30) (i : Int) : S30 := xs.getD i.toNat z30
theorem at_T30 {w : World} {A : Option Addr} {n : Nat} {xs : List S30} (h : Kd.C k30 w A n xs) (i : Int) (h0 : 0 ≤ i) (h1 : i < n) : ∃ ad A1 c1 A2 c2, A = some ad ∧ w.cell? (ad.add (i.toNat * 3)) = some (.string (rd_T30 xs i).f0) ∧ w.cell? ⟨(ad.add (i.toNat * 3)).block, (ad.add (i.toNat * 3)).off + 1, none⟩ = some (.slice A1 (rd_T30 xs i).f1.length c1) ∧ w.cell? ⟨(ad.add (i.toNat * 3)).block, (ad.add (i.toNat * 3)).off + 2, none⟩ = some (.slice A2 (rd_T30 xs i).f2.length c2) ∧ (rd_T30 xs i).f1.length ≤ c1 ∧ k77.C w A1 (rd_T30 xs i).f1.length (rd_T30 xs i).f1 ∧ (rd_T30 xs i).f2.length ≤ c2 ∧ k30.C w A2 (rd_T30 xs i).f2.length (rd_T30 xs i).f2 := by
 obtain ⟨ad, c, e, _, hK, hc0⟩ := Kd.C_get h z30 i h0 h1; have hc : ∀ j u, c[j]? = some u → w.cell? (ad.add (i.toNat * 3 + j)) = some u := hc0; obtain ⟨A1, c1, A2, c2, rfl, l1, g1, l2, g2⟩ := k30_open hK
 exact ⟨ad, A1, c1, A2, c2, e, hc 0 _ rfl, by rw [← add_field _ _ 1 Zq1]; exact hc 1 _ rfl, by rw [← add_field _ _ 2 Zq1]; exact hc 2 _ rfl, l1, g1, l2, g2⟩
structure S94 where
 f0 : Int
 f1 : Int
def z94 : S94 := ⟨(0 : Int), (0 : Int)⟩
def k94 : Kd S94 := Kd.iso (Kd.pair (Kd.int .u64) (Kd.int .u64)) (fun x : S94 => (x.f0, x.f1))
theorem k94_open {w : World} {x : S94} {cs : List Value} (h : k94.K w x cs) : cs = [.int .u64 x.f0, .int .u64 x.f1] := by
 obtain ⟨_, _, rfl, rfl, rfl⟩ := h
 exact rfl
def rd_T94 (xs : List S94) (i : Int) : S94 := xs.getD i.toNat z94
theorem at_T94 {w : World} {A : Option Addr} {n : Nat} {xs : List S94} (h : Kd.C k94 w A n xs) (i : Int) (h0 : 0 ≤ i) (h1 : i < n) : ∃ ad , A = some ad ∧ w.cell? (ad.add (i.toNat * 2)) = some (.int .u64 (rd_T94 xs i).f0) ∧ w.cell? ⟨(ad.add (i.toNat * 2)).block, (ad.add (i.toNat * 2)).off + 1, none⟩ = some (.int .u64 (rd_T94 xs i).f1) := by
 obtain ⟨ad, c, e, _, hK, hc0⟩ := Kd.C_get h z94 i h0 h1; have hc : ∀ j u, c[j]? = some u → w.cell? (ad.add (i.toNat * 2 + j)) = some u := hc0; obtain rfl := k94_open hK
 exact ⟨ad, e, hc 0 _ rfl, by rw [← add_field _ _ 1 Zq1]; exact hc 1 _ rfl⟩
structure S35 where
 f0 : Int
 f1 : (List S94)
 f2 : S30
def k35 : Kd S35 := Kd.iso (Kd.pair (Kd.int .u32) (Kd.pair (Kd.slice 94 k94) k30)) (fun x : S35 => (x.f0, x.f1, x.f2))
theorem k35_open {w : World} {x : S35} {cs : List Value} (h : k35.K w x cs) : ∃ A1 c1 A3 c3 A4 c4, cs = [.int .u32 x.f0, .slice A1 x.f1.length c1, .string x.f2.f0, .slice A3 x.f2.f1.length c3, .slice A4 x.f2.f2.length c4] ∧ x.f1.length ≤ c1 ∧ k94.C w A1 x.f1.length x.f1 ∧ x.f2.f1.length ≤ c3 ∧ k77.C w A3 x.f2.f1.length x.f2.f1 ∧ x.f2.f2.length ≤ c4 ∧ k30.C w A4 x.f2.f2.length x.f2.f2 := by
 obtain ⟨_, _, rfl, rfl, ⟨_, _, rfl, ⟨A1, c1, rfl, l1, g1⟩, s2⟩⟩ := h; obtain ⟨A3, c3, A4, c4, rfl, l3, g3, l4, g4⟩ := k30_open s2
 exact ⟨A1, c1, A3, c3, A4, c4, rfl, l1, g1, l3, g3, l4, g4⟩
structure S46 where
 f0 : Int
 f1 : Int
 f2 : Int
def z46 : S46 := ⟨(0 : Int), (0 : Int), (0 : Int)⟩
def k46 : Kd S46 := Kd.iso (Kd.pair (Kd.int .u64) (Kd.pair (Kd.int .u64) (Kd.int .u64))) (fun x : S46 => (x.f0, x.f1, x.f2))
theorem k46_open {w : World} {x : S46} {cs : List Value} (h : k46.K w x cs) : cs = [.int .u64 x.f0, .int .u64 x.f1, .int .u64 x.f2] := by
 obtain ⟨_, _, rfl, rfl, ⟨_, _, rfl, rfl, rfl⟩⟩ := h
 exact rfl
theorem k46_mkM (w : World) (base : Nat) (ok : Nat → Prop) (x : S46)  : k46.M w base ok x [.int .u64 x.f0, .int .u64 x.f1, .int .u64 x.f2] := ⟨[.int .u64 x.f0], [.int .u64 x.f1, .int .u64 x.f2], rfl, rfl, ⟨[.int .u64 x.f1], [.int .u64 x.f2], rfl, rfl, rfl⟩⟩
def rd_T46 (xs : List S46) (i : Int) : S46 := xs.getD i.toNat z46
theorem at_T46 {w : World} {A : Option Addr} {n : Nat} {xs : List S46} (h : Kd.C k46 w A n xs) (i : Int) (h0 : 0 ≤ i) (h1 : i < n) : ∃ ad , A = some ad ∧ w.cell? (ad.add (i.toNat * 3)) = some (.int .u64 (rd_T46 xs i).f0) ∧ w.cell? ⟨(ad.add (i.toNat * 3)).block, (ad.add (i.toNat * 3)).off + 1, none⟩ = some (.int .u64 (rd_T46 xs i).f1) ∧ w.cell? ⟨(ad.add (i.toNat * 3)).block, (ad.add (i.toNat * 3)).off + 2, none⟩ = some (.int .u64 (rd_T46 xs i).f2) := by
 obtain ⟨ad, c, e, _, hK, hc0⟩ := Kd.C_get h z46 i h0 h1; have hc : ∀ j u, c[j]? = some u → w.cell? (ad.add (i.toNat * 3 + j)) = some u := hc0; obtain rfl := k46_open hK
 exact ⟨ad, e, hc 0 _ rfl, by rw [← add_field _ _ 1 Zq1]; exact hc 1 _ rfl, by rw [← add_field _ _ 2 Zq1]; exact hc 2 _ rfl⟩
structure S45 where
 f0 : Int
 f1 : Int
 f2 : Int
def z45 : S45 := ⟨(0 : Int), (0 : Int), (0 : Int)⟩
def k45 : Kd S45 := Kd.iso (Kd.pair (Kd.int .u64) (Kd.pair (Kd.int .u64) (Kd.int .u64))) (fun x : S45 => (x.f0, x.f1, x.f2))
theorem k45_open {w : World} {x : S45} {cs : List Value} (h : k45.K w x cs) : cs = [.int .u64 x.f0, .int .u64 x.f1, .int .u64 x.f2] := by
 obtain ⟨_, _, rfl, rfl, ⟨_, _, rfl, rfl, rfl⟩⟩ := h
 exact rfl
theorem k45_mkM (w : World) (base : Nat) (ok : Nat → Prop) (x : S45)  : k45.M w base ok x [.int .u64 x.f0, .int .u64 x.f1, .int .u64 x.f2] := ⟨[.int .u64 x.f0], [.int .u64 x.f1, .int .u64 x.f2], rfl, rfl, ⟨[.int .u64 x.f1], [.int .u64 x.f2], rfl, rfl, rfl⟩⟩
def rd_T45 (xs : List S45) (i : Int) : S45 := xs.getD i.toNat z45
theorem at_T45 {w : World} {A : Option Addr} {n : Nat} {xs : List S45} (h : Kd.C k45 w A n xs) (i : Int) (h0 : 0 ≤ i) (h1 : i < n) : ∃ ad , A = some ad ∧ w.cell? (ad.add (i.toNat * 3)) = some (.int .u64 (rd_T45 xs i).f0) ∧ w.cell? ⟨(ad.add (i.toNat * 3)).block, (ad.add (i.toNat * 3)).off + 1, none⟩ = some (.int .u64 (rd_T45 xs i).f1) ∧ w.cell? ⟨(ad.add (i.toNat * 3)).block, (ad.add (i.toNat * 3)).off + 2, none⟩ = some (.int .u64 (rd_T45 xs i).f2) := by
 obtain ⟨ad, c, e, _, hK, hc0⟩ := Kd.C_get h z45 i h0 h1; have hc : ∀ j u, c[j]? = some u → w.cell? (ad.add (i.toNat * 3 + j)) = some u := hc0; obtain rfl := k45_open hK
 exact ⟨ad, e, hc 0 _ rfl, by rw [← add_field _ _ 1 Zq1]; exact hc 1 _ rfl, by rw [← add_field _ _ 2 Zq1]; exact hc 2 _ rfl⟩
def bytes_Clone.f (l0 : List Int) : Option (List Int) := if l0.length < 140737488355328 then (some l0) else (none)
set_option maxRecDepth 100000 in
theorem bytes_Clone.calls (A0 : Option Addr) (c0 : Nat) (l0 : List Int) (r : List Int) (w : World) (hr0 : Kd.C (Kd.int .u8) w A0 l0.length l0) (hc0 : l0.length ≤ c0) (h : bytes_Clone.f l0 = some r) :
  Calls Try.prog 57 #[.slice A0 l0.length c0] w fun e w' => ∃ v0_ : Value, e = .returned (v0_) ∧ Kd.R (Kd.int .u8) 5 w' w.heap.size (fun _ => True) v0_ r ∧ Below w.heap.size w w' := by
 unfold bytes_Clone.f at h
 by_cases c3 : l0.length < 140737488355328
 ·rw [if_pos c3] at h; injection h with h; subst h; have HR0 := Ak hr0; have HC0 := Ak hc0; clear hr0 hc0; have HB := Zq129; have LMc3 := Ak c3; clear c3
  cases A0 with
  | none =>
   have hn : l0 = [] := by
    cases l0 with
    | nil => rfl
    | cons x r =>
     obtain ⟨ad, he, _⟩ := HR0.out.2.2 Zq8
     cases he
   subst hn
   have q := fun w' : World => Lib.run_eql_slice_nil (P := Try.prog) w' 72 5 none ([] : List Int).length c0 0 0 Try.underlying72
   simp only [Option.isNone_none, List.length_nil] at q
   go_enter Try.func57, Try.ntmps57
   go_wp2
   go_ret
   exact ⟨_, rfl, Kd.R_nil _ _ _ _ _, Below.refl _ _⟩
  | some x0 =>
   have q := fun w' : World => Lib.run_eql_slice_nil (P := Try.prog) w' 72 5 (some x0) l0.length c0 0 0 Try.underlying72
   simp only [Option.isNone_some] at q
   obtain ⟨y5, hy5⟩ : ∃ y_ : List Int, y_ = [] := ⟨_, rfl⟩
   have Ny5 := Ak hy5; clear hy5
   obtain ⟨y7, hy7⟩ : ∃ y_ : List Int, y_ = y5 ++ l0 := ⟨_, rfl⟩
   have Ny7 := Ak hy7; clear hy7
   go_enter Try.func57, Try.ntmps57
   go_wp2_with (first | ((with_reducible refine gate_dst (N := 5) rfl ?_); refine Kd.R_lit (Kd.int .u8) _ 5 ?hg (N := 5) ?hd (xs := ([] : List Int)) (inner := []) (ok := fun _ => True) (okp := fun _ => True) ?hr ?hp (fun _ hk => hk) trivial (Below.refl _ _) (Nat.le_refl _) Zq8 ?_; (case hd | hg => rfl); (case hr => first | (go_simp; done) | (go_simp; rfl)); (case hp => exact (Reps.none _ _)); intro v5 w5 ho6 hb hg_ hnew_; clear hg_ hnew_; rw [← Ny5.out] at ho6; have n0_ := Ak (Kd.R_lower (base' := w.heap.size) ho6 (below_size Zq5)); have n2_ := Zq122; clear HB; have HO5 := n0_; have HB := n2_; clear n0_ n2_ hb ho6) | ((with_reducible refine gate_builtin (b := .append) (xs := #[.tmp 5, .tmp 6]) rfl ?_); at_builtin; refine Kd.R_append_rows (Kd.int .u8) (w0 := w) w.heap.size rfl (.tmp 5) (.tmp 6) 72 5 (.int .u8 0) 1 rfl Try.underlying72 info5 rfl Zq7 Zq1 v5 y5 l0 _ _ _ (fun _ => True) (fun _ => False) rfl rfl ?aO ?aR (fun _ _ h => h) (fun _ h => h.elim) (fun _ _ => trivial) ?aB ?aS ?aL ?_; (case aR => repeat (first | exact (Kd.C_below HR0.out HB.out) | (with_reducible refine Kd.C_alloc ?_ _) | (with_reducible refine Kd.C_drewN ?_ _) | (with_reducible refine Kd.C_drew ?_))); (case aB => exact Zq5); (case aO => exact (by (with_reducible repeat (first | apply Kd.R_alloc | apply Kd.R_drewN | apply Kd.R_drew)); exact HO5.out)); (case aS => exact (below_size Zq5)); (case aL => have := LMc3.out; rw [Ny5.out]; simp; omega); intro v7 w7 ho hb hg hat; rw [← Ny7.out] at ho; have n1_ := Ak (hb); have n2_ := Ak (ho); clear HB HO5; have HB := n1_; have HO7 := n2_; clear n1_ n2_ ho hb hg hat))
   go_ret
   exact ⟨_, rfl, by have e7 : y7 = l0 := (by rw [Ny7.out, Ny5.out]; rfl); rw [← e7]; (with_reducible repeat (first | apply Kd.R_alloc | apply Kd.R_drewN | apply Kd.R_drew)); exact HO7.out, Zq5⟩
 ·rw [if_neg c3] at h
  cases h
mutual
def tree_CloneNode.l0 : Nat → List (S77) → Int → Int → ByteArray → List (S77) → List (S30) → ByteArray → List (S77) → Option (ByteArray × (List (S77)) × (List (S30)))
 | 0, _, _, _, _, _, _, _, _ => none
 | k + 1, x12, x13, x14, xfQ, xfR, xff, xew, xaS => if x14 < x13 then (if 0 ≤ x14 then (if x14 < (x12.length : Int) then ((bytes_Clone.f ((rd_T77 x12 x14).f1)).bind fun tdj => (if xaS.length < 3518437208883 then (tree_CloneNode.l0 k x12 x13 (wrap64 (x14 + 1)) xfQ xfR xff xew (xaS ++ [(⟨(rd_T77 x12 x14).f0, tdj⟩ : S77)])) else (none))) else (none)) else (none)) else (tree_CloneNode.l1 k xff (xff.length : Int) 0 xew xaS ([] : List (S30)))
def tree_CloneNode.l1 : Nat → List (S30) → Int → Int → ByteArray → List (S77) → List (S30) → Option (ByteArray × (List (S77)) × (List (S30)))
 | 0, _, _, _, _, _, _ => none
 | k + 1, x31, x32, x33, xew, xaS, xbl => if x33 < x32 then (if 0 ≤ x33 then (if x33 < (x31.length : Int) then ((tree_CloneNode.f k ((rd_T30 x31 x33).f0) ((rd_T30 x31 x33).f1) ((rd_T30 x31 x33).f2)).bind fun btcR => (if xbl.length < 2199023255552 then (tree_CloneNode.l1 k x31 x32 (wrap64 (x33 + 1)) xew xaS (xbl ++ [(⟨btcR.1, btcR.2.1, btcR.2.2⟩ : S30)])) else (none))) else (none)) else (none)) else (some (xew, xaS, xbl))
def tree_CloneNode.f : Nat → ByteArray → List (S77) → List (S30) → Option (ByteArray × (List (S77)) × (List (S30)))
 | 0, _, _, _ => none
 | k + 1, a0_0, l0_1, l0_2 => tree_CloneNode.l0 k l0_1 (l0_1.length : Int) 0 a0_0 l0_1 l0_2 a0_0 ([] : List (S77))
end
theorem tree_CloneNode.mono_l : ∀ k, (∀ y0 y1 y2, LeO (tree_CloneNode.f k y0 y1 y2) (tree_CloneNode.f (k + 1) y0 y1 y2)) ∧ (∀ y0 y1 y2 y3 y4 y5 y6 y7, LeO (tree_CloneNode.l0 k y0 y1 y2 y3 y4 y5 y6 y7) (tree_CloneNode.l0 (k + 1) y0 y1 y2 y3 y4 y5 y6 y7)) ∧ (∀ y0 y1 y2 y3 y4 y5, LeO (tree_CloneNode.l1 k y0 y1 y2 y3 y4 y5) (tree_CloneNode.l1 (k + 1) y0 y1 y2 y3 y4 y5))
 | 0 => ⟨fun _ _ _ r h => by simp [tree_CloneNode.f] at h, fun _ _ _ _ _ _ _ _ r h => by simp [tree_CloneNode.l0] at h, fun _ _ _ _ _ _ r h => by simp [tree_CloneNode.l1] at h⟩
 | k + 1 => by
  obtain ⟨ih0, ih1, ih2⟩ := tree_CloneNode.mono_l k; refine ⟨?_, ?_, ?_⟩
  ·intro y0 y1 y2; unfold tree_CloneNode.f
   repeat' first | (with_reducible first | exact ih0 _ _ _ | exact ih1 _ _ _ _ _ _ _ _ | exact ih2 _ _ _ _ _ _ | exact LeO.refl _ | exact LeO.none _ | refine LeO.ite ?_ ?_ | refine LeO.bind ?_ (fun _ => ?_))
  ·intro y0 y1 y2 y3 y4 y5 y6 y7; unfold tree_CloneNode.l0
   repeat' first | (with_reducible first | exact ih0 _ _ _ | exact ih1 _ _ _ _ _ _ _ _ | exact ih2 _ _ _ _ _ _ | exact LeO.refl _ | exact LeO.none _ | refine LeO.ite ?_ ?_ | refine LeO.bind ?_ (fun _ => ?_))
  ·intro y0 y1 y2 y3 y4 y5; unfold tree_CloneNode.l1
   repeat' first | (with_reducible first | exact ih0 _ _ _ | exact ih1 _ _ _ _ _ _ _ _ | exact ih2 _ _ _ _ _ _ | exact LeO.refl _ | exact LeO.none _ | refine LeO.ite ?_ ?_ | refine LeO.bind ?_ (fun _ => ?_))
theorem tree_CloneNode.mono : ∀ a0 a1 a2 k, LeO (tree_CloneNode.f k a0 a1 a2) (tree_CloneNode.f (k + 1) a0 a1 a2) := by
 intro a0 a1 a2 k; obtain ⟨ih0, ih1, ih2⟩ := tree_CloneNode.mono_l k
 exact ih0 a0 a1 a2
def tree_CloneNode.T5 : Bool × List (List Nat × List Nat) := (true, [([], []), ([0], [0]), ([], []), ([2], [2]), ([], []), ([4], [4]), ([5], [5]), ([3, 6], [3, 6]), ([7], [7]), ([1, 8, 6], [1, 8]), ([0, 1, 2, 3, 4, 5, 6, 7, 8, 9], []), ([10, 9, 9, 0, 1, 2, 3, 4, 5, 6, 7, 8, 9], [9, 10])])
def tree_CloneNode.B5 : List Nat := [0, 1, 0, 4, 0, 16, 48, 124, 252, 511, 1023, 2047]
theorem tree_CloneNode.tab5 : rtab .any (opsOf Try.f61 5) = tree_CloneNode.T5 := by kernel_rfl
theorem tree_CloneNode.bits5 : waitsOk tree_CloneNode.T5.2 tree_CloneNode.B5 = true := by kernel_rfl
def tree_CloneNode.T10 : Bool × List (List Nat × List Nat) := (true, [([], []), ([0], [0]), ([], []), ([2], [2]), ([3], [3]), ([1, 4, 3], [1, 4]), ([0, 1, 2, 3, 4, 5], []), ([6, 5, 5, 0, 1, 2, 3, 4, 5], [5, 6])])
def tree_CloneNode.B10 : List Nat := [0, 1, 0, 4, 12, 31, 63, 127]
theorem tree_CloneNode.tab10 : rtab .any (opsOf Try.f61 10) = tree_CloneNode.T10 := by kernel_rfl
theorem tree_CloneNode.bits10 : waitsOk tree_CloneNode.T10.2 tree_CloneNode.B10 = true := by kernel_rfl
end Go.Proofs.Yteejaaeglfpcmab.PX

namespace Go.Proofs.Yteejaaeglfpcmab.PX
open Go.RowKit Go.Proofs.YteejaaeglfpcmabW.PrintWords Go.Proofs.YteejaaeglfpcmabW.PrintLast Go.Proofs.YteejaaeglfpcmabW.PrintMore
attribute [local go_sem] max2_int min2_int max_two min_two max_three min_three max_four min_four
set_option maxHeartbeats 8000000 in
set_option maxRecDepth 100000 in
theorem tree_CloneNode.calls (k : Nat) : ∀ (a0_0 : ByteArray) (A0_1 : Option Addr) (c0_1 : Nat) (l0_1 : List (S77)) (A0_2 : Option Addr) (c0_2 : Nat) (l0_2 : List (S30)) (r1 : ByteArray) (r2 : List (S77)) (r3 : List (S30)) (w : World) (hr0_1 : Kd.C k77 w A0_1 l0_1.length l0_1) (hc0_1 : l0_1.length ≤ c0_1) (hr0_2 : Kd.C k30 w A0_2 l0_2.length l0_2) (hc0_2 : l0_2.length ≤ c0_2) (h : tree_CloneNode.f k a0_0 l0_1 l0_2 = some (r1, r2, r3)),
  Calls Try.prog 61 #[.agg #[.string a0_0, .slice A0_1 l0_1.length c0_1, .slice A0_2 l0_2.length c0_2]] w fun e w' => ∃ v1_ v2_ : Value, e = .returned (.agg #[.string r1, v1_, v2_]) ∧ Kd.S k77 77 w' w.heap.size (fun _ => True) v1_ r2 ∧ Kd.R k30 30 w' w.heap.size (fun k_ => some k_ ≠ (v1_ : Value).ownBlock) v2_ r3 ∧ Below w.heap.size w w' := by
 induction k using Nat.strongRecOn with
 | _ k ih =>
 intro a0_0 A0_1 c0_1 l0_1 A0_2 c0_2 l0_2 r1 r2 r3 w hr0_1 hc0_1 hr0_2 hc0_2 h
 cases k with
 | zero => exact absurd h (by simp [tree_CloneNode.f])
 | succ k =>
 simp only [tree_CloneNode.f] at h; have hu30 := Try.underlying30; have hu77 := Try.underlying77; have HR0_1 := Ak hr0_1; have HC0_1 := Ak hc0_1; clear hr0_1 hc0_1; have HR0_2 := Ak hr0_2; have HC0_2 := Ak hc0_2; clear hr0_2 hc0_2; have HB := Zq129; have H : (tree_CloneNode.l0 k l0_1 (l0_1.length : Int) 0 a0_0 l0_1 l0_2 a0_0 ([] : List (S77))) = some (r1, r2, r3) := h; clear h; have H' := Ak H; clear H
 go_enter Try.func61, Try.ntmps61
 go_wp2_with (first | ((with_reducible refine gate_dst (N := 1) rfl ?_); refine box_event ?hg (N := 1) ?hd (cs := #[.string a0_0, .slice A0_1 l0_1.length c0_1, .slice A0_2 l0_2.length c0_2]) (t := 30) ?hr ?_; (case hd | hg => rfl); (case hr => first | (go_simp; done) | (go_simp; rfl)); intro gbar hg w2 hbox hb; have n0_ := Zq122; have n1_ := Ak (hbox); have n2_ := Ak ((by rw [hg]; exact (below_size Zq5) : w.heap.size ≤ gbar)); have n3_ := Ak ((by rw [hg]; exact (below_size Zq5) : w.heap.size ≤ gbar)); clear HB; have HB := n0_; have BKar := n1_; have GWar := n2_; have GEar := n3_; clear n0_ n1_ n2_ n3_ hb hbox hg) | ((with_reducible refine gate_dst (N := 2) rfl ?_); refine box_event ?hg (N := 2) ?hd (cs := #[.string (⟨#[]⟩ : ByteArray), .slice none 0 0, .slice none 0 0]) (t := 30) ?hr ?_; (case hd | hg => rfl); (case hr => first | (go_simp; done) | (go_simp; rfl)); intro gbaA hg w3 hbox hb; have n0_ := Zq217; have n1_ := Ak (below_step (by repeat (first | (with_reducible first | exact HB.out | apply below_alloc | apply pw_below_drewN | apply below_drew1 | refine below_set ?_ GEar.out) | exact HB.out)) hb); have n2_ := Ak (hbox); have n3_ := Ak ((by rw [hg]; exact (below_size (by repeat (first | (with_reducible first | exact HB.out | apply below_alloc | apply pw_below_drewN | apply below_drew1 | refine below_set ?_ GEar.out) | exact HB.out))) : w.heap.size ≤ gbaA)); have n4_ := Ak ((by rw [hg]; exact (below_size (by repeat (first | (with_reducible first | exact HB.out | apply below_alloc | apply pw_below_drewN | apply below_drew1 | refine below_set ?_ GEar.out) | exact HB.out))) : w.heap.size ≤ gbaA)); have n5_ := Ak ((by rw [hg]; exact Nat.ne_of_lt Zq168 : gbar ≠ gbaA)); have n6_ := Ak ((by rw [hg]; exact Nat.ne_of_gt Zq168 : gbaA ≠ gbar)); clear BKar HB; have BKar := n0_; have HB := n1_; have BKaA := n2_; have GWaA := n3_; have GEaA := n4_; have NB129_130 := n5_; have NB130_129 := n6_; clear n0_ n1_ n2_ n3_ n4_ n5_ n6_ hb hbox hg; have hnb4 := NB129_130.out; have hnc4 := NB130_129.out; have hcz5_0 : w3.cell? ⟨gbar, 0, none⟩ = some (.string a0_0) := (blk_cell BKar.out 0).trans rfl; have hcz5_1 : w3.cell? ⟨gbar, 1, none⟩ = some (.slice A0_1 l0_1.length c0_1) := (blk_cell BKar.out 1).trans rfl; have hcz5_2 : w3.cell? ⟨gbar, 2, none⟩ = some (.slice A0_2 l0_2.length c0_2) := (blk_cell BKar.out 2).trans rfl; have hfz5_0 := blk_frozen BKar.out 0; have hfz5_1 := blk_frozen BKar.out 1; have hfz5_2 := blk_frozen BKar.out 2) | ((with_reducible refine gate_dst (N := 3) rfl ?_); refine box_event ?hg (N := 3) ?hd (cs := #[.string (⟨#[]⟩ : ByteArray), .slice none 0 0, .slice none 0 0]) (t := 30) ?hr ?_; (case hd | hg => rfl); (case hr => first | (go_simp; done) | (go_simp; rfl)); intro gbam hg w6 hbox hb; have n0_ := Zq217; have n1_ := Zq148; have n2_ := Ak (below_step Zq115 hb); have n3_ := Ak (hbox); have n4_ := Ak ((by rw [hg]; exact (below_size Zq115) : w.heap.size ≤ gbam)); have n5_ := Ak ((by rw [hg]; exact (below_size Zq115) : w.heap.size ≤ gbam)); have n6_ := Ak ((by rw [hg]; exact Nat.ne_of_lt Zq168 : gbar ≠ gbam)); have n7_ := Ak ((by rw [hg]; exact Nat.ne_of_gt Zq168 : gbam ≠ gbar)); have n8_ := Ak ((by rw [hg]; exact Nat.ne_of_lt Zq144 : gbaA ≠ gbam)); have n9_ := Ak ((by rw [hg]; exact Nat.ne_of_gt Zq144 : gbam ≠ gbaA)); clear BKar BKaA HB; have BKar := n0_; have BKaA := n1_; have HB := n2_; have BKam := n3_; have GWam := n4_; have GEam := n5_; have NB129_131 := n6_; have NB131_129 := n7_; have NB130_131 := n8_; have NB131_130 := n9_; clear n0_ n1_ n2_ n3_ n4_ n5_ n6_ n7_ n8_ n9_ hb hbox hg; have hnb7 := NB131_129.out; have hnc7 := NB129_131.out; have hnb8 := NB131_130.out; have hnc8 := NB130_131.out; have hcz9_0 : w6.cell? ⟨gbam, 0, none⟩ = some (.string (⟨#[]⟩ : ByteArray)) := (blk_cell BKam.out 0).trans rfl; have hcz9_1 : w6.cell? ⟨gbam, 1, none⟩ = some (.slice none 0 0) := (blk_cell BKam.out 1).trans rfl; have hcz9_2 : w6.cell? ⟨gbam, 2, none⟩ = some (.slice none 0 0) := (blk_cell BKam.out 2).trans rfl; have hfz9_0 := blk_frozen BKam.out 0; have hfz9_1 := blk_frozen BKam.out 1; have hfz9_2 := blk_frozen BKam.out 2; have hcz10_0 : w6.cell? ⟨gbar, 0, none⟩ = some (.string a0_0) := (blk_cell BKar.out 0).trans rfl; have hcz10_1 : w6.cell? ⟨gbar, 1, none⟩ = some (.slice A0_1 l0_1.length c0_1) := (blk_cell BKar.out 1).trans rfl; have hcz10_2 : w6.cell? ⟨gbar, 2, none⟩ = some (.slice A0_2 l0_2.length c0_2) := (blk_cell BKar.out 2).trans rfl; have hfz10_0 := blk_frozen BKar.out 0; have hfz10_1 := blk_frozen BKar.out 1; have hfz10_2 := blk_frozen BKar.out 2))
 go_loopg [14] k (fun kq v14 w' => ∃ (x14_1 : Int) (xaS_1 : List (S77)) (u132001 : Value), v14 = .int .i64 x14_1 ∧ Aside0 (tree_CloneNode.l0 kq l0_1 (l0_1.length : Int) x14_1 a0_0 l0_1 l0_2 a0_0 xaS_1 = some (r1, r2, r3)) ∧ Aside0 (kq ≤ k) ∧ Aside0 (Kd.S k77 77 w' w.heap.size (fun _ => True) u132001 xaS_1) ∧ Aside0 (w'.heap[gbar]? = some (.cells #[.string a0_0, (.slice A0_1 l0_1.length c0_1), (.slice A0_2 l0_2.length c0_2)] 30 (0, 0))) ∧ Aside0 (w'.heap[gbaA]? = some (.cells #[.string (⟨#[]⟩ : ByteArray), (.slice none 0 0), (.slice none 0 0)] 30 (0, 0))) ∧ Aside0 (w'.heap[gbam]? = some (.cells #[.string a0_0, u132001, (.slice none 0 0)] 30 (0, 0))) ∧ Aside0 (Below w.heap.size w w'))
 case atStart => exact ⟨(0), (([] : List (S77))), (.slice none 0 0), Zq6, H', ⟨Nat.le_refl _⟩, ⟨Zq97⟩, ⟨by (with_reducible repeat (first | refine blk_drewN ?_ _ | refine blk_drew ?_ | refine blk_alloc ?_ _)); refine blk_far ?_ NB129_131.out _; (with_reducible repeat (first | refine blk_drewN ?_ _ | refine blk_drew ?_ | refine blk_alloc ?_ _)); refine blk_far ?_ NB129_131.out _; (with_reducible repeat (first | refine blk_drewN ?_ _ | refine blk_drew ?_ | refine blk_alloc ?_ _)); refine blk_far ?_ NB129_131.out _; (with_reducible repeat (first | refine blk_drewN ?_ _ | refine blk_drew ?_ | refine blk_alloc ?_ _)); exact BKar.out⟩, ⟨by (with_reducible repeat (first | refine blk_drewN ?_ _ | refine blk_drew ?_ | refine blk_alloc ?_ _)); refine blk_far ?_ NB130_131.out _; (with_reducible repeat (first | refine blk_drewN ?_ _ | refine blk_drew ?_ | refine blk_alloc ?_ _)); refine blk_far ?_ NB130_131.out _; (with_reducible repeat (first | refine blk_drewN ?_ _ | refine blk_drew ?_ | refine blk_alloc ?_ _)); refine blk_far ?_ NB130_131.out _; (with_reducible repeat (first | refine blk_drewN ?_ _ | refine blk_drew ?_ | refine blk_alloc ?_ _)); exact BKaA.out⟩, ⟨by (with_reducible repeat (first | refine blk_drewN ?_ _ | refine blk_drew ?_ | refine blk_alloc ?_ _)); refine blk_put (cs := #[.string a0_0, .slice none 0 0, .slice none 0 0]) ?_ 2 _ rfl; (with_reducible repeat (first | refine blk_drewN ?_ _ | refine blk_drew ?_ | refine blk_alloc ?_ _)); refine blk_put (cs := #[.string a0_0, .slice none 0 0, .slice none 0 0]) ?_ 1 _ rfl; (with_reducible repeat (first | refine blk_drewN ?_ _ | refine blk_drew ?_ | refine blk_alloc ?_ _)); refine blk_put (cs := #[.string (⟨#[]⟩ : ByteArray), .slice none 0 0, .slice none 0 0]) ?_ 0 _ rfl; (with_reducible repeat (first | refine blk_drewN ?_ _ | refine blk_drew ?_ | refine blk_alloc ?_ _)); exact BKam.out⟩, ⟨Zq56⟩⟩
 case round =>
  clear H'
  try clear p2
  try clear c4
  try clear c6
  try clear c7
  try clear c8
  try clear hcz10_0
  try clear hcz10_1
  try clear hcz10_2
  try clear hcz5_0
  try clear hcz5_1
  try clear hcz5_2
  try clear hcz9_0
  try clear hcz9_1
  try clear hcz9_2
  try clear hfz10_0
  try clear hfz10_1
  try clear hfz10_2
  try clear hfz5_0
  try clear hfz5_1
  try clear hfz5_2
  try clear hfz9_0
  try clear hfz9_1
  try clear hfz9_2
  obtain ⟨x14_1, xaS_1, u132001, rfl, HA, HK1, HO_aS, BKar, BKaA, BKam, HB⟩ := hrel
  cases gk with
  | zero => exact absurd HA.out (by simp [tree_CloneNode.l0])
  | succ k1 =>
   have H := HA.out; clear HA; simp only [tree_CloneNode.l0] at H
   by_cases c11 : x14_1 < (l0_1.length : Int)
   ·rw [if_pos c11] at H; have c11b0 : decide (x14_1 < (l0_1.length : Int)) = true := decide_eq_true c11; clear c11
    by_cases c12 : 0 ≤ x14_1
    ·rw [if_pos c12] at H; have c12b0 : decide (0 ≤ x14_1) = true := decide_eq_true c12; clear c12
     by_cases c13 : x14_1 < (l0_1.length : Int)
     ·rw [if_pos c13] at H; have c13b0 : decide (x14_1 < (l0_1.length : Int)) = true := decide_eq_true c13; clear c13; replace H := Option.bind_eq_some_iff.mp H; obtain ⟨tdj, Aay, H⟩ := H; replace H : (if xaS_1.length < 3518437208883 then (tree_CloneNode.l0 k1 l0_1 (l0_1.length : Int) (wrap64 (x14_1 + 1)) a0_0 l0_1 l0_2 a0_0 (xaS_1 ++ [(⟨(rd_T77 l0_1 x14_1).f0, tdj⟩ : S77)])) else (none)) = some (r1, r2, r3) := H; have A14 := Ak Aay; clear Aay
      by_cases c15 : xaS_1.length < 3518437208883
      ·rw [if_pos c15] at H; have LMc15 := Ak c15; clear c15
       obtain ⟨ycI, hycI⟩ : ∃ y_ : List (S77), y_ = (xaS_1 ++ [(⟨(rd_T77 l0_1 x14_1).f0, tdj⟩ : S77)]) := ⟨_, rfl⟩
       replace H : (tree_CloneNode.l0 k1 l0_1 (l0_1.length : Int) (wrap64 (x14_1 + 1)) a0_0 l0_1 l0_2 a0_0 ycI) = some (r1, r2, r3) := by first | (rw [hycI]; with_reducible exact H) | (have H2_ := (Option.bind_some _ _).symm.trans H; rw [hycI]; with_reducible exact H2_) | (have H2_ := (Option.bind_some _ _).symm.trans H; with_reducible exact H2_) | with_reducible exact H | (rw [hycI]; exact H) | exact H
       have NycI := Ak hycI; clear hycI; have H' := Ak H; clear H; have p132 : 0 ≤ (x14_1 : Int) := of_decide_eq_true Zq4; have q132 : x14_1 < (l0_1.length : Int) := of_decide_eq_true Zq4; obtain ⟨adbm, Abm_1, cbm_1, e132, hx132_0, hx132_1, hl132_1, hi132_1⟩ := at_T77 HR0_1.out x14_1 p132 q132
       cases e132
       replace hx132_0 := (HB.out.cell (World.block_lt_of_cell? w _ hx132_0)).trans hx132_0; replace hx132_1 := (HB.out.cell (World.block_lt_of_cell? w _ hx132_1)).trans hx132_1; have HRbm_1 := Ak hi132_1; have HCbm_1 := Ak hl132_1; clear hi132_1 hl132_1; replace p132 := eq_true p132; replace q132 := eq_true q132
       try go_wp2_with (first | ((with_reducible refine gate_dst (N := 5) rfl ?_); refine box_event ?hg (N := 5) ?hd (cs := #[.string (⟨#[]⟩ : ByteArray), .slice none 0 0]) (t := 77) ?hr ?_; (case hd | hg => rfl); (case hr => first | (go_simp; done) | (go_simp; rfl)); intro gbaN hg w16 hbox hb; have n0_ := Ak (Kd.S_below (Kd.S_elderB Zq57 gbaN (Nat.le_of_eq hg.symm)) hb); have n1_ := Zq211; have n2_ := Zq148; have n3_ := Ak (blk_below (g := gbam) (o := .cells #[.string a0_0, u132001, .slice none 0 0] 30 (0, 0)) Zq42 hb); have n4_ := Ak (below_step Zq56 hb); have n5_ := Ak (hbox); have n6_ := Ak ((by rw [hg]; exact (below_size Zq56) : w.heap.size ≤ gbaN)); have n7_ := Ak ((by rw [hg]; exact (below_size Zq56) : w.heap.size ≤ gbaN)); have n8_ := Ak ((by rw [hg]; exact Nat.ne_of_lt Zq223 : gbar ≠ gbaN)); have n9_ := Ak ((by rw [hg]; exact Nat.ne_of_gt Zq223 : gbaN ≠ gbar)); have n10_ := Ak ((by rw [hg]; exact Nat.ne_of_lt Zq144 : gbaA ≠ gbaN)); have n11_ := Ak ((by rw [hg]; exact Nat.ne_of_gt Zq144 : gbaN ≠ gbaA)); have n12_ := Ak ((by rw [hg]; exact Nat.ne_of_lt (blk_lt (g := gbam) (o := .cells #[.string a0_0, u132001, .slice none 0 0] 30 (0, 0)) Zq42) : gbam ≠ gbaN)); have n13_ := Ak ((by rw [hg]; exact Nat.ne_of_gt (blk_lt (g := gbam) (o := .cells #[.string a0_0, u132001, .slice none 0 0] 30 (0, 0)) Zq42) : gbaN ≠ gbam)); clear HO_aS BKar BKaA BKam HB; have HO_aS := n0_; have BKar := n1_; have BKaA := n2_; have BKam := n3_; have HB := n4_; have BKaN := n5_; have GWaN := n6_; have GEaN := n7_; have NB129_133 := n8_; have NB133_129 := n9_; have NB130_133 := n10_; have NB133_130 := n11_; have NB131_133 := n12_; have NB133_131 := n13_; clear n0_ n1_ n2_ n3_ n4_ n5_ n6_ n7_ n8_ n9_ n10_ n11_ n12_ n13_ hb hbox hg; have hnb17 := NB133_129.out; have hnc17 := NB129_133.out; have hnb18 := NB133_130.out; have hnc18 := NB130_133.out; have hnb19 := NB133_131.out; have hnc19 := NB131_133.out; have hcz20_0 : w16.cell? ⟨gbaN, 0, none⟩ = some (.string (⟨#[]⟩ : ByteArray)) := (blk_cell BKaN.out 0).trans rfl; have hcz20_1 : w16.cell? ⟨gbaN, 1, none⟩ = some (.slice none 0 0) := (blk_cell BKaN.out 1).trans rfl; have hfz20_0 := blk_frozen BKaN.out 0; have hfz20_1 := blk_frozen BKaN.out 1))
       have n0_ : Aside0 (Kd.S k77 77 ((w16.setCell ⟨gbaN, 0, none⟩ (.string ((rd_T77 l0_1 x14_1).f0))).setCell ⟨gbaN, 1, none⟩ (.slice Abm_1 ((rd_T77 l0_1 x14_1).f1).length cbm_1)) w.heap.size (fun k_ => k_ ≠ gbaN) u132001 xaS_1) := ⟨by (with_reducible repeat (first | apply Kd.S_alloc | apply Kd.S_drewN | apply Kd.S_drew)); exact Kd.S_mono (Kd.S_far (p := ⟨gbaN, 1, none⟩) (Kd.S_far (p := ⟨gbaN, 0, none⟩) (Kd.S_mono HO_aS.out (fun k_ hk => (⟨hk, hk.2⟩ : _ ∧ k_ ≠ gbaN))) (fun _ hk => hk.2) (.string ((rd_T77 l0_1 x14_1).f0))) (fun _ hk => hk.2) (.slice Abm_1 ((rd_T77 l0_1 x14_1).f1).length cbm_1)) (fun _ hk => hk.1.2)⟩
       have n1_ : Aside0 (((w16.setCell ⟨gbaN, 0, none⟩ (.string ((rd_T77 l0_1 x14_1).f0))).setCell ⟨gbaN, 1, none⟩ (.slice Abm_1 ((rd_T77 l0_1 x14_1).f1).length cbm_1)).heap[gbar]? = some (.cells #[.string a0_0, .slice (some adbm) l0_1.length c0_1, .slice A0_2 l0_2.length c0_2] 30 (0, 0))) := ⟨by (with_reducible repeat (first | refine blk_drewN ?_ _ | refine blk_drew ?_ | refine blk_alloc ?_ _)); refine blk_far ?_ NB129_133.out _; (with_reducible repeat (first | refine blk_drewN ?_ _ | refine blk_drew ?_ | refine blk_alloc ?_ _)); refine blk_far ?_ NB129_133.out _; (with_reducible repeat (first | refine blk_drewN ?_ _ | refine blk_drew ?_ | refine blk_alloc ?_ _)); exact BKar.out⟩
       have n2_ : Aside0 (((w16.setCell ⟨gbaN, 0, none⟩ (.string ((rd_T77 l0_1 x14_1).f0))).setCell ⟨gbaN, 1, none⟩ (.slice Abm_1 ((rd_T77 l0_1 x14_1).f1).length cbm_1)).heap[gbaA]? = some (.cells #[.string (⟨#[]⟩ : ByteArray), .slice none 0 0, .slice none 0 0] 30 (0, 0))) := ⟨by (with_reducible repeat (first | refine blk_drewN ?_ _ | refine blk_drew ?_ | refine blk_alloc ?_ _)); refine blk_far ?_ NB130_133.out _; (with_reducible repeat (first | refine blk_drewN ?_ _ | refine blk_drew ?_ | refine blk_alloc ?_ _)); refine blk_far ?_ NB130_133.out _; (with_reducible repeat (first | refine blk_drewN ?_ _ | refine blk_drew ?_ | refine blk_alloc ?_ _)); exact BKaA.out⟩
       have n3_ : Aside0 (((w16.setCell ⟨gbaN, 0, none⟩ (.string ((rd_T77 l0_1 x14_1).f0))).setCell ⟨gbaN, 1, none⟩ (.slice Abm_1 ((rd_T77 l0_1 x14_1).f1).length cbm_1)).heap[gbam]? = some (.cells #[.string a0_0, u132001, .slice none 0 0] 30 (0, 0))) := ⟨by (with_reducible repeat (first | refine blk_drewN ?_ _ | refine blk_drew ?_ | refine blk_alloc ?_ _)); refine blk_far ?_ NB131_133.out _; (with_reducible repeat (first | refine blk_drewN ?_ _ | refine blk_drew ?_ | refine blk_alloc ?_ _)); refine blk_far ?_ NB131_133.out _; (with_reducible repeat (first | refine blk_drewN ?_ _ | refine blk_drew ?_ | refine blk_alloc ?_ _)); exact BKam.out⟩
       have n4_ : Aside0 (((w16.setCell ⟨gbaN, 0, none⟩ (.string ((rd_T77 l0_1 x14_1).f0))).setCell ⟨gbaN, 1, none⟩ (.slice Abm_1 ((rd_T77 l0_1 x14_1).f1).length cbm_1)).heap[gbaN]? = some (.cells #[.string ((rd_T77 l0_1 x14_1).f0), .slice Abm_1 ((rd_T77 l0_1 x14_1).f1).length cbm_1] 77 (0, 0))) := ⟨by (with_reducible repeat (first | refine blk_drewN ?_ _ | refine blk_drew ?_ | refine blk_alloc ?_ _)); refine blk_put (cs := #[.string ((rd_T77 l0_1 x14_1).f0), .slice none 0 0]) ?_ 1 _ rfl; (with_reducible repeat (first | refine blk_drewN ?_ _ | refine blk_drew ?_ | refine blk_alloc ?_ _)); refine blk_put (cs := #[.string (⟨#[]⟩ : ByteArray), .slice none 0 0]) ?_ 0 _ rfl; (with_reducible repeat (first | refine blk_drewN ?_ _ | refine blk_drew ?_ | refine blk_alloc ?_ _)); exact BKaN.out⟩
       have n5_ : Aside0 (Below w.heap.size w ((w16.setCell ⟨gbaN, 0, none⟩ (.string ((rd_T77 l0_1 x14_1).f0))).setCell ⟨gbaN, 1, none⟩ (.slice Abm_1 ((rd_T77 l0_1 x14_1).f1).length cbm_1))) := ⟨Zq76⟩
       (try clear HO_aS)
       (try clear BKar)
       (try clear BKaA)
       (try clear BKam)
       (try clear BKaN)
       (try clear HB)
       generalize ((w16.setCell ⟨gbaN, 0, none⟩ (.string ((rd_T77 l0_1 x14_1).f0))).setCell ⟨gbaN, 1, none⟩ (.slice Abm_1 ((rd_T77 l0_1 x14_1).f1).length cbm_1)) = w21 at n0_ n1_ n2_ n3_ n4_ n5_ ⊢; have HO_aS := n0_; have BKar := n1_; have BKaA := n2_; have BKam := n3_; have BKaN := n4_; have HB := n5_; clear n0_ n1_ n2_ n3_ n4_ n5_; have n0_ := Ak (Kd.S_drew HO_aS.out); have n1_ := Ak (blk_drew BKar.out); have n2_ := Ak (blk_drew BKaA.out); have n3_ := Ak (blk_drew BKam.out); have n4_ := Ak (blk_drew BKaN.out); have n5_ := Zq164; clear HO_aS BKar BKaA BKam BKaN HB; have HO_aS := n0_; have BKar := n1_; have BKaA := n2_; have BKam := n3_; have BKaN := n4_; have HB := n5_; clear n0_ n1_ n2_ n3_ n4_ n5_; refine start_ (n := 12) (S := fun w' => w'.cell? ⟨gbam, 0, none⟩ = some (.string a0_0) ∧ w'.cell? ⟨gbam, 1, none⟩ = some (u132001) ∧ w'.cell? ⟨gbam, 2, none⟩ = some (.slice none 0 0) ∧ w'.cell? ⟨gbaN, 0, none⟩ = some (.string ((rd_T77 l0_1 x14_1).f0)) ∧ w'.cell? ⟨gbaN, 1, none⟩ = some (.slice Abm_1 ((rd_T77 l0_1 x14_1).f1).length cbm_1)) (ds := [11]) #[false, false, false, false, false, false, false, false, false, false, false, false] Zq2 rfl rfl ⟨(blk_cell BKam.out 0).trans rfl, (blk_cell BKam.out 1).trans rfl, (blk_cell BKam.out 2).trans rfl, (blk_cell BKaN.out 0).trans rfl, (blk_cell BKaN.out 1).trans rfl⟩ (fun hHeld => ?_); refine with_tabW tree_CloneNode.tab5 tree_CloneNode.bits5 (fun HT_ HW_ => ?_); generalize w21.drew = w22 at HO_aS BKar BKaA BKam BKaN HB hHeld ⊢; refine pure_ (i := 0) (N := some 18) (v := ?_) (a' := ?_) #[true, false, false, false, false, false, false, false, false, false, false, false] rfl rfl (any_of HT_.out Zq2) (fun _ _ _ h => h) (Or.inl ⟨Zq3, ?_⟩) ?_ ?_
       rotate_left
       ·intro w'
        go_simp
        with_reducible rfl
       rotate_left
       ·simp only [Sx]
        rfl
       refine pure_ (i := 2) (N := some 20) (v := ?_) (a' := ?_) #[true, false, true, false, false, false, false, false, false, false, false, false] rfl rfl (any_of HT_.out Zq2) (fun _ _ _ h => h) (Or.inl ⟨Zq3, ?_⟩) ?_ ?_
       rotate_left
       ·intro w'
        go_simp
        with_reducible rfl
       rotate_left
       ·simp only [Sx]
        rfl
       refine pure_ (i := 4) (N := some 22) (v := ?_) (a' := ?_) #[true, false, true, false, true, false, false, false, false, false, false, false] rfl rfl (any_of HT_.out Zq2) (fun _ _ _ h => h) (Or.inl ⟨Zq3, ?_⟩) ?_ ?_
       rotate_left
       ·intro w'
        go_simp
        with_reducible rfl
       rotate_left
       ·simp only [Sx]
        rfl
       refine take_ (i := 1) (N := some 19) (v := ?_) (a' := ?_) #[true, true, true, false, true, false, false, false, false, false, false, false] rfl rfl (take_ofW HT_.out HW_.out Zq2) (fun _ _ _ h => h) (Or.inl ⟨Zq3, ?_⟩) hHeld ?_ ?_
       rotate_left
       ·rintro w' ⟨s0, s1, s2, s3, s4⟩
        go_simp
        with_reducible rfl
       rotate_left
       ·simp only [Sx]
        rfl
       refine take_ (i := 3) (N := some 21) (v := ?_) (a' := ?_) #[true, true, true, true, true, false, false, false, false, false, false, false] rfl rfl (take_ofW HT_.out HW_.out Zq2) (fun _ _ _ h => h) (Or.inl ⟨Zq3, ?_⟩) hHeld ?_ ?_
       rotate_left
       ·rintro w' ⟨s0, s1, s2, s3, s4⟩
        go_simp
        with_reducible rfl
       rotate_left
       ·simp only [Sx]
        rfl
       refine take_ (i := 5) (N := some 23) (v := ?_) (a' := ?_) #[true, true, true, true, true, true, false, false, false, false, false, false] rfl rfl (take_ofW HT_.out HW_.out Zq2) (fun _ _ _ h => h) (Or.inl ⟨Zq3, ?_⟩) hHeld ?_ ?_
       rotate_left
       ·rintro w' ⟨s0, s1, s2, s3, s4⟩
        go_simp
        with_reducible rfl
       rotate_left
       ·simp only [Sx]
        rfl
       refine one_ (i := 6) (N := some 24) #[true, true, true, true, true, true, true, false, false, false, false, false] rfl rfl (one_of HT_.out Zq2) Zq7 (fun K hK => ?_); refine goes_ Try.func57 Zq2 rfl #[.slice Abm_1 ((rd_T77 l0_1 x14_1).f1).length cbm_1] Zq3 rfl rfl Zq9 ?_; with_reducible refine (bytes_Clone.calls _ _ ((rd_T77 l0_1 x14_1).f1) tdj _ ?side1 ?side2 A14.out).mono ?_
       (case side1 => repeat (first | exact (Kd.C_below HRbm_1.out HB.out) | (with_reducible refine Kd.C_alloc ?_ _) | (with_reducible refine Kd.C_drewN ?_ _) | (with_reducible refine Kd.C_drew ?_)))
       (case side2 => exact HCbm_1.out)
       rintro e w23 ⟨v135, rfl, ho0, hb⟩
       refine ⟨_, rfl, ?_⟩; have n0_ := Ak (Kd.S_elder' Zq57 (Kd.R_base ho0) hb); have n1_ := Ak (Kd.R_lower ho0 (below_size Zq76)); have n2_ := Zq211; have n3_ := Zq148; have n4_ := Ak (blk_below (g := gbam) (o := .cells #[.string a0_0, u132001, .slice none 0 0] 30 (0, 0)) Zq42 hb); have n5_ := Ak (blk_below (g := gbaN) (o := .cells #[.string ((rd_T77 l0_1 x14_1).f0), .slice Abm_1 ((rd_T77 l0_1 x14_1).f1).length cbm_1] 77 (0, 0)) (by (with_reducible repeat (first | refine blk_drewN ?_ _ | refine blk_drew ?_ | refine blk_alloc ?_ _)); exact BKaN.out) hb); have n6_ := Ak (below_step Zq76 hb); clear HO_aS BKar BKaA BKam BKaN HB; have HO_aS := n0_; have HOeJ := n1_; have BKar := n2_; have BKaA := n3_; have BKam := n4_; have BKaN := n5_; have HB := n6_; clear n0_ n1_ n2_ n3_ n4_ n5_ n6_
       (try clear hb)
       (try clear hb2)
       (try clear hk)
       (try clear hi)
       (try clear ho0)
       obtain ⟨Ao24, co24, eo24⟩ := Kd.R_slice HOeJ.out
       (first | subst eo24 | (injection eo24 with f1_ f2_ f3_; have f4_ := f1_.symm; have f5_ := f3_.symm; clear f1_ f2_ f3_; subst f4_; subst f5_))
       refine hK.out _ _ ⟨(blk_cell BKam.out 0).trans rfl, (blk_cell BKam.out 1).trans rfl, (blk_cell BKam.out 2).trans rfl, (blk_cell BKaN.out 0).trans rfl, (blk_cell BKaN.out 1).trans rfl⟩ (fun hHeld => ?_); clear hK K; refine norm_ (a' := ?_) ?_ ?_
       rotate_left
       ·show Act.put _ (some 24) _ = _
        simp only [Sx]
        rfl
       refine pure_ (i := 7) (N := some 25) (v := ?_) (a' := ?_) #[true, true, true, true, true, true, true, true, false, false, false, false] rfl rfl (any_of HT_.out Zq2) (fun _ _ _ h => h) (Or.inl ⟨Zq3, ?_⟩) ?_ ?_
       rotate_left
       ·intro w'
        go_simp
        with_reducible rfl
       rotate_left
       ·simp only [Sx]
        rfl
       refine one_ (i := 8) (N := some 26) #[true, true, true, true, true, true, true, true, true, false, false, false] rfl rfl (one_of HT_.out Zq2) Zq7 (fun K hK => ?_); refine value_ (w1 := ?_) (v := ?_) Zq3 rfl ?_ ?_
       rotate_left 2
       ·go_simp
        constructor
        ·rfl
        ·rfl
       refine hK.out _ _ ⟨(blk_cell (blk_alloc BKam.out _) 0).trans rfl, (blk_cell (blk_alloc BKam.out _) 1).trans rfl, (blk_cell (blk_alloc BKam.out _) 2).trans rfl, (blk_cell (blk_alloc BKaN.out _) 0).trans rfl, (blk_cell (blk_alloc BKaN.out _) 1).trans rfl⟩ (fun hHeld => ?_); clear hK K; refine norm_ (a' := ?_) ?_ ?_
       rotate_left
       ·show Act.put _ (some 26) _ = _
        simp only [Sx]
        rfl
       refine one_ (i := 9) (N := some 27) #[true, true, true, true, true, true, true, true, true, true, false, false] rfl rfl (one_of HT_.out Zq2) Zq7 (fun K hK => ?_); refine Kd.S_append_step k77 (w0 := w) w.heap.size Zq3 (.tmp 19) (.tmp 26) 27 77 (.agg #[(.string ⟨#[]⟩), (.slice none 0 0)]) 40 rfl Try.underlying27 info77 rfl Zq7 Zq1 u132001 xaS_1 (⟨(rd_T77 l0_1 x14_1).f0, tdj⟩ : S77) [.string ((rd_T77 l0_1 x14_1).f0), .slice Ao24 tdj.length co24] (fun k_ => k_ ≠ gbaN) (fun k_ => some k_ = (.slice Ao24 tdj.length co24 : Value).ownBlock) rfl rfl ?aP (fun k_ hk_ => ((Kd.R_mono (ok' := fun k_ => ((fun k_ => k_ ≠ gbaN)) k_ ∧ some k_ ≠ (u132001 : Value).ownBlock) (Kd.R_types (Kd.R_apart' (HOeJ.out) (Kd.S_typed HO_aS.out) Zq7) BKaN.out Zq7) (fun k_ hk => ⟨hk.2, hk.1.2⟩))).1 k_ hk_.symm) ?aF ?aO ?aB ?aS ?aL ?_
       (case aP => exact k77_mkM _ _ _ (⟨(rd_T77 l0_1 x14_1).f0, tdj⟩ : S77) (Kd.R_mono (Kd.R_tight rfl (Kd.R_mono (ok' := fun k_ => ((fun k_ => k_ ≠ gbaN)) k_ ∧ some k_ ≠ (u132001 : Value).ownBlock) (Kd.R_types (Kd.R_apart' (HOeJ.out) (Kd.S_typed HO_aS.out) Zq7) BKaN.out Zq7) (fun k_ hk => ⟨hk.2, hk.1.2⟩))) (fun _ h_ => h_)))
       (case aB => exact Zq76)
       (case aF => exact (fun k_ hk => Kd.freshB (g := gbaN) (o := .cells #[.string ((rd_T77 l0_1 x14_1).f0), .slice Abm_1 ((rd_T77 l0_1 x14_1).f1).length cbm_1] 77 (0, 0)) (by (with_reducible repeat (first | refine blk_drewN ?_ _ | refine blk_drew ?_ | refine blk_alloc ?_ _)); exact BKaN.out) k_ hk))
       (case aO => exact (by (with_reducible repeat (first | apply Kd.S_alloc | apply Kd.S_drewN | apply Kd.S_drew)); exact Kd.S_mono HO_aS.out (fun k_ hk => ⟨hk.1, fun e_ => hk.2 e_⟩)))
       (case aS => exact (below_size Zq76))
       (case aL => have := LMc15.out; omega)
       intro v138 w25 ho hb hg hat; rw [← NycI.out] at ho; have n0_ := Ak (blk_grown (g := gbar) (o := .cells #[.string a0_0, .slice (some adbm) l0_1.length c0_1, .slice A0_2 l0_2.length c0_2] 30 (0, 0)) Zq27 hg (Kd.S_ne HO_aS.out BKar.out Zq7)); have n1_ := Ak (blk_grown (g := gbaA) (o := .cells #[.string (⟨#[]⟩ : ByteArray), .slice none 0 0, .slice none 0 0] 30 (0, 0)) Zq36 hg (Kd.S_ne HO_aS.out BKaA.out Zq7)); have n2_ := Ak (blk_grown (g := gbam) (o := .cells #[.string a0_0, u132001, .slice none 0 0] 30 (0, 0)) Zq42 hg (Kd.S_ne HO_aS.out BKam.out Zq7)); have n3_ := Ak (blk_grown (g := gbaN) (o := .cells #[.string ((rd_T77 l0_1 x14_1).f0), .slice Abm_1 ((rd_T77 l0_1 x14_1).f1).length cbm_1] 77 (0, 0)) (by (with_reducible repeat (first | refine blk_drewN ?_ _ | refine blk_drew ?_ | refine blk_alloc ?_ _)); exact BKaN.out) hg (Kd.S_away HO_aS.out (fun _ hk => hk.1))); have n4_ := Ak (hb); have n5_ := Ak (ho); clear BKar BKaA BKam BKaN HB HO_aS HOeJ; have BKar := n0_; have BKaA := n1_; have BKam := n2_; have BKaN := n3_; have HB := n4_; have HOfv := n5_; clear n0_ n1_ n2_ n3_ n4_ n5_ ho hb hg hat; obtain ⟨Ao26, co26, eo26⟩ := Kd.S_slice HOfv.out
       (first | subst eo26 | (injection eo26 with f1_ f2_ f3_; have f4_ := f1_.symm; have f5_ := f3_.symm; clear f1_ f2_ f3_; subst f4_; subst f5_))
       refine hK.out _ _ ⟨(blk_cell BKam.out 0).trans rfl, (blk_cell BKam.out 1).trans rfl, (blk_cell BKam.out 2).trans rfl, (blk_cell BKaN.out 0).trans rfl, (blk_cell BKaN.out 1).trans rfl⟩ (fun hHeld => ?_); clear hK K; refine norm_ (a' := ?_) ?_ ?_
       rotate_left
       ·show Act.put _ (some 27) _ = _
        simp only [Sx]
        rfl
       refine pure_ (i := 10) (N := some 28) (v := ?_) (a' := ?_) #[true, true, true, true, true, true, true, true, true, true, true, false] rfl rfl (any_of HT_.out Zq2) (fun _ _ _ h => h) (Or.inl ⟨Zq3, ?_⟩) ?_ ?_
       rotate_left
       ·intro w'
        go_simp
        with_reducible rfl
       rotate_left
       ·simp only [Sx]
        rfl
       refine last_ (i := 11) (N := none) #[true, true, true, true, true, true, true, true, true, true, true, true] rfl rfl (one_of HT_.out Zq2) Zq7 (fun K hK => ?_); have hs27 : w25.cell? ⟨gbam, 1, none⟩ = some (u132001) := (blk_cell BKam.out 1).trans rfl; have hfs27 := blk_frozen BKam.out 1; have hns27_0 := NB129_131.out; have hns27_1 := NB130_131.out; have hns27_3 := NB133_131.out; have hms27_0 := NB131_129.out; have hms27_1 := NB131_130.out; have hms27_3 := NB131_133.out; refine skip_ (w1 := ?_) Zq3 rfl ?_ ?_
       rotate_left
       ·go_simp
        rfl
       refine hK.out _ _ ?_; clear hK K; refine done_ (done_of HT_.out Zq2) ?_
       try go_wp2
       go_roundg k1
       case measure => have := HK1.out; omega
       case rel => exact ⟨(wrap64 (x14_1 + 1)), (ycI), (.slice Ao26 ycI.length co26), Zq6, H', ⟨Zq26⟩, ⟨by (with_reducible repeat (first | apply Kd.S_alloc | apply Kd.S_drewN | apply Kd.S_drew)); exact Kd.S_mono (Kd.S_far (p := ⟨gbam, 1, none⟩) (Kd.S_types HOfv.out BKam.out Zq7) (fun _ hk => hk.2) (.slice Ao26 ycI.length co26)) (fun _ hk => trivial)⟩, ⟨by (with_reducible repeat (first | refine blk_drewN ?_ _ | refine blk_drew ?_ | refine blk_alloc ?_ _)); refine blk_far ?_ NB129_131.out _; (with_reducible repeat (first | refine blk_drewN ?_ _ | refine blk_drew ?_ | refine blk_alloc ?_ _)); exact BKar.out⟩, ⟨by (with_reducible repeat (first | refine blk_drewN ?_ _ | refine blk_drew ?_ | refine blk_alloc ?_ _)); refine blk_far ?_ NB130_131.out _; (with_reducible repeat (first | refine blk_drewN ?_ _ | refine blk_drew ?_ | refine blk_alloc ?_ _)); exact BKaA.out⟩, ⟨by (with_reducible repeat (first | refine blk_drewN ?_ _ | refine blk_drew ?_ | refine blk_alloc ?_ _)); refine blk_put (cs := #[.string a0_0, u132001, .slice none 0 0]) ?_ 1 _ rfl; (with_reducible repeat (first | refine blk_drewN ?_ _ | refine blk_drew ?_ | refine blk_alloc ?_ _)); exact BKam.out⟩, ⟨Zq76⟩⟩
      ·rw [if_neg c15] at H; exact absurd H Zq8
     ·rw [if_neg c13] at H; exact absurd H Zq8
    ·rw [if_neg c12] at H; exact absurd H Zq8
   ·rw [if_neg c11] at H; have c11b0 : decide (x14_1 < (l0_1.length : Int)) = false := decide_eq_false c11; clear c11; have H' := Ak H; clear H; have hnb28 := NB129_130.out; have hnc28 := NB130_129.out; have hnb29 := NB129_131.out; have hnc29 := NB131_129.out; have hcz30_0 : wr.cell? ⟨gbar, 0, none⟩ = some (.string a0_0) := (blk_cell BKar.out 0).trans rfl; have hcz30_1 : wr.cell? ⟨gbar, 1, none⟩ = some (.slice A0_1 l0_1.length c0_1) := (blk_cell BKar.out 1).trans rfl; have hcz30_2 : wr.cell? ⟨gbar, 2, none⟩ = some (.slice A0_2 l0_2.length c0_2) := (blk_cell BKar.out 2).trans rfl; have hfz30_0 := blk_frozen BKar.out 0; have hfz30_1 := blk_frozen BKar.out 1; have hfz30_2 := blk_frozen BKar.out 2
    go_wp2
    go_loopg [33] k1 (fun kq v33 w' => ∃ (x33_2 : Int) (xbl_2 : List (S30)) (u132002 : Value), v33 = .int .i64 x33_2 ∧ Aside0 (tree_CloneNode.l1 kq l0_2 (l0_2.length : Int) x33_2 a0_0 xaS_1 xbl_2 = some (r1, r2, r3)) ∧ Aside0 (kq ≤ k1) ∧ Aside0 (Kd.S k77 77 w' w.heap.size (fun _ => True) u132001 xaS_1) ∧ Aside0 (Kd.R k30 30 w' w.heap.size (fun k_ => some k_ ≠ (u132001 : Value).ownBlock ∧ k_ ≠ gbar ∧ k_ ≠ gbaA ∧ k_ ≠ gbam) u132002 xbl_2) ∧ Aside0 (w'.heap[gbar]? = some (.cells #[.string a0_0, (.slice A0_1 l0_1.length c0_1), (.slice A0_2 l0_2.length c0_2)] 30 (0, 0))) ∧ Aside0 (w'.heap[gbaA]? = some (.cells #[.string (⟨#[]⟩ : ByteArray), (.slice none 0 0), (.slice none 0 0)] 30 (0, 0))) ∧ Aside0 (w'.heap[gbam]? = some (.cells #[.string a0_0, u132001, u132002] 30 (0, 0))) ∧ Aside0 (Below w.heap.size w w'))
    case atStart => exact ⟨(0), (([] : List (S30))), (.slice none 0 0), Zq6, H', ⟨Nat.le_refl _⟩, ⟨Zq57⟩, ⟨Zq32⟩, ⟨Zq27⟩, ⟨Zq36⟩, ⟨Zq42⟩, ⟨Zq56⟩⟩
    case round =>
     clear H'
     try clear c1
     try clear p1
     try clear q1
     try clear hx1
     try clear c2
     try clear p2
     try clear c4
     try clear c5
     try clear c6
     try clear p6
     try clear c7
     try clear c8
     try clear c11
     try clear c11b0
     try clear c12
     try clear c12b0
     try clear c13
     try clear c13b0
     try clear p13
     try clear q13
     try clear hx13
     try clear c15
     try clear c17
     try clear c18
     try clear c19
     try clear c28
     try clear c29
     try clear hcz10_0
     try clear hcz10_1
     try clear hcz10_2
     try clear hcz20_0
     try clear hcz20_1
     try clear hcz30_0
     try clear hcz30_1
     try clear hcz30_2
     try clear hcz5_0
     try clear hcz5_1
     try clear hcz5_2
     try clear hcz9_0
     try clear hcz9_1
     try clear hcz9_2
     try clear hfz10_0
     try clear hfz10_1
     try clear hfz10_2
     try clear hfz20_0
     try clear hfz20_1
     try clear hfz30_0
     try clear hfz30_1
     try clear hfz30_2
     try clear hfz5_0
     try clear hfz5_1
     try clear hfz5_2
     try clear hfz9_0
     try clear hfz9_1
     try clear hfz9_2
     try clear hx132_0
     try clear hx132_1
     try clear p132
     try clear p2
     try clear q132
     obtain ⟨x33_2, xbl_2, u132002, rfl, HA, HK2, HO_aS, HO_bl, BKar, BKaA, BKam, HB⟩ := hrel
     cases gk with
     | zero => exact absurd HA.out (by simp [tree_CloneNode.l1])
     | succ k2 =>
      have H := HA.out; clear HA; simp only [tree_CloneNode.l1] at H
      by_cases c31 : x33_2 < (l0_2.length : Int)
      ·rw [if_pos c31] at H; have c31b0 : decide (x33_2 < (l0_2.length : Int)) = true := decide_eq_true c31; clear c31
       by_cases c32 : 0 ≤ x33_2
       ·rw [if_pos c32] at H; have c32b0 : decide (0 ≤ x33_2) = true := decide_eq_true c32; clear c32
        by_cases c33 : x33_2 < (l0_2.length : Int)
        ·rw [if_pos c33] at H; have c33b0 : decide (x33_2 < (l0_2.length : Int)) = true := decide_eq_true c33; clear c33; replace H := Option.bind_eq_some_iff.mp H; obtain ⟨⟨tcR, teg, teh⟩, Aex, H⟩ := H; replace H : (if xbl_2.length < 2199023255552 then (tree_CloneNode.l1 k2 l0_2 (l0_2.length : Int) (wrap64 (x33_2 + 1)) a0_0 xaS_1 (xbl_2 ++ [(⟨tcR, teg, teh⟩ : S30)])) else (none)) = some (r1, r2, r3) := H; have A34 := Ak Aex; clear Aex
         by_cases c35 : xbl_2.length < 2199023255552
         ·rw [if_pos c35] at H; have LMc35 := Ak c35; clear c35
          obtain ⟨ycC, hycC⟩ : ∃ y_ : List (S30), y_ = (xbl_2 ++ [(⟨tcR, teg, teh⟩ : S30)]) := ⟨_, rfl⟩
          replace H : (tree_CloneNode.l1 k2 l0_2 (l0_2.length : Int) (wrap64 (x33_2 + 1)) a0_0 xaS_1 ycC) = some (r1, r2, r3) := by first | (rw [hycC]; with_reducible exact H) | (have H2_ := (Option.bind_some _ _).symm.trans H; rw [hycC]; with_reducible exact H2_) | (have H2_ := (Option.bind_some _ _).symm.trans H; with_reducible exact H2_) | with_reducible exact H | (rw [hycC]; exact H) | exact H
          have NycC := Ak hycC; clear hycC; have H' := Ak H; clear H; have p140 : 0 ≤ (x33_2 : Int) := of_decide_eq_true Zq4; have q140 : x33_2 < (l0_2.length : Int) := of_decide_eq_true Zq4; obtain ⟨aday, Aay_1, cay_1, Aay_2, cay_2, e140, hx140_0, hx140_1, hx140_2, hl140_1, hi140_1, hl140_2, hi140_2⟩ := at_T30 HR0_2.out x33_2 p140 q140
          cases e140
          replace hx140_0 := (HB.out.cell (World.block_lt_of_cell? w _ hx140_0)).trans hx140_0; replace hx140_1 := (HB.out.cell (World.block_lt_of_cell? w _ hx140_1)).trans hx140_1; replace hx140_2 := (HB.out.cell (World.block_lt_of_cell? w _ hx140_2)).trans hx140_2; have HRay_1 := Ak hi140_1; have HCay_1 := Ak hl140_1; clear hi140_1 hl140_1; have HRay_2 := Ak hi140_2; have HCay_2 := Ak hl140_2; clear hi140_2 hl140_2; replace p140 := eq_true p140; replace q140 := eq_true q140
          try go_wp2_with (first | ((with_reducible refine gate_dst (N := 7) rfl ?_); refine box_event ?hg (N := 7) ?hd (cs := #[.string (⟨#[]⟩ : ByteArray), .slice none 0 0, .slice none 0 0]) (t := 30) ?hr ?_; (case hd | hg => rfl); (case hr => first | (go_simp; done) | (go_simp; rfl)); intro gbaB hg w36 hbox hb; have n0_ := Ak (Kd.S_below Zq57 hb); have n1_ := Ak (Kd.R_below (Kd.R_elderB Zq98 gbaB (Nat.le_of_eq hg.symm)) hb); have n2_ := Zq212; have n3_ := Zq148; have n4_ := Ak (blk_below (g := gbam) (o := .cells #[.string a0_0, u132001, u132002] 30 (0, 0)) Zq42 hb); have n5_ := Ak (below_step Zq56 hb); have n6_ := Ak (hbox); have n7_ := Ak ((by rw [hg]; exact (below_size Zq56) : w.heap.size ≤ gbaB)); have n8_ := Ak ((by rw [hg]; exact (below_size Zq56) : w.heap.size ≤ gbaB)); have n9_ := Ak ((by rw [hg]; exact Nat.ne_of_lt Zq224 : gbar ≠ gbaB)); have n10_ := Ak ((by rw [hg]; exact Nat.ne_of_gt Zq224 : gbaB ≠ gbar)); have n11_ := Ak ((by rw [hg]; exact Nat.ne_of_lt Zq144 : gbaA ≠ gbaB)); have n12_ := Ak ((by rw [hg]; exact Nat.ne_of_gt Zq144 : gbaB ≠ gbaA)); have n13_ := Ak ((by rw [hg]; exact Nat.ne_of_lt (blk_lt (g := gbam) (o := .cells #[.string a0_0, u132001, u132002] 30 (0, 0)) Zq42) : gbam ≠ gbaB)); have n14_ := Ak ((by rw [hg]; exact Nat.ne_of_gt (blk_lt (g := gbam) (o := .cells #[.string a0_0, u132001, u132002] 30 (0, 0)) Zq42) : gbaB ≠ gbam)); clear HO_aS HO_bl BKar BKaA BKam HB; have HO_aS := n0_; have HO_bl := n1_; have BKar := n2_; have BKaA := n3_; have BKam := n4_; have HB := n5_; have BKaB := n6_; have GWaB := n7_; have GEaB := n8_; have NB129_141 := n9_; have NB141_129 := n10_; have NB130_141 := n11_; have NB141_130 := n12_; have NB131_141 := n13_; have NB141_131 := n14_; clear n0_ n1_ n2_ n3_ n4_ n5_ n6_ n7_ n8_ n9_ n10_ n11_ n12_ n13_ n14_ hb hbox hg; have hnb37 := NB141_129.out; have hnc37 := NB129_141.out; have hnb38 := NB141_130.out; have hnc38 := NB130_141.out; have hnb39 := NB141_131.out; have hnc39 := NB131_141.out; have hcz40_0 : w36.cell? ⟨gbaB, 0, none⟩ = some (.string (⟨#[]⟩ : ByteArray)) := (blk_cell BKaB.out 0).trans rfl; have hcz40_1 : w36.cell? ⟨gbaB, 1, none⟩ = some (.slice none 0 0) := (blk_cell BKaB.out 1).trans rfl; have hcz40_2 : w36.cell? ⟨gbaB, 2, none⟩ = some (.slice none 0 0) := (blk_cell BKaB.out 2).trans rfl; have hfz40_0 := blk_frozen BKaB.out 0; have hfz40_1 := blk_frozen BKaB.out 1; have hfz40_2 := blk_frozen BKaB.out 2))
          have n0_ : Aside0 (Kd.S k77 77 (((w36.setCell ⟨gbaB, 0, none⟩ (.string ((rd_T30 l0_2 x33_2).f0))).setCell ⟨gbaB, 1, none⟩ (.slice Aay_1 ((rd_T30 l0_2 x33_2).f1).length cay_1)).setCell ⟨gbaB, 2, none⟩ (.slice Aay_2 ((rd_T30 l0_2 x33_2).f2).length cay_2)) w.heap.size (fun _ => True) u132001 xaS_1) := ⟨by (with_reducible repeat (first | apply Kd.S_alloc | apply Kd.S_drewN | apply Kd.S_drew)); exact Kd.S_mono (Kd.S_far (p := ⟨gbaB, 2, none⟩) (Kd.S_far (p := ⟨gbaB, 1, none⟩) (Kd.S_far (p := ⟨gbaB, 0, none⟩) (Kd.S_types HO_aS.out BKaB.out Zq7) (fun _ hk => hk.2) (.string ((rd_T30 l0_2 x33_2).f0))) (fun _ hk => hk.2) (.slice Aay_1 ((rd_T30 l0_2 x33_2).f1).length cay_1)) (fun _ hk => hk.2) (.slice Aay_2 ((rd_T30 l0_2 x33_2).f2).length cay_2)) (fun _ hk => trivial)⟩
          have n1_ : Aside0 (Kd.R k30 30 (((w36.setCell ⟨gbaB, 0, none⟩ (.string ((rd_T30 l0_2 x33_2).f0))).setCell ⟨gbaB, 1, none⟩ (.slice Aay_1 ((rd_T30 l0_2 x33_2).f1).length cay_1)).setCell ⟨gbaB, 2, none⟩ (.slice Aay_2 ((rd_T30 l0_2 x33_2).f2).length cay_2)) w.heap.size (fun k_ => some k_ ≠ (u132001 : Value).ownBlock ∧ k_ ≠ gbar ∧ k_ ≠ gbaA ∧ k_ ≠ gbam ∧ k_ ≠ gbaB) u132002 xbl_2) := ⟨by (with_reducible repeat (first | apply Kd.R_alloc | apply Kd.R_drewN | apply Kd.R_drew)); exact Kd.R_mono (Kd.R_far (p := ⟨gbaB, 2, none⟩) (Kd.R_far (p := ⟨gbaB, 1, none⟩) (Kd.R_far (p := ⟨gbaB, 0, none⟩) (Kd.R_mono HO_bl.out (fun k_ hk => (⟨hk, hk.2⟩ : _ ∧ k_ ≠ gbaB))) (fun _ hk => hk.2) (.string ((rd_T30 l0_2 x33_2).f0))) (fun _ hk => hk.2) (.slice Aay_1 ((rd_T30 l0_2 x33_2).f1).length cay_1)) (fun _ hk => hk.2) (.slice Aay_2 ((rd_T30 l0_2 x33_2).f2).length cay_2)) (fun _ hk => ⟨hk.1.1.1, ⟨hk.1.1.2.1, ⟨hk.1.1.2.2.1, ⟨hk.1.1.2.2.2, hk.1.2⟩⟩⟩⟩)⟩
          have n2_ : Aside0 ((((w36.setCell ⟨gbaB, 0, none⟩ (.string ((rd_T30 l0_2 x33_2).f0))).setCell ⟨gbaB, 1, none⟩ (.slice Aay_1 ((rd_T30 l0_2 x33_2).f1).length cay_1)).setCell ⟨gbaB, 2, none⟩ (.slice Aay_2 ((rd_T30 l0_2 x33_2).f2).length cay_2)).heap[gbar]? = some (.cells #[.string a0_0, .slice A0_1 l0_1.length c0_1, .slice (some aday) l0_2.length c0_2] 30 (0, 0))) := ⟨by (with_reducible repeat (first | refine blk_drewN ?_ _ | refine blk_drew ?_ | refine blk_alloc ?_ _)); refine blk_far ?_ NB129_141.out _; (with_reducible repeat (first | refine blk_drewN ?_ _ | refine blk_drew ?_ | refine blk_alloc ?_ _)); refine blk_far ?_ NB129_141.out _; (with_reducible repeat (first | refine blk_drewN ?_ _ | refine blk_drew ?_ | refine blk_alloc ?_ _)); refine blk_far ?_ NB129_141.out _; (with_reducible repeat (first | refine blk_drewN ?_ _ | refine blk_drew ?_ | refine blk_alloc ?_ _)); exact BKar.out⟩
          have n3_ : Aside0 ((((w36.setCell ⟨gbaB, 0, none⟩ (.string ((rd_T30 l0_2 x33_2).f0))).setCell ⟨gbaB, 1, none⟩ (.slice Aay_1 ((rd_T30 l0_2 x33_2).f1).length cay_1)).setCell ⟨gbaB, 2, none⟩ (.slice Aay_2 ((rd_T30 l0_2 x33_2).f2).length cay_2)).heap[gbaA]? = some (.cells #[.string (⟨#[]⟩ : ByteArray), .slice none 0 0, .slice none 0 0] 30 (0, 0))) := ⟨by (with_reducible repeat (first | refine blk_drewN ?_ _ | refine blk_drew ?_ | refine blk_alloc ?_ _)); refine blk_far ?_ NB130_141.out _; (with_reducible repeat (first | refine blk_drewN ?_ _ | refine blk_drew ?_ | refine blk_alloc ?_ _)); refine blk_far ?_ NB130_141.out _; (with_reducible repeat (first | refine blk_drewN ?_ _ | refine blk_drew ?_ | refine blk_alloc ?_ _)); refine blk_far ?_ NB130_141.out _; (with_reducible repeat (first | refine blk_drewN ?_ _ | refine blk_drew ?_ | refine blk_alloc ?_ _)); exact BKaA.out⟩
          have n4_ : Aside0 ((((w36.setCell ⟨gbaB, 0, none⟩ (.string ((rd_T30 l0_2 x33_2).f0))).setCell ⟨gbaB, 1, none⟩ (.slice Aay_1 ((rd_T30 l0_2 x33_2).f1).length cay_1)).setCell ⟨gbaB, 2, none⟩ (.slice Aay_2 ((rd_T30 l0_2 x33_2).f2).length cay_2)).heap[gbam]? = some (.cells #[.string a0_0, u132001, u132002] 30 (0, 0))) := ⟨by (with_reducible repeat (first | refine blk_drewN ?_ _ | refine blk_drew ?_ | refine blk_alloc ?_ _)); refine blk_far ?_ NB131_141.out _; (with_reducible repeat (first | refine blk_drewN ?_ _ | refine blk_drew ?_ | refine blk_alloc ?_ _)); refine blk_far ?_ NB131_141.out _; (with_reducible repeat (first | refine blk_drewN ?_ _ | refine blk_drew ?_ | refine blk_alloc ?_ _)); refine blk_far ?_ NB131_141.out _; (with_reducible repeat (first | refine blk_drewN ?_ _ | refine blk_drew ?_ | refine blk_alloc ?_ _)); exact BKam.out⟩
          have n5_ : Aside0 ((((w36.setCell ⟨gbaB, 0, none⟩ (.string ((rd_T30 l0_2 x33_2).f0))).setCell ⟨gbaB, 1, none⟩ (.slice Aay_1 ((rd_T30 l0_2 x33_2).f1).length cay_1)).setCell ⟨gbaB, 2, none⟩ (.slice Aay_2 ((rd_T30 l0_2 x33_2).f2).length cay_2)).heap[gbaB]? = some (.cells #[.string ((rd_T30 l0_2 x33_2).f0), .slice Aay_1 ((rd_T30 l0_2 x33_2).f1).length cay_1, .slice Aay_2 ((rd_T30 l0_2 x33_2).f2).length cay_2] 30 (0, 0))) := ⟨by (with_reducible repeat (first | refine blk_drewN ?_ _ | refine blk_drew ?_ | refine blk_alloc ?_ _)); refine blk_put (cs := #[.string ((rd_T30 l0_2 x33_2).f0), .slice Aay_1 ((rd_T30 l0_2 x33_2).f1).length cay_1, .slice none 0 0]) ?_ 2 _ rfl; (with_reducible repeat (first | refine blk_drewN ?_ _ | refine blk_drew ?_ | refine blk_alloc ?_ _)); refine blk_put (cs := #[.string ((rd_T30 l0_2 x33_2).f0), .slice none 0 0, .slice none 0 0]) ?_ 1 _ rfl; (with_reducible repeat (first | refine blk_drewN ?_ _ | refine blk_drew ?_ | refine blk_alloc ?_ _)); refine blk_put (cs := #[.string (⟨#[]⟩ : ByteArray), .slice none 0 0, .slice none 0 0]) ?_ 0 _ rfl; (with_reducible repeat (first | refine blk_drewN ?_ _ | refine blk_drew ?_ | refine blk_alloc ?_ _)); exact BKaB.out⟩
          have n6_ : Aside0 (Below w.heap.size w (((w36.setCell ⟨gbaB, 0, none⟩ (.string ((rd_T30 l0_2 x33_2).f0))).setCell ⟨gbaB, 1, none⟩ (.slice Aay_1 ((rd_T30 l0_2 x33_2).f1).length cay_1)).setCell ⟨gbaB, 2, none⟩ (.slice Aay_2 ((rd_T30 l0_2 x33_2).f2).length cay_2))) := ⟨Zq69⟩
          (try clear HO_aS)
          (try clear HO_bl)
          (try clear BKar)
          (try clear BKaA)
          (try clear BKam)
          (try clear BKaB)
          (try clear HB)
          generalize (((w36.setCell ⟨gbaB, 0, none⟩ (.string ((rd_T30 l0_2 x33_2).f0))).setCell ⟨gbaB, 1, none⟩ (.slice Aay_1 ((rd_T30 l0_2 x33_2).f1).length cay_1)).setCell ⟨gbaB, 2, none⟩ (.slice Aay_2 ((rd_T30 l0_2 x33_2).f2).length cay_2)) = w41 at n0_ n1_ n2_ n3_ n4_ n5_ n6_ ⊢; have HO_aS := n0_; have HO_bl := n1_; have BKar := n2_; have BKaA := n3_; have BKam := n4_; have BKaB := n5_; have HB := n6_; clear n0_ n1_ n2_ n3_ n4_ n5_ n6_; have n0_ := Ak (Kd.S_drew HO_aS.out); have n1_ := Ak (Kd.R_drew HO_bl.out); have n2_ := Ak (blk_drew BKar.out); have n3_ := Ak (blk_drew BKaA.out); have n4_ := Ak (blk_drew BKam.out); have n5_ := Ak (blk_drew BKaB.out); have n6_ := Zq164; clear HO_aS HO_bl BKar BKaA BKam BKaB HB; have HO_aS := n0_; have HO_bl := n1_; have BKar := n2_; have BKaA := n3_; have BKam := n4_; have BKaB := n5_; have HB := n6_; clear n0_ n1_ n2_ n3_ n4_ n5_ n6_; refine start_ (n := 8) (S := fun w' => w'.cell? ⟨gbam, 0, none⟩ = some (.string a0_0) ∧ w'.cell? ⟨gbam, 1, none⟩ = some (u132001) ∧ w'.cell? ⟨gbam, 2, none⟩ = some (u132002) ∧ w'.cell? ⟨gbaB, 0, none⟩ = some (.string ((rd_T30 l0_2 x33_2).f0)) ∧ w'.cell? ⟨gbaB, 1, none⟩ = some (.slice Aay_1 ((rd_T30 l0_2 x33_2).f1).length cay_1) ∧ w'.cell? ⟨gbaB, 2, none⟩ = some (.slice Aay_2 ((rd_T30 l0_2 x33_2).f2).length cay_2)) (ds := [7]) #[false, false, false, false, false, false, false, false] Zq2 rfl rfl ⟨(blk_cell BKam.out 0).trans rfl, (blk_cell BKam.out 1).trans rfl, (blk_cell BKam.out 2).trans rfl, (blk_cell BKaB.out 0).trans rfl, (blk_cell BKaB.out 1).trans rfl, (blk_cell BKaB.out 2).trans rfl⟩ (fun hHeld => ?_); refine with_tabW tree_CloneNode.tab10 tree_CloneNode.bits10 (fun HT_ HW_ => ?_); generalize w41.drew = w42 at HO_aS HO_bl BKar BKaA BKam BKaB HB hHeld ⊢; refine pure_ (i := 0) (N := some 37) (v := ?_) (a' := ?_) #[true, false, false, false, false, false, false, false] rfl rfl (any_of HT_.out Zq2) (fun _ _ _ h => h) (Or.inl ⟨Zq3, ?_⟩) ?_ ?_
          rotate_left
          ·intro w'
           go_simp
           with_reducible rfl
          rotate_left
          ·simp only [Sx]
           rfl
          refine take_ (i := 1) (N := some 38) (v := ?_) (a' := ?_) #[true, true, false, false, false, false, false, false] rfl rfl (take_ofW HT_.out HW_.out Zq2) (fun _ _ _ h => h) (Or.inl ⟨Zq3, ?_⟩) hHeld ?_ ?_
          rotate_left
          ·rintro w' ⟨s0, s1, s2, s3, s4, s5⟩
           go_simp
           with_reducible rfl
          rotate_left
          ·simp only [Sx]
           rfl
          refine take_ (i := 2) (N := some 39) (v := ?_) (a' := ?_) #[true, true, true, false, false, false, false, false] rfl rfl (take_ofW HT_.out HW_.out Zq2) (fun _ _ _ h => h) (Or.inl ⟨Zq3, ?_⟩) hHeld ?_ ?_
          rotate_left
          ·rintro w' ⟨s0, s1, s2, s3, s4, s5⟩
           go_simp
           with_reducible rfl
          rotate_left
          ·simp only [Sx]
           rfl
          refine one_ (i := 3) (N := some 40) #[true, true, true, true, false, false, false, false] rfl rfl (one_of HT_.out Zq2) Zq7 (fun K hK => ?_); refine goes_ Try.func61 Zq2 rfl #[.agg #[.string ((rd_T30 l0_2 x33_2).f0), .slice Aay_1 ((rd_T30 l0_2 x33_2).f1).length cay_1, .slice Aay_2 ((rd_T30 l0_2 x33_2).f2).length cay_2]] Zq3 rfl rfl Zq9 ?_; with_reducible refine (ih k2 Zq70 ((rd_T30 l0_2 x33_2).f0) _ _ ((rd_T30 l0_2 x33_2).f1) _ _ ((rd_T30 l0_2 x33_2).f2) tcR teg teh _ ?side1 ?side2 ?side3 ?side4 A34.out).mono ?_
          (case side1 => repeat (first | exact (Kd.C_below HRay_1.out HB.out) | (with_reducible refine Kd.C_alloc ?_ _) | (with_reducible refine Kd.C_drewN ?_ _) | (with_reducible refine Kd.C_drew ?_)))
          (case side2 => exact HCay_1.out)
          (case side3 => repeat (first | exact (Kd.C_below HRay_2.out HB.out) | (with_reducible refine Kd.C_alloc ?_ _) | (with_reducible refine Kd.C_drewN ?_ _) | (with_reducible refine Kd.C_drew ?_)))
          (case side4 => exact HCay_2.out)
          rintro e w43 ⟨v144, v147, rfl, ho0, ho1, hb⟩
          refine ⟨_, rfl, ?_⟩; have n0_ := Ak (Kd.S_elder' Zq57 (Kd.S_base ho0) hb); have n1_ := Ak (Kd.R_mono (Kd.R_told (Kd.R_told (Kd.R_old Zq98 hb) (Kd.S_base ho0)) (Kd.R_base ho1)) (fun _ h_ => h_.1)); have n2_ := Ak (Kd.S_lower (Kd.S_new' ho0 (Kd.S_lt Zq57)) (below_size Zq69)); have n3_ := Ak (Kd.R_lower (Kd.R_newB (Kd.R_newB (Kd.R_newB (Kd.R_newB (Kd.R_new' (Kd.R_new' ho1 (Kd.S_lt Zq57)) (Kd.R_lt Zq98)) (g := gbar) (o := .cells #[.string a0_0, .slice A0_1 l0_1.length c0_1, .slice (some aday) l0_2.length c0_2] 30 (0, 0)) Zq27) (g := gbaA) (o := .cells #[.string (⟨#[]⟩ : ByteArray), .slice none 0 0, .slice none 0 0] 30 (0, 0)) Zq36) (g := gbam) (o := .cells #[.string a0_0, u132001, u132002] 30 (0, 0)) Zq42) (g := gbaB) (o := .cells #[.string ((rd_T30 l0_2 x33_2).f0), .slice Aay_1 ((rd_T30 l0_2 x33_2).f1).length cay_1, .slice Aay_2 ((rd_T30 l0_2 x33_2).f2).length cay_2] 30 (0, 0)) Zq99) (below_size Zq69)); have n4_ := Zq212; have n5_ := Zq148; have n6_ := Ak (blk_below (g := gbam) (o := .cells #[.string a0_0, u132001, u132002] 30 (0, 0)) Zq42 hb); have n7_ := Ak (blk_below (g := gbaB) (o := .cells #[.string ((rd_T30 l0_2 x33_2).f0), .slice Aay_1 ((rd_T30 l0_2 x33_2).f1).length cay_1, .slice Aay_2 ((rd_T30 l0_2 x33_2).f2).length cay_2] 30 (0, 0)) Zq99 hb); have n8_ := Ak (below_step Zq69 hb); clear HO_aS HO_bl BKar BKaA BKam BKaB HB; have HO_aS := n0_; have HO_bl := n1_; have HOfg := n2_; have HOfh := n3_; have BKar := n4_; have BKaA := n5_; have BKam := n6_; have BKaB := n7_; have HB := n8_; clear n0_ n1_ n2_ n3_ n4_ n5_ n6_ n7_ n8_
          (try clear hb)
          (try clear hb2)
          (try clear hk)
          (try clear hi)
          (try clear ho0)
          (try clear ho1)
          obtain ⟨Ao45, co45, eo45⟩ := Kd.S_slice HOfg.out
          (first | subst eo45 | (injection eo45 with f1_ f2_ f3_; have f4_ := f1_.symm; have f5_ := f3_.symm; clear f1_ f2_ f3_; subst f4_; subst f5_))
          obtain ⟨Ao46, co46, eo46⟩ := Kd.R_slice HOfh.out
          (first | subst eo46 | (injection eo46 with f1_ f2_ f3_; have f4_ := f1_.symm; have f5_ := f3_.symm; clear f1_ f2_ f3_; subst f4_; subst f5_))
          refine hK.out _ _ ⟨(blk_cell BKam.out 0).trans rfl, (blk_cell BKam.out 1).trans rfl, (blk_cell BKam.out 2).trans rfl, (blk_cell BKaB.out 0).trans rfl, (blk_cell BKaB.out 1).trans rfl, (blk_cell BKaB.out 2).trans rfl⟩ (fun hHeld => ?_); clear hK K; refine norm_ (a' := ?_) ?_ ?_
          rotate_left
          ·show Act.put _ (some 40) _ = _
           simp only [Sx]
           rfl
          refine one_ (i := 4) (N := some 41) #[true, true, true, true, true, false, false, false] rfl rfl (one_of HT_.out Zq2) Zq7 (fun K hK => ?_); refine value_ (w1 := ?_) (v := ?_) Zq3 rfl ?_ ?_
          rotate_left 2
          ·go_simp
           constructor
           ·rfl
           ·rfl
          refine hK.out _ _ ⟨(blk_cell (blk_alloc BKam.out _) 0).trans rfl, (blk_cell (blk_alloc BKam.out _) 1).trans rfl, (blk_cell (blk_alloc BKam.out _) 2).trans rfl, (blk_cell (blk_alloc BKaB.out _) 0).trans rfl, (blk_cell (blk_alloc BKaB.out _) 1).trans rfl, (blk_cell (blk_alloc BKaB.out _) 2).trans rfl⟩ (fun hHeld => ?_); clear hK K; refine norm_ (a' := ?_) ?_ ?_
          rotate_left
          ·show Act.put _ (some 41) _ = _
           simp only [Sx]
           rfl
          refine one_ (i := 5) (N := some 42) #[true, true, true, true, true, true, false, false] rfl rfl (one_of HT_.out Zq2) Zq7 (fun K hK => ?_); refine Kd.R_append_step k30 (w0 := w) w.heap.size Zq3 (.tmp 38) (.tmp 41) 28 30 (.agg #[(.string ⟨#[]⟩), (.slice none 0 0), (.slice none 0 0)]) 64 rfl Try.underlying28 info30 rfl Zq7 Zq1 u132002 xbl_2 (⟨tcR, teg, teh⟩ : S30) [.string tcR, .slice Ao45 teg.length co45, .slice Ao46 teh.length co46] (fun k_ => some k_ ≠ (u132001 : Value).ownBlock ∧ k_ ≠ gbar ∧ k_ ≠ gbaA ∧ k_ ≠ gbam ∧ k_ ≠ gbaB) (fun k_ => ((fun k_ => some k_ ≠ (u132001 : Value).ownBlock ∧ k_ ≠ gbar ∧ k_ ≠ gbaA ∧ k_ ≠ gbam ∧ k_ ≠ gbaB)) k_ ∧ some k_ ≠ (u132002 : Value).ownBlock) rfl rfl ?aP (fun _ hk => hk) ?aF ?aO ?aB ?aS ?aL ?_
          (case aP => exact k30_mkM _ _ _ (⟨tcR, teg, teh⟩ : S30) (Kd.R_mono (Kd.R_types (Kd.R_types (Kd.R_types (Kd.R_types (Kd.R_apart' ((Kd.S_R HOfg.out)) (Kd.R_typed HO_bl.out) Zq7) BKar.out Zq7) BKaA.out Zq7) BKam.out Zq7) BKaB.out Zq7) (fun k_ hk => ⟨⟨hk.1.1.1.1.1.2, ⟨hk.1.1.1.2, ⟨hk.1.1.2, ⟨hk.1.2, hk.2⟩⟩⟩⟩, hk.1.1.1.1.2⟩)) (Kd.R_mono (HOfh.out) (fun k_ hk => ⟨⟨hk.1.1.1.1.1.2, ⟨hk.1.1.1.2, ⟨hk.1.1.2, ⟨hk.1.2, hk.2⟩⟩⟩⟩, hk.1.1.1.1.2⟩)))
          (case aB => exact Zq69)
          (case aF => exact (fun k_ hk => ⟨Kd.fresh' (Kd.S_lt Zq57) k_ hk, Kd.freshB (g := gbar) (o := .cells #[.string a0_0, .slice A0_1 l0_1.length c0_1, .slice (some aday) l0_2.length c0_2] 30 (0, 0)) Zq27 k_ hk, Kd.freshB (g := gbaA) (o := .cells #[.string (⟨#[]⟩ : ByteArray), .slice none 0 0, .slice none 0 0] 30 (0, 0)) Zq36 k_ hk, Kd.freshB (g := gbam) (o := .cells #[.string a0_0, u132001, u132002] 30 (0, 0)) Zq42 k_ hk, Kd.freshB (g := gbaB) (o := .cells #[.string ((rd_T30 l0_2 x33_2).f0), .slice Aay_1 ((rd_T30 l0_2 x33_2).f1).length cay_1, .slice Aay_2 ((rd_T30 l0_2 x33_2).f2).length cay_2] 30 (0, 0)) Zq99 k_ hk⟩))
          (case aO => exact (by (with_reducible repeat (first | apply Kd.R_alloc | apply Kd.R_drewN | apply Kd.R_drew)); exact Kd.R_mono HO_bl.out (fun _ hk => ⟨hk.1.1.1, ⟨hk.1.1.2.1, ⟨hk.1.1.2.2.1, ⟨hk.1.1.2.2.2.1, hk.1.1.2.2.2.2⟩⟩⟩⟩)))
          (case aS => exact (below_size Zq69))
          (case aL => have := LMc35.out; omega)
          intro v150 w44 ho hb hg hat; rw [← NycC.out] at ho; have n0_ := Ak (Kd.S_over' Zq57 (Kd.R_typed Zq98) Zq7 hg); have n1_ := Ak (blk_grown (g := gbar) (o := .cells #[.string a0_0, .slice A0_1 l0_1.length c0_1, .slice (some aday) l0_2.length c0_2] 30 (0, 0)) Zq27 hg (Kd.R_away HO_bl.out (fun _ hk => hk.1.1.2.1))); have n2_ := Ak (blk_grown (g := gbaA) (o := .cells #[.string (⟨#[]⟩ : ByteArray), .slice none 0 0, .slice none 0 0] 30 (0, 0)) Zq36 hg (Kd.R_away HO_bl.out (fun _ hk => hk.1.1.2.2.1))); have n3_ := Ak (blk_grown (g := gbam) (o := .cells #[.string a0_0, u132001, u132002] 30 (0, 0)) Zq42 hg (Kd.R_away HO_bl.out (fun _ hk => hk.1.1.2.2.2.1))); have n4_ := Ak (blk_grown (g := gbaB) (o := .cells #[.string ((rd_T30 l0_2 x33_2).f0), .slice Aay_1 ((rd_T30 l0_2 x33_2).f1).length cay_1, .slice Aay_2 ((rd_T30 l0_2 x33_2).f2).length cay_2] 30 (0, 0)) Zq99 hg (Kd.R_away HO_bl.out (fun _ hk => hk.1.1.2.2.2.2))); have n5_ := Ak (hb); have n6_ := Ak (ho); clear HO_aS BKar BKaA BKam BKaB HB HO_bl HOfg HOfh; have HO_aS := n0_; have BKar := n1_; have BKaA := n2_; have BKam := n3_; have BKaB := n4_; have HB := n5_; have HOfw := n6_; clear n0_ n1_ n2_ n3_ n4_ n5_ n6_ ho hb hg hat; obtain ⟨Ao47, co47, eo47⟩ := Kd.R_slice HOfw.out
          (first | subst eo47 | (injection eo47 with f1_ f2_ f3_; have f4_ := f1_.symm; have f5_ := f3_.symm; clear f1_ f2_ f3_; subst f4_; subst f5_))
          refine hK.out _ _ ⟨(blk_cell BKam.out 0).trans rfl, (blk_cell BKam.out 1).trans rfl, (blk_cell BKam.out 2).trans rfl, (blk_cell BKaB.out 0).trans rfl, (blk_cell BKaB.out 1).trans rfl, (blk_cell BKaB.out 2).trans rfl⟩ (fun hHeld => ?_); clear hK K; refine norm_ (a' := ?_) ?_ ?_
          rotate_left
          ·show Act.put _ (some 42) _ = _
           simp only [Sx]
           rfl
          refine pure_ (i := 6) (N := some 43) (v := ?_) (a' := ?_) #[true, true, true, true, true, true, true, false] rfl rfl (any_of HT_.out Zq2) (fun _ _ _ h => h) (Or.inl ⟨Zq3, ?_⟩) ?_ ?_
          rotate_left
          ·intro w'
           go_simp
           with_reducible rfl
          rotate_left
          ·simp only [Sx]
           rfl
          refine last_ (i := 7) (N := none) #[true, true, true, true, true, true, true, true] rfl rfl (one_of HT_.out Zq2) Zq7 (fun K hK => ?_); have hs48 : w44.cell? ⟨gbam, 2, none⟩ = some (u132002) := (blk_cell BKam.out 2).trans rfl; have hfs48 := blk_frozen BKam.out 2; have hns48_0 := NB129_131.out; have hns48_1 := NB130_131.out; have hns48_3 := NB141_131.out; have hms48_0 := NB131_129.out; have hms48_1 := NB131_130.out; have hms48_3 := NB131_141.out; refine skip_ (w1 := ?_) Zq3 rfl ?_ ?_
          rotate_left
          ·go_simp
           rfl
          refine hK.out _ _ ?_; clear hK K; refine done_ (done_of HT_.out Zq2) ?_
          try go_wp2
          go_roundg k2
          case measure => have := HK1.out; have := HK2.out; omega
          case rel => exact ⟨(wrap64 (x33_2 + 1)), (ycC), (.slice Ao47 ycC.length co47), Zq6, H', ⟨Zq70⟩, ⟨by (with_reducible repeat (first | apply Kd.S_alloc | apply Kd.S_drewN | apply Kd.S_drew)); exact Kd.S_mono (Kd.S_far (p := ⟨gbam, 2, none⟩) (Kd.S_types HO_aS.out BKam.out Zq7) (fun _ hk => hk.2) (.slice Ao47 ycC.length co47)) (fun _ hk => trivial)⟩, ⟨by (with_reducible repeat (first | apply Kd.R_alloc | apply Kd.R_drewN | apply Kd.R_drew)); exact Kd.R_mono (Kd.R_far (p := ⟨gbam, 2, none⟩) (Kd.R_mono HOfw.out (fun k_ hk => (⟨hk, hk.2.2.2.1⟩ : _ ∧ k_ ≠ gbam))) (fun _ hk => hk.2) (.slice Ao47 ycC.length co47)) (fun _ hk => ⟨hk.1.1, ⟨hk.1.2.1, ⟨hk.1.2.2.1, hk.1.2.2.2.1⟩⟩⟩)⟩, ⟨by (with_reducible repeat (first | refine blk_drewN ?_ _ | refine blk_drew ?_ | refine blk_alloc ?_ _)); refine blk_far ?_ NB129_131.out _; (with_reducible repeat (first | refine blk_drewN ?_ _ | refine blk_drew ?_ | refine blk_alloc ?_ _)); exact BKar.out⟩, ⟨by (with_reducible repeat (first | refine blk_drewN ?_ _ | refine blk_drew ?_ | refine blk_alloc ?_ _)); refine blk_far ?_ NB130_131.out _; (with_reducible repeat (first | refine blk_drewN ?_ _ | refine blk_drew ?_ | refine blk_alloc ?_ _)); exact BKaA.out⟩, ⟨by (with_reducible repeat (first | refine blk_drewN ?_ _ | refine blk_drew ?_ | refine blk_alloc ?_ _)); refine blk_put (cs := #[.string a0_0, u132001, u132002]) ?_ 2 _ rfl; (with_reducible repeat (first | refine blk_drewN ?_ _ | refine blk_drew ?_ | refine blk_alloc ?_ _)); exact BKam.out⟩, ⟨Zq69⟩⟩
         ·rw [if_neg c35] at H; exact absurd H Zq8
        ·rw [if_neg c33] at H; exact absurd H Zq8
       ·rw [if_neg c32] at H; exact absurd H Zq8
      ·rw [if_neg c31] at H; have c31b0 : decide (x33_2 < (l0_2.length : Int)) = false := decide_eq_false c31; clear c31; simp only [Option.some.injEq, Prod.mk.injEq] at H; obtain ⟨rfl, rfl, rfl⟩ := H; have hnb49 := NB131_129.out; have hnc49 := NB129_131.out; have hnb50 := NB131_130.out; have hnc50 := NB130_131.out; have hcz51_0 : wr.cell? ⟨gbam, 0, none⟩ = some (.string a0_0) := (blk_cell BKam.out 0).trans rfl; have hcz51_1 : wr.cell? ⟨gbam, 1, none⟩ = some (u132001) := (blk_cell BKam.out 1).trans rfl; have hcz51_2 : wr.cell? ⟨gbam, 2, none⟩ = some (u132002) := (blk_cell BKam.out 2).trans rfl; have hfz51_0 := blk_frozen BKam.out 0; have hfz51_1 := blk_frozen BKam.out 1; have hfz51_2 := blk_frozen BKam.out 2; have hnb52 := NB130_129.out; have hnc52 := NB129_130.out; have hcz53_0 : wr.cell? ⟨gbaA, 0, none⟩ = some (.string (⟨#[]⟩ : ByteArray)) := (blk_cell BKaA.out 0).trans rfl; have hcz53_1 : wr.cell? ⟨gbaA, 1, none⟩ = some (.slice none 0 0) := (blk_cell BKaA.out 1).trans rfl; have hcz53_2 : wr.cell? ⟨gbaA, 2, none⟩ = some (.slice none 0 0) := (blk_cell BKaA.out 2).trans rfl; have hfz53_0 := blk_frozen BKaA.out 0; have hfz53_1 := blk_frozen BKaA.out 1; have hfz53_2 := blk_frozen BKaA.out 2; obtain ⟨Ao54, co54, eo54⟩ := Kd.S_slice HO_aS.out; subst eo54; obtain ⟨Ao55, co55, eo55⟩ := Kd.R_slice HO_bl.out; subst eo55
       go_wp2
       refine bodyPost_ret (results_cell_row rfl _ _ gbaA 30 #[.string a0_0, .slice Ao54 xaS_1.length co54, .slice Ao55 xbl_2.length co55] (0, 0) _ rfl (by (with_reducible repeat (first | refine blk_drewN ?_ _ | refine blk_drew ?_ | refine blk_alloc ?_ _)); refine blk_put (cs := #[.string a0_0, .slice Ao54 xaS_1.length co54, .slice none 0 0]) ?_ 2 _ rfl; (with_reducible repeat (first | refine blk_drewN ?_ _ | refine blk_drew ?_ | refine blk_alloc ?_ _)); refine blk_put (cs := #[.string a0_0, .slice none 0 0, .slice none 0 0]) ?_ 1 _ rfl; (with_reducible repeat (first | refine blk_drewN ?_ _ | refine blk_drew ?_ | refine blk_alloc ?_ _)); refine blk_put (cs := #[.string (⟨#[]⟩ : ByteArray), .slice none 0 0, .slice none 0 0]) ?_ 0 _ rfl; (with_reducible repeat (first | refine blk_drewN ?_ _ | refine blk_drew ?_ | refine blk_alloc ?_ _)); exact BKaA.out) Try.underlying30 rfl Zq2) rfl ?_
       exact ⟨_, _, Zq10, by (with_reducible repeat (first | apply Kd.S_alloc | apply Kd.S_drewN | apply Kd.S_drew)); exact Kd.S_mono (Kd.S_far (p := ⟨gbaA, 2, none⟩) (Kd.S_far (p := ⟨gbaA, 1, none⟩) (Kd.S_far (p := ⟨gbaA, 0, none⟩) (Kd.S_types HO_aS.out BKaA.out Zq7) (fun _ hk => hk.2) (.string a0_0)) (fun _ hk => hk.2) (.slice Ao54 xaS_1.length co54)) (fun _ hk => hk.2) (.slice Ao55 xbl_2.length co55)) (fun _ hk => trivial), by (with_reducible repeat (first | apply Kd.R_alloc | apply Kd.R_drewN | apply Kd.R_drew)); exact Kd.R_mono (Kd.R_far (p := ⟨gbaA, 2, none⟩) (Kd.R_far (p := ⟨gbaA, 1, none⟩) (Kd.R_far (p := ⟨gbaA, 0, none⟩) (Kd.R_mono HO_bl.out (fun k_ hk => (⟨hk, hk.2.2.1⟩ : _ ∧ k_ ≠ gbaA))) (fun _ hk => hk.2) (.string a0_0)) (fun _ hk => hk.2) (.slice Ao54 xaS_1.length co54)) (fun _ hk => hk.2) (.slice Ao55 xbl_2.length co55)) (fun _ hk => hk.1.1), Zq56⟩
end Go.Proofs.Yteejaaeglfpcmab.PX

namespace Go.Proofs.Yteejaaeglfpcmab.PX
open Go.RowKit Go.Proofs.YteejaaeglfpcmabW.PrintWords Go.Proofs.YteejaaeglfpcmabW.PrintLast Go.Proofs.YteejaaeglfpcmabW.PrintMore
attribute [local go_sem] max2_int min2_int max_two min_two max_three min_three max_four min_four
def path_Get.l0 : Nat → List Int → Int → Int → ByteArray → List (S77) → List (S30) → Option (ByteArray × (List (S77)) × (List (S30)) × Int)
 | 0, _, _, _, _, _, _ => none
 | k + 1, x15, x16, x17, xcD, xci, xaZ => if x17 < x16 then (if 0 ≤ x17 then (if x17 < (x15.length : Int) then (if (rd x15 x17) < 0 then (some ((⟨#[]⟩ : ByteArray), ([] : List (S77)), ([] : List (S30)), 8)) else (if (rd x15 x17) ≥ (xaZ.length : Int) then (some ((⟨#[]⟩ : ByteArray), ([] : List (S77)), ([] : List (S30)), 8)) else (if 0 ≤ (rd x15 x17) then (if (rd x15 x17) < (xaZ.length : Int) then (path_Get.l0 k x15 x16 (wrap64 (x17 + 1)) ((rd_T30 xaZ (rd x15 x17)).f0) ((rd_T30 xaZ (rd x15 x17)).f1) ((rd_T30 xaZ (rd x15 x17)).f2)) else (none)) else (none)))) else (none)) else (none)) else ((tree_CloneNode.f k xcD xci xaZ).bind fun btcM => (some (btcM.1, btcM.2.1, btcM.2.2, 0)))
def path_Get.f (k : Nat) (a0_0 : Int) (l0_1 : List (S94)) (a0_2 : ByteArray) (l0_3 : List (S77)) (l0_4 : List (S30)) (l1 : List Int) : Option (ByteArray × (List (S77)) × (List (S30)) × Int) := if (l1.length : Int) > 16 then (some ((⟨#[]⟩ : ByteArray), ([] : List (S77)), ([] : List (S30)), 6)) else (path_Get.l0 k l1 (l1.length : Int) 0 a0_2 l0_3 l0_4)
theorem path_Get.mono_l : ∀ k, (∀ y0 y1 y2 y3 y4 y5, LeO (path_Get.l0 k y0 y1 y2 y3 y4 y5) (path_Get.l0 (k + 1) y0 y1 y2 y3 y4 y5))
 | 0 => fun _ _ _ _ _ _ r h => by simp [path_Get.l0] at h
 | k + 1 => by
  have ih0 := path_Get.mono_l k
  ·intro y0 y1 y2 y3 y4 y5; unfold path_Get.l0
   repeat' first | (with_reducible first | exact ih0 _ _ _ _ _ _ | exact tree_CloneNode.mono _ _ _ _ | exact LeO.refl _ | exact LeO.none _ | refine LeO.ite ?_ ?_ | refine LeO.bind ?_ (fun _ => ?_))
theorem path_Get.mono : ∀ a0 a1 a2 a3 a4 a5 k, LeO (path_Get.f k a0 a1 a2 a3 a4 a5) (path_Get.f (k + 1) a0 a1 a2 a3 a4 a5) := by
 intro a0 a1 a2 a3 a4 a5 k; have ih0 := path_Get.mono_l k; unfold path_Get.f
 repeat' first | (with_reducible first | exact ih0 _ _ _ _ _ _ | exact tree_CloneNode.mono _ _ _ _ | exact LeO.refl _ | exact LeO.none _ | refine LeO.ite ?_ ?_ | refine LeO.bind ?_ (fun _ => ?_))
set_option maxHeartbeats 8000000 in
set_option maxRecDepth 100000 in
theorem path_Get.calls (k : Nat) (a0_0 : Int) (A0_1 : Option Addr) (c0_1 : Nat) (l0_1 : List (S94)) (a0_2 : ByteArray) (P0_3_ : Nat → Prop) (A0_3 : Option Addr) (c0_3 : Nat) (l0_3 : List (S77)) (P0_4_ : Nat → Prop) (A0_4 : Option Addr) (c0_4 : Nat) (l0_4 : List (S30)) (A1 : Option Addr) (c1 : Nat) (l1 : List Int) (r1 : ByteArray) (r2 : List (S77)) (r3 : List (S30)) (r4 : Int) (w : World) (hr0_1 : Kd.C k94 w A0_1 l0_1.length l0_1) (hc0_1 : l0_1.length ≤ c0_1) (hs0_3 : Kd.V k77 77 w w.heap.size (fun k_ => P0_3_ k_) (.slice A0_3 l0_3.length c0_3) l0_3) (hs0_4 : Kd.V k30 30 w w.heap.size (fun k_ => P0_4_ k_) (.slice A0_4 l0_4.length c0_4) l0_4) (hr1 : Kd.C (Kd.int .i64) w A1 l1.length l1) (hc1 : l1.length ≤ c1) (h : path_Get.f k a0_0 l0_1 a0_2 l0_3 l0_4 l1 = some (r1, r2, r3, r4)) :
  Calls Try.prog 48 #[.agg #[.int .u32 a0_0, .slice A0_1 l0_1.length c0_1, .string a0_2, .slice A0_3 l0_3.length c0_3, .slice A0_4 l0_4.length c0_4], .slice A1 l1.length c1] w fun e w' => ∃ v1_ v2_ : Value, e = .returned (.tuple #[.agg #[.string r1, v1_, v2_], .int .i64 r4]) ∧ Kd.S k77 77 w' w.heap.size (fun k_ => (w.heap.size ≤ k_)) v1_ r2 ∧ Kd.R k30 30 w' w.heap.size (fun k_ => (w.heap.size ≤ k_) ∧ some k_ ≠ (v1_ : Value).ownBlock) v2_ r3 ∧ Below w.heap.size w w' := by
 have hu35 := Try.underlying35; have hu30 := Try.underlying30; have HR0_1 := Ak hr0_1; have HC0_1 := Ak hc0_1; clear hr0_1 hc0_1; have HO0_3 := Zq203; have HO0_4 := Zq204; have HR1 := Ak hr1; have HC1 := Ak hc1; clear hr1 hc1; have HB := Zq129; have H : (if (l1.length : Int) > 16 then (some ((⟨#[]⟩ : ByteArray), ([] : List (S77)), ([] : List (S30)), 6)) else (path_Get.l0 k l1 (l1.length : Int) 0 a0_2 l0_3 l0_4)) = some (r1, r2, r3, r4) := h; clear h
 by_cases c3 : (l1.length : Int) > 16
 ·rw [if_pos c3] at H; have c3b0 : decide (16 < (l1.length : Int)) = true := decide_eq_true c3; have c3b1 : decide (16 < l1.length) = true := decide_eq_true Zq1; clear c3; simp only [Option.some.injEq, Prod.mk.injEq] at H; obtain ⟨rfl, rfl, rfl, rfl⟩ := H
  go_enter Try.func48, Try.ntmps48
  go_wp2_with (first | ((with_reducible refine gate_dst (N := 2) rfl ?_); (try (refine gate_guard Zq3 ?_; dsimp only)); refine box_event ?hg (N := 2) ?hd (cs := #[.int .u32 a0_0, .slice A0_1 l0_1.length c0_1, .string a0_2, .slice A0_3 l0_3.length c0_3, .slice A0_4 l0_4.length c0_4]) (t := 35) ?hr ?_; (case hd | hg => rfl); (case hr => first | (go_simp; done) | (go_simp; rfl)); intro gbba hg w4 hbox hb; have n0_ := Ak (Kd.V_below (Kd.V_elderB Zq60 gbba (Nat.le_of_eq hg.symm)) hb); have n1_ := Ak (Kd.V_below (Kd.V_elderB Zq61 gbba (Nat.le_of_eq hg.symm)) hb); have n2_ := Zq122; have n3_ := Ak (hbox); have n4_ := Zq194; have n5_ := Zq194; clear HO0_3 HO0_4 HB; have HO0_3 := n0_; have HO0_4 := n1_; have HB := n2_; have BKba := n3_; have GWba := n4_; have GEba := n5_; clear n0_ n1_ n2_ n3_ n4_ n5_ hb hbox hg) | ((with_reducible refine gate_dst (N := 4) rfl ?_); (try (refine gate_guard Zq3 ?_; dsimp only)); refine box_event ?hg (N := 4) ?hd (cs := #[.string (⟨#[]⟩ : ByteArray), .slice none 0 0, .slice none 0 0]) (t := 30) ?hr ?_; (case hd | hg => rfl); (case hr => first | (go_simp; done) | (go_simp; rfl)); intro gbaC hg w5 hbox hb; have n0_ := Ak (Kd.V_below (Kd.V_elderB Zq60 gbaC (Nat.le_of_eq hg.symm)) hb); have n1_ := Ak (Kd.V_below (Kd.V_elderB Zq61 gbaC (Nat.le_of_eq hg.symm)) hb); have n2_ := Zq146; have n3_ := Ak (below_step Zq77 hb); have n4_ := Ak (hbox); have n5_ := Zq187; have n6_ := Zq187; have n7_ := Ak ((by rw [hg]; exact Nat.ne_of_lt Zq134 : gbba ≠ gbaC)); have n8_ := Ak ((by rw [hg]; exact Nat.ne_of_gt Zq134 : gbaC ≠ gbba)); clear HO0_3 HO0_4 BKba HB; have HO0_3 := n0_; have HO0_4 := n1_; have BKba := n2_; have HB := n3_; have BKaC := n4_; have GWaC := n5_; have GEaC := n6_; have NB152_153 := n7_; have NB153_152 := n8_; clear n0_ n1_ n2_ n3_ n4_ n5_ n6_ n7_ n8_ hb hbox hg; have hnb6 := NB153_152.out; have hnc6 := NB152_153.out; have hcz7_0 : w5.cell? ⟨gbaC, 0, none⟩ = some (.string (⟨#[]⟩ : ByteArray)) := (blk_cell BKaC.out 0).trans rfl; have hcz7_1 : w5.cell? ⟨gbaC, 1, none⟩ = some (.slice none 0 0) := (blk_cell BKaC.out 1).trans rfl; have hcz7_2 : w5.cell? ⟨gbaC, 2, none⟩ = some (.slice none 0 0) := (blk_cell BKaC.out 2).trans rfl; have hfz7_0 := blk_frozen BKaC.out 0; have hfz7_1 := blk_frozen BKaC.out 1; have hfz7_2 := blk_frozen BKaC.out 2))
  refine bodyPost_ret (results_ct rfl _ _ gbaC 30 #[.string (⟨#[]⟩ : ByteArray), .slice none 0 0, .slice none 0 0] (0, 0) _ rfl (by (with_reducible repeat (first | refine blk_drewN ?_ _ | refine blk_drew ?_ | refine blk_alloc ?_ _)); refine blk_put (cs := #[.string (⟨#[]⟩ : ByteArray), .slice none 0 0, .slice none 0 0]) ?_ 2 _ rfl; (with_reducible repeat (first | refine blk_drewN ?_ _ | refine blk_drew ?_ | refine blk_alloc ?_ _)); refine blk_put (cs := #[.string (⟨#[]⟩ : ByteArray), .slice none 0 0, .slice none 0 0]) ?_ 1 _ rfl; (with_reducible repeat (first | refine blk_drewN ?_ _ | refine blk_drew ?_ | refine blk_alloc ?_ _)); refine blk_put (cs := #[.string (⟨#[]⟩ : ByteArray), .slice none 0 0, .slice none 0 0]) ?_ 0 _ rfl; (with_reducible repeat (first | refine blk_drewN ?_ _ | refine blk_drew ?_ | refine blk_alloc ?_ _)); exact BKaC.out) Try.underlying30 rfl Zq2) rfl ?_
  exact ⟨_, _, Zq10, Zq97, Zq32, Zq100⟩
 ·rw [if_neg c3] at H; have c3b0 : decide (16 < (l1.length : Int)) = false := decide_eq_false c3; have c3b1 : decide (16 < l1.length) = false := decide_eq_false Zq1; clear c3; have H' := Ak H; clear H
  go_enter Try.func48, Try.ntmps48
  go_wp2_with (first | ((with_reducible refine gate_dst (N := 2) rfl ?_); (try (refine gate_guard Zq3 ?_; dsimp only)); refine box_event ?hg (N := 2) ?hd (cs := #[.int .u32 a0_0, .slice A0_1 l0_1.length c0_1, .string a0_2, .slice A0_3 l0_3.length c0_3, .slice A0_4 l0_4.length c0_4]) (t := 35) ?hr ?_; (case hd | hg => rfl); (case hr => first | (go_simp; done) | (go_simp; rfl)); intro gbba hg w8 hbox hb; have n0_ := Ak (Kd.V_below (Kd.V_elderB Zq60 gbba (Nat.le_of_eq hg.symm)) hb); have n1_ := Ak (Kd.V_below (Kd.V_elderB Zq61 gbba (Nat.le_of_eq hg.symm)) hb); have n2_ := Zq122; have n3_ := Ak (hbox); have n4_ := Zq194; have n5_ := Zq194; clear HO0_3 HO0_4 HB; have HO0_3 := n0_; have HO0_4 := n1_; have HB := n2_; have BKba := n3_; have GWba := n4_; have GEba := n5_; clear n0_ n1_ n2_ n3_ n4_ n5_ hb hbox hg) | ((with_reducible refine gate_dst (N := 4) rfl ?_); (try (refine gate_guard Zq3 ?_; dsimp only)); refine box_event ?hg (N := 4) ?hd (cs := #[.string (⟨#[]⟩ : ByteArray), .slice none 0 0, .slice none 0 0]) (t := 30) ?hr ?_; (case hd | hg => rfl); (case hr => first | (go_simp; done) | (go_simp; rfl)); intro gbaC hg w9 hbox hb; have n0_ := Ak (Kd.V_below (Kd.V_elderB Zq60 gbaC (Nat.le_of_eq hg.symm)) hb); have n1_ := Ak (Kd.V_below (Kd.V_elderB Zq61 gbaC (Nat.le_of_eq hg.symm)) hb); have n2_ := Zq146; have n3_ := Ak (below_step Zq77 hb); have n4_ := Ak (hbox); have n5_ := Zq187; have n6_ := Zq187; have n7_ := Ak ((by rw [hg]; exact Nat.ne_of_lt Zq134 : gbba ≠ gbaC)); have n8_ := Ak ((by rw [hg]; exact Nat.ne_of_gt Zq134 : gbaC ≠ gbba)); clear HO0_3 HO0_4 BKba HB; have HO0_3 := n0_; have HO0_4 := n1_; have BKba := n2_; have HB := n3_; have BKaC := n4_; have GWaC := n5_; have GEaC := n6_; have NB152_153 := n7_; have NB153_152 := n8_; clear n0_ n1_ n2_ n3_ n4_ n5_ n6_ n7_ n8_ hb hbox hg; have hnb10 := NB152_153.out; have hnc10 := NB153_152.out; have hcz11_0 : w9.cell? ⟨gbba, 0, none⟩ = some (.int .u32 a0_0) := (blk_cell BKba.out 0).trans rfl; have hcz11_1 : w9.cell? ⟨gbba, 1, none⟩ = some (.slice A0_1 l0_1.length c0_1) := (blk_cell BKba.out 1).trans rfl; have hcz11_2 : w9.cell? ⟨gbba, 2, none⟩ = some (.string a0_2) := (blk_cell BKba.out 2).trans rfl; have hcz11_3 : w9.cell? ⟨gbba, 3, none⟩ = some (.slice A0_3 l0_3.length c0_3) := (blk_cell BKba.out 3).trans rfl; have hcz11_4 : w9.cell? ⟨gbba, 4, none⟩ = some (.slice A0_4 l0_4.length c0_4) := (blk_cell BKba.out 4).trans rfl; have hfz11_0 := blk_frozen BKba.out 0; have hfz11_1 := blk_frozen BKba.out 1; have hfz11_2 := blk_frozen BKba.out 2; have hfz11_3 := blk_frozen BKba.out 3; have hfz11_4 := blk_frozen BKba.out 4) | ((with_reducible refine gate_dst (N := 6) rfl ?_); (try (refine gate_guard Zq3 ?_; dsimp only)); refine box_event ?hg (N := 6) ?hd (cs := #[.string (⟨#[]⟩ : ByteArray), .slice none 0 0, .slice none 0 0]) (t := 30) ?hr ?_; (case hd | hg => rfl); (case hr => first | (go_simp; done) | (go_simp; rfl)); intro gbaz hg w12 hbox hb; have n0_ := Ak (Kd.V_below (Kd.V_elderB Zq60 gbaz (Nat.le_of_eq hg.symm)) hb); have n1_ := Ak (Kd.V_below (Kd.V_elderB Zq61 gbaz (Nat.le_of_eq hg.symm)) hb); have n2_ := Zq146; have n3_ := Ak (blk_below (g := gbaC) (o := .cells #[.string (⟨#[]⟩ : ByteArray), .slice none 0 0, .slice none 0 0] 30 (0, 0)) Zq86 hb); have n4_ := Ak (below_step Zq100 hb); have n5_ := Ak (hbox); have n6_ := Ak ((by rw [hg]; exact (below_size Zq100) : w.heap.size ≤ gbaz)); have n7_ := Ak ((by rw [hg]; exact (below_size Zq100) : w.heap.size ≤ gbaz)); have n8_ := Ak ((by rw [hg]; exact Nat.ne_of_lt Zq134 : gbba ≠ gbaz)); have n9_ := Ak ((by rw [hg]; exact Nat.ne_of_gt Zq134 : gbaz ≠ gbba)); have n10_ := Ak ((by rw [hg]; exact Nat.ne_of_lt (blk_lt (g := gbaC) (o := .cells #[.string (⟨#[]⟩ : ByteArray), .slice none 0 0, .slice none 0 0] 30 (0, 0)) Zq86) : gbaC ≠ gbaz)); have n11_ := Ak ((by rw [hg]; exact Nat.ne_of_gt (blk_lt (g := gbaC) (o := .cells #[.string (⟨#[]⟩ : ByteArray), .slice none 0 0, .slice none 0 0] 30 (0, 0)) Zq86) : gbaz ≠ gbaC)); clear HO0_3 HO0_4 BKba BKaC HB; have HO0_3 := n0_; have HO0_4 := n1_; have BKba := n2_; have BKaC := n3_; have HB := n4_; have BKaz := n5_; have GWaz := n6_; have GEaz := n7_; have NB152_154 := n8_; have NB154_152 := n9_; have NB153_154 := n10_; have NB154_153 := n11_; clear n0_ n1_ n2_ n3_ n4_ n5_ n6_ n7_ n8_ n9_ n10_ n11_ hb hbox hg; have hnb13 := NB154_152.out; have hnc13 := NB152_154.out; have hnb14 := NB154_153.out; have hnc14 := NB153_154.out; have hcz15_0 : w12.cell? ⟨gbaz, 0, none⟩ = some (.string (⟨#[]⟩ : ByteArray)) := (blk_cell BKaz.out 0).trans rfl; have hcz15_1 : w12.cell? ⟨gbaz, 1, none⟩ = some (.slice none 0 0) := (blk_cell BKaz.out 1).trans rfl; have hcz15_2 : w12.cell? ⟨gbaz, 2, none⟩ = some (.slice none 0 0) := (blk_cell BKaz.out 2).trans rfl; have hfz15_0 := blk_frozen BKaz.out 0; have hfz15_1 := blk_frozen BKaz.out 1; have hfz15_2 := blk_frozen BKaz.out 2))
  go_loopg [17] k (fun kq v17 w' => ∃ (x17_1 : Int) (xcN_1 : ByteArray) (xcD_1 : ByteArray) (xci_1 : List (S77)) (xaZ_1 : List (S30)) (u155001 : Value) (u155002 : Value), v17 = .int .i64 x17_1 ∧ Aside0 (path_Get.l0 kq l1 (l1.length : Int) x17_1 xcD_1 xci_1 xaZ_1 = some (r1, r2, r3, r4)) ∧ Aside0 (kq ≤ k) ∧ Aside0 (Kd.V k77 77 w' w.heap.size (fun k_ => ((P0_3_ k_ ∨ P0_4_ k_) ∨ w.heap.size ≤ k_) ∧ k_ ≠ gbba ∧ k_ ≠ gbaC ∧ k_ ≠ gbaz) (.slice A0_3 l0_3.length c0_3) l0_3) ∧ Aside0 (Kd.V k30 30 w' w.heap.size (fun k_ => ((P0_3_ k_ ∨ P0_4_ k_) ∨ w.heap.size ≤ k_) ∧ k_ ≠ gbba ∧ k_ ≠ gbaC ∧ k_ ≠ gbaz) (.slice A0_4 l0_4.length c0_4) l0_4) ∧ Aside0 (Kd.V k77 77 w' w.heap.size (fun k_ => ((P0_3_ k_ ∨ P0_4_ k_) ∨ w.heap.size ≤ k_) ∧ k_ ≠ gbba ∧ k_ ≠ gbaC ∧ k_ ≠ gbaz) u155001 xci_1) ∧ Aside0 (Kd.V k30 30 w' w.heap.size (fun k_ => ((P0_3_ k_ ∨ P0_4_ k_) ∨ w.heap.size ≤ k_) ∧ k_ ≠ gbba ∧ k_ ≠ gbaC ∧ k_ ≠ gbaz) u155002 xaZ_1) ∧ Aside0 (w'.heap[gbba]? = some (.cells #[.int .u32 a0_0, (.slice A0_1 l0_1.length c0_1), .string a0_2, (.slice A0_3 l0_3.length c0_3), (.slice A0_4 l0_4.length c0_4)] 35 (0, 0))) ∧ Aside0 (w'.heap[gbaC]? = some (.cells #[.string xcN_1, (.slice none 0 0), (.slice none 0 0)] 30 (0, 0))) ∧ Aside0 (w'.heap[gbaz]? = some (.cells #[.string xcD_1, u155001, u155002] 30 (0, 0))) ∧ Aside0 (Below w.heap.size w w'))
  case atStart => exact ⟨(0), ((⟨#[]⟩ : ByteArray)), (a0_2), (l0_3), (l0_4), (.slice A0_3 l0_3.length c0_3), (.slice A0_4 l0_4.length c0_4), Zq6, H', ⟨Nat.le_refl _⟩, ⟨by (with_reducible repeat (first | apply Kd.V_alloc | apply Kd.V_drewN | apply Kd.V_drew)); exact Kd.V_mono (Kd.V_far (p := ⟨gbaz, 2, none⟩) (Kd.V_far (p := ⟨gbaz, 1, none⟩) (Kd.V_far (p := ⟨gbaz, 0, none⟩) (Kd.V_mono HO0_3.out (fun k_ hk => (⟨hk, hk.2⟩ : _ ∧ k_ ≠ gbaz))) (fun _ hk => hk.2) (.string a0_2)) (fun _ hk => hk.2) (.slice A0_3 l0_3.length c0_3)) (fun _ hk => hk.2) (.slice A0_4 l0_4.length c0_4)) (fun _ hk => ⟨hk.1.1.1.1, ⟨hk.1.1.1.2, ⟨hk.1.1.2, hk.1.2⟩⟩⟩)⟩, ⟨by (with_reducible repeat (first | apply Kd.V_alloc | apply Kd.V_drewN | apply Kd.V_drew)); exact Kd.V_mono (Kd.V_far (p := ⟨gbaz, 2, none⟩) (Kd.V_far (p := ⟨gbaz, 1, none⟩) (Kd.V_far (p := ⟨gbaz, 0, none⟩) (Kd.V_mono HO0_4.out (fun k_ hk => (⟨hk, hk.2⟩ : _ ∧ k_ ≠ gbaz))) (fun _ hk => hk.2) (.string a0_2)) (fun _ hk => hk.2) (.slice A0_3 l0_3.length c0_3)) (fun _ hk => hk.2) (.slice A0_4 l0_4.length c0_4)) (fun _ hk => ⟨hk.1.1.1.1, ⟨hk.1.1.1.2, ⟨hk.1.1.2, hk.1.2⟩⟩⟩)⟩, ⟨by (with_reducible repeat (first | apply Kd.V_alloc | apply Kd.V_drewN | apply Kd.V_drew)); exact Kd.V_mono (Kd.V_far (p := ⟨gbaz, 2, none⟩) (Kd.V_far (p := ⟨gbaz, 1, none⟩) (Kd.V_far (p := ⟨gbaz, 0, none⟩) (Kd.V_mono HO0_3.out (fun k_ hk => (⟨hk, hk.2⟩ : _ ∧ k_ ≠ gbaz))) (fun _ hk => hk.2) (.string a0_2)) (fun _ hk => hk.2) (.slice A0_3 l0_3.length c0_3)) (fun _ hk => hk.2) (.slice A0_4 l0_4.length c0_4)) (fun _ hk => ⟨hk.1.1.1.1, ⟨hk.1.1.1.2, ⟨hk.1.1.2, hk.1.2⟩⟩⟩)⟩, ⟨by (with_reducible repeat (first | apply Kd.V_alloc | apply Kd.V_drewN | apply Kd.V_drew)); exact Kd.V_mono (Kd.V_far (p := ⟨gbaz, 2, none⟩) (Kd.V_far (p := ⟨gbaz, 1, none⟩) (Kd.V_far (p := ⟨gbaz, 0, none⟩) (Kd.V_mono HO0_4.out (fun k_ hk => (⟨hk, hk.2⟩ : _ ∧ k_ ≠ gbaz))) (fun _ hk => hk.2) (.string a0_2)) (fun _ hk => hk.2) (.slice A0_3 l0_3.length c0_3)) (fun _ hk => hk.2) (.slice A0_4 l0_4.length c0_4)) (fun _ hk => ⟨hk.1.1.1.1, ⟨hk.1.1.1.2, ⟨hk.1.1.2, hk.1.2⟩⟩⟩)⟩, ⟨by (with_reducible repeat (first | refine blk_drewN ?_ _ | refine blk_drew ?_ | refine blk_alloc ?_ _)); refine blk_far ?_ NB152_154.out _; (with_reducible repeat (first | refine blk_drewN ?_ _ | refine blk_drew ?_ | refine blk_alloc ?_ _)); refine blk_far ?_ NB152_154.out _; (with_reducible repeat (first | refine blk_drewN ?_ _ | refine blk_drew ?_ | refine blk_alloc ?_ _)); refine blk_far ?_ NB152_154.out _; (with_reducible repeat (first | refine blk_drewN ?_ _ | refine blk_drew ?_ | refine blk_alloc ?_ _)); exact BKba.out⟩, ⟨by (with_reducible repeat (first | refine blk_drewN ?_ _ | refine blk_drew ?_ | refine blk_alloc ?_ _)); refine blk_far ?_ NB153_154.out _; (with_reducible repeat (first | refine blk_drewN ?_ _ | refine blk_drew ?_ | refine blk_alloc ?_ _)); refine blk_far ?_ NB153_154.out _; (with_reducible repeat (first | refine blk_drewN ?_ _ | refine blk_drew ?_ | refine blk_alloc ?_ _)); refine blk_far ?_ NB153_154.out _; (with_reducible repeat (first | refine blk_drewN ?_ _ | refine blk_drew ?_ | refine blk_alloc ?_ _)); exact BKaC.out⟩, ⟨by (with_reducible repeat (first | refine blk_drewN ?_ _ | refine blk_drew ?_ | refine blk_alloc ?_ _)); refine blk_put (cs := #[.string a0_2, .slice A0_3 l0_3.length c0_3, .slice none 0 0]) ?_ 2 _ rfl; (with_reducible repeat (first | refine blk_drewN ?_ _ | refine blk_drew ?_ | refine blk_alloc ?_ _)); refine blk_put (cs := #[.string a0_2, .slice none 0 0, .slice none 0 0]) ?_ 1 _ rfl; (with_reducible repeat (first | refine blk_drewN ?_ _ | refine blk_drew ?_ | refine blk_alloc ?_ _)); refine blk_put (cs := #[.string (⟨#[]⟩ : ByteArray), .slice none 0 0, .slice none 0 0]) ?_ 0 _ rfl; (with_reducible repeat (first | refine blk_drewN ?_ _ | refine blk_drew ?_ | refine blk_alloc ?_ _)); exact BKaz.out⟩, ⟨Zq54⟩⟩
  case round =>
   clear H'
   try clear c1
   try clear p2
   try clear c3
   try clear c3b0
   try clear c3b1
   try clear c4
   try clear c6
   try clear c10
   try clear c13
   try clear c14
   try clear hcz11_0
   try clear hcz11_1
   try clear hcz11_2
   try clear hcz11_3
   try clear hcz11_4
   try clear hcz15_0
   try clear hcz15_1
   try clear hcz15_2
   try clear hcz7_0
   try clear hcz7_1
   try clear hcz7_2
   try clear hfz11_0
   try clear hfz11_1
   try clear hfz11_2
   try clear hfz11_3
   try clear hfz11_4
   try clear hfz15_0
   try clear hfz15_1
   try clear hfz15_2
   try clear hfz7_0
   try clear hfz7_1
   try clear hfz7_2
   obtain ⟨x17_1, xcN_1, xcD_1, xci_1, xaZ_1, u155001, u155002, rfl, HA, HK1, HO_eK, HO_eL, HO_ci, HO_aZ, BKba, BKaC, BKaz, HB⟩ := hrel
   cases gk with
   | zero => exact absurd HA.out (by simp [path_Get.l0])
   | succ k1 =>
    have H := HA.out; clear HA; simp only [path_Get.l0] at H
    by_cases c16 : x17_1 < (l1.length : Int)
    ·rw [if_pos c16] at H; have c16b0 : decide (x17_1 < (l1.length : Int)) = true := decide_eq_true c16; clear c16
     by_cases c17 : 0 ≤ x17_1
     ·rw [if_pos c17] at H; have c17b0 : decide (0 ≤ x17_1) = true := decide_eq_true c17; clear c17
      by_cases c18 : x17_1 < (l1.length : Int)
      ·rw [if_pos c18] at H; have c18b0 : decide (x17_1 < (l1.length : Int)) = true := decide_eq_true c18; clear c18
       by_cases c19 : (rd l1 x17_1) < 0
       ·rw [if_pos c19] at H; have c19b0 : decide ((rd l1 x17_1) < 0) = true := decide_eq_true c19; clear c19; simp only [Option.some.injEq, Prod.mk.injEq] at H; obtain ⟨rfl, rfl, rfl, rfl⟩ := H; have p155 : 0 ≤ (x17_1 : Int) := of_decide_eq_true Zq4; have q155 : x17_1 < (l1.length : Int) := of_decide_eq_true Zq4; obtain ⟨adfx, e155, hx155_0⟩ := Kd.at_int HR1.out x17_1 p155 q155
        cases e155
        replace hx155_0 := (HB.out.cell (World.block_lt_of_cell? w _ hx155_0)).trans hx155_0; replace p155 := eq_true p155; replace q155 := eq_true q155; have hnb20 := NB153_152.out; have hnc20 := NB152_153.out; have hnb21 := NB153_154.out; have hnc21 := NB154_153.out; have hcz22_0 : wr.cell? ⟨gbaC, 0, none⟩ = some (.string xcN_1) := (blk_cell BKaC.out 0).trans rfl; have hcz22_1 : wr.cell? ⟨gbaC, 1, none⟩ = some (.slice none 0 0) := (blk_cell BKaC.out 1).trans rfl; have hcz22_2 : wr.cell? ⟨gbaC, 2, none⟩ = some (.slice none 0 0) := (blk_cell BKaC.out 2).trans rfl; have hfz22_0 := blk_frozen BKaC.out 0; have hfz22_1 := blk_frozen BKaC.out 1; have hfz22_2 := blk_frozen BKaC.out 2
        go_wp2
        refine bodyPost_ret (results_ct rfl _ _ gbaC 30 #[.string (⟨#[]⟩ : ByteArray), .slice none 0 0, .slice none 0 0] (0, 0) _ rfl (by (with_reducible repeat (first | refine blk_drewN ?_ _ | refine blk_drew ?_ | refine blk_alloc ?_ _)); refine blk_put (cs := #[.string (⟨#[]⟩ : ByteArray), .slice none 0 0, .slice none 0 0]) ?_ 2 _ rfl; (with_reducible repeat (first | refine blk_drewN ?_ _ | refine blk_drew ?_ | refine blk_alloc ?_ _)); refine blk_put (cs := #[.string (⟨#[]⟩ : ByteArray), .slice none 0 0, .slice none 0 0]) ?_ 1 _ rfl; (with_reducible repeat (first | refine blk_drewN ?_ _ | refine blk_drew ?_ | refine blk_alloc ?_ _)); refine blk_put (cs := #[.string xcN_1, .slice none 0 0, .slice none 0 0]) ?_ 0 _ rfl; (with_reducible repeat (first | refine blk_drewN ?_ _ | refine blk_drew ?_ | refine blk_alloc ?_ _)); exact BKaC.out) Try.underlying30 rfl Zq2) rfl ?_
        exact ⟨_, _, Zq10, Zq97, Zq32, Zq54⟩
       ·rw [if_neg c19] at H; have c19b0 : decide ((rd l1 x17_1) < 0) = false := decide_eq_false c19; clear c19
        by_cases c23 : (rd l1 x17_1) ≥ (xaZ_1.length : Int)
        ·rw [if_pos c23] at H; have c23b0 : decide ((xaZ_1.length : Int) ≤ (rd l1 x17_1)) = true := decide_eq_true c23; clear c23; simp only [Option.some.injEq, Prod.mk.injEq] at H; obtain ⟨rfl, rfl, rfl, rfl⟩ := H; have p155 : 0 ≤ (x17_1 : Int) := of_decide_eq_true Zq4; have q155 : x17_1 < (l1.length : Int) := of_decide_eq_true Zq4; obtain ⟨adfx, e155, hx155_0⟩ := Kd.at_int HR1.out x17_1 p155 q155
         cases e155
         replace hx155_0 := (HB.out.cell (World.block_lt_of_cell? w _ hx155_0)).trans hx155_0; replace p155 := eq_true p155; replace q155 := eq_true q155; have hnb24 := NB154_152.out; have hnc24 := NB152_154.out; have hnb25 := NB154_153.out; have hnc25 := NB153_154.out; have hcz26_0 : wr.cell? ⟨gbaz, 0, none⟩ = some (.string xcD_1) := (blk_cell BKaz.out 0).trans rfl; have hcz26_1 : wr.cell? ⟨gbaz, 1, none⟩ = some (u155001) := (blk_cell BKaz.out 1).trans rfl; have hcz26_2 : wr.cell? ⟨gbaz, 2, none⟩ = some (u155002) := (blk_cell BKaz.out 2).trans rfl; have hfz26_0 := blk_frozen BKaz.out 0; have hfz26_1 := blk_frozen BKaz.out 1; have hfz26_2 := blk_frozen BKaz.out 2; obtain ⟨Ao27, co27, eo27⟩ := Kd.V_slice HO_aZ.out; subst eo27; have hnb28 := NB153_152.out; have hnc28 := NB152_153.out; have hcz29_0 : wr.cell? ⟨gbaC, 0, none⟩ = some (.string xcN_1) := (blk_cell BKaC.out 0).trans rfl; have hcz29_1 : wr.cell? ⟨gbaC, 1, none⟩ = some (.slice none 0 0) := (blk_cell BKaC.out 1).trans rfl; have hcz29_2 : wr.cell? ⟨gbaC, 2, none⟩ = some (.slice none 0 0) := (blk_cell BKaC.out 2).trans rfl; have hfz29_0 := blk_frozen BKaC.out 0; have hfz29_1 := blk_frozen BKaC.out 1; have hfz29_2 := blk_frozen BKaC.out 2
         go_wp2
         refine bodyPost_ret (results_ct rfl _ _ gbaC 30 #[.string (⟨#[]⟩ : ByteArray), .slice none 0 0, .slice none 0 0] (0, 0) _ rfl (by (with_reducible repeat (first | refine blk_drewN ?_ _ | refine blk_drew ?_ | refine blk_alloc ?_ _)); refine blk_put (cs := #[.string (⟨#[]⟩ : ByteArray), .slice none 0 0, .slice none 0 0]) ?_ 2 _ rfl; (with_reducible repeat (first | refine blk_drewN ?_ _ | refine blk_drew ?_ | refine blk_alloc ?_ _)); refine blk_put (cs := #[.string (⟨#[]⟩ : ByteArray), .slice none 0 0, .slice none 0 0]) ?_ 1 _ rfl; (with_reducible repeat (first | refine blk_drewN ?_ _ | refine blk_drew ?_ | refine blk_alloc ?_ _)); refine blk_put (cs := #[.string xcN_1, .slice none 0 0, .slice none 0 0]) ?_ 0 _ rfl; (with_reducible repeat (first | refine blk_drewN ?_ _ | refine blk_drew ?_ | refine blk_alloc ?_ _)); exact BKaC.out) Try.underlying30 rfl Zq2) rfl ?_
         exact ⟨_, _, Zq10, Zq97, Zq32, Zq54⟩
        ·rw [if_neg c23] at H; have c23b0 : decide ((xaZ_1.length : Int) ≤ (rd l1 x17_1)) = false := decide_eq_false c23; clear c23
         by_cases c30 : 0 ≤ (rd l1 x17_1)
         ·rw [if_pos c30] at H; have c30b0 : decide (0 ≤ (rd l1 x17_1)) = true := decide_eq_true c30; clear c30
          by_cases c31 : (rd l1 x17_1) < (xaZ_1.length : Int)
          ·rw [if_pos c31] at H; have c31b0 : decide ((rd l1 x17_1) < (xaZ_1.length : Int)) = true := decide_eq_true c31; clear c31; have H' := Ak H; clear H; have p155 : 0 ≤ (x17_1 : Int) := of_decide_eq_true Zq4; have q155 : x17_1 < (l1.length : Int) := of_decide_eq_true Zq4; obtain ⟨adfx, e155, hx155_0⟩ := Kd.at_int HR1.out x17_1 p155 q155
           cases e155
           replace hx155_0 := (HB.out.cell (World.block_lt_of_cell? w _ hx155_0)).trans hx155_0; replace p155 := eq_true p155; replace q155 := eq_true q155; have hnb32 := NB154_152.out; have hnc32 := NB152_154.out; have hnb33 := NB154_153.out; have hnc33 := NB153_154.out; have hcz34_0 : wr.cell? ⟨gbaz, 0, none⟩ = some (.string xcD_1) := (blk_cell BKaz.out 0).trans rfl; have hcz34_1 : wr.cell? ⟨gbaz, 1, none⟩ = some (u155001) := (blk_cell BKaz.out 1).trans rfl; have hcz34_2 : wr.cell? ⟨gbaz, 2, none⟩ = some (u155002) := (blk_cell BKaz.out 2).trans rfl; have hfz34_0 := blk_frozen BKaz.out 0; have hfz34_1 := blk_frozen BKaz.out 1; have hfz34_2 := blk_frozen BKaz.out 2; obtain ⟨Ao35, co35, eo35⟩ := Kd.V_slice HO_aZ.out; subst eo35; have p156 : 0 ≤ ((rd l1 x17_1) : Int) := of_decide_eq_true Zq4; have q156 : (rd l1 x17_1) < (xaZ_1.length : Int) := of_decide_eq_true Zq4; obtain ⟨adbs, Abs_1, cbs_1, Abs_2, cbs_2, e156, hx156_0, hx156_1, hx156_2, hl156_1, hi156_1, hl156_2, hi156_2⟩ := at_T30 (Kd.V_reads' HO_aZ.out).2.2 (rd l1 x17_1) p156 q156
           cases e156
           obtain ⟨ce156, hce156, hMe156, hcc156⟩ := Kd.V_get HO_aZ.out z30 (rd l1 x17_1) p156 (by first | exact q156 | exact of_decide_eq_true Zq4 | (have e_ := (Kd.V_reads' HO_aZ.out).1; omega)); obtain ⟨ua156_1, uc156_1, ua156_2, uc156_2, rfl, ul156_1, ge156_1, ul156_2, ge156_2⟩ := k30_openF hMe156; have hv156_1 := hcc156 1 _ rfl; rw [add_field _ _ 1 Zq1] at hv156_1; replace hv156_1 := Option.some.inj (hv156_1.symm.trans hx156_1); injection hv156_1 with hva_ hvn_ hvc_; rw [hva_] at ge156_1; rw [hvc_] at ul156_1; have HL156_1 := Ak (show Kd.V k77 77 _ w.heap.size _ _ ((rd_T30 xaZ_1 (rd l1 x17_1)).f1) from Kd.V_mk ul156_1 ge156_1); clear hva_ hvn_ hvc_ ge156_1 ul156_1; have hv156_2 := hcc156 2 _ rfl; rw [add_field _ _ 2 Zq1] at hv156_2; replace hv156_2 := Option.some.inj (hv156_2.symm.trans hx156_2); injection hv156_2 with hva_ hvn_ hvc_; rw [hva_] at ge156_2; rw [hvc_] at ul156_2; have HL156_2 := Ak (show Kd.V k30 30 _ w.heap.size _ _ ((rd_T30 xaZ_1 (rd l1 x17_1)).f2) from Kd.V_mk ul156_2 ge156_2); clear hva_ hvn_ hvc_ ge156_2 ul156_2 hcc156 hce156; have HRbs_1 := Ak hi156_1; have HCbs_1 := Ak hl156_1; clear hi156_1 hl156_1; have HRbs_2 := Ak hi156_2; have HCbs_2 := Ak hl156_2; clear hi156_2 hl156_2; replace p156 := eq_true p156; replace q156 := eq_true q156
           go_wp2
           go_roundg k1
           case measure => have := HK1.out; omega
           case rel => exact ⟨(wrap64 (x17_1 + 1)), (xcN_1), ((rd_T30 xaZ_1 (rd l1 x17_1)).f0), ((rd_T30 xaZ_1 (rd l1 x17_1)).f1), ((rd_T30 xaZ_1 (rd l1 x17_1)).f2), (.slice Abs_1 ((rd_T30 xaZ_1 (rd l1 x17_1)).f1).length cbs_1), (.slice Abs_2 ((rd_T30 xaZ_1 (rd l1 x17_1)).f2).length cbs_2), Zq6, H', ⟨Zq26⟩, ⟨by (with_reducible repeat (first | apply Kd.V_alloc | apply Kd.V_drewN | apply Kd.V_drew)); exact Kd.V_mono (Kd.V_far (p := ⟨gbaz, 2, none⟩) (Kd.V_far (p := ⟨gbaz, 1, none⟩) (Kd.V_far (p := ⟨gbaz, 0, none⟩) (Kd.V_mono HO_eK.out (fun k_ hk => (⟨hk, hk.2.2.2⟩ : _ ∧ k_ ≠ gbaz))) (fun _ hk => hk.2) (.string ((rd_T30 xaZ_1 (rd l1 x17_1)).f0))) (fun _ hk => hk.2) (.slice Abs_1 ((rd_T30 xaZ_1 (rd l1 x17_1)).f1).length cbs_1)) (fun _ hk => hk.2) (.slice Abs_2 ((rd_T30 xaZ_1 (rd l1 x17_1)).f2).length cbs_2)) (fun _ hk => ⟨hk.1.1, ⟨hk.1.2.1, ⟨hk.1.2.2.1, hk.1.2.2.2⟩⟩⟩)⟩, ⟨by (with_reducible repeat (first | apply Kd.V_alloc | apply Kd.V_drewN | apply Kd.V_drew)); exact Kd.V_mono (Kd.V_far (p := ⟨gbaz, 2, none⟩) (Kd.V_far (p := ⟨gbaz, 1, none⟩) (Kd.V_far (p := ⟨gbaz, 0, none⟩) (Kd.V_mono HO_eL.out (fun k_ hk => (⟨hk, hk.2.2.2⟩ : _ ∧ k_ ≠ gbaz))) (fun _ hk => hk.2) (.string ((rd_T30 xaZ_1 (rd l1 x17_1)).f0))) (fun _ hk => hk.2) (.slice Abs_1 ((rd_T30 xaZ_1 (rd l1 x17_1)).f1).length cbs_1)) (fun _ hk => hk.2) (.slice Abs_2 ((rd_T30 xaZ_1 (rd l1 x17_1)).f2).length cbs_2)) (fun _ hk => ⟨hk.1.1, ⟨hk.1.2.1, ⟨hk.1.2.2.1, hk.1.2.2.2⟩⟩⟩)⟩, ⟨by (with_reducible repeat (first | apply Kd.V_alloc | apply Kd.V_drewN | apply Kd.V_drew)); exact Kd.V_mono (Kd.V_far (p := ⟨gbaz, 2, none⟩) (Kd.V_far (p := ⟨gbaz, 1, none⟩) (Kd.V_far (p := ⟨gbaz, 0, none⟩) (Kd.V_mono HL156_1.out (fun k_ hk => (⟨hk, hk.2.2.2⟩ : _ ∧ k_ ≠ gbaz))) (fun _ hk => hk.2) (.string ((rd_T30 xaZ_1 (rd l1 x17_1)).f0))) (fun _ hk => hk.2) (.slice Abs_1 ((rd_T30 xaZ_1 (rd l1 x17_1)).f1).length cbs_1)) (fun _ hk => hk.2) (.slice Abs_2 ((rd_T30 xaZ_1 (rd l1 x17_1)).f2).length cbs_2)) (fun _ hk => ⟨hk.1.1, ⟨hk.1.2.1, ⟨hk.1.2.2.1, hk.1.2.2.2⟩⟩⟩)⟩, ⟨by (with_reducible repeat (first | apply Kd.V_alloc | apply Kd.V_drewN | apply Kd.V_drew)); exact Kd.V_mono (Kd.V_far (p := ⟨gbaz, 2, none⟩) (Kd.V_far (p := ⟨gbaz, 1, none⟩) (Kd.V_far (p := ⟨gbaz, 0, none⟩) (Kd.V_mono HL156_2.out (fun k_ hk => (⟨hk, hk.2.2.2⟩ : _ ∧ k_ ≠ gbaz))) (fun _ hk => hk.2) (.string ((rd_T30 xaZ_1 (rd l1 x17_1)).f0))) (fun _ hk => hk.2) (.slice Abs_1 ((rd_T30 xaZ_1 (rd l1 x17_1)).f1).length cbs_1)) (fun _ hk => hk.2) (.slice Abs_2 ((rd_T30 xaZ_1 (rd l1 x17_1)).f2).length cbs_2)) (fun _ hk => ⟨hk.1.1, ⟨hk.1.2.1, ⟨hk.1.2.2.1, hk.1.2.2.2⟩⟩⟩)⟩, ⟨by (with_reducible repeat (first | refine blk_drewN ?_ _ | refine blk_drew ?_ | refine blk_alloc ?_ _)); refine blk_far ?_ NB152_154.out _; (with_reducible repeat (first | refine blk_drewN ?_ _ | refine blk_drew ?_ | refine blk_alloc ?_ _)); refine blk_far ?_ NB152_154.out _; (with_reducible repeat (first | refine blk_drewN ?_ _ | refine blk_drew ?_ | refine blk_alloc ?_ _)); refine blk_far ?_ NB152_154.out _; (with_reducible repeat (first | refine blk_drewN ?_ _ | refine blk_drew ?_ | refine blk_alloc ?_ _)); exact BKba.out⟩, ⟨by (with_reducible repeat (first | refine blk_drewN ?_ _ | refine blk_drew ?_ | refine blk_alloc ?_ _)); refine blk_far ?_ NB153_154.out _; (with_reducible repeat (first | refine blk_drewN ?_ _ | refine blk_drew ?_ | refine blk_alloc ?_ _)); refine blk_far ?_ NB153_154.out _; (with_reducible repeat (first | refine blk_drewN ?_ _ | refine blk_drew ?_ | refine blk_alloc ?_ _)); refine blk_far ?_ NB153_154.out _; (with_reducible repeat (first | refine blk_drewN ?_ _ | refine blk_drew ?_ | refine blk_alloc ?_ _)); exact BKaC.out⟩, ⟨by (with_reducible repeat (first | refine blk_drewN ?_ _ | refine blk_drew ?_ | refine blk_alloc ?_ _)); refine blk_put (cs := #[.string ((rd_T30 xaZ_1 (rd l1 x17_1)).f0), .slice Abs_1 ((rd_T30 xaZ_1 (rd l1 x17_1)).f1).length cbs_1, .slice (some adbs) xaZ_1.length co35]) ?_ 2 _ rfl; (with_reducible repeat (first | refine blk_drewN ?_ _ | refine blk_drew ?_ | refine blk_alloc ?_ _)); refine blk_put (cs := #[.string ((rd_T30 xaZ_1 (rd l1 x17_1)).f0), u155001, .slice (some adbs) xaZ_1.length co35]) ?_ 1 _ rfl; (with_reducible repeat (first | refine blk_drewN ?_ _ | refine blk_drew ?_ | refine blk_alloc ?_ _)); refine blk_put (cs := #[.string xcD_1, u155001, .slice (some adbs) xaZ_1.length co35]) ?_ 0 _ rfl; (with_reducible repeat (first | refine blk_drewN ?_ _ | refine blk_drew ?_ | refine blk_alloc ?_ _)); exact BKaz.out⟩, ⟨Zq54⟩⟩
          ·rw [if_neg c31] at H; exact absurd H Zq8
         ·rw [if_neg c30] at H; exact absurd H Zq8
      ·rw [if_neg c18] at H; exact absurd H Zq8
     ·rw [if_neg c17] at H; exact absurd H Zq8
    ·rw [if_neg c16] at H; have c16b0 : decide (x17_1 < (l1.length : Int)) = false := decide_eq_false c16; clear c16; replace H := Option.bind_eq_some_iff.mp H; obtain ⟨⟨tcM, tei, tey⟩, Acs, H⟩ := H; replace H : (some (tcM, tei, tey, 0)) = some (r1, r2, r3, r4) := H; have A36 := Ak Acs; clear Acs; simp only [Option.some.injEq, Prod.mk.injEq] at H; obtain ⟨rfl, rfl, rfl, rfl⟩ := H; have hnb37 := NB154_152.out; have hnc37 := NB152_154.out; have hnb38 := NB154_153.out; have hnc38 := NB153_154.out; have hcz39_0 : wr.cell? ⟨gbaz, 0, none⟩ = some (.string xcD_1) := (blk_cell BKaz.out 0).trans rfl; have hcz39_1 : wr.cell? ⟨gbaz, 1, none⟩ = some (u155001) := (blk_cell BKaz.out 1).trans rfl; have hcz39_2 : wr.cell? ⟨gbaz, 2, none⟩ = some (u155002) := (blk_cell BKaz.out 2).trans rfl; have hfz39_0 := blk_frozen BKaz.out 0; have hfz39_1 := blk_frozen BKaz.out 1; have hfz39_2 := blk_frozen BKaz.out 2; obtain ⟨Ao40, co40, eo40⟩ := Kd.V_slice HO_ci.out; subst eo40; obtain ⟨Ao41, co41, eo41⟩ := Kd.V_slice HO_aZ.out; subst eo41
     go_wp2_with (first | ((with_reducible refine gate_callee (f := 61) rfl ?_); refine goesL_ (some 38) rfl rfl Try.func61 Zq2 rfl #[.agg #[.string xcD_1, .slice Ao40 xci_1.length co40, .slice Ao41 xaZ_1.length co41]] rfl Zq9 ?_; (with_reducible refine (tree_CloneNode.calls k1 xcD_1 _ _ xci_1 _ _ xaZ_1 tcM tei tey _ ?side1 ?side2 ?side3 ?side4 A36.out).mono ?_); (case side1 => repeat (first | exact (Kd.V_reads' HO_ci.out).2.2 | (with_reducible refine Kd.C_alloc ?_ _) | (with_reducible refine Kd.C_drewN ?_ _) | (with_reducible refine Kd.C_drew ?_))); (case side2 => exact (Kd.V_reads' HO_ci.out).2.1); (case side3 => repeat (first | exact (Kd.V_reads' HO_aZ.out).2.2 | (with_reducible refine Kd.C_alloc ?_ _) | (with_reducible refine Kd.C_drewN ?_ _) | (with_reducible refine Kd.C_drew ?_))); (case side4 => exact (Kd.V_reads' HO_aZ.out).2.1); rintro e w42 ⟨v159, v162, rfl, ho0, ho1, hb⟩; refine ⟨_, rfl, ?_⟩; have n0_ := Ak (Kd.V_mono (Kd.V_told (Kd.V_told (Kd.V_old (by (with_reducible repeat (first | apply Kd.V_alloc | apply Kd.V_drewN | apply Kd.V_drew)); exact HO_eK.out) hb) (Kd.S_base ho0)) (Kd.R_base ho1)) (fun _ h_ => h_.1)); have n1_ := Ak (Kd.V_mono (Kd.V_told (Kd.V_told (Kd.V_old (by (with_reducible repeat (first | apply Kd.V_alloc | apply Kd.V_drewN | apply Kd.V_drew)); exact HO_eL.out) hb) (Kd.S_base ho0)) (Kd.R_base ho1)) (fun _ h_ => h_.1)); have n2_ := Ak (Kd.V_mono (Kd.V_told (Kd.V_told (Kd.V_old (by (with_reducible repeat (first | apply Kd.V_alloc | apply Kd.V_drewN | apply Kd.V_drew)); exact HO_ci.out) hb) (Kd.S_base ho0)) (Kd.R_base ho1)) (fun _ h_ => h_.1)); have n3_ := Ak (Kd.V_mono (Kd.V_told (Kd.V_told (Kd.V_old (by (with_reducible repeat (first | apply Kd.V_alloc | apply Kd.V_drewN | apply Kd.V_drew)); exact HO_aZ.out) hb) (Kd.S_base ho0)) (Kd.R_base ho1)) (fun _ h_ => h_.1)); have n4_ := Ak (Kd.S_lower (Kd.S_newM (M := fun k_ => (w.heap.size ≤ k_)) ho0 (below_size Zq54) (fun k_ h_ => h_)) (below_size Zq54)); have n5_ := Ak (Kd.R_lower (Kd.R_newB (Kd.R_newB (Kd.R_newM (M := fun k_ => (w.heap.size ≤ k_)) ho1 (below_size Zq54) (fun k_ h_ => h_)) (g := gbaC) (o := .cells #[.string xcN_1, .slice none 0 0, .slice none 0 0] 30 (0, 0)) Zq86) (g := gbaz) (o := .cells #[.string xcD_1, .slice Ao40 xci_1.length co40, .slice Ao41 xaZ_1.length co41] 30 (0, 0)) (by (with_reducible repeat (first | refine blk_drewN ?_ _ | refine blk_drew ?_ | refine blk_alloc ?_ _)); exact BKaz.out)) (below_size Zq54)); have n6_ := Zq146; have n7_ := Ak (blk_below (g := gbaC) (o := .cells #[.string xcN_1, .slice none 0 0, .slice none 0 0] 30 (0, 0)) Zq86 hb); have n8_ := Ak (blk_below (g := gbaz) (o := .cells #[.string xcD_1, .slice Ao40 xci_1.length co40, .slice Ao41 xaZ_1.length co41] 30 (0, 0)) (by (with_reducible repeat (first | refine blk_drewN ?_ _ | refine blk_drew ?_ | refine blk_alloc ?_ _)); exact BKaz.out) hb); have n9_ := Ak (below_step Zq54 hb); clear HO_eK HO_eL HO_ci HO_aZ BKba BKaC BKaz HB; have HO_eK := n0_; have HO_eL := n1_; have HO_ci := n2_; have HO_aZ := n3_; have HOez := n4_; have HOfy := n5_; have BKba := n6_; have BKaC := n7_; have BKaz := n8_; have HB := n9_; clear n0_ n1_ n2_ n3_ n4_ n5_ n6_ n7_ n8_ n9_; (try clear hb); (try clear hb2); (try clear hk); (try clear hi); (try clear ho0); (try clear ho1); have hnb43 := NB153_152.out; have hnc43 := NB152_153.out; have hcz44_0 : w42.cell? ⟨gbaC, 0, none⟩ = some (.string xcN_1) := (blk_cell BKaC.out 0).trans rfl; have hcz44_1 : w42.cell? ⟨gbaC, 1, none⟩ = some (.slice none 0 0) := (blk_cell BKaC.out 1).trans rfl; have hcz44_2 : w42.cell? ⟨gbaC, 2, none⟩ = some (.slice none 0 0) := (blk_cell BKaC.out 2).trans rfl; have hfz44_0 := blk_frozen BKaC.out 0; have hfz44_1 := blk_frozen BKaC.out 1; have hfz44_2 := blk_frozen BKaC.out 2; obtain ⟨Ao45, co45, eo45⟩ := Kd.S_slice HOez.out; subst eo45; obtain ⟨Ao46, co46, eo46⟩ := Kd.R_slice HOfy.out; subst eo46))
     refine bodyPost_ret (results_ct rfl _ _ gbaC 30 #[.string tcM, .slice Ao45 tei.length co45, .slice Ao46 tey.length co46] (0, 0) _ rfl (by (with_reducible repeat (first | refine blk_drewN ?_ _ | refine blk_drew ?_ | refine blk_alloc ?_ _)); refine blk_put (cs := #[.string tcM, .slice Ao45 tei.length co45, .slice none 0 0]) ?_ 2 _ rfl; (with_reducible repeat (first | refine blk_drewN ?_ _ | refine blk_drew ?_ | refine blk_alloc ?_ _)); refine blk_put (cs := #[.string tcM, .slice none 0 0, .slice none 0 0]) ?_ 1 _ rfl; (with_reducible repeat (first | refine blk_drewN ?_ _ | refine blk_drew ?_ | refine blk_alloc ?_ _)); refine blk_put (cs := #[.string xcN_1, .slice none 0 0, .slice none 0 0]) ?_ 0 _ rfl; (with_reducible repeat (first | refine blk_drewN ?_ _ | refine blk_drew ?_ | refine blk_alloc ?_ _)); exact BKaC.out) Try.underlying30 rfl Zq2) rfl ?_
     exact ⟨_, _, Zq10, by (with_reducible repeat (first | apply Kd.S_alloc | apply Kd.S_drewN | apply Kd.S_drew)); exact Kd.S_mono (Kd.S_far (p := ⟨gbaC, 2, none⟩) (Kd.S_far (p := ⟨gbaC, 1, none⟩) (Kd.S_far (p := ⟨gbaC, 0, none⟩) (Kd.S_types HOez.out BKaC.out Zq7) (fun _ hk => hk.2) (.string tcM)) (fun _ hk => hk.2) (.slice Ao45 tei.length co45)) (fun _ hk => hk.2) (.slice Ao46 tey.length co46)) (fun _ hk => hk.1.1), by (with_reducible repeat (first | apply Kd.R_alloc | apply Kd.R_drewN | apply Kd.R_drew)); exact Kd.R_mono (Kd.R_far (p := ⟨gbaC, 2, none⟩) (Kd.R_far (p := ⟨gbaC, 1, none⟩) (Kd.R_far (p := ⟨gbaC, 0, none⟩) (Kd.R_mono HOfy.out (fun k_ hk => (⟨hk, hk.1.2⟩ : _ ∧ k_ ≠ gbaC))) (fun _ hk => hk.2) (.string tcM)) (fun _ hk => hk.2) (.slice Ao45 tei.length co45)) (fun _ hk => hk.2) (.slice Ao46 tey.length co46)) (fun _ hk => ⟨hk.1.1.1.1, hk.1.1.1.2⟩), Zq54⟩
def tree_Find.l0 : Nat → ByteArray → List (S77) → Int → Int → Option (List Int × Bool)
 | 0, _, _, _, _ => none
 | k + 1, x1, x9, x10, x11 => if x11 < x10 then (if 0 ≤ x11 then (if x11 < (x9.length : Int) then (if ((rd_T77 x9 x11).f0).toList = x1.toList then ((bytes_Clone.f ((rd_T77 x9 x11).f1)).bind fun teM => (some (teM, true))) else (tree_Find.l0 k x1 x9 x10 (wrap64 (x11 + 1)))) else (none)) else (none)) else (some (([] : List Int), false))
def tree_Find.f (k : Nat) (a0_0 : ByteArray) (l0_1 : List (S77)) (l0_2 : List (S30)) (a1 : ByteArray) : Option (List Int × Bool) := tree_Find.l0 k a1 l0_1 (l0_1.length : Int) 0
theorem tree_Find.mono_l : ∀ k, (∀ y0 y1 y2 y3, LeO (tree_Find.l0 k y0 y1 y2 y3) (tree_Find.l0 (k + 1) y0 y1 y2 y3))
 | 0 => fun _ _ _ _ r h => by simp [tree_Find.l0] at h
 | k + 1 => by
  have ih0 := tree_Find.mono_l k
  ·intro y0 y1 y2 y3; unfold tree_Find.l0
   repeat' first | (with_reducible first | exact ih0 _ _ _ _ | exact LeO.refl _ | exact LeO.none _ | refine LeO.ite ?_ ?_ | refine LeO.bind ?_ (fun _ => ?_))
theorem tree_Find.mono : ∀ a0 a1 a2 a3 k, LeO (tree_Find.f k a0 a1 a2 a3) (tree_Find.f (k + 1) a0 a1 a2 a3) := by
 intro a0 a1 a2 a3 k; have ih0 := tree_Find.mono_l k; unfold tree_Find.f
 repeat' first | (with_reducible first | exact ih0 _ _ _ _ | exact LeO.refl _ | exact LeO.none _ | refine LeO.ite ?_ ?_ | refine LeO.bind ?_ (fun _ => ?_))
set_option maxHeartbeats 8000000 in
set_option maxRecDepth 100000 in
theorem tree_Find.calls (k : Nat) (a0_0 : ByteArray) (A0_1 : Option Addr) (c0_1 : Nat) (l0_1 : List (S77)) (A0_2 : Option Addr) (c0_2 : Nat) (l0_2 : List (S30)) (a1 : ByteArray) (r1 : List Int) (r2 : Bool) (w : World) (hr0_1 : Kd.C k77 w A0_1 l0_1.length l0_1) (hc0_1 : l0_1.length ≤ c0_1) (hr0_2 : Kd.C k30 w A0_2 l0_2.length l0_2) (hc0_2 : l0_2.length ≤ c0_2) (h : tree_Find.f k a0_0 l0_1 l0_2 a1 = some (r1, r2)) :
  Calls Try.prog 31 #[.agg #[.string a0_0, .slice A0_1 l0_1.length c0_1, .slice A0_2 l0_2.length c0_2], .string a1] w fun e w' => ∃ v0_ : Value, e = .returned (.tuple #[v0_, .bool r2]) ∧ Kd.R (Kd.int .u8) 5 w' w.heap.size (fun _ => True) v0_ r1 ∧ Below w.heap.size w w' := by
 have hu30 := Try.underlying30; have hu77 := Try.underlying77; have HR0_1 := Ak hr0_1; have HC0_1 := Ak hc0_1; clear hr0_1 hc0_1; have HR0_2 := Ak hr0_2; have HC0_2 := Ak hc0_2; clear hr0_2 hc0_2; have HB := Zq129; have H : (tree_Find.l0 k a1 l0_1 (l0_1.length : Int) 0) = some (r1, r2) := h; clear h; have H' := Ak H; clear H
 go_enter Try.func31, Try.ntmps31
 go_wp2_with (first | ((with_reducible refine gate_dst (N := 2) rfl ?_); refine box_event ?hg (N := 2) ?hd (cs := #[.string a0_0, .slice A0_1 l0_1.length c0_1, .slice A0_2 l0_2.length c0_2]) (t := 30) ?hr ?_; (case hd | hg => rfl); (case hr => first | (go_simp; done) | (go_simp; rfl)); intro gbbq hg w3 hbox hb; have n0_ := Zq122; have n1_ := Ak (hbox); have n2_ := Ak ((by rw [hg]; exact (below_size Zq5) : w.heap.size ≤ gbbq)); have n3_ := Ak ((by rw [hg]; exact (below_size Zq5) : w.heap.size ≤ gbbq)); clear HB; have HB := n0_; have BKbq := n1_; have GWbq := n2_; have GEbq := n3_; clear n0_ n1_ n2_ n3_ hb hbox hg; have hcz4_0 : w3.cell? ⟨gbbq, 0, none⟩ = some (.string a0_0) := (blk_cell BKbq.out 0).trans rfl; have hcz4_1 : w3.cell? ⟨gbbq, 1, none⟩ = some (.slice A0_1 l0_1.length c0_1) := (blk_cell BKbq.out 1).trans rfl; have hcz4_2 : w3.cell? ⟨gbbq, 2, none⟩ = some (.slice A0_2 l0_2.length c0_2) := (blk_cell BKbq.out 2).trans rfl; have hfz4_0 := blk_frozen BKbq.out 0; have hfz4_1 := blk_frozen BKbq.out 1; have hfz4_2 := blk_frozen BKbq.out 2))
 go_loopg [11] k (fun kq v11 w' => ∃ (x11_1 : Int), v11 = .int .i64 x11_1 ∧ Aside0 (tree_Find.l0 kq a1 l0_1 (l0_1.length : Int) x11_1 = some (r1, r2)) ∧ Aside0 (kq ≤ k) ∧ Aside0 (w'.heap[gbbq]? = some (.cells #[.string a0_0, (.slice A0_1 l0_1.length c0_1), (.slice A0_2 l0_2.length c0_2)] 30 (0, 0))) ∧ Aside0 (Below w.heap.size w w'))
 case atStart => exact ⟨(0), Zq6, H', ⟨Nat.le_refl _⟩, ⟨Zq71⟩, ⟨Zq62⟩⟩
 case round =>
  clear H'
  try clear p2
  try clear c3
  try clear hcz4_0
  try clear hcz4_1
  try clear hcz4_2
  try clear hfz4_0
  try clear hfz4_1
  try clear hfz4_2
  obtain ⟨x11_1, rfl, HA, HK1, BKbq, HB⟩ := hrel
  cases gk with
  | zero => exact absurd HA.out (by simp [tree_Find.l0])
  | succ k1 =>
   have H := HA.out; clear HA; simp only [tree_Find.l0] at H
   by_cases c5 : x11_1 < (l0_1.length : Int)
   ·rw [if_pos c5] at H; have c5b0 : decide (x11_1 < (l0_1.length : Int)) = true := decide_eq_true c5; clear c5
    by_cases c6 : 0 ≤ x11_1
    ·rw [if_pos c6] at H; have c6b0 : decide (0 ≤ x11_1) = true := decide_eq_true c6; clear c6
     by_cases c7 : x11_1 < (l0_1.length : Int)
     ·rw [if_pos c7] at H; have c7b0 : decide (x11_1 < (l0_1.length : Int)) = true := decide_eq_true c7; clear c7
      by_cases c8 : ((rd_T77 l0_1 x11_1).f0).toList = a1.toList
      ·rw [if_pos c8] at H; have c8b0 : (((rd_T77 l0_1 x11_1).f0).toList == a1.toList) = true := beq_iff_eq.mpr c8; have c8b1 : (((rd_T77 l0_1 x11_1).f0).toList != a1.toList) = false := bne_eq_false_iff_eq.mpr c8; clear c8; replace H := Option.bind_eq_some_iff.mp H; obtain ⟨teM, A90, H⟩ := H; replace H : (some (teM, true)) = some (r1, r2) := H; have A9 := Ak A90; clear A90; simp only [Option.some.injEq, Prod.mk.injEq] at H; obtain ⟨rfl, rfl⟩ := H; have p165 : 0 ≤ (x11_1 : Int) := of_decide_eq_true Zq4; have q165 : x11_1 < (l0_1.length : Int) := of_decide_eq_true Zq4; obtain ⟨adbZ, AbZ_1, cbZ_1, e165, hx165_0, hx165_1, hl165_1, hi165_1⟩ := at_T77 HR0_1.out x11_1 p165 q165
       cases e165
       replace hx165_0 := (HB.out.cell (World.block_lt_of_cell? w _ hx165_0)).trans hx165_0; replace hx165_1 := (HB.out.cell (World.block_lt_of_cell? w _ hx165_1)).trans hx165_1; have HRbZ_1 := Ak hi165_1; have HCbZ_1 := Ak hl165_1; clear hi165_1 hl165_1; replace p165 := eq_true p165; replace q165 := eq_true q165
       go_wp2_with (first | ((with_reducible refine gate_dst (N := 7) rfl ?_); refine box_event ?hg (N := 7) ?hd (cs := #[.string (⟨#[]⟩ : ByteArray), .slice none 0 0]) (t := 77) ?hr ?_; (case hd | hg => rfl); (case hr => first | (go_simp; done) | (go_simp; rfl)); intro gbbx hg w10 hbox hb; have n0_ := Zq213; have n1_ := Ak (below_step Zq62 hb); have n2_ := Ak (hbox); have n3_ := Zq188; have n4_ := Zq188; have n5_ := Ak ((by rw [hg]; exact Nat.ne_of_lt Zq166 : gbbq ≠ gbbx)); have n6_ := Ak ((by rw [hg]; exact Nat.ne_of_gt Zq166 : gbbx ≠ gbbq)); clear BKbq HB; have BKbq := n0_; have HB := n1_; have BKbx := n2_; have GWbx := n3_; have GEbx := n4_; have NB164_166 := n5_; have NB166_164 := n6_; clear n0_ n1_ n2_ n3_ n4_ n5_ n6_ hb hbox hg; have hnb11 := NB166_164.out; have hnc11 := NB164_166.out; have hcz12_0 : w10.cell? ⟨gbbx, 0, none⟩ = some (.string (⟨#[]⟩ : ByteArray)) := (blk_cell BKbx.out 0).trans rfl; have hcz12_1 : w10.cell? ⟨gbbx, 1, none⟩ = some (.slice none 0 0) := (blk_cell BKbx.out 1).trans rfl; have hfz12_0 := blk_frozen BKbx.out 0; have hfz12_1 := blk_frozen BKbx.out 1) | ((with_reducible refine gate_callee (f := 57) rfl ?_); refine goesL_ (some 21) rfl rfl Try.func57 Zq2 rfl #[.slice AbZ_1 ((rd_T77 l0_1 x11_1).f1).length cbZ_1] rfl Zq9 ?_; (with_reducible refine (bytes_Clone.calls _ _ ((rd_T77 l0_1 x11_1).f1) teM _ ?side1 ?side2 A9.out).mono ?_); (case side1 => exact Kd.C_below HRbZ_1.out Zq87); (case side2 => exact HCbZ_1.out); rintro e w13 ⟨v168, rfl, ho0, hb⟩; refine ⟨_, rfl, ?_⟩; have n0_ := Ak (Kd.R_lower ho0 (below_size Zq87)); have n1_ := Ak (blk_below (g := gbbq) (o := .cells #[.string a0_0, .slice (some adbZ) l0_1.length c0_1, .slice A0_2 l0_2.length c0_2] 30 (0, 0)) (by (with_reducible repeat (first | refine blk_drewN ?_ _ | refine blk_drew ?_ | refine blk_alloc ?_ _)); refine blk_far ?_ NB164_166.out _; (with_reducible repeat (first | refine blk_drewN ?_ _ | refine blk_drew ?_ | refine blk_alloc ?_ _)); refine blk_far ?_ NB164_166.out _; (with_reducible repeat (first | refine blk_drewN ?_ _ | refine blk_drew ?_ | refine blk_alloc ?_ _)); exact BKbq.out) hb); have n2_ := Ak (blk_below (g := gbbx) (o := .cells #[.string ((rd_T77 l0_1 x11_1).f0), .slice AbZ_1 ((rd_T77 l0_1 x11_1).f1).length cbZ_1] 77 (0, 0)) (by (with_reducible repeat (first | refine blk_drewN ?_ _ | refine blk_drew ?_ | refine blk_alloc ?_ _)); refine blk_put (cs := #[.string ((rd_T77 l0_1 x11_1).f0), .slice none 0 0]) ?_ 1 _ rfl; (with_reducible repeat (first | refine blk_drewN ?_ _ | refine blk_drew ?_ | refine blk_alloc ?_ _)); refine blk_put (cs := #[.string (⟨#[]⟩ : ByteArray), .slice none 0 0]) ?_ 0 _ rfl; (with_reducible repeat (first | refine blk_drewN ?_ _ | refine blk_drew ?_ | refine blk_alloc ?_ _)); exact BKbx.out) hb); have n3_ := Ak (below_step Zq87 hb); clear BKbq BKbx HB; have HOfS := n0_; have BKbq := n1_; have BKbx := n2_; have HB := n3_; clear n0_ n1_ n2_ n3_; (try clear hb); (try clear hb2); (try clear hk); (try clear hi); (try clear ho0)))
       go_ret2
       exact ⟨_, Zq10, by (with_reducible repeat (first | apply Kd.R_alloc | apply Kd.R_drewN | apply Kd.R_drew)); exact HOfS.out, Zq87⟩
      ·rw [if_neg c8] at H; have c8b0 : (((rd_T77 l0_1 x11_1).f0).toList == a1.toList) = false := beq_eq_false_iff_ne.mpr c8; have c8b1 : (((rd_T77 l0_1 x11_1).f0).toList != a1.toList) = true := bne_iff_ne.mpr c8; have H' := Ak H; clear H; have p165 : 0 ≤ (x11_1 : Int) := of_decide_eq_true Zq4; have q165 : x11_1 < (l0_1.length : Int) := of_decide_eq_true Zq4; obtain ⟨adbZ, AbZ_1, cbZ_1, e165, hx165_0, hx165_1, hl165_1, hi165_1⟩ := at_T77 HR0_1.out x11_1 p165 q165
       cases e165
       replace hx165_0 := (HB.out.cell (World.block_lt_of_cell? w _ hx165_0)).trans hx165_0; replace hx165_1 := (HB.out.cell (World.block_lt_of_cell? w _ hx165_1)).trans hx165_1; have HRbZ_1 := Ak hi165_1; have HCbZ_1 := Ak hl165_1; clear hi165_1 hl165_1; replace p165 := eq_true p165; replace q165 := eq_true q165
       go_wp2_with (first | ((with_reducible refine gate_dst (N := 7) rfl ?_); refine box_event ?hg (N := 7) ?hd (cs := #[.string (⟨#[]⟩ : ByteArray), .slice none 0 0]) (t := 77) ?hr ?_; (case hd | hg => rfl); (case hr => first | (go_simp; done) | (go_simp; rfl)); intro gbbx hg w14 hbox hb; have n0_ := Zq213; have n1_ := Ak (below_step Zq62 hb); have n2_ := Ak (hbox); have n3_ := Zq188; have n4_ := Zq188; have n5_ := Ak ((by rw [hg]; exact Nat.ne_of_lt Zq166 : gbbq ≠ gbbx)); have n6_ := Ak ((by rw [hg]; exact Nat.ne_of_gt Zq166 : gbbx ≠ gbbq)); clear BKbq HB; have BKbq := n0_; have HB := n1_; have BKbx := n2_; have GWbx := n3_; have GEbx := n4_; have NB164_166 := n5_; have NB166_164 := n6_; clear n0_ n1_ n2_ n3_ n4_ n5_ n6_ hb hbox hg; have hnb15 := NB166_164.out; have hnc15 := NB164_166.out; have hcz16_0 : w14.cell? ⟨gbbx, 0, none⟩ = some (.string (⟨#[]⟩ : ByteArray)) := (blk_cell BKbx.out 0).trans rfl; have hcz16_1 : w14.cell? ⟨gbbx, 1, none⟩ = some (.slice none 0 0) := (blk_cell BKbx.out 1).trans rfl; have hfz16_0 := blk_frozen BKbx.out 0; have hfz16_1 := blk_frozen BKbx.out 1))
       go_roundg k1
       case measure => have := HK1.out; omega
       case rel => exact ⟨(wrap64 (x11_1 + 1)), Zq6, H', ⟨Zq26⟩, ⟨by (with_reducible repeat (first | refine blk_drewN ?_ _ | refine blk_drew ?_ | refine blk_alloc ?_ _)); refine blk_far ?_ NB164_166.out _; (with_reducible repeat (first | refine blk_drewN ?_ _ | refine blk_drew ?_ | refine blk_alloc ?_ _)); refine blk_far ?_ NB164_166.out _; (with_reducible repeat (first | refine blk_drewN ?_ _ | refine blk_drew ?_ | refine blk_alloc ?_ _)); exact BKbq.out⟩, ⟨Zq87⟩⟩
     ·rw [if_neg c7] at H; exact absurd H Zq8
    ·rw [if_neg c6] at H; exact absurd H Zq8
   ·rw [if_neg c5] at H; have c5b0 : decide (x11_1 < (l0_1.length : Int)) = false := decide_eq_false c5; clear c5; simp only [Option.some.injEq, Prod.mk.injEq] at H; obtain ⟨rfl, rfl⟩ := H
    go_wp2
    go_ret2
    exact ⟨_, Zq10, Zq32, Zq62⟩
set_option maxRecDepth 100000 in
theorem words_part.yes (ad : Addr) (m c : Nat) (i q : Int) (w : World) (h0 : 0 ≤ i) (h1 : i ≤ (m : Int)) (h2 : q ≤ (m : Int) - i) (hq : 0 < q) (hc : m ≤ c) (hm : m ≤ 9223372036854775807) :
  Calls Try.prog 87 #[.slice (some ad) m c, .int .i64 i, .int .i64 q] w fun e w' => e = .returned (.slice (if c = i.toNat then some ad else (some ad).map (·.add (i.toNat * 1))) ((i + q).toNat - i.toNat) (c - i.toNat)) ∧ w' = w := by
 have f1 : decide (i < 0) = false := by simp; omega
 have f2 : decide ((m : Int) < i) = false := by simp; omega
 have f3 : decide ((m : Int) - i < q) = false := by simp; omega
 obtain ⟨i0, hi0, _, hsz, _⟩ := info_parts info5; have hcut := cut_mid 72 5 .i64 .i64 Try.underlying72 hi0 1 hsz (some ad) m c i (i + q) h0 Zq1 Zq1 hc
 go_enter Try.func87, Try.ntmps87
 go_wp2
 go_ret
 exact ⟨rfl, rfl⟩
set_option maxRecDepth 100000 in
theorem words_part.no (B : Option Addr) (m c : Nat) (i q : Int) (w : World) (h : i < 0 ∨ (m : Int) < i ∨ (m : Int) - i < q) (hq : 0 < q) (hq1 : q ≤ 100) (hm : m ≤ 9223372036854775807) :
  Calls Try.prog 87 #[.slice B m c, .int .i64 i, .int .i64 q] w fun e w' => e = .returned (.slice none 0 0) ∧ w' = w := by
 by_cases a1 : i < 0
 ·have f1 : decide (i < 0) = true := by simp; omega
  clear h
  go_enter Try.func87, Try.ntmps87
  go_wp2
  go_ret
  exact ⟨rfl, rfl⟩
 ·have f1 : decide (i < 0) = false := by simp; omega
  by_cases a2 : (m : Int) < i
  ·have f2 : decide ((m : Int) < i) = true := by simp; omega
   clear h
   go_enter Try.func87, Try.ntmps87
   go_wp2
   go_ret
   exact ⟨rfl, rfl⟩
  ·have f2 : decide ((m : Int) < i) = false := by simp; omega
   have f3 : decide ((m : Int) - i < q) = true := by simp; omega
   clear h
   go_enter Try.func87, Try.ntmps87
   go_wp2
   go_ret
   exact ⟨rfl, rfl⟩
def words_number.l0 : Nat → Int → List Int → Int → Int → Option (Int)
 | 0, _, _, _, _ => none
 | k + 1, x3, x6, x7, x8 => if x8 < x7 then (if 0 ≤ x8 then (if x8 < (x6.length : Int) then (words_number.l0 k (Go.bits .or .u64 (IntKind.u64.wrap (x3 * 256)) (IntKind.u64.wrap (rd x6 x8))) x6 x7 (wrap64 (x8 + 1))) else (none)) else (none)) else (some x3)
def words_number.f (k : Nat) (l0 : List Int) : Option (Int) := words_number.l0 k 0 l0 (l0.length : Int) 0
set_option maxHeartbeats 8000000 in
set_option maxRecDepth 100000 in
theorem words_number.calls (k : Nat) (A0 : Option Addr) (c0 : Nat) (l0 : List Int) (r : Int) (w : World) (hr0 : Kd.C (Kd.int .u8) w A0 l0.length l0) (hc0 : l0.length ≤ c0) (h : words_number.f k l0 = some r) :
  Calls Try.prog 88 #[.slice A0 l0.length c0] w fun e w' => e = .returned (.int .u64 r) ∧ Drawn0 w w' := by
 have HR0 := Ak hr0; have HC0 := Ak hc0; clear hr0 hc0; have H : (words_number.l0 k 0 l0 (l0.length : Int) 0) = some r := h; clear h; have H' := Ak H; clear H
 go_enter Try.func88, Try.ntmps88
 go_wp2
 go_loopg [3, 8] k (fun kq v3 v8 w' => ∃ (x3_1 : Int) (x8_1 : Int), v3 = .int .u64 x3_1 ∧ v8 = .int .i64 x8_1 ∧ Aside0 (words_number.l0 kq x3_1 l0 (l0.length : Int) x8_1 = some r) ∧ Aside0 (kq ≤ k) ∧ Drawn0 w w')
 case atStart => exact ⟨(0), (0), Zq6, Zq6, H', ⟨Nat.le_refl _⟩, Zq11⟩
 case round =>
  clear H'; obtain ⟨x3_1, x8_1, rfl, rfl, HA, HK1, ⟨m1, rfl⟩⟩ := hrel
  cases gk with
  | zero => exact absurd HA.out (by simp [words_number.l0])
  | succ k1 =>
   have H := HA.out; clear HA; simp only [words_number.l0] at H
   by_cases c2 : x8_1 < (l0.length : Int)
   ·rw [if_pos c2] at H; have c2b0 : decide (x8_1 < (l0.length : Int)) = true := decide_eq_true c2; clear c2
    by_cases c3 : 0 ≤ x8_1
    ·rw [if_pos c3] at H; have c3b0 : decide (0 ≤ x8_1) = true := decide_eq_true c3; clear c3
     by_cases c4 : x8_1 < (l0.length : Int)
     ·rw [if_pos c4] at H; have c4b0 : decide (x8_1 < (l0.length : Int)) = true := decide_eq_true c4; clear c4; have H' := Ak H; clear H; have p170 : 0 ≤ (x8_1 : Int) := of_decide_eq_true Zq4; have q170 : x8_1 < (l0.length : Int) := of_decide_eq_true Zq4; obtain ⟨adfi, e170, hx170_0⟩ := Kd.at_int HR0.out x8_1 p170 q170
      cases e170
      replace p170 := eq_true p170; replace q170 := eq_true q170
      go_wp2
      go_roundg k1
      case measure => have := HK1.out; omega
      case rel => exact ⟨(Go.bits .or .u64 (IntKind.u64.wrap (x3_1 * 256)) (IntKind.u64.wrap (rd l0 x8_1))), (wrap64 (x8_1 + 1)), Zq6, Zq6, H', ⟨Zq26⟩, Zq11⟩
     ·rw [if_neg c4] at H; exact absurd H Zq8
    ·rw [if_neg c3] at H; exact absurd H Zq8
   ·rw [if_neg c2] at H; have c2b0 : decide (x8_1 < (l0.length : Int)) = false := decide_eq_false c2; clear c2; obtain rfl := Option.some.inj H
    go_wp2
    go_ret
    exact ⟨Zq6, Zq11⟩
def numb (l : List Int) : Int := l.foldl (fun v c => Go.bits .or .u64 (IntKind.u64.wrap (v * 256)) (IntKind.u64.wrap c)) 0
theorem numb_loop (l : List Int) (hl : l.length ≤ 9223372036854775806) (d : Nat) : ∀ (k : Nat) (v : Int) (i : Nat), i + d = l.length → d < k →
  words_number.l0 k v l (l.length : Int) (i : Int) = some ((l.drop i).foldl (fun v c => Go.bits .or .u64 (IntKind.u64.wrap (v * 256)) (IntKind.u64.wrap c)) v) := by
 induction d with
 | zero =>
  intro k v i hi hk
  obtain ⟨k, rfl⟩ : ∃ m, k = m + 1 := ⟨k - 1, Zq1⟩
  simp only [words_number.l0]; rw [if_neg Zq1, List.drop_of_length_le Zq1]
  rfl
 | succ d ih =>
  intro k v i hi hk
  obtain ⟨k, rfl⟩ : ∃ m, k = m + 1 := ⟨k - 1, Zq1⟩
  simp only [words_number.l0]
  have hw : wrap64 ((i : Int) + 1) = ((i + 1 : Nat) : Int) := by unfold wrap64; omega
  rw [if_pos Zq1, if_pos Zq1, if_pos Zq1, hw, ih k _ (i + 1) Zq1 Zq1, List.drop_eq_getElem_cons (by omega : i < l.length), List.foldl_cons]
  simp [rd, List.getD_eq_getElem?_getD, List.getElem?_eq_getElem (by omega : i < l.length)]
theorem numb_f (l : List Int) (hl : l.length ≤ 9223372036854775806) : words_number.f (l.length + 1) l = some (numb l) := by
 have h := numb_loop l hl l.length (l.length + 1) 0 0 Zq1 Zq1
 simpa [words_number.f, numb] using h
def words_Get.f (l0 : List Int) (a1 : Int) : Option (Int × Bool) := if 0 ≤ a1 ∧ 4 ≤ (l0.length : Int) - a1 then (some (numb ((l0.take (a1 + 4).toNat).drop a1.toNat) % 4294967296, true)) else (some (0, false))
end Go.Proofs.Yteejaaeglfpcmab.PX

namespace Go.Proofs.Yteejaaeglfpcmab.PX
open Go.RowKit Go.Proofs.YteejaaeglfpcmabW.PrintWords Go.Proofs.YteejaaeglfpcmabW.PrintLast Go.Proofs.YteejaaeglfpcmabW.PrintMore
attribute [local go_sem] max2_int min2_int max_two min_two max_three min_three max_four min_four
set_option maxRecDepth 100000 in
theorem words_Get.calls (A0 : Option Addr) (c0 : Nat) (l0 : List Int) (a1 : Int) (r1 : Int) (r2 : Bool) (w : World) (hr0 : Kd.C (Kd.int .u8) w A0 l0.length l0) (hc0 : l0.length ≤ c0) (h : words_Get.f l0 a1 = some (r1, r2)) :
  Calls Try.prog 71 #[.slice A0 l0.length c0, .int .i64 a1] w fun e w' => e = .returned (.tuple #[.int .u32 r1, .bool r2]) ∧ Drawn0 w w' := by
 have hm : l0.length ≤ 9223372036854775807 := hr0.2.1; unfold words_Get.f at h
 by_cases c : 0 ≤ a1 ∧ 4 ≤ (l0.length : Int) - a1
 ·rw [if_pos c] at h; simp only [Option.some.injEq, Prod.mk.injEq] at h; obtain ⟨rfl, rfl⟩ := h; obtain ⟨ad, rfl, _⟩ := hr0.2.2 Zq1; have hmid := Kd.C_mid (lo := a1.toNat) (hi := (a1 + 4).toNat) hr0 Zq1 Zq1 hc0
  have hlen : ((l0.take (a1 + 4).toNat).drop a1.toNat).length = 4 := by simp; omega
  obtain ⟨y, hy⟩ : ∃ y, y = (l0.take (a1 + 4).toNat).drop a1.toNat := ⟨_, rfl⟩
  rw [← hy] at hmid hlen
  have hsub : (a1 + 4).toNat - a1.toNat = y.length := by rw [hlen]; omega
  have h0 := c.1; have h1 := c.2
  have hno : c0 ≠ a1.toNat := by omega
  have Hp := words_part.yes ad l0.length c0 a1 4 w h0 Zq1 h1 Zq7 hc0 hm; rw [if_neg hno, hsub] at Hp; rw [if_neg hno] at hmid
  have hq : y.length ≤ c0 - a1.toNat := by rw [hlen]; omega
  have Hn := words_number.calls (y.length + 1) ((some ad).map (·.add (a1.toNat * 1))) (c0 - a1.toNat) y (numb y) w hmid hq (numb_f y (by rw [hlen]; decide)); have Hy := Ak hy; clear hy c h0 h1 hno hmid hq hr0 hsub hlen
  obtain ⟨B, hB⟩ : ∃ B, B = ad.add (a1.toNat * 1) := ⟨_, rfl⟩
  simp only [Option.map_some] at Hp Hn; rw [← hB] at Hp Hn; clear hB
  have q := fun w' : World => run_neq_slice_nil_any (P := Try.prog) w' 72 5 (some B) y.length (c0 - a1.toNat) 0 0 Try.underlying72
  simp only [Option.isNone_some, Bool.not_false] at q
  go_enter Try.func71, Try.ntmps71
  go_wp2_with (first | (go_at_call 87; refine Hp.mono ?_; rintro e w' ⟨rfl, rfl⟩) | (go_at_call 88; refine Hn.mono ?_; rintro e w' ⟨rfl, ⟨nd, rfl⟩⟩))
  go_ret2
  exact ⟨by rw [Hy.out]; rfl, ⟨⟨_, rfl⟩⟩⟩
 ·rw [if_neg c] at h; simp only [Option.some.injEq, Prod.mk.injEq] at h; obtain ⟨rfl, rfl⟩ := h; have Hn := words_number.calls 1 none 0 [] 0 w ⟨rfl, Zq7, fun h0 => absurd h0 Zq7⟩ (Nat.le_refl 0) Zq7
  have q := fun w' : World => run_neq_slice_nil_any (P := Try.prog) w' 72 5 none 0 0 0 0 Try.underlying72
  simp only [Option.isNone_none, Bool.not_true] at q; simp only [List.length_nil] at Hn; have Hp := words_part.no A0 l0.length c0 a1 4 w Zq1 Zq7 Zq7 hm; clear c hr0
  go_enter Try.func71, Try.ntmps71
  go_wp2_with (first | (go_at_call 87; refine Hp.mono ?_; rintro e w' ⟨rfl, rfl⟩) | (go_at_call 88; refine Hn.mono ?_; rintro e w' ⟨rfl, ⟨nd, rfl⟩⟩))
  go_ret2
  exact ⟨rfl, ⟨⟨_, rfl⟩⟩⟩
def prop_One.f (k : Nat) (a0_0 : ByteArray) (l0_1 : List (S77)) (l0_2 : List (S30)) (a1 : ByteArray) : Option (Int × Bool × Int) := (tree_Find.f k a0_0 l0_1 l0_2 a1).bind fun btbz => (if btbz.2 = true then ((words_Get.f btbz.1 0).bind fun btcc => (if btcc.2 = true then (if (btbz.1.length : Int) = 4 then (some (btcc.1, true, 0)) else (some (0, false, 4))) else (some (0, false, 4)))) else (some (0, false, 0)))
theorem prop_One.mono : ∀ a0 a1 a2 a3 k, LeO (prop_One.f k a0 a1 a2 a3) (prop_One.f (k + 1) a0 a1 a2 a3) := by
 intro a0 a1 a2 a3 k; unfold prop_One.f
 repeat' first | (with_reducible first | exact tree_Find.mono _ _ _ _ _ | exact LeO.refl _ | exact LeO.none _ | refine LeO.ite ?_ ?_ | refine LeO.bind ?_ (fun _ => ?_))
set_option maxHeartbeats 8000000 in
set_option maxRecDepth 100000 in
theorem prop_One.calls (k : Nat) (a0_0 : ByteArray) (A0_1 : Option Addr) (c0_1 : Nat) (l0_1 : List (S77)) (A0_2 : Option Addr) (c0_2 : Nat) (l0_2 : List (S30)) (a1 : ByteArray) (r1 : Int) (r2 : Bool) (r3 : Int) (w : World) (hr0_1 : Kd.C k77 w A0_1 l0_1.length l0_1) (hc0_1 : l0_1.length ≤ c0_1) (hr0_2 : Kd.C k30 w A0_2 l0_2.length l0_2) (hc0_2 : l0_2.length ≤ c0_2) (h : prop_One.f k a0_0 l0_1 l0_2 a1 = some (r1, r2, r3)) :
  Calls Try.prog 86 #[.agg #[.string a0_0, .slice A0_1 l0_1.length c0_1, .slice A0_2 l0_2.length c0_2], .string a1] w fun e w' => e = .returned (.tuple #[.int .u32 r1, .bool r2, .int .i64 r3]) ∧ Below w.heap.size w w' := by
 have hu30 := Try.underlying30; have HR0_1 := Ak hr0_1; have HC0_1 := Ak hc0_1; clear hr0_1 hc0_1; have HR0_2 := Ak hr0_2; have HC0_2 := Ak hc0_2; clear hr0_2 hc0_2; have HB := Zq129; have H : ((tree_Find.f k a0_0 l0_1 l0_2 a1).bind fun btbz => (if btbz.2 = true then ((words_Get.f btbz.1 0).bind fun btcc => (if btcc.2 = true then (if (btbz.1.length : Int) = 4 then (some (btcc.1, true, 0)) else (some (0, false, 4))) else (some (0, false, 4)))) else (some (0, false, 0)))) = some (r1, r2, r3) := h; clear h; replace H := Option.bind_eq_some_iff.mp H; obtain ⟨⟨tbz, tfz⟩, A30, H⟩ := H; replace H : (if tfz = true then ((words_Get.f tbz 0).bind fun btcc => (if btcc.2 = true then (if (tbz.length : Int) = 4 then (some (btcc.1, true, 0)) else (some (0, false, 4))) else (some (0, false, 4)))) else (some (0, false, 0))) = some (r1, r2, r3) := H; have A3 := Ak A30; clear A30
 by_cases c4 : tfz = true
 ·subst c4
  have H1 : ((words_Get.f tbz 0).bind fun btcc => (if btcc.2 = true then (if (tbz.length : Int) = 4 then (some (btcc.1, true, 0)) else (some (0, false, 4))) else (some (0, false, 4)))) = some (r1, r2, r3) := by rw [if_pos rfl] at H; exact H
  clear H; have H := H1; clear H1; replace H := Option.bind_eq_some_iff.mp H; obtain ⟨⟨tcc, tfA⟩, A50, H⟩ := H; replace H : (if tfA = true then (if (tbz.length : Int) = 4 then (some (tcc, true, 0)) else (some (0, false, 4))) else (some (0, false, 4))) = some (r1, r2, r3) := H; have A5 := Ak A50; clear A50
  by_cases c6 : tfA = true
  ·subst c6
   have H1 : (if (tbz.length : Int) = 4 then (some (tcc, true, 0)) else (some (0, false, 4))) = some (r1, r2, r3) := by rw [if_pos rfl] at H; exact H
   clear H; have H := H1; clear H1
   by_cases c7 : (tbz.length : Int) = 4
   ·rw [if_pos c7] at H; have c7b0 : ((tbz.length : Int) == 4) = true := beq_iff_eq.mpr c7; have c7b1 : ((tbz.length : Int) != 4) = false := bne_eq_false_iff_eq.mpr c7; clear c7; simp only [Option.some.injEq, Prod.mk.injEq] at H; obtain ⟨rfl, rfl, rfl⟩ := H
    go_enter Try.func86, Try.ntmps86
    go_wp2_with (first | ((with_reducible refine gate_dst (N := 2) rfl ?_); (try (refine gate_guard Zq3 ?_; dsimp only)); refine box_event ?hg (N := 2) ?hd (cs := #[.string a0_0, .slice A0_1 l0_1.length c0_1, .slice A0_2 l0_2.length c0_2]) (t := 30) ?hr ?_; (case hd | hg => rfl); (case hr => first | (go_simp; done) | (go_simp; rfl)); intro gbaT hg w8 hbox hb; have n0_ := Zq122; have n1_ := Ak (hbox); have n2_ := Zq153; have n3_ := Zq153; clear HB; have HB := n0_; have BKaT := n1_; have GWaT := n2_; have GEaT := n3_; clear n0_ n1_ n2_ n3_ hb hbox hg; have hcz9_0 : w8.cell? ⟨gbaT, 0, none⟩ = some (.string a0_0) := (blk_cell BKaT.out 0).trans rfl; have hcz9_1 : w8.cell? ⟨gbaT, 1, none⟩ = some (.slice A0_1 l0_1.length c0_1) := (blk_cell BKaT.out 1).trans rfl; have hcz9_2 : w8.cell? ⟨gbaT, 2, none⟩ = some (.slice A0_2 l0_2.length c0_2) := (blk_cell BKaT.out 2).trans rfl; have hfz9_0 := blk_frozen BKaT.out 0; have hfz9_1 := blk_frozen BKaT.out 1; have hfz9_2 := blk_frozen BKaT.out 2) | ((with_reducible refine gate_callee (f := 31) rfl ?_); refine goesL_ (some 14) rfl rfl Try.func31 Zq2 rfl #[.agg #[.string a0_0, .slice A0_1 l0_1.length c0_1, .slice A0_2 l0_2.length c0_2], .string a1] rfl Zq9 ?_; (with_reducible refine (tree_Find.calls k a0_0 _ _ l0_1 _ _ l0_2 a1 tbz true _ ?side1 ?side2 ?side3 ?side4 A3.out).mono ?_); (case side1 => repeat (first | exact Zq126 | (with_reducible refine Kd.C_alloc ?_ _) | (with_reducible refine Kd.C_drewN ?_ _) | (with_reducible refine Kd.C_drew ?_))); (case side2 => exact HC0_1.out); (case side3 => repeat (first | exact Zq142 | (with_reducible refine Kd.C_alloc ?_ _) | (with_reducible refine Kd.C_drewN ?_ _) | (with_reducible refine Kd.C_drew ?_))); (case side4 => exact HC0_2.out); rintro e w10 ⟨v173, rfl, ho0, hb⟩; refine ⟨_, rfl, ?_⟩; have n0_ := Ak (Kd.R_lower ho0 (below_size Zq46)); have n1_ := Zq159; have n2_ := Ak (below_step Zq46 hb); clear BKaT HB; have HOcJ := n0_; have BKaT := n1_; have HB := n2_; clear n0_ n1_ n2_; (try clear hb); (try clear hb2); (try clear hk); (try clear hi); (try clear ho0); obtain ⟨Ao11, co11, eo11⟩ := Kd.R_slice HOcJ.out; subst eo11) | ((with_reducible refine gate_callee (f := 71) rfl ?_); refine goesL_ (some 21) rfl rfl Try.func71 Zq2 rfl #[.slice Ao11 tbz.length co11, .int .i64 0] rfl Zq9 ?_; (with_reducible refine (words_Get.calls _ _ tbz 0 tcc true _ ?side1 ?side2 A5.out).mono ?_); (case side1 => repeat (first | exact (Kd.R_reads' HOcJ.out).2.2 | (with_reducible refine Kd.C_alloc ?_ _) | (with_reducible refine Kd.C_drewN ?_ _) | (with_reducible refine Kd.C_drew ?_))); (case side2 => exact (Kd.R_reads' HOcJ.out).2.1); rintro e w' ⟨rfl, ⟨nd, rfl⟩⟩; refine ⟨_, rfl, ?_⟩))
    go_ret3
    exact ⟨Zq10, Zq46⟩
   ·rw [if_neg c7] at H; have c7b0 : ((tbz.length : Int) == 4) = false := beq_eq_false_iff_ne.mpr c7; have c7b1 : ((tbz.length : Int) != 4) = true := bne_iff_ne.mpr c7; simp only [Option.some.injEq, Prod.mk.injEq] at H; obtain ⟨rfl, rfl, rfl⟩ := H
    go_enter Try.func86, Try.ntmps86
    go_wp2_with (first | ((with_reducible refine gate_dst (N := 2) rfl ?_); (try (refine gate_guard Zq3 ?_; dsimp only)); refine box_event ?hg (N := 2) ?hd (cs := #[.string a0_0, .slice A0_1 l0_1.length c0_1, .slice A0_2 l0_2.length c0_2]) (t := 30) ?hr ?_; (case hd | hg => rfl); (case hr => first | (go_simp; done) | (go_simp; rfl)); intro gbaT hg w12 hbox hb; have n0_ := Zq122; have n1_ := Ak (hbox); have n2_ := Zq153; have n3_ := Zq153; clear HB; have HB := n0_; have BKaT := n1_; have GWaT := n2_; have GEaT := n3_; clear n0_ n1_ n2_ n3_ hb hbox hg; have hcz13_0 : w12.cell? ⟨gbaT, 0, none⟩ = some (.string a0_0) := (blk_cell BKaT.out 0).trans rfl; have hcz13_1 : w12.cell? ⟨gbaT, 1, none⟩ = some (.slice A0_1 l0_1.length c0_1) := (blk_cell BKaT.out 1).trans rfl; have hcz13_2 : w12.cell? ⟨gbaT, 2, none⟩ = some (.slice A0_2 l0_2.length c0_2) := (blk_cell BKaT.out 2).trans rfl; have hfz13_0 := blk_frozen BKaT.out 0; have hfz13_1 := blk_frozen BKaT.out 1; have hfz13_2 := blk_frozen BKaT.out 2) | ((with_reducible refine gate_callee (f := 31) rfl ?_); refine goesL_ (some 14) rfl rfl Try.func31 Zq2 rfl #[.agg #[.string a0_0, .slice A0_1 l0_1.length c0_1, .slice A0_2 l0_2.length c0_2], .string a1] rfl Zq9 ?_; (with_reducible refine (tree_Find.calls k a0_0 _ _ l0_1 _ _ l0_2 a1 tbz true _ ?side1 ?side2 ?side3 ?side4 A3.out).mono ?_); (case side1 => repeat (first | exact Zq126 | (with_reducible refine Kd.C_alloc ?_ _) | (with_reducible refine Kd.C_drewN ?_ _) | (with_reducible refine Kd.C_drew ?_))); (case side2 => exact HC0_1.out); (case side3 => repeat (first | exact Zq142 | (with_reducible refine Kd.C_alloc ?_ _) | (with_reducible refine Kd.C_drewN ?_ _) | (with_reducible refine Kd.C_drew ?_))); (case side4 => exact HC0_2.out); rintro e w14 ⟨v173, rfl, ho0, hb⟩; refine ⟨_, rfl, ?_⟩; have n0_ := Ak (Kd.R_lower ho0 (below_size Zq46)); have n1_ := Zq159; have n2_ := Ak (below_step Zq46 hb); clear BKaT HB; have HOcJ := n0_; have BKaT := n1_; have HB := n2_; clear n0_ n1_ n2_; (try clear hb); (try clear hb2); (try clear hk); (try clear hi); (try clear ho0); obtain ⟨Ao15, co15, eo15⟩ := Kd.R_slice HOcJ.out; subst eo15) | ((with_reducible refine gate_callee (f := 71) rfl ?_); refine goesL_ (some 21) rfl rfl Try.func71 Zq2 rfl #[.slice Ao15 tbz.length co15, .int .i64 0] rfl Zq9 ?_; (with_reducible refine (words_Get.calls _ _ tbz 0 tcc true _ ?side1 ?side2 A5.out).mono ?_); (case side1 => repeat (first | exact (Kd.R_reads' HOcJ.out).2.2 | (with_reducible refine Kd.C_alloc ?_ _) | (with_reducible refine Kd.C_drewN ?_ _) | (with_reducible refine Kd.C_drew ?_))); (case side2 => exact (Kd.R_reads' HOcJ.out).2.1); rintro e w' ⟨rfl, ⟨nd, rfl⟩⟩; refine ⟨_, rfl, ?_⟩))
    go_ret3
    exact ⟨Zq10, Zq46⟩
  ·replace c6 := Bool.eq_false_iff.mpr c6; subst c6
   have H1 : (some (0, false, 4)) = some (r1, r2, r3) := by rw [if_neg (show ¬ (false = true) by decide)] at H; exact H
   clear H; have H := H1; clear H1; simp only [Option.some.injEq, Prod.mk.injEq] at H; obtain ⟨rfl, rfl, rfl⟩ := H
   go_enter Try.func86, Try.ntmps86
   go_wp2_with (first | ((with_reducible refine gate_dst (N := 2) rfl ?_); (try (refine gate_guard Zq3 ?_; dsimp only)); refine box_event ?hg (N := 2) ?hd (cs := #[.string a0_0, .slice A0_1 l0_1.length c0_1, .slice A0_2 l0_2.length c0_2]) (t := 30) ?hr ?_; (case hd | hg => rfl); (case hr => first | (go_simp; done) | (go_simp; rfl)); intro gbaT hg w16 hbox hb; have n0_ := Zq122; have n1_ := Ak (hbox); have n2_ := Zq153; have n3_ := Zq153; clear HB; have HB := n0_; have BKaT := n1_; have GWaT := n2_; have GEaT := n3_; clear n0_ n1_ n2_ n3_ hb hbox hg; have hcz17_0 : w16.cell? ⟨gbaT, 0, none⟩ = some (.string a0_0) := (blk_cell BKaT.out 0).trans rfl; have hcz17_1 : w16.cell? ⟨gbaT, 1, none⟩ = some (.slice A0_1 l0_1.length c0_1) := (blk_cell BKaT.out 1).trans rfl; have hcz17_2 : w16.cell? ⟨gbaT, 2, none⟩ = some (.slice A0_2 l0_2.length c0_2) := (blk_cell BKaT.out 2).trans rfl; have hfz17_0 := blk_frozen BKaT.out 0; have hfz17_1 := blk_frozen BKaT.out 1; have hfz17_2 := blk_frozen BKaT.out 2) | ((with_reducible refine gate_callee (f := 31) rfl ?_); refine goesL_ (some 14) rfl rfl Try.func31 Zq2 rfl #[.agg #[.string a0_0, .slice A0_1 l0_1.length c0_1, .slice A0_2 l0_2.length c0_2], .string a1] rfl Zq9 ?_; (with_reducible refine (tree_Find.calls k a0_0 _ _ l0_1 _ _ l0_2 a1 tbz true _ ?side1 ?side2 ?side3 ?side4 A3.out).mono ?_); (case side1 => repeat (first | exact Zq126 | (with_reducible refine Kd.C_alloc ?_ _) | (with_reducible refine Kd.C_drewN ?_ _) | (with_reducible refine Kd.C_drew ?_))); (case side2 => exact HC0_1.out); (case side3 => repeat (first | exact Zq142 | (with_reducible refine Kd.C_alloc ?_ _) | (with_reducible refine Kd.C_drewN ?_ _) | (with_reducible refine Kd.C_drew ?_))); (case side4 => exact HC0_2.out); rintro e w18 ⟨v173, rfl, ho0, hb⟩; refine ⟨_, rfl, ?_⟩; have n0_ := Ak (Kd.R_lower ho0 (below_size Zq46)); have n1_ := Zq159; have n2_ := Ak (below_step Zq46 hb); clear BKaT HB; have HOcJ := n0_; have BKaT := n1_; have HB := n2_; clear n0_ n1_ n2_; (try clear hb); (try clear hb2); (try clear hk); (try clear hi); (try clear ho0); obtain ⟨Ao19, co19, eo19⟩ := Kd.R_slice HOcJ.out; subst eo19) | ((with_reducible refine gate_callee (f := 71) rfl ?_); refine goesL_ (some 21) rfl rfl Try.func71 Zq2 rfl #[.slice Ao19 tbz.length co19, .int .i64 0] rfl Zq9 ?_; (with_reducible refine (words_Get.calls _ _ tbz 0 tcc false _ ?side1 ?side2 A5.out).mono ?_); (case side1 => repeat (first | exact (Kd.R_reads' HOcJ.out).2.2 | (with_reducible refine Kd.C_alloc ?_ _) | (with_reducible refine Kd.C_drewN ?_ _) | (with_reducible refine Kd.C_drew ?_))); (case side2 => exact (Kd.R_reads' HOcJ.out).2.1); rintro e w' ⟨rfl, ⟨nd, rfl⟩⟩; refine ⟨_, rfl, ?_⟩))
   go_ret3
   exact ⟨Zq10, Zq46⟩
 ·replace c4 := Bool.eq_false_iff.mpr c4; subst c4
  have H1 : (some (0, false, 0)) = some (r1, r2, r3) := by rw [if_neg (show ¬ (false = true) by decide)] at H; exact H
  clear H; have H := H1; clear H1; simp only [Option.some.injEq, Prod.mk.injEq] at H; obtain ⟨rfl, rfl, rfl⟩ := H
  go_enter Try.func86, Try.ntmps86
  go_wp2_with (first | ((with_reducible refine gate_dst (N := 2) rfl ?_); (try (refine gate_guard Zq3 ?_; dsimp only)); refine box_event ?hg (N := 2) ?hd (cs := #[.string a0_0, .slice A0_1 l0_1.length c0_1, .slice A0_2 l0_2.length c0_2]) (t := 30) ?hr ?_; (case hd | hg => rfl); (case hr => first | (go_simp; done) | (go_simp; rfl)); intro gbaT hg w20 hbox hb; have n0_ := Zq122; have n1_ := Ak (hbox); have n2_ := Zq153; have n3_ := Zq153; clear HB; have HB := n0_; have BKaT := n1_; have GWaT := n2_; have GEaT := n3_; clear n0_ n1_ n2_ n3_ hb hbox hg; have hcz21_0 : w20.cell? ⟨gbaT, 0, none⟩ = some (.string a0_0) := (blk_cell BKaT.out 0).trans rfl; have hcz21_1 : w20.cell? ⟨gbaT, 1, none⟩ = some (.slice A0_1 l0_1.length c0_1) := (blk_cell BKaT.out 1).trans rfl; have hcz21_2 : w20.cell? ⟨gbaT, 2, none⟩ = some (.slice A0_2 l0_2.length c0_2) := (blk_cell BKaT.out 2).trans rfl; have hfz21_0 := blk_frozen BKaT.out 0; have hfz21_1 := blk_frozen BKaT.out 1; have hfz21_2 := blk_frozen BKaT.out 2) | ((with_reducible refine gate_callee (f := 31) rfl ?_); refine goesL_ (some 14) rfl rfl Try.func31 Zq2 rfl #[.agg #[.string a0_0, .slice A0_1 l0_1.length c0_1, .slice A0_2 l0_2.length c0_2], .string a1] rfl Zq9 ?_; (with_reducible refine (tree_Find.calls k a0_0 _ _ l0_1 _ _ l0_2 a1 tbz false _ ?side1 ?side2 ?side3 ?side4 A3.out).mono ?_); (case side1 => repeat (first | exact Zq126 | (with_reducible refine Kd.C_alloc ?_ _) | (with_reducible refine Kd.C_drewN ?_ _) | (with_reducible refine Kd.C_drew ?_))); (case side2 => exact HC0_1.out); (case side3 => repeat (first | exact Zq142 | (with_reducible refine Kd.C_alloc ?_ _) | (with_reducible refine Kd.C_drewN ?_ _) | (with_reducible refine Kd.C_drew ?_))); (case side4 => exact HC0_2.out); rintro e w22 ⟨v173, rfl, ho0, hb⟩; refine ⟨_, rfl, ?_⟩; have n0_ := Ak (Kd.R_lower ho0 (below_size Zq46)); have n1_ := Zq159; have n2_ := Ak (below_step Zq46 hb); clear BKaT HB; have HOcJ := n0_; have BKaT := n1_; have HB := n2_; clear n0_ n1_ n2_; (try clear hb); (try clear hb2); (try clear hk); (try clear hi); (try clear ho0)))
  go_ret3
  exact ⟨Zq10, Zq46⟩
def region_count.j0 : Nat → Int → Int → Bool → Bool → Option (Int × Int)
 | 0, _, _, _, _ => none
 | k + 1, x2, x8, x9, x18 => if x18 = true then (some (0, 10)) else (if x9 = true then (some (wrap64 (x8), 0)) else (some (x2, 0)))
def region_count.f (k : Nat) (a0_0 : ByteArray) (l0_1 : List (S77)) (l0_2 : List (S30)) (a1 : ByteArray) (a2 : Int) : Option (Int × Int) := (prop_One.f k a0_0 l0_1 l0_2 a1).bind fun btbL => (if btbL.2.2 = 0 then (region_count.j0 k a2 btbL.1 btbL.2.1 (decide (btbL.1 > 2))) else (region_count.j0 k a2 btbL.1 btbL.2.1 true))
theorem region_count.mono_l : ∀ k, (∀ y0 y1 y2 y3, LeO (region_count.j0 k y0 y1 y2 y3) (region_count.j0 (k + 1) y0 y1 y2 y3))
 | 0 => fun _ _ _ _ r h => by simp [region_count.j0] at h
 | k + 1 => by
  have ih0 := region_count.mono_l k
  ·intro y0 y1 y2 y3; unfold region_count.j0
   repeat' first | (with_reducible first | exact ih0 _ _ _ _ | exact prop_One.mono _ _ _ _ _ | exact LeO.refl _ | exact LeO.none _ | refine LeO.ite ?_ ?_ | refine LeO.bind ?_ (fun _ => ?_))
theorem region_count.mono : ∀ a0 a1 a2 a3 a4 k, LeO (region_count.f k a0 a1 a2 a3 a4) (region_count.f (k + 1) a0 a1 a2 a3 a4) := by
 intro a0 a1 a2 a3 a4 k; have ih0 := region_count.mono_l k; unfold region_count.f
 repeat' first | (with_reducible first | exact ih0 _ _ _ _ | exact prop_One.mono _ _ _ _ _ | exact LeO.refl _ | exact LeO.none _ | refine LeO.ite ?_ ?_ | refine LeO.bind ?_ (fun _ => ?_))
set_option maxHeartbeats 8000000 in
set_option maxRecDepth 100000 in
theorem region_count.calls (k : Nat) (a0_0 : ByteArray) (A0_1 : Option Addr) (c0_1 : Nat) (l0_1 : List (S77)) (A0_2 : Option Addr) (c0_2 : Nat) (l0_2 : List (S30)) (a1 : ByteArray) (a2 : Int) (r1 : Int) (r2 : Int) (w : World) (hr0_1 : Kd.C k77 w A0_1 l0_1.length l0_1) (hc0_1 : l0_1.length ≤ c0_1) (hr0_2 : Kd.C k30 w A0_2 l0_2.length l0_2) (hc0_2 : l0_2.length ≤ c0_2) (h : region_count.f k a0_0 l0_1 l0_2 a1 a2 = some (r1, r2)) :
  Calls Try.prog 70 #[.agg #[.string a0_0, .slice A0_1 l0_1.length c0_1, .slice A0_2 l0_2.length c0_2], .string a1, .int .i64 a2] w fun e w' => e = .returned (.tuple #[.int .i64 r1, .int .i64 r2]) ∧ Below w.heap.size w w' := by
 have hu30 := Try.underlying30; have HR0_1 := Ak hr0_1; have HC0_1 := Ak hc0_1; clear hr0_1 hc0_1; have HR0_2 := Ak hr0_2; have HC0_2 := Ak hc0_2; clear hr0_2 hc0_2; have HB := Zq129; have H : ((prop_One.f k a0_0 l0_1 l0_2 a1).bind fun btbL => (if btbL.2.2 = 0 then (region_count.j0 k a2 btbL.1 btbL.2.1 (decide (btbL.1 > 2))) else (region_count.j0 k a2 btbL.1 btbL.2.1 true))) = some (r1, r2) := h; clear h; replace H := Option.bind_eq_some_iff.mp H; obtain ⟨⟨tbL, tej, tdO⟩, A40, H⟩ := H; replace H : (if tdO = 0 then (region_count.j0 k a2 tbL tej (decide (tbL > 2))) else (region_count.j0 k a2 tbL tej true)) = some (r1, r2) := H; have A4 := Ak A40; clear A40; have HC5 := Ak H; clear H
 go_enter Try.func70, Try.ntmps70
 go_upto_region 2 with (first | ((with_reducible refine gate_dst (N := 3) rfl ?_); refine box_event ?hg (N := 3) ?hd (cs := #[.string a0_0, .slice A0_1 l0_1.length c0_1, .slice A0_2 l0_2.length c0_2]) (t := 30) ?hr ?_; (case hd | hg => rfl); (case hr => first | (go_simp; done) | (go_simp; rfl)); intro gbbJ hg w6 hbox hb; have n0_ := Zq122; have n1_ := Ak (hbox); have n2_ := Ak ((by rw [hg]; exact (below_size Zq5) : w.heap.size ≤ gbbJ)); have n3_ := Ak ((by rw [hg]; exact (below_size Zq5) : w.heap.size ≤ gbbJ)); clear HB; have HB := n0_; have BKbJ := n1_; have GWbJ := n2_; have GEbJ := n3_; clear n0_ n1_ n2_ n3_ hb hbox hg; have hcz7_0 : w6.cell? ⟨gbbJ, 0, none⟩ = some (.string a0_0) := (blk_cell BKbJ.out 0).trans rfl; have hcz7_1 : w6.cell? ⟨gbbJ, 1, none⟩ = some (.slice A0_1 l0_1.length c0_1) := (blk_cell BKbJ.out 1).trans rfl; have hcz7_2 : w6.cell? ⟨gbbJ, 2, none⟩ = some (.slice A0_2 l0_2.length c0_2) := (blk_cell BKbJ.out 2).trans rfl; have hfz7_0 := blk_frozen BKbJ.out 0; have hfz7_1 := blk_frozen BKbJ.out 1; have hfz7_2 := blk_frozen BKbJ.out 2) | ((with_reducible refine gate_callee (f := 86) rfl ?_); refine goesL_ (some 14) rfl rfl Try.func86 Zq2 rfl #[.agg #[.string a0_0, .slice A0_1 l0_1.length c0_1, .slice A0_2 l0_2.length c0_2], .string a1] rfl Zq9 ?_; (with_reducible refine (prop_One.calls k a0_0 _ _ l0_1 _ _ l0_2 a1 tbL tej tdO _ ?side1 ?side2 ?side3 ?side4 A4.out).mono ?_); (case side1 => repeat (first | exact Zq126 | (with_reducible refine Kd.C_alloc ?_ _) | (with_reducible refine Kd.C_drewN ?_ _) | (with_reducible refine Kd.C_drew ?_))); (case side2 => exact HC0_1.out); (case side3 => repeat (first | exact Zq142 | (with_reducible refine Kd.C_alloc ?_ _) | (with_reducible refine Kd.C_drewN ?_ _) | (with_reducible refine Kd.C_drew ?_))); (case side4 => exact HC0_2.out); rintro e w8 ⟨rfl, hb⟩; refine ⟨_, rfl, ?_⟩; have n0_ := Ak (blk_below (g := gbbJ) (o := .cells #[.string a0_0, .slice A0_1 l0_1.length c0_1, .slice A0_2 l0_2.length c0_2] 30 (0, 0)) (by (with_reducible repeat (first | refine blk_drewN ?_ _ | refine blk_drew ?_ | refine blk_alloc ?_ _)); exact BKbJ.out) hb); have n1_ := Ak (below_step Zq78 hb); clear BKbJ HB; have BKbJ := n0_; have HB := n1_; clear n0_ n1_; (try clear hb); (try clear hb2); (try clear hk); (try clear hi)))
 (try simp only [Act.put, List.setIfInBounds_toArray, List.set_cons_zero, List.set_cons_succ])
 go_cut [18] (fun v18 wc => ∃ (kq : Nat) (x18_4 : Bool), v18 = .bool x18_4 ∧ Aside0 (region_count.j0 kq a2 tbL tej x18_4 = some (r1, r2)) ∧ Aside0 (kq ≤ k) ∧ Aside0 (wc.heap[gbbJ]? = some (.cells #[.string a0_0, (.slice A0_1 l0_1.length c0_1), (.slice A0_2 l0_2.length c0_2)] 30 (0, 0))) ∧ Aside0 (Below w.heap.size w wc))
 case first =>
  have H := HC5.out; clear HC5
  by_cases c9 : tdO = 0
  ·rw [if_pos c9] at H; have c9b0 : (tdO == 0) = true := beq_iff_eq.mpr c9; have c9b1 : (tdO != 0) = false := bne_eq_false_iff_eq.mpr c9; clear c9
   (first | rw [c9b0] | (simp only [i64_w, i32_w]; rw [c9b0]) | skip)
   have H' := Ak H; clear H
   go_wp2
   go_meet
   case rel => exact ⟨_, (decide (tbL > 2)), Zq6, H', ⟨Zq13⟩, ⟨by (with_reducible repeat (first | refine blk_drewN ?_ _ | refine blk_drew ?_ | refine blk_alloc ?_ _)); exact BKbJ.out⟩, ⟨Zq78⟩⟩
  ·rw [if_neg c9] at H; have c9b0 : (tdO == 0) = false := beq_eq_false_iff_ne.mpr c9; have c9b1 : (tdO != 0) = true := bne_iff_ne.mpr c9
   (first | rw [c9b0] | (simp only [i64_w, i32_w]; rw [c9b0]) | skip)
   have H' := Ak H; clear H
   go_wp2
   go_meet
   case rel => exact ⟨_, (true), Zq6, H', ⟨Zq13⟩, ⟨by (with_reducible repeat (first | refine blk_drewN ?_ _ | refine blk_drew ?_ | refine blk_alloc ?_ _)); exact BKbJ.out⟩, ⟨Zq78⟩⟩
 case rest =>
  clear HC5
  try clear p2
  try clear c7
  try clear c8
  try clear c9
  try clear c9b0
  try clear c9b1
  try clear hcz7_0
  try clear hcz7_1
  try clear hcz7_2
  try clear hfz7_0
  try clear hfz7_1
  try clear hfz7_2
  obtain ⟨kq, x18_4, rfl, HA, HJ4, BKbJ, HB⟩ := hcut
  cases kq with
  | zero => exact absurd HA.out (by simp [region_count.j0])
  | succ kj4 =>
   have H := HA.out; clear HA; simp only [region_count.j0] at H
   by_cases c10 : x18_4 = true
   ·subst c10
    have H1 : (some (0, 10)) = some (r1, r2) := by rw [if_pos rfl] at H; exact H
    clear H; have H := H1; clear H1; simp only [Option.some.injEq, Prod.mk.injEq] at H; obtain ⟨rfl, rfl⟩ := H
    go_wp2
    go_ret2
    exact ⟨Zq10, Zq78⟩
   ·replace c10 := Bool.eq_false_iff.mpr c10; subst c10
    have H1 : (if tej = true then (some (wrap64 (tbL), 0)) else (some (a2, 0))) = some (r1, r2) := by rw [if_neg (show ¬ (false = true) by decide)] at H; exact H
    clear H; have H := H1; clear H1
    by_cases c11 : tej = true
    ·subst c11
     have H1 : (some (wrap64 (tbL), 0)) = some (r1, r2) := by rw [if_pos rfl] at H; exact H
     clear H; have H := H1; clear H1; simp only [Option.some.injEq, Prod.mk.injEq] at H; obtain ⟨rfl, rfl⟩ := H
     go_wp2
     go_ret2
     exact ⟨Zq10, Zq78⟩
    ·replace c11 := Bool.eq_false_iff.mpr c11; subst c11
     have H1 : (some (a2, 0)) = some (r1, r2) := by rw [if_neg (show ¬ (false = true) by decide)] at H; exact H
     clear H; have H := H1; clear H1; simp only [Option.some.injEq, Prod.mk.injEq] at H; obtain ⟨rfl, rfl⟩ := H
     go_wp2
     go_ret2
     exact ⟨Zq10, Zq78⟩
def region_Counts.f (k : Nat) (a0_0 : ByteArray) (l0_1 : List (S77)) (l0_2 : List (S30)) : Option (Int × Int × Int) := (region_count.f k a0_0 l0_1 l0_2 (⟨#[35, 97, 100, 100, 114, 101, 115, 115, 45, 99, 101, 108, 108, 115]⟩ : ByteArray) 2).bind fun btcE => (if btcE.2 = 0 then ((region_count.f k a0_0 l0_1 l0_2 (⟨#[35, 115, 105, 122, 101, 45, 99, 101, 108, 108, 115]⟩ : ByteArray) 1).bind fun btcm => (if btcm.2 = 0 then (some (btcE.1, btcm.1, 0)) else (some (0, 0, btcm.2)))) else (some (0, 0, btcE.2)))
theorem region_Counts.mono : ∀ a0 a1 a2 k, LeO (region_Counts.f k a0 a1 a2) (region_Counts.f (k + 1) a0 a1 a2) := by
 intro a0 a1 a2 k; unfold region_Counts.f
 repeat' first | (with_reducible first | exact region_count.mono _ _ _ _ _ _ | exact LeO.refl _ | exact LeO.none _ | refine LeO.ite ?_ ?_ | refine LeO.bind ?_ (fun _ => ?_))
set_option maxHeartbeats 8000000 in
set_option maxRecDepth 100000 in
theorem region_Counts.calls (k : Nat) (a0_0 : ByteArray) (A0_1 : Option Addr) (c0_1 : Nat) (l0_1 : List (S77)) (A0_2 : Option Addr) (c0_2 : Nat) (l0_2 : List (S30)) (r1 : Int) (r2 : Int) (r3 : Int) (w : World) (hr0_1 : Kd.C k77 w A0_1 l0_1.length l0_1) (hc0_1 : l0_1.length ≤ c0_1) (hr0_2 : Kd.C k30 w A0_2 l0_2.length l0_2) (hc0_2 : l0_2.length ≤ c0_2) (h : region_Counts.f k a0_0 l0_1 l0_2 = some (r1, r2, r3)) :
  Calls Try.prog 42 #[.agg #[.string a0_0, .slice A0_1 l0_1.length c0_1, .slice A0_2 l0_2.length c0_2]] w fun e w' => e = .returned (.tuple #[.int .i64 r1, .int .i64 r2, .int .i64 r3]) ∧ Below w.heap.size w w' := by
 have hu30 := Try.underlying30; have HR0_1 := Ak hr0_1; have HC0_1 := Ak hc0_1; clear hr0_1 hc0_1; have HR0_2 := Ak hr0_2; have HC0_2 := Ak hc0_2; clear hr0_2 hc0_2; have HB := Zq129; have H : ((region_count.f k a0_0 l0_1 l0_2 (⟨#[35, 97, 100, 100, 114, 101, 115, 115, 45, 99, 101, 108, 108, 115]⟩ : ByteArray) 2).bind fun btcE => (if btcE.2 = 0 then ((region_count.f k a0_0 l0_1 l0_2 (⟨#[35, 115, 105, 122, 101, 45, 99, 101, 108, 108, 115]⟩ : ByteArray) 1).bind fun btcm => (if btcm.2 = 0 then (some (btcE.1, btcm.1, 0)) else (some (0, 0, btcm.2)))) else (some (0, 0, btcE.2)))) = some (r1, r2, r3) := h; clear h; replace H := Option.bind_eq_some_iff.mp H; obtain ⟨⟨tcE, tcS⟩, A20, H⟩ := H; replace H : (if tcS = 0 then ((region_count.f k a0_0 l0_1 l0_2 (⟨#[35, 115, 105, 122, 101, 45, 99, 101, 108, 108, 115]⟩ : ByteArray) 1).bind fun btcm => (if btcm.2 = 0 then (some (tcE, btcm.1, 0)) else (some (0, 0, btcm.2)))) else (some (0, 0, tcS))) = some (r1, r2, r3) := H; have A2 := Ak A20; clear A20
 by_cases c3 : tcS = 0
 ·rw [if_pos c3] at H; have c3b0 : (tcS == 0) = true := beq_iff_eq.mpr c3; have c3b1 : (tcS != 0) = false := bne_eq_false_iff_eq.mpr c3; clear c3; replace H := Option.bind_eq_some_iff.mp H; obtain ⟨⟨tcm, tdk⟩, A40, H⟩ := H; replace H : (if tdk = 0 then (some (tcE, tcm, 0)) else (some (0, 0, tdk))) = some (r1, r2, r3) := H; have A4 := Ak A40; clear A40
  by_cases c5 : tdk = 0
  ·rw [if_pos c5] at H; have c5b0 : (tdk == 0) = true := beq_iff_eq.mpr c5; have c5b1 : (tdk != 0) = false := bne_eq_false_iff_eq.mpr c5; clear c5; simp only [Option.some.injEq, Prod.mk.injEq] at H; obtain ⟨rfl, rfl, rfl⟩ := H
   go_enter Try.func42, Try.ntmps42
   go_wp2_with (first | ((with_reducible refine gate_dst (N := 1) rfl ?_); refine box_event ?hg (N := 1) ?hd (cs := #[.string a0_0, .slice A0_1 l0_1.length c0_1, .slice A0_2 l0_2.length c0_2]) (t := 30) ?hr ?_; (case hd | hg => rfl); (case hr => first | (go_simp; done) | (go_simp; rfl)); intro gbaO hg w6 hbox hb; have n0_ := Zq122; have n1_ := Ak (hbox); have n2_ := Zq172; have n3_ := Zq172; clear HB; have HB := n0_; have BKaO := n1_; have GWaO := n2_; have GEaO := n3_; clear n0_ n1_ n2_ n3_ hb hbox hg; have hcz7_0 : w6.cell? ⟨gbaO, 0, none⟩ = some (.string a0_0) := (blk_cell BKaO.out 0).trans rfl; have hcz7_1 : w6.cell? ⟨gbaO, 1, none⟩ = some (.slice A0_1 l0_1.length c0_1) := (blk_cell BKaO.out 1).trans rfl; have hcz7_2 : w6.cell? ⟨gbaO, 2, none⟩ = some (.slice A0_2 l0_2.length c0_2) := (blk_cell BKaO.out 2).trans rfl; have hfz7_0 := blk_frozen BKaO.out 0; have hfz7_1 := blk_frozen BKaO.out 1; have hfz7_2 := blk_frozen BKaO.out 2) | ((with_reducible refine gate_callee (f := 70) rfl ?_); refine goesL_ (some 10) rfl rfl Try.func70 Zq2 rfl #[.agg #[.string a0_0, .slice A0_1 l0_1.length c0_1, .slice A0_2 l0_2.length c0_2], .string (⟨#[35, 97, 100, 100, 114, 101, 115, 115, 45, 99, 101, 108, 108, 115]⟩ : ByteArray), .int .i64 2] rfl Zq9 ?_; (with_reducible refine (region_count.calls k a0_0 _ _ l0_1 _ _ l0_2 (⟨#[35, 97, 100, 100, 114, 101, 115, 115, 45, 99, 101, 108, 108, 115]⟩ : ByteArray) 2 tcE tcS _ ?side1 ?side2 ?side3 ?side4 A2.out).mono ?_); (case side1 => repeat (first | exact Zq126 | (with_reducible refine Kd.C_alloc ?_ _) | (with_reducible refine Kd.C_drewN ?_ _) | (with_reducible refine Kd.C_drew ?_))); (case side2 => exact HC0_1.out); (case side3 => repeat (first | exact Zq142 | (with_reducible refine Kd.C_alloc ?_ _) | (with_reducible refine Kd.C_drewN ?_ _) | (with_reducible refine Kd.C_drew ?_))); (case side4 => exact HC0_2.out); rintro e w8 ⟨rfl, hb⟩; refine ⟨_, rfl, ?_⟩; have n0_ := Zq145; have n1_ := Ak (below_step Zq63 hb); clear BKaO HB; have BKaO := n0_; have HB := n1_; clear n0_ n1_; (try clear hb); (try clear hb2); (try clear hk); (try clear hi); have hcz9_0 : w8.cell? ⟨gbaO, 0, none⟩ = some (.string a0_0) := (blk_cell BKaO.out 0).trans rfl; have hcz9_1 : w8.cell? ⟨gbaO, 1, none⟩ = some (.slice A0_1 l0_1.length c0_1) := (blk_cell BKaO.out 1).trans rfl; have hcz9_2 : w8.cell? ⟨gbaO, 2, none⟩ = some (.slice A0_2 l0_2.length c0_2) := (blk_cell BKaO.out 2).trans rfl; have hfz9_0 := blk_frozen BKaO.out 0; have hfz9_1 := blk_frozen BKaO.out 1; have hfz9_2 := blk_frozen BKaO.out 2) | ((with_reducible refine gate_callee (f := 70) rfl ?_); refine goesL_ (some 18) rfl rfl Try.func70 Zq2 rfl #[.agg #[.string a0_0, .slice A0_1 l0_1.length c0_1, .slice A0_2 l0_2.length c0_2], .string (⟨#[35, 115, 105, 122, 101, 45, 99, 101, 108, 108, 115]⟩ : ByteArray), .int .i64 1] rfl Zq9 ?_; (with_reducible refine (region_count.calls k a0_0 _ _ l0_1 _ _ l0_2 (⟨#[35, 115, 105, 122, 101, 45, 99, 101, 108, 108, 115]⟩ : ByteArray) 1 tcm tdk _ ?side1 ?side2 ?side3 ?side4 A4.out).mono ?_); (case side1 => repeat (first | exact Zq126 | (with_reducible refine Kd.C_alloc ?_ _) | (with_reducible refine Kd.C_drewN ?_ _) | (with_reducible refine Kd.C_drew ?_))); (case side2 => exact HC0_1.out); (case side3 => repeat (first | exact Zq142 | (with_reducible refine Kd.C_alloc ?_ _) | (with_reducible refine Kd.C_drewN ?_ _) | (with_reducible refine Kd.C_drew ?_))); (case side4 => exact HC0_2.out); rintro e w10 ⟨rfl, hb⟩; refine ⟨_, rfl, ?_⟩; have n0_ := Zq145; have n1_ := Ak (below_step Zq63 hb); clear BKaO HB; have BKaO := n0_; have HB := n1_; clear n0_ n1_; (try clear hb); (try clear hb2); (try clear hk); (try clear hi)))
   go_ret3
   exact ⟨Zq10, Zq63⟩
  ·rw [if_neg c5] at H; have c5b0 : (tdk == 0) = false := beq_eq_false_iff_ne.mpr c5; have c5b1 : (tdk != 0) = true := bne_iff_ne.mpr c5; simp only [Option.some.injEq, Prod.mk.injEq] at H; obtain ⟨rfl, rfl, rfl⟩ := H
   go_enter Try.func42, Try.ntmps42
   go_wp2_with (first | ((with_reducible refine gate_dst (N := 1) rfl ?_); refine box_event ?hg (N := 1) ?hd (cs := #[.string a0_0, .slice A0_1 l0_1.length c0_1, .slice A0_2 l0_2.length c0_2]) (t := 30) ?hr ?_; (case hd | hg => rfl); (case hr => first | (go_simp; done) | (go_simp; rfl)); intro gbaO hg w11 hbox hb; have n0_ := Zq122; have n1_ := Ak (hbox); have n2_ := Zq172; have n3_ := Zq172; clear HB; have HB := n0_; have BKaO := n1_; have GWaO := n2_; have GEaO := n3_; clear n0_ n1_ n2_ n3_ hb hbox hg; have hcz12_0 : w11.cell? ⟨gbaO, 0, none⟩ = some (.string a0_0) := (blk_cell BKaO.out 0).trans rfl; have hcz12_1 : w11.cell? ⟨gbaO, 1, none⟩ = some (.slice A0_1 l0_1.length c0_1) := (blk_cell BKaO.out 1).trans rfl; have hcz12_2 : w11.cell? ⟨gbaO, 2, none⟩ = some (.slice A0_2 l0_2.length c0_2) := (blk_cell BKaO.out 2).trans rfl; have hfz12_0 := blk_frozen BKaO.out 0; have hfz12_1 := blk_frozen BKaO.out 1; have hfz12_2 := blk_frozen BKaO.out 2) | ((with_reducible refine gate_callee (f := 70) rfl ?_); refine goesL_ (some 10) rfl rfl Try.func70 Zq2 rfl #[.agg #[.string a0_0, .slice A0_1 l0_1.length c0_1, .slice A0_2 l0_2.length c0_2], .string (⟨#[35, 97, 100, 100, 114, 101, 115, 115, 45, 99, 101, 108, 108, 115]⟩ : ByteArray), .int .i64 2] rfl Zq9 ?_; (with_reducible refine (region_count.calls k a0_0 _ _ l0_1 _ _ l0_2 (⟨#[35, 97, 100, 100, 114, 101, 115, 115, 45, 99, 101, 108, 108, 115]⟩ : ByteArray) 2 tcE tcS _ ?side1 ?side2 ?side3 ?side4 A2.out).mono ?_); (case side1 => repeat (first | exact Zq126 | (with_reducible refine Kd.C_alloc ?_ _) | (with_reducible refine Kd.C_drewN ?_ _) | (with_reducible refine Kd.C_drew ?_))); (case side2 => exact HC0_1.out); (case side3 => repeat (first | exact Zq142 | (with_reducible refine Kd.C_alloc ?_ _) | (with_reducible refine Kd.C_drewN ?_ _) | (with_reducible refine Kd.C_drew ?_))); (case side4 => exact HC0_2.out); rintro e w13 ⟨rfl, hb⟩; refine ⟨_, rfl, ?_⟩; have n0_ := Zq145; have n1_ := Ak (below_step Zq63 hb); clear BKaO HB; have BKaO := n0_; have HB := n1_; clear n0_ n1_; (try clear hb); (try clear hb2); (try clear hk); (try clear hi); have hcz14_0 : w13.cell? ⟨gbaO, 0, none⟩ = some (.string a0_0) := (blk_cell BKaO.out 0).trans rfl; have hcz14_1 : w13.cell? ⟨gbaO, 1, none⟩ = some (.slice A0_1 l0_1.length c0_1) := (blk_cell BKaO.out 1).trans rfl; have hcz14_2 : w13.cell? ⟨gbaO, 2, none⟩ = some (.slice A0_2 l0_2.length c0_2) := (blk_cell BKaO.out 2).trans rfl; have hfz14_0 := blk_frozen BKaO.out 0; have hfz14_1 := blk_frozen BKaO.out 1; have hfz14_2 := blk_frozen BKaO.out 2) | ((with_reducible refine gate_callee (f := 70) rfl ?_); refine goesL_ (some 18) rfl rfl Try.func70 Zq2 rfl #[.agg #[.string a0_0, .slice A0_1 l0_1.length c0_1, .slice A0_2 l0_2.length c0_2], .string (⟨#[35, 115, 105, 122, 101, 45, 99, 101, 108, 108, 115]⟩ : ByteArray), .int .i64 1] rfl Zq9 ?_; (with_reducible refine (region_count.calls k a0_0 _ _ l0_1 _ _ l0_2 (⟨#[35, 115, 105, 122, 101, 45, 99, 101, 108, 108, 115]⟩ : ByteArray) 1 tcm tdk _ ?side1 ?side2 ?side3 ?side4 A4.out).mono ?_); (case side1 => repeat (first | exact Zq126 | (with_reducible refine Kd.C_alloc ?_ _) | (with_reducible refine Kd.C_drewN ?_ _) | (with_reducible refine Kd.C_drew ?_))); (case side2 => exact HC0_1.out); (case side3 => repeat (first | exact Zq142 | (with_reducible refine Kd.C_alloc ?_ _) | (with_reducible refine Kd.C_drewN ?_ _) | (with_reducible refine Kd.C_drew ?_))); (case side4 => exact HC0_2.out); rintro e w15 ⟨rfl, hb⟩; refine ⟨_, rfl, ?_⟩; have n0_ := Zq145; have n1_ := Ak (below_step Zq63 hb); clear BKaO HB; have BKaO := n0_; have HB := n1_; clear n0_ n1_; (try clear hb); (try clear hb2); (try clear hk); (try clear hi)))
   go_ret3
   exact ⟨Zq10, Zq63⟩
 ·rw [if_neg c3] at H; have c3b0 : (tcS == 0) = false := beq_eq_false_iff_ne.mpr c3; have c3b1 : (tcS != 0) = true := bne_iff_ne.mpr c3; simp only [Option.some.injEq, Prod.mk.injEq] at H; obtain ⟨rfl, rfl, rfl⟩ := H
  go_enter Try.func42, Try.ntmps42
  go_wp2_with (first | ((with_reducible refine gate_dst (N := 1) rfl ?_); refine box_event ?hg (N := 1) ?hd (cs := #[.string a0_0, .slice A0_1 l0_1.length c0_1, .slice A0_2 l0_2.length c0_2]) (t := 30) ?hr ?_; (case hd | hg => rfl); (case hr => first | (go_simp; done) | (go_simp; rfl)); intro gbaO hg w16 hbox hb; have n0_ := Zq122; have n1_ := Ak (hbox); have n2_ := Zq172; have n3_ := Zq172; clear HB; have HB := n0_; have BKaO := n1_; have GWaO := n2_; have GEaO := n3_; clear n0_ n1_ n2_ n3_ hb hbox hg; have hcz17_0 : w16.cell? ⟨gbaO, 0, none⟩ = some (.string a0_0) := (blk_cell BKaO.out 0).trans rfl; have hcz17_1 : w16.cell? ⟨gbaO, 1, none⟩ = some (.slice A0_1 l0_1.length c0_1) := (blk_cell BKaO.out 1).trans rfl; have hcz17_2 : w16.cell? ⟨gbaO, 2, none⟩ = some (.slice A0_2 l0_2.length c0_2) := (blk_cell BKaO.out 2).trans rfl; have hfz17_0 := blk_frozen BKaO.out 0; have hfz17_1 := blk_frozen BKaO.out 1; have hfz17_2 := blk_frozen BKaO.out 2) | ((with_reducible refine gate_callee (f := 70) rfl ?_); refine goesL_ (some 10) rfl rfl Try.func70 Zq2 rfl #[.agg #[.string a0_0, .slice A0_1 l0_1.length c0_1, .slice A0_2 l0_2.length c0_2], .string (⟨#[35, 97, 100, 100, 114, 101, 115, 115, 45, 99, 101, 108, 108, 115]⟩ : ByteArray), .int .i64 2] rfl Zq9 ?_; (with_reducible refine (region_count.calls k a0_0 _ _ l0_1 _ _ l0_2 (⟨#[35, 97, 100, 100, 114, 101, 115, 115, 45, 99, 101, 108, 108, 115]⟩ : ByteArray) 2 tcE tcS _ ?side1 ?side2 ?side3 ?side4 A2.out).mono ?_); (case side1 => repeat (first | exact Zq126 | (with_reducible refine Kd.C_alloc ?_ _) | (with_reducible refine Kd.C_drewN ?_ _) | (with_reducible refine Kd.C_drew ?_))); (case side2 => exact HC0_1.out); (case side3 => repeat (first | exact Zq142 | (with_reducible refine Kd.C_alloc ?_ _) | (with_reducible refine Kd.C_drewN ?_ _) | (with_reducible refine Kd.C_drew ?_))); (case side4 => exact HC0_2.out); rintro e w18 ⟨rfl, hb⟩; refine ⟨_, rfl, ?_⟩; have n0_ := Zq145; have n1_ := Ak (below_step Zq63 hb); clear BKaO HB; have BKaO := n0_; have HB := n1_; clear n0_ n1_; (try clear hb); (try clear hb2); (try clear hk); (try clear hi)))
  go_ret3
  exact ⟨Zq10, Zq63⟩
def prop_Cells.l0 : Nat → List Int → List Int → Int → Option (List Int × Int)
 | 0, _, _, _ => none
 | k + 1, x0, x4, x5 => if x5 < (x0.length : Int) then ((words_Get.f x0 x5).bind fun btdP => (if x4.length < 35184372088832 then (prop_Cells.l0 k x0 (x4 ++ [btdP.1]) (wrap64 (x5 + 4))) else (none))) else (some (x4, 0))
def prop_Cells.f (k : Nat) (l0 : List Int) : Option (List Int × Int) := if ((l0.length : Int) % 4) = 0 then (prop_Cells.l0 k l0 ([] : List Int) 0) else (some (([] : List Int), 4))
theorem prop_Cells.mono_l : ∀ k, (∀ y0 y1 y2, LeO (prop_Cells.l0 k y0 y1 y2) (prop_Cells.l0 (k + 1) y0 y1 y2))
 | 0 => fun _ _ _ r h => by simp [prop_Cells.l0] at h
 | k + 1 => by
  have ih0 := prop_Cells.mono_l k
  ·intro y0 y1 y2; unfold prop_Cells.l0
   repeat' first | (with_reducible first | exact ih0 _ _ _ | exact LeO.refl _ | exact LeO.none _ | refine LeO.ite ?_ ?_ | refine LeO.bind ?_ (fun _ => ?_))
theorem prop_Cells.mono : ∀ a0 k, LeO (prop_Cells.f k a0) (prop_Cells.f (k + 1) a0) := by
 intro a0 k; have ih0 := prop_Cells.mono_l k; unfold prop_Cells.f
 repeat' first | (with_reducible first | exact ih0 _ _ _ | exact LeO.refl _ | exact LeO.none _ | refine LeO.ite ?_ ?_ | refine LeO.bind ?_ (fun _ => ?_))
set_option maxHeartbeats 8000000 in
set_option maxRecDepth 100000 in
theorem prop_Cells.calls (k : Nat) (A0 : Option Addr) (c0 : Nat) (l0 : List Int) (r1 : List Int) (r2 : Int) (w : World) (hr0 : Kd.C (Kd.int .u8) w A0 l0.length l0) (hc0 : l0.length ≤ c0) (h : prop_Cells.f k l0 = some (r1, r2)) :
  Calls Try.prog 43 #[.slice A0 l0.length c0] w fun e w' => ∃ v0_ : Value, e = .returned (.tuple #[v0_, .int .i64 r2]) ∧ Kd.R (Kd.int .u32) 32 w' w.heap.size (fun _ => True) v0_ r1 ∧ Below w.heap.size w w' := by
 have HR0 := Ak hr0; have HC0 := Ak hc0; clear hr0 hc0; have HB := Zq129; have H : (if ((l0.length : Int) % 4) = 0 then (prop_Cells.l0 k l0 ([] : List Int) 0) else (some (([] : List Int), 4))) = some (r1, r2) := h; clear h
 by_cases c2 : ((l0.length : Int) % 4) = 0
 ·rw [if_pos c2] at H; have c2b0 : (((l0.length : Int) % 4) == 0) = true := beq_iff_eq.mpr c2; have c2b1 : (((l0.length : Int) % 4) != 0) = false := bne_eq_false_iff_eq.mpr c2; clear c2; have H' := Ak H; clear H
  go_enter Try.func43, Try.ntmps43
  go_wp2
  go_loopg [4, 5] k (fun kq v4 v5 w' => ∃ (x4_1 : List Int) (x5_1 : Int), v5 = .int .i64 x5_1 ∧ Aside0 (prop_Cells.l0 kq l0 x4_1 x5_1 = some (r1, r2)) ∧ Aside0 (kq ≤ k) ∧ Aside0 (Kd.R (Kd.int .u32) 32 w' w.heap.size (fun _ => True) v4 x4_1) ∧ Aside0 (Below w.heap.size w w'))
  case atStart => exact ⟨(([] : List Int)), (0), Zq6, H', ⟨Nat.le_refl _⟩, ⟨Zq32⟩, ⟨Zq5⟩⟩
  case round =>
   clear H'
   try clear c2
   try clear c2b0
   try clear c2b1
   try clear p2
   obtain ⟨x4_1, x5_1, rfl, HA, HK1, HO_4, HB⟩ := hrel
   cases gk with
   | zero => exact absurd HA.out (by simp [prop_Cells.l0])
   | succ k1 =>
    have H := HA.out; clear HA; simp only [prop_Cells.l0] at H
    by_cases c3 : x5_1 < (l0.length : Int)
    ·rw [if_pos c3] at H; have c3b0 : decide (x5_1 < (l0.length : Int)) = true := decide_eq_true c3; clear c3; replace H := Option.bind_eq_some_iff.mp H; obtain ⟨⟨tdP, tfT⟩, A40, H⟩ := H; replace H : (if x4_1.length < 35184372088832 then (prop_Cells.l0 k1 l0 (x4_1 ++ [tdP]) (wrap64 (x5_1 + 4))) else (none)) = some (r1, r2) := H; have A4 := Ak A40; clear A40
     by_cases c5 : x4_1.length < 35184372088832
     ·rw [if_pos c5] at H; have LMc5 := Ak c5; clear c5
      obtain ⟨ycT, hycT⟩ : ∃ y_ : List Int, y_ = (x4_1 ++ [tdP]) := ⟨_, rfl⟩
      replace H : (prop_Cells.l0 k1 l0 ycT (wrap64 (x5_1 + 4))) = some (r1, r2) := by first | (rw [hycT]; with_reducible exact H) | (have H2_ := (Option.bind_some _ _).symm.trans H; rw [hycT]; with_reducible exact H2_) | (have H2_ := (Option.bind_some _ _).symm.trans H; with_reducible exact H2_) | with_reducible exact H | (rw [hycT]; exact H) | exact H
      have NycT := Ak hycT; clear hycT; have H' := Ak H; clear H
      go_wp2_with (first | ((with_reducible refine gate_callee (f := 71) rfl ?_); refine goesL_ (some 21) rfl rfl Try.func71 Zq2 rfl #[.slice A0 l0.length c0, .int .i64 x5_1] rfl Zq9 ?_; (with_reducible refine (words_Get.calls _ _ l0 x5_1 tdP tfT _ ?side1 ?side2 A4.out).mono ?_); (case side1 => repeat (first | exact (Kd.C_below HR0.out HB.out) | (with_reducible refine Kd.C_alloc ?_ _) | (with_reducible refine Kd.C_drewN ?_ _) | (with_reducible refine Kd.C_drew ?_))); (case side2 => exact HC0.out); rintro e w' ⟨rfl, ⟨nd, rfl⟩⟩; refine ⟨_, rfl, ?_⟩) | ((with_reducible refine gate_builtin (b := .append) (xs := #[.tmp 24, .tmp 26]) rfl ?_); at_builtin; refine Kd.R_append (Kd.int .u32) (w0 := w) w.heap.size rfl (.tmp 24) (.tmp 26) 86 32 (.int .u32 0) 4 rfl Try.underlying86 info32 rfl Zq7 Zq1 u4 x4_1 tdP [.int .u32 tdP] (fun _ => True) (fun _ => False) rfl rfl ?aP (fun _ hk => hk.elim) ?aF ?aO ?aB ?aS ?aL ?_; (case aP => exact rfl); (case aB => exact Zq5); (case aF => exact (fun _ _ => trivial)); (case aO => exact Zq102); (case aS => exact (below_size Zq5)); (case aL => have := LMc5.out; omega); intro v190 w6 ho hb hg hat; rw [← NycT.out] at ho; have n0_ := Ak (hb); have n1_ := Ak (ho); clear HB HO_4; have HB := n0_; have HOfU := n1_; clear n0_ n1_ ho hb hg hat))
      go_roundg k1
      case measure => have := HK1.out; omega
      case rel => exact ⟨(ycT), (wrap64 (x5_1 + 4)), Zq6, H', ⟨Zq26⟩, ⟨by (with_reducible repeat (first | apply Kd.R_alloc | apply Kd.R_drewN | apply Kd.R_drew)); exact HOfU.out⟩, ⟨Zq5⟩⟩
     ·rw [if_neg c5] at H; exact absurd H Zq8
    ·rw [if_neg c3] at H; have c3b0 : decide (x5_1 < (l0.length : Int)) = false := decide_eq_false c3; clear c3; simp only [Option.some.injEq, Prod.mk.injEq] at H; obtain ⟨rfl, rfl⟩ := H
     go_wp2
     go_ret2
     exact ⟨_, Zq10, Zq102, Zq5⟩
 ·rw [if_neg c2] at H; have c2b0 : (((l0.length : Int) % 4) == 0) = false := beq_eq_false_iff_ne.mpr c2; have c2b1 : (((l0.length : Int) % 4) != 0) = true := bne_iff_ne.mpr c2; simp only [Option.some.injEq, Prod.mk.injEq] at H; obtain ⟨rfl, rfl⟩ := H
  go_enter Try.func43, Try.ntmps43
  go_wp2
  go_ret2
  exact ⟨_, Zq10, Zq32, Zq5⟩
def prop_Wide.l0 : Nat → Int → List Int → Int → Int → Option (Int × Int)
 | 0, _, _, _, _ => none
 | k + 1, x4, x10, x11, x12 => if x12 < x11 then (if 0 ≤ x12 then (if x12 < (x10.length : Int) then (prop_Wide.l0 k (Go.bits .or .u64 (IntKind.u64.wrap (x4 * 4294967296)) (IntKind.u64.wrap (rd x10 x12))) x10 x11 (wrap64 (x12 + 1))) else (none)) else (none)) else (some (x4, 0))
def prop_Wide.f (k : Nat) (l0 : List Int) : Option (Int × Int) := if (l0.length : Int) > 2 then (some (0, 10)) else (prop_Wide.l0 k 0 l0 (l0.length : Int) 0)
theorem prop_Wide.mono_l : ∀ k, (∀ y0 y1 y2 y3, LeO (prop_Wide.l0 k y0 y1 y2 y3) (prop_Wide.l0 (k + 1) y0 y1 y2 y3))
 | 0 => fun _ _ _ _ r h => by simp [prop_Wide.l0] at h
 | k + 1 => by
  have ih0 := prop_Wide.mono_l k
  ·intro y0 y1 y2 y3; unfold prop_Wide.l0
   repeat' first | (with_reducible first | exact ih0 _ _ _ _ | exact LeO.refl _ | exact LeO.none _ | refine LeO.ite ?_ ?_ | refine LeO.bind ?_ (fun _ => ?_))
theorem prop_Wide.mono : ∀ a0 k, LeO (prop_Wide.f k a0) (prop_Wide.f (k + 1) a0) := by
 intro a0 k; have ih0 := prop_Wide.mono_l k; unfold prop_Wide.f
 repeat' first | (with_reducible first | exact ih0 _ _ _ _ | exact LeO.refl _ | exact LeO.none _ | refine LeO.ite ?_ ?_ | refine LeO.bind ?_ (fun _ => ?_))
set_option maxHeartbeats 8000000 in
set_option maxRecDepth 100000 in
theorem prop_Wide.calls (k : Nat) (A0 : Option Addr) (c0 : Nat) (l0 : List Int) (r1 : Int) (r2 : Int) (w : World) (hr0 : Kd.C (Kd.int .u32) w A0 l0.length l0) (hc0 : l0.length ≤ c0) (h : prop_Wide.f k l0 = some (r1, r2)) :
  Calls Try.prog 44 #[.slice A0 l0.length c0] w fun e w' => e = .returned (.tuple #[.int .u64 r1, .int .i64 r2]) ∧ Drawn0 w w' := by
 have HR0 := Ak hr0; have HC0 := Ak hc0; clear hr0 hc0; have H : (if (l0.length : Int) > 2 then (some (0, 10)) else (prop_Wide.l0 k 0 l0 (l0.length : Int) 0)) = some (r1, r2) := h; clear h
 by_cases c2 : (l0.length : Int) > 2
 ·rw [if_pos c2] at H; have c2b0 : decide (2 < (l0.length : Int)) = true := decide_eq_true c2; have c2b1 : decide (2 < l0.length) = true := decide_eq_true Zq1; clear c2; simp only [Option.some.injEq, Prod.mk.injEq] at H; obtain ⟨rfl, rfl⟩ := H
  go_enter Try.func44, Try.ntmps44
  go_wp2
  go_ret2
  exact ⟨Zq6, Zq11⟩
 ·rw [if_neg c2] at H; have c2b0 : decide (2 < (l0.length : Int)) = false := decide_eq_false c2; have c2b1 : decide (2 < l0.length) = false := decide_eq_false Zq1; clear c2; have H' := Ak H; clear H
  go_enter Try.func44, Try.ntmps44
  go_wp2
  go_loopg [4, 12] k (fun kq v4 v12 w' => ∃ (x4_1 : Int) (x12_1 : Int), v4 = .int .u64 x4_1 ∧ v12 = .int .i64 x12_1 ∧ Aside0 (prop_Wide.l0 kq x4_1 l0 (l0.length : Int) x12_1 = some (r1, r2)) ∧ Aside0 (kq ≤ k) ∧ Drawn0 w w')
  case atStart => exact ⟨(0), (0), Zq6, Zq6, H', ⟨Nat.le_refl _⟩, Zq11⟩
  case round =>
   clear H'
   try clear c2
   try clear c2b0
   try clear c2b1
   try clear p2
   obtain ⟨x4_1, x12_1, rfl, rfl, HA, HK1, ⟨m1, rfl⟩⟩ := hrel
   cases gk with
   | zero => exact absurd HA.out (by simp [prop_Wide.l0])
   | succ k1 =>
    have H := HA.out; clear HA; simp only [prop_Wide.l0] at H
    by_cases c3 : x12_1 < (l0.length : Int)
    ·rw [if_pos c3] at H; have c3b0 : decide (x12_1 < (l0.length : Int)) = true := decide_eq_true c3; clear c3
     by_cases c4 : 0 ≤ x12_1
     ·rw [if_pos c4] at H; have c4b0 : decide (0 ≤ x12_1) = true := decide_eq_true c4; clear c4
      by_cases c5 : x12_1 < (l0.length : Int)
      ·rw [if_pos c5] at H; have c5b0 : decide (x12_1 < (l0.length : Int)) = true := decide_eq_true c5; clear c5; have H' := Ak H; clear H; have p192 : 0 ≤ (x12_1 : Int) := of_decide_eq_true Zq4; have q192 : x12_1 < (l0.length : Int) := of_decide_eq_true Zq4; obtain ⟨adgx, e192, hx192_0⟩ := Kd.at_int HR0.out x12_1 p192 q192
       cases e192
       replace p192 := eq_true p192; replace q192 := eq_true q192
       go_wp2
       go_roundg k1
       case measure => have := HK1.out; omega
       case rel => exact ⟨(Go.bits .or .u64 (IntKind.u64.wrap (x4_1 * 4294967296)) (IntKind.u64.wrap (rd l0 x12_1))), (wrap64 (x12_1 + 1)), Zq6, Zq6, H', ⟨Zq26⟩, Zq11⟩
      ·rw [if_neg c5] at H; exact absurd H Zq8
     ·rw [if_neg c4] at H; exact absurd H Zq8
    ·rw [if_neg c3] at H; have c3b0 : decide (x12_1 < (l0.length : Int)) = false := decide_eq_false c3; clear c3; simp only [Option.some.injEq, Prod.mk.injEq] at H; obtain ⟨rfl, rfl⟩ := H
     go_wp2
     go_ret2
     exact ⟨Zq6, Zq11⟩
mutual
def xlate_Ranges.j0 : Nat → List Int → Int → Int → Int → Bool → Option ((List (S46)) × Bool × Int)
 | 0, _, _, _, _, _ => none
 | k + 1, x7, x9, x10, x12, x49 => if x49 = true then (some (([] : List (S46)), false, 10)) else (if (x7.length : Int) = 0 then (some ((([(⟨0, 0, 18446744073709551615⟩ : S46)] : List (S46))), true, 0)) else ((prop_Cells.f k x7).bind fun btdQ => (xlate_Ranges.l0 k x9 x10 x12 btdQ.1 ([] : List (S46)))))
def xlate_Ranges.l0 : Nat → Int → Int → Int → List Int → List (S46) → Option ((List (S46)) × Bool × Int)
 | 0, _, _, _, _, _ => none
 | k + 1, x9, x10, x12, x14, x16 => if (x14.length : Int) > 0 then (if 0 ≤ x9 then (if x9 ≤ (x14.length : Int) then ((prop_Wide.f k (x14.take (x9 : Int).toNat)).bind fun btcn => (if x9 ≤ (wrap64 (x9 + x12)) then (if (wrap64 (x9 + x12)) ≤ (x14.length : Int) then ((prop_Wide.f k ((x14.take ((wrap64 (x9 + x12)) : Int).toNat).drop (x9 : Int).toNat)).bind fun btcd => (if 0 ≤ (wrap64 (x9 + x12)) then (if (wrap64 (x9 + x12)) ≤ (wrap64 ((wrap64 (x9 + x12)) + x10)) then (if (wrap64 ((wrap64 (x9 + x12)) + x10)) ≤ (x14.length : Int) then ((prop_Wide.f k ((x14.take ((wrap64 ((wrap64 (x9 + x12)) + x10)) : Int).toNat).drop ((wrap64 (x9 + x12)) : Int).toNat)).bind fun btbS => (if x16.length < 5864062014805 then (if 0 ≤ (wrap64 ((wrap64 (x9 + x12)) + x10)) then (xlate_Ranges.l0 k x9 x10 x12 (x14.drop ((wrap64 ((wrap64 (x9 + x12)) + x10)) : Int).toNat) (x16 ++ [(⟨btcn.1, btcd.1, btbS.1⟩ : S46)])) else (none)) else (none))) else (none)) else (none)) else (none))) else (none)) else (none))) else (none)) else (none)) else (some (x16, true, 0))
end
def xlate_Ranges.f (k : Nat) (a0_0 : ByteArray) (l0_1 : List (S77)) (l0_2 : List (S30)) (a1_0 : ByteArray) (l1_1 : List (S77)) (l1_2 : List (S30)) : Option ((List (S46)) × Bool × Int) := (tree_Find.f k a1_0 l1_1 l1_2 (⟨#[114, 97, 110, 103, 101, 115]⟩ : ByteArray)).bind fun btbh => (if btbh.2 = true then ((region_Counts.f k a1_0 l1_1 l1_2).bind fun btag => (if btag.2.2 = 0 then ((region_Counts.f k a0_0 l0_1 l0_2).bind fun btao => (if btao.2.2 = 0 then (if btag.1 = 0 then (xlate_Ranges.j0 k btbh.1 btag.1 btag.2.1 btao.1 true) else (if btao.1 = 0 then (xlate_Ranges.j0 k btbh.1 btag.1 btag.2.1 btao.1 true) else (if (wrap64 (4 * (wrap64 ((wrap64 (btag.1 + btao.1)) + btag.2.1)))) = 0 then (none) else (xlate_Ranges.j0 k btbh.1 btag.1 btag.2.1 btao.1 (((btbh.1.length : Int) % (wrap64 (4 * (wrap64 ((wrap64 (btag.1 + btao.1)) + btag.2.1))))) != 0))))) else (some (([] : List (S46)), false, btao.2.2)))) else (some (([] : List (S46)), false, btag.2.2)))) else (some (([] : List (S46)), false, 0)))
theorem xlate_Ranges.mono_l : ∀ k, (∀ y0 y1 y2 y3 y4, LeO (xlate_Ranges.j0 k y0 y1 y2 y3 y4) (xlate_Ranges.j0 (k + 1) y0 y1 y2 y3 y4)) ∧ (∀ y0 y1 y2 y3 y4, LeO (xlate_Ranges.l0 k y0 y1 y2 y3 y4) (xlate_Ranges.l0 (k + 1) y0 y1 y2 y3 y4))
 | 0 => ⟨fun _ _ _ _ _ r h => by simp [xlate_Ranges.j0] at h, fun _ _ _ _ _ r h => by simp [xlate_Ranges.l0] at h⟩
 | k + 1 => by
  obtain ⟨ih0, ih1⟩ := xlate_Ranges.mono_l k; refine ⟨?_, ?_⟩
  ·intro y0 y1 y2 y3 y4; unfold xlate_Ranges.j0
   repeat' first | (with_reducible first | exact ih0 _ _ _ _ _ | exact ih1 _ _ _ _ _ | exact prop_Cells.mono _ _ | exact prop_Wide.mono _ _ | exact region_Counts.mono _ _ _ _ | exact tree_Find.mono _ _ _ _ _ | exact LeO.refl _ | exact LeO.none _ | refine LeO.ite ?_ ?_ | refine LeO.bind ?_ (fun _ => ?_))
  ·intro y0 y1 y2 y3 y4; unfold xlate_Ranges.l0
   repeat' first | (with_reducible first | exact ih0 _ _ _ _ _ | exact ih1 _ _ _ _ _ | exact prop_Cells.mono _ _ | exact prop_Wide.mono _ _ | exact region_Counts.mono _ _ _ _ | exact tree_Find.mono _ _ _ _ _ | exact LeO.refl _ | exact LeO.none _ | refine LeO.ite ?_ ?_ | refine LeO.bind ?_ (fun _ => ?_))
theorem xlate_Ranges.mono : ∀ a0 a1 a2 a3 a4 a5 k, LeO (xlate_Ranges.f k a0 a1 a2 a3 a4 a5) (xlate_Ranges.f (k + 1) a0 a1 a2 a3 a4 a5) := by
 intro a0 a1 a2 a3 a4 a5 k; obtain ⟨ih0, ih1⟩ := xlate_Ranges.mono_l k; unfold xlate_Ranges.f
 repeat' first | (with_reducible first | exact ih0 _ _ _ _ _ | exact ih1 _ _ _ _ _ | exact prop_Cells.mono _ _ | exact prop_Wide.mono _ _ | exact region_Counts.mono _ _ _ _ | exact tree_Find.mono _ _ _ _ _ | exact LeO.refl _ | exact LeO.none _ | refine LeO.ite ?_ ?_ | refine LeO.bind ?_ (fun _ => ?_))
end Go.Proofs.Yteejaaeglfpcmab.PX
