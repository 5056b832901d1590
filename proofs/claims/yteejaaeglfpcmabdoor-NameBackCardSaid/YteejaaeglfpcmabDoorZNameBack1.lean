/- NameBack: texts of this session's, and what the kit's print laid for this seat, as far as the law's row uses them (Shelf, PNx0, PNx_stringslite_Index, PNx_stringslite_Cut, PNx_strings_Cut, PNx_name_letter, PNx_strings_IndexByte, PNx_name_plain, PNx_name_all, PNx_name_Node, PNx_arboretlaw02_awake, PNx_name_Split, PNx_name_hex, PNx_strconv_ParseUint_29, PNx_name_Unit, PNx_arboretlaw02_NameBack, Rdr, PNKinds, PNStateNameBack, Aid, NameB, Name, PureNameBack, LawNameBack). -/
import Derived.Shelf.Small.Strs
import Derived.Shelf.Strings.Search1
import Derived.Shelf.Strings.Search2
import Derived.Shelf.Strings.Search3
import Derived.Shelf.Strings.Cut
import Derived.Shelf.Strings.Count
import Derived.Shelf.LaysM
import Derived.Shelf.Strings.Shaped
import Derived.Shelf.Unicode.DecodeSlow
import Derived.Test.YteejaaeglfpcmabDoorProg
import Derived.WalkSpells
import Derived.Lib.AtoiAllMem
import Derived.Lib.Hide
import Derived.Laws.Strings3
import Derived.Laws.Closers25
import Derived.Laws.Closers25b
import Derived.BigCall
import Derived.BigGuard
import Derived.Lib.SmallJoins
import Derived.Test.YteejaaeglfpcmabDoorRows
import Derived.ChangeArms
import Derived.DataReads
import Derived.Deep.Slices
import Derived.Lib.EndianBits
import Derived.Lib.PathFns
import Derived.Lib.IndexBytes
import Derived.Test.YteejaaeglfpcmabDoorCards
import Derived.Test.YteejaaeglfpcmabDoorTie
import Derived.Deep.DeepHandedRow
import Derived.ProofKit
import Derived.OpenShut
import Derived.ShutString
import Derived.ChangeOld
import Derived.JoinedCond
import Derived.Deep.CondSized
import Derived.Test.YteejaaeglfpcmabDoorZNameBack0
set_option linter.unusedVariables false
set_option linter.unusedSimpArgs false
namespace Go.Proofs
open Go.Shelf
def Tryd.lays137_ren : Go.Shelf.Ren := ⟨fun | 137 => 42 | 217 => 56 | 266 => 66 | n => n, fun | 9 => 9 | 5 => 5 | 3 => 3 | n => n, fun | n => n⟩
theorem Tryd.lays137 : Go.Proofs.Lays.n137 Tryd.prog Tryd.lays137_ren := {
  mixed := by kernel_rfl
  f137 := Tryd.func42.trans (congrArg some (by kernel_rfl))
  f217 := Tryd.func56.trans (congrArg some (by kernel_rfl))
  f266 := Tryd.func66.trans (congrArg some (by kernel_rfl))
  t3 := Tryd.underlying3
  a3 := Tryd.isAgg3
  z3 := Tryd.sizeOf3
  v3 := Tryd.zeroValue3
  t5 := Tryd.underlying5
  a5 := Tryd.isAgg5
  z5 := Tryd.sizeOf5
  v5 := Tryd.zeroValue5
  t9 := Tryd.underlying9
  a9 := Tryd.isAgg9
  z9 := Tryd.sizeOf9
  v9 := Tryd.zeroValue9 }
open Go.RowKit in
theorem Tryd.strings_IndexByte (s : ByteArray) (c : Int) (w : World) :
    Calls Tryd.prog 42 #[.string s, .int .u8 c] w fun e w' => e = .returned (.int .i64 (Lib.indexByte s.data.toList c.toNat.toUInt8)) ∧ w' = w := Any.strings_IndexByte Tryd.lays137 s c w
def Tryd.lays219_ren : Go.Shelf.Ren := ⟨fun | 219 => 49 | 217 => 56 | 225 => 60 | 224 => 61 | 267 => 62 | 266 => 66 | 314 => 68 | n => n, fun | 9 => 9 | 3 => 3 | 4 => 4 | 5 => 5 | 46 => 64 | 146 => 90 | 51 => 33 | n => n, fun | 1 => 0 | n => n⟩
theorem Tryd.lays219 : Go.Proofs.Lays.n219 Tryd.prog Tryd.lays219_ren := {
  mixed := by kernel_rfl
  f217 := Tryd.func56.trans (congrArg some (by kernel_rfl))
  f219 := Tryd.func49.trans (congrArg some (by kernel_rfl))
  f224 := Tryd.func61.trans (congrArg some (by kernel_rfl))
  f225 := Tryd.func60.trans (congrArg some (by kernel_rfl))
  f266 := Tryd.func66.trans (congrArg some (by kernel_rfl))
  f267 := Tryd.func62.trans (congrArg some (by kernel_rfl))
  f314 := Tryd.func68.trans (congrArg some (by kernel_rfl))
  t3 := Tryd.underlying3
  a3 := Tryd.isAgg3
  z3 := Tryd.sizeOf3
  v3 := Tryd.zeroValue3
  t4 := Tryd.underlying4
  a4 := Tryd.isAgg4
  z4 := Tryd.sizeOf4
  v4 := Tryd.zeroValue4
  t5 := Tryd.underlying5
  a5 := Tryd.isAgg5
  z5 := Tryd.sizeOf5
  v5 := Tryd.zeroValue5
  t9 := Tryd.underlying9
  a9 := Tryd.isAgg9
  z9 := Tryd.sizeOf9
  v9 := Tryd.zeroValue9
  t46 := Tryd.underlying64
  a46 := Tryd.isAgg64
  z46 := Tryd.sizeOf64
  v46 := Tryd.zeroValue64
  t51 := Tryd.underlying33
  a51 := Tryd.isAgg33
  z51 := Tryd.sizeOf33
  v51 := Tryd.zeroValue33
  t146 := Tryd.underlying90
  a146 := Tryd.isAgg90
  z146 := Tryd.sizeOf90
  v146 := Tryd.zeroValue90
  g1 := by kernel_rfl }
open Go.RowKit Go.Lib in
theorem Tryd.stringslite_Index_one (s : ByteArray) (c : UInt8) (w : World) :
    Calls Tryd.prog 49 #[.string s, .string ⟨#[c]⟩] w fun e w' => e = .returned (.int .i64 (Lib.indexByte s.data.toList c)) ∧ w' = w := Any.stringslite_Index_one Tryd.lays219 s c w
end Go.Proofs

namespace Go.Proofs.YteejaaeglfpcmabDoor.PN
open Go.RowKit Go.Proofs.YteejaaeglfpcmabDoorW.PrintWords Go.Proofs.YteejaaeglfpcmabDoorW.PrintLast Go.Proofs.YteejaaeglfpcmabDoorW.PrintMore
attribute [local go_sem] max2_int min2_int max_two min_two max_three min_three max_four min_four   -- for this text's walks alone
set_option linter.unusedVariables false
set_option linter.unusedSimpArgs false
def errW : Option Int → Value
  | none => .nilIface
  | some c => .iface 76 (.int .i64 c)
theorem errW_none : errW none = .nilIface := rfl
theorem errW_some (c : Int) : errW (some c) = .iface 76 (.int .i64 c) := rfl
end Go.Proofs.YteejaaeglfpcmabDoor.PN

namespace Go.Proofs.YteejaaeglfpcmabDoor.PN
open Go.RowKit Go.Proofs.YteejaaeglfpcmabDoorW.PrintWords Go.Proofs.YteejaaeglfpcmabDoorW.PrintLast Go.Proofs.YteejaaeglfpcmabDoorW.PrintMore
attribute [local go_sem] max2_int min2_int max_two min_two max_three min_three max_four min_four   -- for this text's walks alone
set_option linter.unusedVariables false
set_option linter.unusedSimpArgs false
def stringslite_Index.f (a0 : ByteArray) (a1 : ByteArray) : Option (Int) := match a1.data.toList with | [c] => some (Lib.indexByte a0.data.toList c) | _ => none
theorem stringslite_Index.calls (a0 : ByteArray) (a1 : ByteArray) (r : Int) (w : World) (h : stringslite_Index.f a0 a1 = some r) :
    Calls Tryd.prog 49 #[.string a0, .string a1] w fun e w' => e = .returned (.int .i64 r) ∧ Drawn0 w w' := by
  unfold stringslite_Index.f at h
  split at h
  · next c hc =>
    have ha : a1 = ⟨#[c]⟩ := by
      obtain ⟨⟨l⟩⟩ := a1
      simp only at hc
      rw [hc]
    subst ha
    injection h with hr
    refine (Tryd.stringslite_Index_one a0 c w).mono ?_
    rintro e w' ⟨rfl, rfl⟩
    exact ⟨by rw [hr], Drawn0.refl _⟩
  · cases h
end Go.Proofs.YteejaaeglfpcmabDoor.PN

namespace Go.Proofs.YteejaaeglfpcmabDoor.PN
open Go.RowKit Go.Proofs.YteejaaeglfpcmabDoorW.PrintWords Go.Proofs.YteejaaeglfpcmabDoorW.PrintLast Go.Proofs.YteejaaeglfpcmabDoorW.PrintMore
attribute [local go_sem] max2_int min2_int max_two min_two max_three min_three max_four min_four   -- for this text's walks alone
set_option linter.unusedVariables false
set_option linter.unusedSimpArgs false
def stringslite_Cut.f (a0 : ByteArray) (a1 : ByteArray) : Option (ByteArray × ByteArray × Bool) := (stringslite_Index.f a0 a1).bind fun t103 => (if t103 ≥ 0 then (if 0 ≤ t103 then (if t103 ≤ (a0.size : Int) then (if 0 ≤ (wrap64 (t103 + (a1.size : Int))) then (if (wrap64 (t103 + (a1.size : Int))) ≤ (a0.size : Int) then (some (a0.extract 0 (t103 : Int).toNat, a0.extract ((wrap64 (t103 + (a1.size : Int))) : Int).toNat a0.size, true)) else (none)) else (none)) else (none)) else (none)) else (some (a0, (⟨#[]⟩ : ByteArray), false)))
set_option maxHeartbeats 8000000 in
set_option maxRecDepth 100000 in
theorem stringslite_Cut.calls (a0 : ByteArray) (a1 : ByteArray) (r1 : ByteArray) (r2 : ByteArray) (r3 : Bool) (w : World) (h : stringslite_Cut.f a0 a1 = some (r1, r2, r3)) :
    Calls Tryd.prog 38 #[.string a0, .string a1] w fun e w' => e = .returned (.tuple #[.string r1, .string r2, .bool r3]) ∧ Drawn0 w w' := by
  have H : ((stringslite_Index.f a0 a1).bind fun t103 => (if t103 ≥ 0 then (if 0 ≤ t103 then (if t103 ≤ (a0.size : Int) then (if 0 ≤ (wrap64 (t103 + (a1.size : Int))) then (if (wrap64 (t103 + (a1.size : Int))) ≤ (a0.size : Int) then (some (a0.extract 0 (t103 : Int).toNat, a0.extract ((wrap64 (t103 + (a1.size : Int))) : Int).toNat a0.size, true)) else (none)) else (none)) else (none)) else (none)) else (some (a0, (⟨#[]⟩ : ByteArray), false)))) = some (r1, r2, r3) := h
  clear h
  replace H := Option.bind_eq_some_iff.mp H
  obtain ⟨t103, A30, H⟩ := H
  replace H : (if t103 ≥ 0 then (if 0 ≤ t103 then (if t103 ≤ (a0.size : Int) then (if 0 ≤ (wrap64 (t103 + (a1.size : Int))) then (if (wrap64 (t103 + (a1.size : Int))) ≤ (a0.size : Int) then (some (a0.extract 0 (t103 : Int).toNat, a0.extract ((wrap64 (t103 + (a1.size : Int))) : Int).toNat a0.size, true)) else (none)) else (none)) else (none)) else (none)) else (some (a0, (⟨#[]⟩ : ByteArray), false))) = some (r1, r2, r3) := H
  have A3 := Aside0.mk A30
  clear A30
  by_cases c4 : t103 ≥ 0
  · rw [if_pos c4] at H
    have c4b0 : decide (0 ≤ t103) = true := decide_eq_true c4
    clear c4
    by_cases c5 : 0 ≤ t103
    · rw [if_pos c5] at H
      have c5b0 := eq_true c5
      have c5b1 : decide (0 ≤ t103) = true := decide_eq_true c5
      clear c5
      by_cases c6 : t103 ≤ (a0.size : Int)
      · rw [if_pos c6] at H
        have c6b0 := eq_true c6
        have c6b1 : decide (t103 ≤ (a0.size : Int)) = true := decide_eq_true c6
        clear c6
        obtain ⟨ji7, hji7⟩ : ∃ j_ : Int, (wrap64 (t103 + (a1.size : Int))) = j_ := ⟨_, rfl⟩
        replace H : (if 0 ≤ (ji7) then (if (ji7) ≤ (a0.size : Int) then (some (a0.extract 0 (t103 : Int).toNat, a0.extract ((ji7) : Int).toNat a0.size, true)) else (none)) else (none)) = some (r1, r2, r3) := by first | (rw [hji7] at H; exact H) | (simp only [hji7] at H ⊢; exact H)
        (try rw [hji7] at A3)
        have hji7w : (IntKind.i64.wrap (t103 + (a1.size : Int))) = ji7 := (i64_w _).trans hji7
        by_cases c8 : 0 ≤ (ji7)
        · rw [if_pos c8] at H
          have c8b0 := eq_true c8
          have c8b1 : decide (0 ≤ (ji7)) = true := decide_eq_true c8
          clear c8
          by_cases c9 : (ji7) ≤ (a0.size : Int)
          · rw [if_pos c9] at H
            have c9b0 := eq_true c9
            have c9b1 : decide ((ji7) ≤ (a0.size : Int)) = true := decide_eq_true c9
            clear c9
            simp only [Option.some.injEq, Prod.mk.injEq] at H
            obtain ⟨rfl, rfl, rfl⟩ := H
            go_enter Tryd.func38, Tryd.ntmps38
            go_wp2_with (first | (go_at_call 49; (with_reducible refine (stringslite_Index.calls a0 a1 t103 _ A3.out).mono ?_); rintro e w' ⟨rfl, ⟨nd, rfl⟩⟩; (try first | exact ⟨rfl, _, World.drewN_drewN _ _ _⟩ | exact ⟨rfl, _, Eq.trans (World.drewN_drewN _ _ _) (congrArg (World.drewN _) (Nat.add_assoc _ _ _))⟩)))
            repeat (go_quiet (first | (go_at_call 49; (with_reducible refine (stringslite_Index.calls a0 a1 t103 _ A3.out).mono ?_); rintro e w' ⟨rfl, ⟨nd, rfl⟩⟩; (try first | exact ⟨rfl, _, World.drewN_drewN _ _ _⟩ | exact ⟨rfl, _, Eq.trans (World.drewN_drewN _ _ _) (congrArg (World.drewN _) (Nat.add_assoc _ _ _))⟩))); try go_wp2_with (first | (go_at_call 49; (with_reducible refine (stringslite_Index.calls a0 a1 t103 _ A3.out).mono ?_); rintro e w' ⟨rfl, ⟨nd, rfl⟩⟩; (try first | exact ⟨rfl, _, World.drewN_drewN _ _ _⟩ | exact ⟨rfl, _, Eq.trans (World.drewN_drewN _ _ _) (congrArg (World.drewN _) (Nat.add_assoc _ _ _))⟩))))
            go_ret3
            exact ⟨by first | rfl | (simp; done) | (simp only [← hji7] <;> (first | rfl | simp)) | (simp [*]; done), by repeat (first | exact Drawn0.refl _ | apply Drawn0.step)⟩
          · rw [if_neg c9] at H
            exact absurd H (by simp)
        · rw [if_neg c8] at H
          exact absurd H (by simp)
      · rw [if_neg c6] at H
        exact absurd H (by simp)
    · rw [if_neg c5] at H
      exact absurd H (by simp)
  · rw [if_neg c4] at H
    have c4b0 : decide (0 ≤ t103) = false := decide_eq_false c4
    clear c4
    simp only [Option.some.injEq, Prod.mk.injEq] at H
    obtain ⟨rfl, rfl, rfl⟩ := H
    go_enter Tryd.func38, Tryd.ntmps38
    go_wp2_with (first | (go_at_call 49; (with_reducible refine (stringslite_Index.calls a0 a1 t103 _ A3.out).mono ?_); rintro e w' ⟨rfl, ⟨nd, rfl⟩⟩; (try first | exact ⟨rfl, _, World.drewN_drewN _ _ _⟩ | exact ⟨rfl, _, Eq.trans (World.drewN_drewN _ _ _) (congrArg (World.drewN _) (Nat.add_assoc _ _ _))⟩)))
    repeat (go_quiet (first | (go_at_call 49; (with_reducible refine (stringslite_Index.calls a0 a1 t103 _ A3.out).mono ?_); rintro e w' ⟨rfl, ⟨nd, rfl⟩⟩; (try first | exact ⟨rfl, _, World.drewN_drewN _ _ _⟩ | exact ⟨rfl, _, Eq.trans (World.drewN_drewN _ _ _) (congrArg (World.drewN _) (Nat.add_assoc _ _ _))⟩))); try go_wp2_with (first | (go_at_call 49; (with_reducible refine (stringslite_Index.calls a0 a1 t103 _ A3.out).mono ?_); rintro e w' ⟨rfl, ⟨nd, rfl⟩⟩; (try first | exact ⟨rfl, _, World.drewN_drewN _ _ _⟩ | exact ⟨rfl, _, Eq.trans (World.drewN_drewN _ _ _) (congrArg (World.drewN _) (Nat.add_assoc _ _ _))⟩))))
    go_ret3
    exact ⟨by first | rfl | (simp; done) | (simp [*]; done), by repeat (first | exact Drawn0.refl _ | apply Drawn0.step)⟩
end Go.Proofs.YteejaaeglfpcmabDoor.PN

namespace Go.Proofs.YteejaaeglfpcmabDoor.PN
open Go.RowKit Go.Proofs.YteejaaeglfpcmabDoorW.PrintWords Go.Proofs.YteejaaeglfpcmabDoorW.PrintLast Go.Proofs.YteejaaeglfpcmabDoorW.PrintMore
attribute [local go_sem] max2_int min2_int max_two min_two max_three min_three max_four min_four   -- for this text's walks alone
set_option linter.unusedVariables false
set_option linter.unusedSimpArgs false
def strings_Cut.f (a0 : ByteArray) (a1 : ByteArray) : Option (ByteArray × ByteArray × Bool) := (stringslite_Cut.f a0 a1).bind fun bt104 => (some (bt104.1, bt104.2.1, bt104.2.2))
set_option maxHeartbeats 8000000 in
set_option maxRecDepth 100000 in
theorem strings_Cut.calls (a0 : ByteArray) (a1 : ByteArray) (r1 : ByteArray) (r2 : ByteArray) (r3 : Bool) (w : World) (h : strings_Cut.f a0 a1 = some (r1, r2, r3)) :
    Calls Tryd.prog 26 #[.string a0, .string a1] w fun e w' => e = .returned (.tuple #[.string r1, .string r2, .bool r3]) ∧ Drawn0 w w' := by
  have H : ((stringslite_Cut.f a0 a1).bind fun bt104 => (some (bt104.1, bt104.2.1, bt104.2.2))) = some (r1, r2, r3) := h
  clear h
  replace H := Option.bind_eq_some_iff.mp H
  obtain ⟨⟨t104, t105, t106⟩, A30, H⟩ := H
  replace H : (some (t104, t105, t106)) = some (r1, r2, r3) := H
  have A3 := Aside0.mk A30
  clear A30
  simp only [Option.some.injEq, Prod.mk.injEq] at H
  obtain ⟨rfl, rfl, rfl⟩ := H
  go_enter Tryd.func26, Tryd.ntmps26
  go_wp2_with (first | ((with_reducible refine gate_callee (f := 38) rfl ?_); refine goesL_ (some 9) rfl rfl Tryd.func38 (by kernel_rfl) rfl #[.string a0, .string a1] rfl (by (try simp only [List.map_toArray, List.map_cons, List.map_nil]); first | done | rfl | (simp only [List.length_drop, List.length_take]; rfl)) ?_; (with_reducible refine (stringslite_Cut.calls a0 a1 t104 t105 t106 _ A3.out).mono ?_); rintro e w' ⟨rfl, ⟨nd, rfl⟩⟩; refine ⟨_, rfl, ?_⟩))
  go_ret3
  exact ⟨by first | rfl | (simp; done) | (simp [*]; done), by repeat (first | exact Drawn0.refl _ | apply Drawn0.step)⟩
end Go.Proofs.YteejaaeglfpcmabDoor.PN

namespace Go.Proofs.YteejaaeglfpcmabDoor.PN
open Go.RowKit Go.Proofs.YteejaaeglfpcmabDoorW.PrintWords Go.Proofs.YteejaaeglfpcmabDoorW.PrintLast Go.Proofs.YteejaaeglfpcmabDoorW.PrintMore
attribute [local go_sem] max2_int min2_int max_two min_two max_three min_three max_four min_four   -- for this text's walks alone
set_option linter.unusedVariables false
set_option linter.unusedSimpArgs false
def name_letter.f (a0 : Int) : Option (Bool) := if a0 ≥ 97 then (if a0 ≤ 122 then (some true) else (if a0 ≥ 65 then (some (decide (a0 ≤ 90))) else (some false))) else (if a0 ≥ 65 then (some (decide (a0 ≤ 90))) else (some false))
set_option maxHeartbeats 8000000 in
set_option maxRecDepth 100000 in
theorem name_letter.calls (a0 : Int) (r : Bool) (w : World) (h : name_letter.f a0 = some r) :
    Calls Tryd.prog 31 #[.int .u8 a0] w fun e w' => e = .returned (.bool r) ∧ Drawn0 w w' := by
  have H : (if a0 ≥ 97 then (if a0 ≤ 122 then (some true) else (if a0 ≥ 65 then (some (decide (a0 ≤ 90))) else (some false))) else (if a0 ≥ 65 then (some (decide (a0 ≤ 90))) else (some false))) = some r := h
  clear h
  by_cases c2 : a0 ≥ 97
  · rw [if_pos c2] at H
    have c2b0 : decide (97 ≤ a0) = true := decide_eq_true c2
    clear c2
    by_cases c3 : a0 ≤ 122
    · rw [if_pos c3] at H
      have c3b0 : decide (a0 ≤ 122) = true := decide_eq_true c3
      clear c3
      obtain rfl := Option.some.inj H
      go_enter Tryd.func31, Tryd.ntmps31
      go_wp2
      go_ret
      exact ⟨by first | rfl | (simp; done) | (simp [*]; done), by repeat (first | exact Drawn0.refl _ | apply Drawn0.step)⟩
    · rw [if_neg c3] at H
      have c3b0 : decide (a0 ≤ 122) = false := decide_eq_false c3
      clear c3
      by_cases c4 : a0 ≥ 65
      · rw [if_pos c4] at H
        have c4b0 : decide (65 ≤ a0) = true := decide_eq_true c4
        clear c4
        obtain rfl := Option.some.inj H
        go_enter Tryd.func31, Tryd.ntmps31
        go_wp2
        go_ret
        exact ⟨by first | rfl | (simp; done) | (simp [*]; done), by repeat (first | exact Drawn0.refl _ | apply Drawn0.step)⟩
      · rw [if_neg c4] at H
        have c4b0 : decide (65 ≤ a0) = false := decide_eq_false c4
        clear c4
        obtain rfl := Option.some.inj H
        go_enter Tryd.func31, Tryd.ntmps31
        go_wp2
        go_ret
        exact ⟨by first | rfl | (simp; done) | (simp [*]; done), by repeat (first | exact Drawn0.refl _ | apply Drawn0.step)⟩
  · rw [if_neg c2] at H
    have c2b0 : decide (97 ≤ a0) = false := decide_eq_false c2
    clear c2
    by_cases c5 : a0 ≥ 65
    · rw [if_pos c5] at H
      have c5b0 : decide (65 ≤ a0) = true := decide_eq_true c5
      clear c5
      obtain rfl := Option.some.inj H
      go_enter Tryd.func31, Tryd.ntmps31
      go_wp2
      go_ret
      exact ⟨by first | rfl | (simp; done) | (simp [*]; done), by repeat (first | exact Drawn0.refl _ | apply Drawn0.step)⟩
    · rw [if_neg c5] at H
      have c5b0 : decide (65 ≤ a0) = false := decide_eq_false c5
      clear c5
      obtain rfl := Option.some.inj H
      go_enter Tryd.func31, Tryd.ntmps31
      go_wp2
      go_ret
      exact ⟨by first | rfl | (simp; done) | (simp [*]; done), by repeat (first | exact Drawn0.refl _ | apply Drawn0.step)⟩
end Go.Proofs.YteejaaeglfpcmabDoor.PN

namespace Go.Proofs.YteejaaeglfpcmabDoor.PN
open Go.RowKit Go.Proofs.YteejaaeglfpcmabDoorW.PrintWords Go.Proofs.YteejaaeglfpcmabDoorW.PrintLast Go.Proofs.YteejaaeglfpcmabDoorW.PrintMore
attribute [local go_sem] max2_int min2_int max_two min_two max_three min_three max_four min_four   -- for this text's walks alone
set_option linter.unusedVariables false
set_option linter.unusedSimpArgs false
def strings_IndexByte.f (a0 : ByteArray) (a1 : Int) : Option (Int) := some (Lib.indexByte a0.data.toList a1.toNat.toUInt8)
theorem strings_IndexByte.calls (a0 : ByteArray) (a1 : Int) (r : Int) (w : World) (h : strings_IndexByte.f a0 a1 = some r) :
    Calls Tryd.prog 42 #[.string a0, .int .u8 a1] w fun e w' => e = .returned (.int .i64 r) ∧ Drawn0 w w' := by
  have hr : Lib.indexByte a0.data.toList a1.toNat.toUInt8 = r := by
    unfold strings_IndexByte.f at h
    injection h
  refine (Tryd.strings_IndexByte a0 a1 w).mono ?_
  rintro e w' ⟨rfl, rfl⟩
  exact ⟨by rw [hr], Drawn0.refl _⟩
end Go.Proofs.YteejaaeglfpcmabDoor.PN

namespace Go.Proofs.YteejaaeglfpcmabDoor.PN
open Go.RowKit Go.Proofs.YteejaaeglfpcmabDoorW.PrintWords Go.Proofs.YteejaaeglfpcmabDoorW.PrintLast Go.Proofs.YteejaaeglfpcmabDoorW.PrintMore
attribute [local go_sem] max2_int min2_int max_two min_two max_three min_three max_four min_four   -- for this text's walks alone
set_option linter.unusedVariables false
set_option linter.unusedSimpArgs false
def name_plain.f (a0 : Int) : Option (Bool) := (name_letter.f a0).bind fun t107 => (if t107 = true then (some true) else (if a0 ≥ 48 then (if a0 ≤ 57 then (some true) else ((strings_IndexByte.f (⟨#[44, 46, 95, 43, 45]⟩ : ByteArray) a0).bind fun t108 => (some (decide (t108 ≥ 0))))) else ((strings_IndexByte.f (⟨#[44, 46, 95, 43, 45]⟩ : ByteArray) a0).bind fun t109 => (some (decide (t109 ≥ 0))))))
set_option maxHeartbeats 8000000 in
set_option maxRecDepth 100000 in
theorem name_plain.calls (a0 : Int) (r : Bool) (w : World) (h : name_plain.f a0 = some r) :
    Calls Tryd.prog 41 #[.int .u8 a0] w fun e w' => e = .returned (.bool r) ∧ Drawn0 w w' := by
  have H : ((name_letter.f a0).bind fun t107 => (if t107 = true then (some true) else (if a0 ≥ 48 then (if a0 ≤ 57 then (some true) else ((strings_IndexByte.f (⟨#[44, 46, 95, 43, 45]⟩ : ByteArray) a0).bind fun t108 => (some (decide (t108 ≥ 0))))) else ((strings_IndexByte.f (⟨#[44, 46, 95, 43, 45]⟩ : ByteArray) a0).bind fun t109 => (some (decide (t109 ≥ 0))))))) = some r := h
  clear h
  replace H := Option.bind_eq_some_iff.mp H
  obtain ⟨t107, A20, H⟩ := H
  replace H : (if t107 = true then (some true) else (if a0 ≥ 48 then (if a0 ≤ 57 then (some true) else ((strings_IndexByte.f (⟨#[44, 46, 95, 43, 45]⟩ : ByteArray) a0).bind fun t108 => (some (decide (t108 ≥ 0))))) else ((strings_IndexByte.f (⟨#[44, 46, 95, 43, 45]⟩ : ByteArray) a0).bind fun t109 => (some (decide (t109 ≥ 0)))))) = some r := H
  have A2 := Aside0.mk A20
  clear A20
  by_cases c3 : t107 = true
  · subst c3
    have H1 : (some true) = some r := by rw [if_pos rfl] at H; exact H
    clear H
    have H := H1
    clear H1
    obtain rfl := Option.some.inj H
    go_enter Tryd.func41, Tryd.ntmps41
    go_wp2_with (first | ((with_reducible refine gate_callee (f := 31) rfl ?_); refine goesL_ (some 4) rfl rfl Tryd.func31 (by kernel_rfl) rfl #[.int .u8 a0] rfl (by (try simp only [List.map_toArray, List.map_cons, List.map_nil]); first | done | rfl | (simp only [List.length_drop, List.length_take]; rfl)) ?_; (with_reducible refine (name_letter.calls a0 true _ A2.out).mono ?_); rintro e w' ⟨rfl, ⟨nd, rfl⟩⟩; refine ⟨_, rfl, ?_⟩))
    go_ret
    exact ⟨by first | rfl | (simp; done) | (simp [*]; done), by repeat (first | exact Drawn0.refl _ | apply Drawn0.step)⟩
  · replace c3 := Bool.eq_false_iff.mpr c3
    subst c3
    have H1 : (if a0 ≥ 48 then (if a0 ≤ 57 then (some true) else ((strings_IndexByte.f (⟨#[44, 46, 95, 43, 45]⟩ : ByteArray) a0).bind fun t108 => (some (decide (t108 ≥ 0))))) else ((strings_IndexByte.f (⟨#[44, 46, 95, 43, 45]⟩ : ByteArray) a0).bind fun t109 => (some (decide (t109 ≥ 0))))) = some r := by rw [if_neg (show ¬ (false = true) by decide)] at H; exact H
    clear H
    have H := H1
    clear H1
    by_cases c4 : a0 ≥ 48
    · rw [if_pos c4] at H
      have c4b0 : decide (48 ≤ a0) = true := decide_eq_true c4
      clear c4
      by_cases c5 : a0 ≤ 57
      · rw [if_pos c5] at H
        have c5b0 : decide (a0 ≤ 57) = true := decide_eq_true c5
        clear c5
        obtain rfl := Option.some.inj H
        go_enter Tryd.func41, Tryd.ntmps41
        go_wp2_with (first | ((with_reducible refine gate_callee (f := 31) rfl ?_); refine goesL_ (some 4) rfl rfl Tryd.func31 (by kernel_rfl) rfl #[.int .u8 a0] rfl (by (try simp only [List.map_toArray, List.map_cons, List.map_nil]); first | done | rfl | (simp only [List.length_drop, List.length_take]; rfl)) ?_; (with_reducible refine (name_letter.calls a0 false _ A2.out).mono ?_); rintro e w' ⟨rfl, ⟨nd, rfl⟩⟩; refine ⟨_, rfl, ?_⟩))
        go_ret
        exact ⟨by first | rfl | (simp; done) | (simp [*]; done), by repeat (first | exact Drawn0.refl _ | apply Drawn0.step)⟩
      · rw [if_neg c5] at H
        have c5b0 : decide (a0 ≤ 57) = false := decide_eq_false c5
        clear c5
        replace H := Option.bind_eq_some_iff.mp H
        obtain ⟨t108, A60, H⟩ := H
        replace H : (some (decide (t108 ≥ 0))) = some r := H
        have A6 := Aside0.mk A60
        clear A60
        obtain rfl := Option.some.inj H
        go_enter Tryd.func41, Tryd.ntmps41
        go_wp2_with (first | ((with_reducible refine gate_callee (f := 31) rfl ?_); refine goesL_ (some 4) rfl rfl Tryd.func31 (by kernel_rfl) rfl #[.int .u8 a0] rfl (by (try simp only [List.map_toArray, List.map_cons, List.map_nil]); first | done | rfl | (simp only [List.length_drop, List.length_take]; rfl)) ?_; (with_reducible refine (name_letter.calls a0 false _ A2.out).mono ?_); rintro e w' ⟨rfl, ⟨nd, rfl⟩⟩; refine ⟨_, rfl, ?_⟩) | (go_at_call 42; (with_reducible refine (strings_IndexByte.calls (⟨#[44, 46, 95, 43, 45]⟩ : ByteArray) a0 t108 _ A6.out).mono ?_); rintro e w' ⟨rfl, ⟨nd, rfl⟩⟩))
        go_ret
        exact ⟨by first | rfl | (simp; done) | (simp [*]; done), by repeat (first | exact Drawn0.refl _ | apply Drawn0.step)⟩
    · rw [if_neg c4] at H
      have c4b0 : decide (48 ≤ a0) = false := decide_eq_false c4
      clear c4
      replace H := Option.bind_eq_some_iff.mp H
      obtain ⟨t109, A70, H⟩ := H
      replace H : (some (decide (t109 ≥ 0))) = some r := H
      have A7 := Aside0.mk A70
      clear A70
      obtain rfl := Option.some.inj H
      go_enter Tryd.func41, Tryd.ntmps41
      go_wp2_with (first | ((with_reducible refine gate_callee (f := 31) rfl ?_); refine goesL_ (some 4) rfl rfl Tryd.func31 (by kernel_rfl) rfl #[.int .u8 a0] rfl (by (try simp only [List.map_toArray, List.map_cons, List.map_nil]); first | done | rfl | (simp only [List.length_drop, List.length_take]; rfl)) ?_; (with_reducible refine (name_letter.calls a0 false _ A2.out).mono ?_); rintro e w' ⟨rfl, ⟨nd, rfl⟩⟩; refine ⟨_, rfl, ?_⟩) | (go_at_call 42; (with_reducible refine (strings_IndexByte.calls (⟨#[44, 46, 95, 43, 45]⟩ : ByteArray) a0 t109 _ A7.out).mono ?_); rintro e w' ⟨rfl, ⟨nd, rfl⟩⟩))
      go_ret
      exact ⟨by first | rfl | (simp; done) | (simp [*]; done), by repeat (first | exact Drawn0.refl _ | apply Drawn0.step)⟩
end Go.Proofs.YteejaaeglfpcmabDoor.PN

namespace Go.Proofs.YteejaaeglfpcmabDoor.PN
open Go.RowKit Go.Proofs.YteejaaeglfpcmabDoorW.PrintWords Go.Proofs.YteejaaeglfpcmabDoorW.PrintLast Go.Proofs.YteejaaeglfpcmabDoorW.PrintMore
attribute [local go_sem] max2_int min2_int max_two min_two max_three min_three max_four min_four   -- for this text's walks alone
set_option linter.unusedVariables false
set_option linter.unusedSimpArgs false
def name_all.l0 : Nat → ByteArray → ByteArray → Int → Int → Option (Bool)
  | 0, _, _, _, _ => none
  | k + 1, x0, x1, x7, x8 => if x8 < x7 then (if 0 ≤ x8 then (if x8 < (x0.size : Int) then ((name_plain.f (bt x0 x8)).bind fun t110 => (if t110 = true then (name_all.l0 k x0 x1 x7 (wrap64 (x8 + 1))) else ((strings_IndexByte.f x1 (bt x0 x8)).bind fun t111 => (if t111 < 0 then (some false) else (name_all.l0 k x0 x1 x7 (wrap64 (x8 + 1))))))) else (none)) else (none)) else (if (x0.size : Int) ≥ 1 then (some (decide ((x0.size : Int) ≤ 31))) else (some false))
def name_all.f (k : Nat) (a0 : ByteArray) (a1 : ByteArray) : Option (Bool) := name_all.l0 k a0 a1 (a0.size : Int) 0
theorem name_all.mono_l : ∀ k, (∀ y0 y1 y2 y3, LeO (name_all.l0 k y0 y1 y2 y3) (name_all.l0 (k + 1) y0 y1 y2 y3))
  | 0 => fun _ _ _ _ r h => by simp [name_all.l0] at h
  | k + 1 => by
    have ih0 := name_all.mono_l k
    · intro y0 y1 y2 y3
      unfold name_all.l0
      repeat' first
      | (with_reducible exact ih0 _ _ _ _)
      | (with_reducible exact LeO.refl _)
      | (with_reducible exact LeO.none _)
      | (with_reducible refine LeO.ite ?_ ?_)
      | (with_reducible refine LeO.bind ?_ (fun _ => ?_))
      | exact ih0 _ _ _ _
      | exact LeO.none _
      | refine LeO.ite ?_ ?_
      | refine LeO.bind ?_ (fun _ => ?_)
theorem name_all.mono : ∀ a0 a1 k, LeO (name_all.f k a0 a1) (name_all.f (k + 1) a0 a1) := by
  intro a0 a1 k
  have ih0 := name_all.mono_l k
  unfold name_all.f
  repeat' first
      | (with_reducible exact ih0 _ _ _ _)
      | (with_reducible exact LeO.refl _)
      | (with_reducible exact LeO.none _)
      | (with_reducible refine LeO.ite ?_ ?_)
      | (with_reducible refine LeO.bind ?_ (fun _ => ?_))
      | exact ih0 _ _ _ _
      | exact LeO.none _
      | refine LeO.ite ?_ ?_
      | refine LeO.bind ?_ (fun _ => ?_)
set_option maxHeartbeats 8000000 in
set_option maxRecDepth 100000 in
theorem name_all.calls (k : Nat) (a0 : ByteArray) (a1 : ByteArray) (r : Bool) (w : World) (h : name_all.f k a0 a1 = some r) :
    Calls Tryd.prog 30 #[.string a0, .string a1] w fun e w' => e = .returned (.bool r) ∧ Drawn0 w w' := by
  have H : (name_all.l0 k a0 a1 (a0.size : Int) 0) = some r := h
  clear h
  have H' := Aside0.mk H
  clear H
  go_enter Tryd.func30, Tryd.ntmps30
  go_wp2
  go_loopg [8] k (fun kq v8 w' => ∃ (x8_1 : Int), v8 = .int .i64 x8_1 ∧ Aside0 (name_all.l0 kq a0 a1 (a0.size : Int) x8_1 = some r) ∧ Aside0 (kq ≤ k) ∧ Drawn0 w w')
  case atStart => exact ⟨(0), (by first | rfl | (simp; done) | (simp [*]; done)), H', ⟨Nat.le_refl _⟩, by repeat (first | exact Drawn0.refl _ | apply Drawn0.step)⟩
  case round =>
    clear H'
    try clear p2
    obtain ⟨x8_1, rfl, HA, HK1, ⟨m1, rfl⟩⟩ := hrel
    cases gk with
    | zero => exact absurd HA.out (by simp [name_all.l0])
    | succ k1 =>
      have H := HA.out
      clear HA
      simp only [name_all.l0] at H
      by_cases c3 : x8_1 < (a0.size : Int)
      · rw [if_pos c3] at H
        have c3b0 : decide (x8_1 < (a0.size : Int)) = true := decide_eq_true c3
        clear c3
        by_cases c4 : 0 ≤ x8_1
        · rw [if_pos c4] at H
          have c4b0 : decide (0 ≤ x8_1) = true := decide_eq_true c4
          clear c4
          by_cases c5 : x8_1 < (a0.size : Int)
          · rw [if_pos c5] at H
            have c5b0 : decide (x8_1 < (a0.size : Int)) = true := decide_eq_true c5
            clear c5
            replace H := Option.bind_eq_some_iff.mp H
            obtain ⟨t110, A70, H⟩ := H
            replace H : (if t110 = true then (name_all.l0 k1 a0 a1 (a0.size : Int) (wrap64 (x8_1 + 1))) else ((strings_IndexByte.f a1 (bt a0 x8_1)).bind fun t111 => (if t111 < 0 then (some false) else (name_all.l0 k1 a0 a1 (a0.size : Int) (wrap64 (x8_1 + 1)))))) = some r := H
            have A7 := Aside0.mk A70
            clear A70
            by_cases c8 : t110 = true
            · subst c8
              have H1 : (name_all.l0 k1 a0 a1 (a0.size : Int) (wrap64 (x8_1 + 1))) = some r := by rw [if_pos rfl] at H; exact H
              clear H
              have H := H1
              clear H1
              have H' := Aside0.mk H
              clear H
              have p6 : 0 ≤ (x8_1 : Int) := of_decide_eq_true (by first | (with_reducible assumption) | assumption)
              have q6 : x8_1 < (a0.size : Int) := of_decide_eq_true (by first | (with_reducible assumption) | assumption)
              have hx6 := bt_at a0 x8_1
              replace p6 := eq_true p6
              replace q6 := eq_true q6
              go_wp2_with (first | ((with_reducible refine gate_callee (f := 41) rfl ?_); refine goesL_ (some 14) rfl rfl Tryd.func41 (by kernel_rfl) rfl #[.int .u8 (bt a0 x8_1)] rfl (by (try simp only [List.map_toArray, List.map_cons, List.map_nil]); first | done | rfl | (simp only [List.length_drop, List.length_take]; rfl)) ?_; (with_reducible refine (name_plain.calls (bt a0 x8_1) true _ A7.out).mono ?_); rintro e w' ⟨rfl, ⟨nd, rfl⟩⟩; refine ⟨_, rfl, ?_⟩))
              go_roundg k1
              case measure => have := HK1.out; omega
              case rel => exact ⟨(wrap64 (x8_1 + 1)), (by first | rfl | (simp; done) | (simp [*]; done)), H', ⟨by have := HK1.out; omega⟩, by repeat (first | exact Drawn0.refl _ | apply Drawn0.step)⟩
            · replace c8 := Bool.eq_false_iff.mpr c8
              subst c8
              have H1 : ((strings_IndexByte.f a1 (bt a0 x8_1)).bind fun t111 => (if t111 < 0 then (some false) else (name_all.l0 k1 a0 a1 (a0.size : Int) (wrap64 (x8_1 + 1))))) = some r := by rw [if_neg (show ¬ (false = true) by decide)] at H; exact H
              clear H
              have H := H1
              clear H1
              replace H := Option.bind_eq_some_iff.mp H
              obtain ⟨t111, A100, H⟩ := H
              replace H : (if t111 < 0 then (some false) else (name_all.l0 k1 a0 a1 (a0.size : Int) (wrap64 (x8_1 + 1)))) = some r := H
              have A10 := Aside0.mk A100
              clear A100
              by_cases c11 : t111 < 0
              · rw [if_pos c11] at H
                have c11b0 : decide (t111 < 0) = true := decide_eq_true c11
                clear c11
                obtain rfl := Option.some.inj H
                have p6 : 0 ≤ (x8_1 : Int) := of_decide_eq_true (by first | (with_reducible assumption) | assumption)
                have q6 : x8_1 < (a0.size : Int) := of_decide_eq_true (by first | (with_reducible assumption) | assumption)
                have hx6 := bt_at a0 x8_1
                replace p6 := eq_true p6
                replace q6 := eq_true q6
                go_wp2_with (first | ((with_reducible refine gate_callee (f := 41) rfl ?_); refine goesL_ (some 14) rfl rfl Tryd.func41 (by kernel_rfl) rfl #[.int .u8 (bt a0 x8_1)] rfl (by (try simp only [List.map_toArray, List.map_cons, List.map_nil]); first | done | rfl | (simp only [List.length_drop, List.length_take]; rfl)) ?_; (with_reducible refine (name_plain.calls (bt a0 x8_1) false _ A7.out).mono ?_); rintro e w' ⟨rfl, ⟨nd, rfl⟩⟩; refine ⟨_, rfl, ?_⟩; have p9 : 0 ≤ (x8_1 : Int) := of_decide_eq_true (by first | (with_reducible assumption) | assumption); have q9 : x8_1 < (a0.size : Int) := of_decide_eq_true (by first | (with_reducible assumption) | assumption); have hx9 := bt_at a0 x8_1; replace p9 := eq_true p9; replace q9 := eq_true q9) | (go_at_call 42; (with_reducible refine (strings_IndexByte.calls a1 (bt a0 x8_1) t111 _ A10.out).mono ?_); rintro e w' ⟨rfl, ⟨nd, rfl⟩⟩))
                go_ret
                exact ⟨by first | rfl | (simp; done) | (simp [*]; done), by repeat (first | exact Drawn0.refl _ | apply Drawn0.step)⟩
              · rw [if_neg c11] at H
                have c11b0 : decide (t111 < 0) = false := decide_eq_false c11
                clear c11
                have H' := Aside0.mk H
                clear H
                have p6 : 0 ≤ (x8_1 : Int) := of_decide_eq_true (by first | (with_reducible assumption) | assumption)
                have q6 : x8_1 < (a0.size : Int) := of_decide_eq_true (by first | (with_reducible assumption) | assumption)
                have hx6 := bt_at a0 x8_1
                replace p6 := eq_true p6
                replace q6 := eq_true q6
                go_wp2_with (first | ((with_reducible refine gate_callee (f := 41) rfl ?_); refine goesL_ (some 14) rfl rfl Tryd.func41 (by kernel_rfl) rfl #[.int .u8 (bt a0 x8_1)] rfl (by (try simp only [List.map_toArray, List.map_cons, List.map_nil]); first | done | rfl | (simp only [List.length_drop, List.length_take]; rfl)) ?_; (with_reducible refine (name_plain.calls (bt a0 x8_1) false _ A7.out).mono ?_); rintro e w' ⟨rfl, ⟨nd, rfl⟩⟩; refine ⟨_, rfl, ?_⟩; have p9 : 0 ≤ (x8_1 : Int) := of_decide_eq_true (by first | (with_reducible assumption) | assumption); have q9 : x8_1 < (a0.size : Int) := of_decide_eq_true (by first | (with_reducible assumption) | assumption); have hx9 := bt_at a0 x8_1; replace p9 := eq_true p9; replace q9 := eq_true q9) | (go_at_call 42; (with_reducible refine (strings_IndexByte.calls a1 (bt a0 x8_1) t111 _ A10.out).mono ?_); rintro e w' ⟨rfl, ⟨nd, rfl⟩⟩))
                go_roundg k1
                case measure => have := HK1.out; omega
                case rel => exact ⟨(wrap64 (x8_1 + 1)), (by first | rfl | (simp; done) | (simp [*]; done)), H', ⟨by have := HK1.out; omega⟩, by repeat (first | exact Drawn0.refl _ | apply Drawn0.step)⟩
          · rw [if_neg c5] at H
            exact absurd H (by simp)
        · rw [if_neg c4] at H
          exact absurd H (by simp)
      · rw [if_neg c3] at H
        have c3b0 : decide (x8_1 < (a0.size : Int)) = false := decide_eq_false c3
        clear c3
        by_cases c12 : (a0.size : Int) ≥ 1
        · rw [if_pos c12] at H
          have c12b0 : decide (1 ≤ (a0.size : Int)) = true := decide_eq_true c12
          have c12b1 : decide (1 ≤ a0.size) = true := decide_eq_true (by omega)
          clear c12
          obtain rfl := Option.some.inj H
          go_wp2
          go_ret
          exact ⟨by first | rfl | (simp; done) | (simp [*]; done), by repeat (first | exact Drawn0.refl _ | apply Drawn0.step)⟩
        · rw [if_neg c12] at H
          have c12b0 : decide (1 ≤ (a0.size : Int)) = false := decide_eq_false c12
          have c12b1 : decide (1 ≤ a0.size) = false := decide_eq_false (by omega)
          clear c12
          obtain rfl := Option.some.inj H
          go_wp2
          go_ret
          exact ⟨by first | rfl | (simp; done) | (simp [*]; done), by repeat (first | exact Drawn0.refl _ | apply Drawn0.step)⟩
end Go.Proofs.YteejaaeglfpcmabDoor.PN

namespace Go.Proofs.YteejaaeglfpcmabDoor.PN
open Go.RowKit Go.Proofs.YteejaaeglfpcmabDoorW.PrintWords Go.Proofs.YteejaaeglfpcmabDoorW.PrintLast Go.Proofs.YteejaaeglfpcmabDoorW.PrintMore
attribute [local go_sem] max2_int min2_int max_two min_two max_three min_three max_four min_four   -- for this text's walks alone
set_option linter.unusedVariables false
set_option linter.unusedSimpArgs false
def name_Node.f (k : Nat) (a0 : ByteArray) : Option (Bool) := (strings_Cut.f a0 (⟨#[64]⟩ : ByteArray)).bind fun bt112 => ((name_all.f k bt112.1 (⟨#[]⟩ : ByteArray)).bind fun t115 => (if t115 = true then (if 0 < (bt112.1.size : Int) then ((name_letter.f (bt bt112.1 0)).bind fun t116 => (if t116 = true then (if bt112.2.2 = true then ((name_all.f k bt112.2.1 (⟨#[]⟩ : ByteArray)).bind fun t117 => (some t117)) else (some true)) else (if (bt bt112.1 0) = 95 then (if bt112.2.2 = true then ((name_all.f k bt112.2.1 (⟨#[]⟩ : ByteArray)).bind fun t118 => (some t118)) else (some true)) else (some false)))) else (none)) else (some false)))
theorem name_Node.mono : ∀ a0 k, LeO (name_Node.f k a0) (name_Node.f (k + 1) a0) := by
  intro a0 k
  unfold name_Node.f
  repeat' first
      | (with_reducible exact name_all.mono _ _ _)
      | (with_reducible exact LeO.refl _)
      | (with_reducible exact LeO.none _)
      | (with_reducible refine LeO.ite ?_ ?_)
      | (with_reducible refine LeO.bind ?_ (fun _ => ?_))
      | exact name_all.mono _ _ _
      | exact LeO.none _
      | refine LeO.ite ?_ ?_
      | refine LeO.bind ?_ (fun _ => ?_)
set_option maxHeartbeats 8000000 in
set_option maxRecDepth 100000 in
theorem name_Node.calls (k : Nat) (a0 : ByteArray) (r : Bool) (w : World) (h : name_Node.f k a0 = some r) :
    Calls Tryd.prog 17 #[.string a0] w fun e w' => e = .returned (.bool r) ∧ Drawn0 w w' := by
  have H : ((strings_Cut.f a0 (⟨#[64]⟩ : ByteArray)).bind fun bt112 => ((name_all.f k bt112.1 (⟨#[]⟩ : ByteArray)).bind fun t115 => (if t115 = true then (if 0 < (bt112.1.size : Int) then ((name_letter.f (bt bt112.1 0)).bind fun t116 => (if t116 = true then (if bt112.2.2 = true then ((name_all.f k bt112.2.1 (⟨#[]⟩ : ByteArray)).bind fun t117 => (some t117)) else (some true)) else (if (bt bt112.1 0) = 95 then (if bt112.2.2 = true then ((name_all.f k bt112.2.1 (⟨#[]⟩ : ByteArray)).bind fun t118 => (some t118)) else (some true)) else (some false)))) else (none)) else (some false)))) = some r := h
  clear h
  replace H := Option.bind_eq_some_iff.mp H
  obtain ⟨⟨t112, t113, t114⟩, A20, H⟩ := H
  replace H : ((name_all.f k t112 (⟨#[]⟩ : ByteArray)).bind fun t115 => (if t115 = true then (if 0 < (t112.size : Int) then ((name_letter.f (bt t112 0)).bind fun t116 => (if t116 = true then (if t114 = true then ((name_all.f k t113 (⟨#[]⟩ : ByteArray)).bind fun t117 => (some t117)) else (some true)) else (if (bt t112 0) = 95 then (if t114 = true then ((name_all.f k t113 (⟨#[]⟩ : ByteArray)).bind fun t118 => (some t118)) else (some true)) else (some false)))) else (none)) else (some false))) = some r := H
  have A2 := Aside0.mk A20
  clear A20
  replace H := Option.bind_eq_some_iff.mp H
  obtain ⟨t115, A30, H⟩ := H
  replace H : (if t115 = true then (if 0 < (t112.size : Int) then ((name_letter.f (bt t112 0)).bind fun t116 => (if t116 = true then (if t114 = true then ((name_all.f k t113 (⟨#[]⟩ : ByteArray)).bind fun t117 => (some t117)) else (some true)) else (if (bt t112 0) = 95 then (if t114 = true then ((name_all.f k t113 (⟨#[]⟩ : ByteArray)).bind fun t118 => (some t118)) else (some true)) else (some false)))) else (none)) else (some false)) = some r := H
  have A3 := Aside0.mk A30
  clear A30
  by_cases c4 : t115 = true
  · subst c4
    have H1 : (if 0 < (t112.size : Int) then ((name_letter.f (bt t112 0)).bind fun t116 => (if t116 = true then (if t114 = true then ((name_all.f k t113 (⟨#[]⟩ : ByteArray)).bind fun t117 => (some t117)) else (some true)) else (if (bt t112 0) = 95 then (if t114 = true then ((name_all.f k t113 (⟨#[]⟩ : ByteArray)).bind fun t118 => (some t118)) else (some true)) else (some false)))) else (none)) = some r := by rw [if_pos rfl] at H; exact H
    clear H
    have H := H1
    clear H1
    by_cases c5 : 0 < (t112.size : Int)
    · rw [if_pos c5] at H
      have c5b0 : decide (0 < (t112.size : Int)) = true := decide_eq_true c5
      have c5b1 : decide (0 < t112.size) = true := decide_eq_true (by omega)
      clear c5
      replace H := Option.bind_eq_some_iff.mp H
      obtain ⟨t116, A70, H⟩ := H
      replace H : (if t116 = true then (if t114 = true then ((name_all.f k t113 (⟨#[]⟩ : ByteArray)).bind fun t117 => (some t117)) else (some true)) else (if (bt t112 0) = 95 then (if t114 = true then ((name_all.f k t113 (⟨#[]⟩ : ByteArray)).bind fun t118 => (some t118)) else (some true)) else (some false))) = some r := H
      have A7 := Aside0.mk A70
      clear A70
      by_cases c8 : t116 = true
      · subst c8
        have H1 : (if t114 = true then ((name_all.f k t113 (⟨#[]⟩ : ByteArray)).bind fun t117 => (some t117)) else (some true)) = some r := by rw [if_pos rfl] at H; exact H
        clear H
        have H := H1
        clear H1
        by_cases c9 : t114 = true
        · subst c9
          have H1 : ((name_all.f k t113 (⟨#[]⟩ : ByteArray)).bind fun t117 => (some t117)) = some r := by rw [if_pos rfl] at H; exact H
          clear H
          have H := H1
          clear H1
          replace H := Option.bind_eq_some_iff.mp H
          obtain ⟨t117, A100, H⟩ := H
          replace H : (some t117) = some r := H
          have A10 := Aside0.mk A100
          clear A100
          obtain rfl := Option.some.inj H
          go_enter Tryd.func17, Tryd.ntmps17
          go_wp2_with (first | ((with_reducible refine gate_callee (f := 26) rfl ?_); refine goesL_ (some 8) rfl rfl Tryd.func26 (by kernel_rfl) rfl #[.string a0, .string (⟨#[64]⟩ : ByteArray)] rfl (by (try simp only [List.map_toArray, List.map_cons, List.map_nil]); first | done | rfl | (simp only [List.length_drop, List.length_take]; rfl)) ?_; (with_reducible refine (strings_Cut.calls a0 (⟨#[64]⟩ : ByteArray) t112 t113 true _ A2.out).mono ?_); rintro e w' ⟨rfl, ⟨nd, rfl⟩⟩; refine ⟨_, rfl, ?_⟩) | ((with_reducible refine gate_callee (f := 30) rfl ?_); refine goesL_ (some 13) rfl rfl Tryd.func30 (by kernel_rfl) rfl #[.string t112, .string (⟨#[]⟩ : ByteArray)] rfl (by (try simp only [List.map_toArray, List.map_cons, List.map_nil]); first | done | rfl | (simp only [List.length_drop, List.length_take]; rfl)) ?_; (with_reducible refine (name_all.calls k t112 (⟨#[]⟩ : ByteArray) true _ A3.out).mono ?_); rintro e w' ⟨rfl, ⟨nd, rfl⟩⟩; refine ⟨_, rfl, ?_⟩; have p6 : 0 ≤ (0 : Int) := (by omega); have q6 : 0 < t112.size := (by have : (0 : Int) < (t112.size : Int) := of_decide_eq_true (by first | (with_reducible assumption) | assumption); omega); have hx6 : ∀ h : 0 < t112.size, ((t112[0]'h).toNat : Int) = bt t112 0 := bt_at t112 0; clear p6; have qi6 : (0 < (t112.size : Int)) = True := eq_true (of_decide_eq_true (by first | (with_reducible assumption) | assumption)); replace q6 := eq_true q6) | (go_at_call 31; (with_reducible refine (name_letter.calls (bt t112 0) true _ A7.out).mono ?_); rintro e w' ⟨rfl, ⟨nd, rfl⟩⟩) | (go_at_call 30; (with_reducible refine (name_all.calls k t113 (⟨#[]⟩ : ByteArray) t117 _ A10.out).mono ?_); rintro e w' ⟨rfl, ⟨nd, rfl⟩⟩))
          go_ret
          exact ⟨by first | rfl | (simp; done) | (simp [*]; done), by repeat (first | exact Drawn0.refl _ | apply Drawn0.step)⟩
        · replace c9 := Bool.eq_false_iff.mpr c9
          subst c9
          have H1 : (some true) = some r := by rw [if_neg (show ¬ (false = true) by decide)] at H; exact H
          clear H
          have H := H1
          clear H1
          obtain rfl := Option.some.inj H
          go_enter Tryd.func17, Tryd.ntmps17
          go_wp2_with (first | ((with_reducible refine gate_callee (f := 26) rfl ?_); refine goesL_ (some 8) rfl rfl Tryd.func26 (by kernel_rfl) rfl #[.string a0, .string (⟨#[64]⟩ : ByteArray)] rfl (by (try simp only [List.map_toArray, List.map_cons, List.map_nil]); first | done | rfl | (simp only [List.length_drop, List.length_take]; rfl)) ?_; (with_reducible refine (strings_Cut.calls a0 (⟨#[64]⟩ : ByteArray) t112 t113 false _ A2.out).mono ?_); rintro e w' ⟨rfl, ⟨nd, rfl⟩⟩; refine ⟨_, rfl, ?_⟩) | ((with_reducible refine gate_callee (f := 30) rfl ?_); refine goesL_ (some 13) rfl rfl Tryd.func30 (by kernel_rfl) rfl #[.string t112, .string (⟨#[]⟩ : ByteArray)] rfl (by (try simp only [List.map_toArray, List.map_cons, List.map_nil]); first | done | rfl | (simp only [List.length_drop, List.length_take]; rfl)) ?_; (with_reducible refine (name_all.calls k t112 (⟨#[]⟩ : ByteArray) true _ A3.out).mono ?_); rintro e w' ⟨rfl, ⟨nd, rfl⟩⟩; refine ⟨_, rfl, ?_⟩; have p6 : 0 ≤ (0 : Int) := (by omega); have q6 : 0 < t112.size := (by have : (0 : Int) < (t112.size : Int) := of_decide_eq_true (by first | (with_reducible assumption) | assumption); omega); have hx6 : ∀ h : 0 < t112.size, ((t112[0]'h).toNat : Int) = bt t112 0 := bt_at t112 0; clear p6; have qi6 : (0 < (t112.size : Int)) = True := eq_true (of_decide_eq_true (by first | (with_reducible assumption) | assumption)); replace q6 := eq_true q6) | (go_at_call 31; (with_reducible refine (name_letter.calls (bt t112 0) true _ A7.out).mono ?_); rintro e w' ⟨rfl, ⟨nd, rfl⟩⟩))
          go_ret
          exact ⟨by first | rfl | (simp; done) | (simp [*]; done), by repeat (first | exact Drawn0.refl _ | apply Drawn0.step)⟩
      · replace c8 := Bool.eq_false_iff.mpr c8
        subst c8
        have H1 : (if (bt t112 0) = 95 then (if t114 = true then ((name_all.f k t113 (⟨#[]⟩ : ByteArray)).bind fun t118 => (some t118)) else (some true)) else (some false)) = some r := by rw [if_neg (show ¬ (false = true) by decide)] at H; exact H
        clear H
        have H := H1
        clear H1
        by_cases c12 : (bt t112 0) = 95
        · rw [if_pos c12] at H
          have c12b0 : ((bt t112 0) == 95) = true := beq_iff_eq.mpr c12
          have c12b1 : ((bt t112 0) != 95) = false := bne_eq_false_iff_eq.mpr c12
          clear c12
          by_cases c13 : t114 = true
          · subst c13
            have H1 : ((name_all.f k t113 (⟨#[]⟩ : ByteArray)).bind fun t118 => (some t118)) = some r := by rw [if_pos rfl] at H; exact H
            clear H
            have H := H1
            clear H1
            replace H := Option.bind_eq_some_iff.mp H
            obtain ⟨t118, A140, H⟩ := H
            replace H : (some t118) = some r := H
            have A14 := Aside0.mk A140
            clear A140
            obtain rfl := Option.some.inj H
            go_enter Tryd.func17, Tryd.ntmps17
            go_wp2_with (first | ((with_reducible refine gate_callee (f := 26) rfl ?_); refine goesL_ (some 8) rfl rfl Tryd.func26 (by kernel_rfl) rfl #[.string a0, .string (⟨#[64]⟩ : ByteArray)] rfl (by (try simp only [List.map_toArray, List.map_cons, List.map_nil]); first | done | rfl | (simp only [List.length_drop, List.length_take]; rfl)) ?_; (with_reducible refine (strings_Cut.calls a0 (⟨#[64]⟩ : ByteArray) t112 t113 true _ A2.out).mono ?_); rintro e w' ⟨rfl, ⟨nd, rfl⟩⟩; refine ⟨_, rfl, ?_⟩) | ((with_reducible refine gate_callee (f := 30) rfl ?_); refine goesL_ (some 13) rfl rfl Tryd.func30 (by kernel_rfl) rfl #[.string t112, .string (⟨#[]⟩ : ByteArray)] rfl (by (try simp only [List.map_toArray, List.map_cons, List.map_nil]); first | done | rfl | (simp only [List.length_drop, List.length_take]; rfl)) ?_; (with_reducible refine (name_all.calls k t112 (⟨#[]⟩ : ByteArray) true _ A3.out).mono ?_); rintro e w' ⟨rfl, ⟨nd, rfl⟩⟩; refine ⟨_, rfl, ?_⟩; have p6 : 0 ≤ (0 : Int) := (by omega); have q6 : 0 < t112.size := (by have : (0 : Int) < (t112.size : Int) := of_decide_eq_true (by first | (with_reducible assumption) | assumption); omega); have hx6 : ∀ h : 0 < t112.size, ((t112[0]'h).toNat : Int) = bt t112 0 := bt_at t112 0; clear p6; have qi6 : (0 < (t112.size : Int)) = True := eq_true (of_decide_eq_true (by first | (with_reducible assumption) | assumption)); replace q6 := eq_true q6) | (go_at_call 31; (with_reducible refine (name_letter.calls (bt t112 0) false _ A7.out).mono ?_); rintro e w' ⟨rfl, ⟨nd, rfl⟩⟩; have p11 : 0 ≤ (0 : Int) := (by omega); have q11 : 0 < t112.size := (by have : (0 : Int) < (t112.size : Int) := of_decide_eq_true (by first | (with_reducible assumption) | assumption); omega); have hx11 : ∀ h : 0 < t112.size, ((t112[0]'h).toNat : Int) = bt t112 0 := bt_at t112 0; clear p11; have qi11 : (0 < (t112.size : Int)) = True := eq_true (of_decide_eq_true (by first | (with_reducible assumption) | assumption)); replace q11 := eq_true q11) | (go_at_call 30; (with_reducible refine (name_all.calls k t113 (⟨#[]⟩ : ByteArray) t118 _ A14.out).mono ?_); rintro e w' ⟨rfl, ⟨nd, rfl⟩⟩))
            go_ret
            exact ⟨by first | rfl | (simp; done) | (simp [*]; done), by repeat (first | exact Drawn0.refl _ | apply Drawn0.step)⟩
          · replace c13 := Bool.eq_false_iff.mpr c13
            subst c13
            have H1 : (some true) = some r := by rw [if_neg (show ¬ (false = true) by decide)] at H; exact H
            clear H
            have H := H1
            clear H1
            obtain rfl := Option.some.inj H
            go_enter Tryd.func17, Tryd.ntmps17
            go_wp2_with (first | ((with_reducible refine gate_callee (f := 26) rfl ?_); refine goesL_ (some 8) rfl rfl Tryd.func26 (by kernel_rfl) rfl #[.string a0, .string (⟨#[64]⟩ : ByteArray)] rfl (by (try simp only [List.map_toArray, List.map_cons, List.map_nil]); first | done | rfl | (simp only [List.length_drop, List.length_take]; rfl)) ?_; (with_reducible refine (strings_Cut.calls a0 (⟨#[64]⟩ : ByteArray) t112 t113 false _ A2.out).mono ?_); rintro e w' ⟨rfl, ⟨nd, rfl⟩⟩; refine ⟨_, rfl, ?_⟩) | ((with_reducible refine gate_callee (f := 30) rfl ?_); refine goesL_ (some 13) rfl rfl Tryd.func30 (by kernel_rfl) rfl #[.string t112, .string (⟨#[]⟩ : ByteArray)] rfl (by (try simp only [List.map_toArray, List.map_cons, List.map_nil]); first | done | rfl | (simp only [List.length_drop, List.length_take]; rfl)) ?_; (with_reducible refine (name_all.calls k t112 (⟨#[]⟩ : ByteArray) true _ A3.out).mono ?_); rintro e w' ⟨rfl, ⟨nd, rfl⟩⟩; refine ⟨_, rfl, ?_⟩; have p6 : 0 ≤ (0 : Int) := (by omega); have q6 : 0 < t112.size := (by have : (0 : Int) < (t112.size : Int) := of_decide_eq_true (by first | (with_reducible assumption) | assumption); omega); have hx6 : ∀ h : 0 < t112.size, ((t112[0]'h).toNat : Int) = bt t112 0 := bt_at t112 0; clear p6; have qi6 : (0 < (t112.size : Int)) = True := eq_true (of_decide_eq_true (by first | (with_reducible assumption) | assumption)); replace q6 := eq_true q6) | (go_at_call 31; (with_reducible refine (name_letter.calls (bt t112 0) false _ A7.out).mono ?_); rintro e w' ⟨rfl, ⟨nd, rfl⟩⟩; have p11 : 0 ≤ (0 : Int) := (by omega); have q11 : 0 < t112.size := (by have : (0 : Int) < (t112.size : Int) := of_decide_eq_true (by first | (with_reducible assumption) | assumption); omega); have hx11 : ∀ h : 0 < t112.size, ((t112[0]'h).toNat : Int) = bt t112 0 := bt_at t112 0; clear p11; have qi11 : (0 < (t112.size : Int)) = True := eq_true (of_decide_eq_true (by first | (with_reducible assumption) | assumption)); replace q11 := eq_true q11))
            go_ret
            exact ⟨by first | rfl | (simp; done) | (simp [*]; done), by repeat (first | exact Drawn0.refl _ | apply Drawn0.step)⟩
        · rw [if_neg c12] at H
          have c12b0 : ((bt t112 0) == 95) = false := beq_eq_false_iff_ne.mpr c12
          have c12b1 : ((bt t112 0) != 95) = true := bne_iff_ne.mpr c12
          obtain rfl := Option.some.inj H
          go_enter Tryd.func17, Tryd.ntmps17
          go_wp2_with (first | ((with_reducible refine gate_callee (f := 26) rfl ?_); refine goesL_ (some 8) rfl rfl Tryd.func26 (by kernel_rfl) rfl #[.string a0, .string (⟨#[64]⟩ : ByteArray)] rfl (by (try simp only [List.map_toArray, List.map_cons, List.map_nil]); first | done | rfl | (simp only [List.length_drop, List.length_take]; rfl)) ?_; (with_reducible refine (strings_Cut.calls a0 (⟨#[64]⟩ : ByteArray) t112 t113 t114 _ A2.out).mono ?_); rintro e w' ⟨rfl, ⟨nd, rfl⟩⟩; refine ⟨_, rfl, ?_⟩) | ((with_reducible refine gate_callee (f := 30) rfl ?_); refine goesL_ (some 13) rfl rfl Tryd.func30 (by kernel_rfl) rfl #[.string t112, .string (⟨#[]⟩ : ByteArray)] rfl (by (try simp only [List.map_toArray, List.map_cons, List.map_nil]); first | done | rfl | (simp only [List.length_drop, List.length_take]; rfl)) ?_; (with_reducible refine (name_all.calls k t112 (⟨#[]⟩ : ByteArray) true _ A3.out).mono ?_); rintro e w' ⟨rfl, ⟨nd, rfl⟩⟩; refine ⟨_, rfl, ?_⟩; have p6 : 0 ≤ (0 : Int) := (by omega); have q6 : 0 < t112.size := (by have : (0 : Int) < (t112.size : Int) := of_decide_eq_true (by first | (with_reducible assumption) | assumption); omega); have hx6 : ∀ h : 0 < t112.size, ((t112[0]'h).toNat : Int) = bt t112 0 := bt_at t112 0; clear p6; have qi6 : (0 < (t112.size : Int)) = True := eq_true (of_decide_eq_true (by first | (with_reducible assumption) | assumption)); replace q6 := eq_true q6) | (go_at_call 31; (with_reducible refine (name_letter.calls (bt t112 0) false _ A7.out).mono ?_); rintro e w' ⟨rfl, ⟨nd, rfl⟩⟩; have p11 : 0 ≤ (0 : Int) := (by omega); have q11 : 0 < t112.size := (by have : (0 : Int) < (t112.size : Int) := of_decide_eq_true (by first | (with_reducible assumption) | assumption); omega); have hx11 : ∀ h : 0 < t112.size, ((t112[0]'h).toNat : Int) = bt t112 0 := bt_at t112 0; clear p11; have qi11 : (0 < (t112.size : Int)) = True := eq_true (of_decide_eq_true (by first | (with_reducible assumption) | assumption)); replace q11 := eq_true q11))
          go_ret
          exact ⟨by first | rfl | (simp; done) | (simp [*]; done), by repeat (first | exact Drawn0.refl _ | apply Drawn0.step)⟩
    · rw [if_neg c5] at H
      exact absurd H (by simp)
  · replace c4 := Bool.eq_false_iff.mpr c4
    subst c4
    have H1 : (some false) = some r := by rw [if_neg (show ¬ (false = true) by decide)] at H; exact H
    clear H
    have H := H1
    clear H1
    obtain rfl := Option.some.inj H
    go_enter Tryd.func17, Tryd.ntmps17
    go_wp2_with (first | ((with_reducible refine gate_callee (f := 26) rfl ?_); refine goesL_ (some 8) rfl rfl Tryd.func26 (by kernel_rfl) rfl #[.string a0, .string (⟨#[64]⟩ : ByteArray)] rfl (by (try simp only [List.map_toArray, List.map_cons, List.map_nil]); first | done | rfl | (simp only [List.length_drop, List.length_take]; rfl)) ?_; (with_reducible refine (strings_Cut.calls a0 (⟨#[64]⟩ : ByteArray) t112 t113 t114 _ A2.out).mono ?_); rintro e w' ⟨rfl, ⟨nd, rfl⟩⟩; refine ⟨_, rfl, ?_⟩) | ((with_reducible refine gate_callee (f := 30) rfl ?_); refine goesL_ (some 13) rfl rfl Tryd.func30 (by kernel_rfl) rfl #[.string t112, .string (⟨#[]⟩ : ByteArray)] rfl (by (try simp only [List.map_toArray, List.map_cons, List.map_nil]); first | done | rfl | (simp only [List.length_drop, List.length_take]; rfl)) ?_; (with_reducible refine (name_all.calls k t112 (⟨#[]⟩ : ByteArray) false _ A3.out).mono ?_); rintro e w' ⟨rfl, ⟨nd, rfl⟩⟩; refine ⟨_, rfl, ?_⟩))
    go_ret
    exact ⟨by first | rfl | (simp; done) | (simp [*]; done), by repeat (first | exact Drawn0.refl _ | apply Drawn0.step)⟩
end Go.Proofs.YteejaaeglfpcmabDoor.PN

namespace Go.Proofs.YteejaaeglfpcmabDoor.PN
open Go.RowKit Go.Proofs.YteejaaeglfpcmabDoorW.PrintWords Go.Proofs.YteejaaeglfpcmabDoorW.PrintLast Go.Proofs.YteejaaeglfpcmabDoorW.PrintMore
attribute [local go_sem] max2_int min2_int max_two min_two max_three min_three max_four min_four   -- for this text's walks alone
set_option linter.unusedVariables false
set_option linter.unusedSimpArgs false
def arboretlaw02_awake.f (k : Nat)  : Option (Bool) := (name_Node.f k (⟨#[97, 64, 49]⟩ : ByteArray)).bind fun t119 => (if t119 = true then ((name_Node.f k (⟨#[]⟩ : ByteArray)).bind fun t120 => (some (!t120))) else (some false))
theorem arboretlaw02_awake.mono : ∀ k, LeO (arboretlaw02_awake.f k ) (arboretlaw02_awake.f (k + 1) ) := by
  intro  k
  unfold arboretlaw02_awake.f
  repeat' first
      | (with_reducible exact name_Node.mono _ _)
      | (with_reducible exact LeO.refl _)
      | (with_reducible exact LeO.none _)
      | (with_reducible refine LeO.ite ?_ ?_)
      | (with_reducible refine LeO.bind ?_ (fun _ => ?_))
      | exact name_Node.mono _ _
      | exact LeO.none _
      | refine LeO.ite ?_ ?_
      | refine LeO.bind ?_ (fun _ => ?_)
set_option maxHeartbeats 8000000 in
set_option maxRecDepth 100000 in
theorem arboretlaw02_awake.calls (k : Nat)  (r : Bool) (w : World) (h : arboretlaw02_awake.f k  = some r) :
    Calls Tryd.prog 15 #[] w fun e w' => e = .returned (.bool r) ∧ Drawn0 w w' := by
  have H : ((name_Node.f k (⟨#[97, 64, 49]⟩ : ByteArray)).bind fun t119 => (if t119 = true then ((name_Node.f k (⟨#[]⟩ : ByteArray)).bind fun t120 => (some (!t120))) else (some false))) = some r := h
  clear h
  replace H := Option.bind_eq_some_iff.mp H
  obtain ⟨t119, A10, H⟩ := H
  replace H : (if t119 = true then ((name_Node.f k (⟨#[]⟩ : ByteArray)).bind fun t120 => (some (!t120))) else (some false)) = some r := H
  have A1 := Aside0.mk A10
  clear A10
  by_cases c2 : t119 = true
  · subst c2
    have H1 : ((name_Node.f k (⟨#[]⟩ : ByteArray)).bind fun t120 => (some (!t120))) = some r := by rw [if_pos rfl] at H; exact H
    clear H
    have H := H1
    clear H1
    replace H := Option.bind_eq_some_iff.mp H
    obtain ⟨t120, A30, H⟩ := H
    replace H : (some (!t120)) = some r := H
    have A3 := Aside0.mk A30
    clear A30
    obtain rfl := Option.some.inj H
    go_enter Tryd.func15, Tryd.ntmps15
    go_wp2_with (first | ((with_reducible refine gate_callee (f := 17) rfl ?_); refine goesL_ (some 1) rfl rfl Tryd.func17 (by kernel_rfl) rfl #[.string (⟨#[97, 64, 49]⟩ : ByteArray)] rfl (by (try simp only [List.map_toArray, List.map_cons, List.map_nil]); first | done | rfl | (simp only [List.length_drop, List.length_take]; rfl)) ?_; (with_reducible refine (name_Node.calls k (⟨#[97, 64, 49]⟩ : ByteArray) true _ A1.out).mono ?_); rintro e w' ⟨rfl, ⟨nd, rfl⟩⟩; refine ⟨_, rfl, ?_⟩) | (go_at_call 17; (with_reducible refine (name_Node.calls k (⟨#[]⟩ : ByteArray) t120 _ A3.out).mono ?_); rintro e w' ⟨rfl, ⟨nd, rfl⟩⟩))
    go_ret
    exact ⟨by first | rfl | (simp; done) | (simp [*]; done), by repeat (first | exact Drawn0.refl _ | apply Drawn0.step)⟩
  · replace c2 := Bool.eq_false_iff.mpr c2
    subst c2
    have H1 : (some false) = some r := by rw [if_neg (show ¬ (false = true) by decide)] at H; exact H
    clear H
    have H := H1
    clear H1
    obtain rfl := Option.some.inj H
    go_enter Tryd.func15, Tryd.ntmps15
    go_wp2_with (first | ((with_reducible refine gate_callee (f := 17) rfl ?_); refine goesL_ (some 1) rfl rfl Tryd.func17 (by kernel_rfl) rfl #[.string (⟨#[97, 64, 49]⟩ : ByteArray)] rfl (by (try simp only [List.map_toArray, List.map_cons, List.map_nil]); first | done | rfl | (simp only [List.length_drop, List.length_take]; rfl)) ?_; (with_reducible refine (name_Node.calls k (⟨#[97, 64, 49]⟩ : ByteArray) false _ A1.out).mono ?_); rintro e w' ⟨rfl, ⟨nd, rfl⟩⟩; refine ⟨_, rfl, ?_⟩))
    go_ret
    exact ⟨by first | rfl | (simp; done) | (simp [*]; done), by repeat (first | exact Drawn0.refl _ | apply Drawn0.step)⟩
end Go.Proofs.YteejaaeglfpcmabDoor.PN

namespace Go.Proofs.YteejaaeglfpcmabDoor.PN
open Go.RowKit Go.Proofs.YteejaaeglfpcmabDoorW.PrintWords Go.Proofs.YteejaaeglfpcmabDoorW.PrintLast Go.Proofs.YteejaaeglfpcmabDoorW.PrintMore
attribute [local go_sem] max2_int min2_int max_two min_two max_three min_three max_four min_four   -- for this text's walks alone
set_option linter.unusedVariables false
set_option linter.unusedSimpArgs false
def name_Split.f (a0 : ByteArray) : Option (ByteArray × ByteArray) := (strings_Cut.f a0 (⟨#[64]⟩ : ByteArray)).bind fun bt121 => (some (bt121.1, bt121.2.1))
set_option maxHeartbeats 8000000 in
set_option maxRecDepth 100000 in
theorem name_Split.calls (a0 : ByteArray) (r1 : ByteArray) (r2 : ByteArray) (w : World) (h : name_Split.f a0 = some (r1, r2)) :
    Calls Tryd.prog 27 #[.string a0] w fun e w' => e = .returned (.tuple #[.string r1, .string r2]) ∧ Drawn0 w w' := by
  have H : ((strings_Cut.f a0 (⟨#[64]⟩ : ByteArray)).bind fun bt121 => (some (bt121.1, bt121.2.1))) = some (r1, r2) := h
  clear h
  replace H := Option.bind_eq_some_iff.mp H
  obtain ⟨⟨t121, t122, t123⟩, A20, H⟩ := H
  replace H : (some (t121, t122)) = some (r1, r2) := H
  have A2 := Aside0.mk A20
  clear A20
  simp only [Option.some.injEq, Prod.mk.injEq] at H
  obtain ⟨rfl, rfl⟩ := H
  go_enter Tryd.func27, Tryd.ntmps27
  go_wp2_with (first | ((with_reducible refine gate_callee (f := 26) rfl ?_); refine goesL_ (some 9) rfl rfl Tryd.func26 (by kernel_rfl) rfl #[.string a0, .string (⟨#[64]⟩ : ByteArray)] rfl (by (try simp only [List.map_toArray, List.map_cons, List.map_nil]); first | done | rfl | (simp only [List.length_drop, List.length_take]; rfl)) ?_; (with_reducible refine (strings_Cut.calls a0 (⟨#[64]⟩ : ByteArray) t121 t122 t123 _ A2.out).mono ?_); rintro e w' ⟨rfl, ⟨nd, rfl⟩⟩; refine ⟨_, rfl, ?_⟩))
  go_ret2
  exact ⟨by first | rfl | (simp; done) | (simp [*]; done), by repeat (first | exact Drawn0.refl _ | apply Drawn0.step)⟩
end Go.Proofs.YteejaaeglfpcmabDoor.PN

namespace Go.Proofs.YteejaaeglfpcmabDoor.PN
open Go.RowKit Go.Proofs.YteejaaeglfpcmabDoorW.PrintWords Go.Proofs.YteejaaeglfpcmabDoorW.PrintLast Go.Proofs.YteejaaeglfpcmabDoorW.PrintMore
attribute [local go_sem] max2_int min2_int max_two min_two max_three min_three max_four min_four   -- for this text's walks alone
set_option linter.unusedVariables false
set_option linter.unusedSimpArgs false
def name_hex.f (a0 : Int) : Option (Bool) := if a0 ≥ 48 then (if a0 ≤ 57 then (some true) else (if a0 ≥ 97 then (if a0 ≤ 102 then (some true) else (if a0 ≥ 65 then (some (decide (a0 ≤ 70))) else (some false))) else (if a0 ≥ 65 then (some (decide (a0 ≤ 70))) else (some false)))) else (if a0 ≥ 97 then (if a0 ≤ 102 then (some true) else (if a0 ≥ 65 then (some (decide (a0 ≤ 70))) else (some false))) else (if a0 ≥ 65 then (some (decide (a0 ≤ 70))) else (some false)))
set_option maxHeartbeats 8000000 in
set_option maxRecDepth 100000 in
theorem name_hex.calls (a0 : Int) (r : Bool) (w : World) (h : name_hex.f a0 = some r) :
    Calls Tryd.prog 28 #[.int .u8 a0] w fun e w' => e = .returned (.bool r) ∧ Drawn0 w w' := by
  have H : (if a0 ≥ 48 then (if a0 ≤ 57 then (some true) else (if a0 ≥ 97 then (if a0 ≤ 102 then (some true) else (if a0 ≥ 65 then (some (decide (a0 ≤ 70))) else (some false))) else (if a0 ≥ 65 then (some (decide (a0 ≤ 70))) else (some false)))) else (if a0 ≥ 97 then (if a0 ≤ 102 then (some true) else (if a0 ≥ 65 then (some (decide (a0 ≤ 70))) else (some false))) else (if a0 ≥ 65 then (some (decide (a0 ≤ 70))) else (some false)))) = some r := h
  clear h
  by_cases c2 : a0 ≥ 48
  · rw [if_pos c2] at H
    have c2b0 : decide (48 ≤ a0) = true := decide_eq_true c2
    clear c2
    by_cases c3 : a0 ≤ 57
    · rw [if_pos c3] at H
      have c3b0 : decide (a0 ≤ 57) = true := decide_eq_true c3
      clear c3
      obtain rfl := Option.some.inj H
      go_enter Tryd.func28, Tryd.ntmps28
      go_wp2
      go_ret
      exact ⟨by first | rfl | (simp; done) | (simp [*]; done), by repeat (first | exact Drawn0.refl _ | apply Drawn0.step)⟩
    · rw [if_neg c3] at H
      have c3b0 : decide (a0 ≤ 57) = false := decide_eq_false c3
      clear c3
      by_cases c4 : a0 ≥ 97
      · rw [if_pos c4] at H
        have c4b0 : decide (97 ≤ a0) = true := decide_eq_true c4
        clear c4
        by_cases c5 : a0 ≤ 102
        · rw [if_pos c5] at H
          have c5b0 : decide (a0 ≤ 102) = true := decide_eq_true c5
          clear c5
          obtain rfl := Option.some.inj H
          go_enter Tryd.func28, Tryd.ntmps28
          go_wp2
          go_ret
          exact ⟨by first | rfl | (simp; done) | (simp [*]; done), by repeat (first | exact Drawn0.refl _ | apply Drawn0.step)⟩
        · rw [if_neg c5] at H
          have c5b0 : decide (a0 ≤ 102) = false := decide_eq_false c5
          clear c5
          by_cases c6 : a0 ≥ 65
          · rw [if_pos c6] at H
            have c6b0 : decide (65 ≤ a0) = true := decide_eq_true c6
            clear c6
            obtain rfl := Option.some.inj H
            go_enter Tryd.func28, Tryd.ntmps28
            go_wp2
            go_ret
            exact ⟨by first | rfl | (simp; done) | (simp [*]; done), by repeat (first | exact Drawn0.refl _ | apply Drawn0.step)⟩
          · rw [if_neg c6] at H
            have c6b0 : decide (65 ≤ a0) = false := decide_eq_false c6
            clear c6
            obtain rfl := Option.some.inj H
            go_enter Tryd.func28, Tryd.ntmps28
            go_wp2
            go_ret
            exact ⟨by first | rfl | (simp; done) | (simp [*]; done), by repeat (first | exact Drawn0.refl _ | apply Drawn0.step)⟩
      · rw [if_neg c4] at H
        have c4b0 : decide (97 ≤ a0) = false := decide_eq_false c4
        clear c4
        by_cases c7 : a0 ≥ 65
        · rw [if_pos c7] at H
          have c7b0 : decide (65 ≤ a0) = true := decide_eq_true c7
          clear c7
          obtain rfl := Option.some.inj H
          go_enter Tryd.func28, Tryd.ntmps28
          go_wp2
          go_ret
          exact ⟨by first | rfl | (simp; done) | (simp [*]; done), by repeat (first | exact Drawn0.refl _ | apply Drawn0.step)⟩
        · rw [if_neg c7] at H
          have c7b0 : decide (65 ≤ a0) = false := decide_eq_false c7
          clear c7
          obtain rfl := Option.some.inj H
          go_enter Tryd.func28, Tryd.ntmps28
          go_wp2
          go_ret
          exact ⟨by first | rfl | (simp; done) | (simp [*]; done), by repeat (first | exact Drawn0.refl _ | apply Drawn0.step)⟩
  · rw [if_neg c2] at H
    have c2b0 : decide (48 ≤ a0) = false := decide_eq_false c2
    clear c2
    by_cases c8 : a0 ≥ 97
    · rw [if_pos c8] at H
      have c8b0 : decide (97 ≤ a0) = true := decide_eq_true c8
      clear c8
      by_cases c9 : a0 ≤ 102
      · rw [if_pos c9] at H
        have c9b0 : decide (a0 ≤ 102) = true := decide_eq_true c9
        clear c9
        obtain rfl := Option.some.inj H
        go_enter Tryd.func28, Tryd.ntmps28
        go_wp2
        go_ret
        exact ⟨by first | rfl | (simp; done) | (simp [*]; done), by repeat (first | exact Drawn0.refl _ | apply Drawn0.step)⟩
      · rw [if_neg c9] at H
        have c9b0 : decide (a0 ≤ 102) = false := decide_eq_false c9
        clear c9
        by_cases c10 : a0 ≥ 65
        · rw [if_pos c10] at H
          have c10b0 : decide (65 ≤ a0) = true := decide_eq_true c10
          clear c10
          obtain rfl := Option.some.inj H
          go_enter Tryd.func28, Tryd.ntmps28
          go_wp2
          go_ret
          exact ⟨by first | rfl | (simp; done) | (simp [*]; done), by repeat (first | exact Drawn0.refl _ | apply Drawn0.step)⟩
        · rw [if_neg c10] at H
          have c10b0 : decide (65 ≤ a0) = false := decide_eq_false c10
          clear c10
          obtain rfl := Option.some.inj H
          go_enter Tryd.func28, Tryd.ntmps28
          go_wp2
          go_ret
          exact ⟨by first | rfl | (simp; done) | (simp [*]; done), by repeat (first | exact Drawn0.refl _ | apply Drawn0.step)⟩
    · rw [if_neg c8] at H
      have c8b0 : decide (97 ≤ a0) = false := decide_eq_false c8
      clear c8
      by_cases c11 : a0 ≥ 65
      · rw [if_pos c11] at H
        have c11b0 : decide (65 ≤ a0) = true := decide_eq_true c11
        clear c11
        obtain rfl := Option.some.inj H
        go_enter Tryd.func28, Tryd.ntmps28
        go_wp2
        go_ret
        exact ⟨by first | rfl | (simp; done) | (simp [*]; done), by repeat (first | exact Drawn0.refl _ | apply Drawn0.step)⟩
      · rw [if_neg c11] at H
        have c11b0 : decide (65 ≤ a0) = false := decide_eq_false c11
        clear c11
        obtain rfl := Option.some.inj H
        go_enter Tryd.func28, Tryd.ntmps28
        go_wp2
        go_ret
        exact ⟨by first | rfl | (simp; done) | (simp [*]; done), by repeat (first | exact Drawn0.refl _ | apply Drawn0.step)⟩
end Go.Proofs.YteejaaeglfpcmabDoor.PN

namespace Go.Proofs.YteejaaeglfpcmabDoor.PN
open Go.RowKit Go.Proofs.YteejaaeglfpcmabDoorW.PrintWords Go.Proofs.YteejaaeglfpcmabDoorW.PrintLast Go.Proofs.YteejaaeglfpcmabDoorW.PrintMore
attribute [local go_sem] max2_int min2_int max_two min_two max_three min_three max_four min_four   -- for this text's walks alone
set_option linter.unusedVariables false
set_option linter.unusedSimpArgs false
def hexOk (c : Nat) : Prop := (48 ≤ c ∧ c ≤ 57) ∨ (65 ≤ c ∧ c ≤ 70) ∨ (97 ≤ c ∧ c ≤ 102)
instance (c : Nat) : Decidable (hexOk c) := by unfold hexOk; infer_instance
def hexD (c : Nat) : Nat := if c ≤ 57 then c - 48 else if c ≤ 70 then c - 55 else c - 87
def hexVal : Nat → List UInt8 → Nat
  | acc, [] => acc
  | acc, c :: l => hexVal (acc * 16 + hexD c.toNat) l
theorem hexD_lt {c : Nat} (h : hexOk c) : hexD c < 16 := by
  unfold hexOk at h
  unfold hexD
  split
  · omega
  · split <;> omega
theorem lower_hex (c : UInt8) (h : hexOk c.toNat) (h9 : ¬ c.toNat ≤ 57) : Go.bits .or .u8 (c.toNat : Int) 32 = ((hexD c.toNat + 87 : Nat) : Int) := by
  have key : ∀ n : Fin 256, hexOk n.val → ¬ n.val ≤ 57 → Go.bits .or .u8 ((n.val : Nat) : Int) 32 = ((hexD n.val + 87 : Nat) : Int) := by decide +kernel
  exact key ⟨c.toNat, c.toNat_lt⟩ h h9
set_option maxRecDepth 100000 in
theorem lower_same (a : Int) (w : World) : Calls Tryd.prog 50 #[.int .u8 a] w fun e w' => e = .returned (.int .u8 (Go.bits .or .u8 a 32)) ∧ w' = w := by
  go_enter Tryd.func50, Tryd.ntmps50
  go_wp2
  go_ret
  exact ⟨rfl, rfl⟩
set_option maxHeartbeats 32000000 in
set_option maxRecDepth 100000 in
theorem ParseUint_hex (t : ByteArray) (hne : t.size ≠ 0) (hmax : t.size ≤ 16) (hx : ∀ c ∈ t.data.toList, hexOk c.toNat) (w : World) :
    Calls Tryd.prog 39 #[.string t, .int .i64 16, .int .i64 64] w fun e w' => e = .returned (.tuple #[.int .u64 (hexVal 0 t.data.toList : Nat), .nilIface]) ∧ w' = Lib.bytesWorld w 5 t := by
  have hemp : t.toList.isEmpty = false := by
    rw [← decide_eq_emptyBytes]
    exact decide_eq_false (fun h => hne (by rw [h]; rfl))
  have hcv := Lib.run_convert_string_bytes (P := Tryd.prog) w 9 22 5 t (u := .string) Tryd.underlying9 Tryd.underlying22 Tryd.underlying5
  have hB : ∀ j, j < t.size → (Lib.bytesWorld w 5 t).cell? ⟨w.heap.size, j, none⟩ = some (.int .u8 (t.data.toList.getD j 0).toNat) := fun j hj => Lib.bytesWorld_cell w 5 t j hj
  obtain ⟨W1, hW1⟩ : ∃ W1, W1 = Lib.bytesWorld w 5 t := ⟨_, rfl⟩
  rw [← hW1] at hcv hB ⊢
  clear hW1
  obtain ⟨bs, hL⟩ : ∃ bs, bs = t.data.toList := ⟨_, rfl⟩
  have hLn : bs.length = t.size := by rw [hL, Lib.size_eq]
  rw [← hL] at hB hx ⊢
  clear hL
  have hmv : IntKind.u64.wrap (IntKind.u64.wrap 18446744073709551616 - 1) = 18446744073709551615 := by
    rw [IntKind.wrap_u64, IntKind.wrap_u64]
    decide
  go_enter Tryd.func39, Tryd.ntmps39
  go_wp2
  go_loop [12, 13, 101] (fun vu vn vi => ∃ (k acc : Nat) (a : Int), vu = .bool false ∧ vn = .int .u64 a ∧ vi = .int .i64 k ∧ k ≤ t.size ∧ Hid (a = (acc : Int) ∧ acc < 16 ^ k ∧ hexVal 0 bs = hexVal acc (bs.drop k)))
    (fun _ _ vi => t.size - (intOf vi).toNat)
  case atStart => exact ⟨0, 0, 0, rfl, rfl, rfl, by omega, Lib.hid ⟨rfl, by decide, rfl⟩⟩
  case round =>
    obtain ⟨k, acc, a, rfl, rfl, rfl, hk, hh⟩ := hrel
    obtain ⟨ha, hacc, hdec⟩ := hh.out
    clear hh
    by_cases hkn : k < t.size
    · have hc := hB k hkn
      have hdrop : bs.drop k = bs[k]'(by omega) :: bs.drop (k + 1) := List.drop_eq_getElem_cons (by omega)
      have hget : bs.getD k 0 = bs[k]'(by omega) := by simp [List.getD, List.getElem?_eq_getElem (show k < bs.length by omega)]
      have hok : hexOk (bs[k]'(by omega)).toNat := hx _ (List.getElem_mem _)
      rw [hdrop] at hdec
      rw [hget] at hc
      generalize bs[k]'(by omega) = c at hc hdec hok
      have hc256 : c.toNat < 256 := c.toNat_lt
      clear hB hdrop hget hx
      have hlt := hexD_lt hok
      have hp : acc < 1152921504606846976 := by
        have h1 : 16 ^ k ≤ 16 ^ 15 := Nat.pow_le_pow_right (by decide) (by omega)
        have h2 : (16 : Nat) ^ 15 = 1152921504606846976 := by decide
        omega
      have hF : hexVal acc (c :: bs.drop (k + 1)) = hexVal (acc * 16 + hexD c.toNat) (bs.drop (k + 1)) := rfl
      rw [hF] at hdec
      have hn : acc * 16 + hexD c.toNat < 16 ^ (k + 1) := by rw [Nat.pow_succ]; omega
      have icut : a < 1152921504606846976 := by omega
      have a0 : 0 ≤ a := by omega
      by_cases hdig : c.toNat ≤ 57
      · have hd0 : 48 ≤ c.toNat := by unfold hexOk at hok; omega
        have hD : hexD c.toNat = c.toNat - 48 := by unfold hexD; rw [if_pos hdig]
        rw [hD] at hdec hn hlt
        have HN : Hid (a * 16 + ((c.toNat : Int) - 48) = ((acc * 16 + (c.toNat - 48) : Nat) : Int) ∧ acc * 16 + (c.toNat - 48) < 16 ^ (k + 1) ∧ hexVal 0 bs = hexVal (acc * 16 + (c.toNat - 48)) (bs.drop (k + 1))) := Lib.hid ⟨by omega, hn, hdec⟩
        have iov : a * 16 + ((c.toNat : Int) - 48) < 18446744073709551616 := by omega
        clear hacc hdec ha hn hp hF hok hD hlt
        go_wp2
        refine ⟨⟨k + 1, acc * 16 + (c.toNat - 48), a * 16 + ((c.toNat : Int) - 48), rfl, (by first | rfl | (congr 1; omega)), (by first | rfl | (congr 1; omega)), by omega, HN⟩, by simp [intOf]; omega⟩
      · have hL := lower_hex c hok hdig
        have hd1 : 10 ≤ hexD c.toNat := by unfold hexOk at hok; unfold hexD; rw [if_neg hdig]; split <;> omega
        have hc9 : 57 < c.toNat := by omega
        have hc95 : c.toNat ≠ 95 := by unfold hexOk at hok; omega
        obtain ⟨d, hd⟩ : ∃ d : Nat, d = hexD c.toNat := ⟨_, rfl⟩
        rw [← hd] at hL hdec hn hlt hd1
        have HN : Hid (a * 16 + (((d + 87 : Nat) : Int) - 97 + 10) = ((acc * 16 + d : Nat) : Int) ∧ acc * 16 + d < 16 ^ (k + 1) ∧ hexVal 0 bs = hexVal (acc * 16 + d) (bs.drop (k + 1))) := Lib.hid ⟨by omega, hn, hdec⟩
        obtain ⟨L, hLL⟩ : ∃ L : Int, L = ((d + 87 : Nat) : Int) := ⟨_, rfl⟩
        have hL0 : 97 ≤ L := by omega
        have hL1 : L ≤ 102 := by omega
        rw [← hLL] at hL HN
        have iov : a * 16 + (L - 97 + 10) < 18446744073709551616 := by omega
        clear hacc hdec ha hn hp hF hok hlt hd1 hd hLL
        go_wp2_with (go_at_call 50; refine (lower_same _ _).mono ?_; rw [hL]; rintro e w' ⟨rfl, rfl⟩)
        refine ⟨⟨k + 1, acc * 16 + d, a * 16 + (L - 97 + 10), rfl, (by first | rfl | (congr 1; omega)), (by first | rfl | (congr 1; omega)), by omega, HN⟩, by simp [intOf]; omega⟩
    · have hkk : k = t.size := by omega
      subst hkk
      have hF : hexVal acc (bs.drop t.size) = acc := by rw [List.drop_eq_nil_of_le (by omega)]; rfl
      rw [hF] at hdec
      subst ha
      clear hacc hF
      go_wp2
      go_ret2
      exact ⟨rfl, rfl⟩
def strconv_ParseUint_29.f (a0 : ByteArray) (a1 a2 : Int) : Option (Int × Option Int) := if a1 = 16 ∧ a2 = 64 ∧ a0.size ≠ 0 ∧ a0.size ≤ 16 ∧ (∀ c ∈ a0.data.toList, hexOk c.toNat) then some ((hexVal 0 a0.data.toList : Nat), none) else none
set_option maxHeartbeats 8000000 in
set_option maxRecDepth 100000 in
theorem strconv_ParseUint_29.calls (a0 : ByteArray) (a1 a2 : Int) (r1 : Int) (r2 : Option Int) (w : World) (h : strconv_ParseUint_29.f a0 a1 a2 = some (r1, r2)) :
    Calls Tryd.prog 29 #[.string a0, .int .i64 a1, .int .i64 a2] w fun e w' => e = .returned (.tuple #[.int .u64 r1, errW r2]) ∧ Below w.heap.size w w' := by
  unfold strconv_ParseUint_29.f at h
  split at h
  · next hc =>
    obtain ⟨rfl, rfl, h1, h2, h3⟩ := hc
    simp only [Option.some.injEq, Prod.mk.injEq] at h
    obtain ⟨rfl, rfl⟩ := h
    have q := fun W => ParseUint_hex a0 h1 h2 h3 W
    clear h1 h2 h3
    generalize ((hexVal 0 a0.data.toList : Nat) : Int) = v at q ⊢
    go_enter Tryd.func29, Tryd.ntmps29
    go_wp2_with (go_at_call 39; refine (q _).mono ?_; rintro e w' ⟨rfl, rfl⟩)
    go_ret2
    exact ⟨rfl, Go.Joins.below_bytesWorld _ _ _ _ (Nat.le_refl _)⟩
  · cases h
end Go.Proofs.YteejaaeglfpcmabDoor.PN

namespace Go.Proofs.YteejaaeglfpcmabDoor.PN
open Go.RowKit Go.Proofs.YteejaaeglfpcmabDoorW.PrintWords Go.Proofs.YteejaaeglfpcmabDoorW.PrintLast Go.Proofs.YteejaaeglfpcmabDoorW.PrintMore
attribute [local go_sem] max2_int min2_int max_two min_two max_three min_three max_four min_four   -- for this text's walks alone
set_option linter.unusedVariables false
set_option linter.unusedSimpArgs false
def name_Unit.l0 : Nat → ByteArray → Int → Int → Option (Int × Bool)
  | 0, _, _, _ => none
  | k + 1, x5, x15, x16 => if x16 < x15 then (if 0 ≤ x16 then (if x16 < (x5.size : Int) then ((name_hex.f (bt x5 x16)).bind fun t160 => (if t160 = true then (name_Unit.l0 k x5 x15 (wrap64 (x16 + 1))) else (some (0, false)))) else (none)) else (none)) else (if (x5.size : Int) < 1 then (some (0, false)) else (if (x5.size : Int) > 16 then (some (0, false)) else ((strconv_ParseUint_29.f x5 16 64).bind fun bt161 => (if bt161.2.isNone = true then (some (bt161.1, true)) else (some (bt161.1, false))))))
def name_Unit.f (k : Nat) (a0 : ByteArray) : Option (Int × Bool) := (name_Split.f a0).bind fun bt158 => (name_Unit.l0 k bt158.2 (bt158.2.size : Int) 0)
set_option maxHeartbeats 8000000 in
set_option maxRecDepth 100000 in
theorem name_Unit.calls (k : Nat) (a0 : ByteArray) (r1 : Int) (r2 : Bool) (w : World) (h : name_Unit.f k a0 = some (r1, r2)) :
    Calls Tryd.prog 16 #[.string a0] w fun e w' => e = .returned (.tuple #[.int .u64 r1, .bool r2]) ∧ Below w.heap.size w w' := by
  have hu60 := Tryd.underlying60
  have hu76 := Tryd.underlying76
  have HB := Aside0.mk (Below.refl w.heap.size w)
  have H : ((name_Split.f a0).bind fun bt158 => (name_Unit.l0 k bt158.2 (bt158.2.size : Int) 0)) = some (r1, r2) := h
  clear h
  replace H := Option.bind_eq_some_iff.mp H
  obtain ⟨⟨t158, t159⟩, A20, H⟩ := H
  replace H : (name_Unit.l0 k t159 (t159.size : Int) 0) = some (r1, r2) := H
  have A2 := Aside0.mk A20
  clear A20
  have H' := Aside0.mk H
  clear H
  go_enter Tryd.func16, Tryd.ntmps16
  go_wp2_with (first | (go_at_call 27; (with_reducible refine (name_Split.calls a0 t158 t159 _ A2.out).mono ?_); rintro e w' ⟨rfl, ⟨nd, rfl⟩⟩; (try first | exact ⟨rfl, _, World.drewN_drewN _ _ _⟩ | exact ⟨rfl, _, Eq.trans (World.drewN_drewN _ _ _) (congrArg (World.drewN _) (Nat.add_assoc _ _ _))⟩)))
  repeat (go_quiet (first | (go_at_call 27; (with_reducible refine (name_Split.calls a0 t158 t159 _ A2.out).mono ?_); rintro e w' ⟨rfl, ⟨nd, rfl⟩⟩; (try first | exact ⟨rfl, _, World.drewN_drewN _ _ _⟩ | exact ⟨rfl, _, Eq.trans (World.drewN_drewN _ _ _) (congrArg (World.drewN _) (Nat.add_assoc _ _ _))⟩))); try go_wp2_with (first | (go_at_call 27; (with_reducible refine (name_Split.calls a0 t158 t159 _ A2.out).mono ?_); rintro e w' ⟨rfl, ⟨nd, rfl⟩⟩; (try first | exact ⟨rfl, _, World.drewN_drewN _ _ _⟩ | exact ⟨rfl, _, Eq.trans (World.drewN_drewN _ _ _) (congrArg (World.drewN _) (Nat.add_assoc _ _ _))⟩))))
  go_loopg [16] k (fun kq v16 w' => ∃ (x16_1 : Int), v16 = .int .i64 x16_1 ∧ Aside0 (name_Unit.l0 kq t159 (t159.size : Int) x16_1 = some (r1, r2)) ∧ Aside0 (kq ≤ k) ∧ Aside0 (Below w.heap.size w w'))
  case atStart => exact ⟨(0), (by first | rfl | (simp; done) | (simp [*]; done)), H', ⟨Nat.le_refl _⟩, ⟨by repeat (first | (with_reducible first | exact HB.out | apply below_alloc | apply pw_below_drewN | apply below_drew1) | exact HB.out)⟩⟩
  case round =>
    clear H'
    try clear c1
    try clear p2
    obtain ⟨x16_1, rfl, HA, HK1, HB⟩ := hrel
    cases gk with
    | zero => exact absurd HA.out (by simp [name_Unit.l0])
    | succ k1 =>
      have H := HA.out
      clear HA
      simp only [name_Unit.l0] at H
      by_cases c3 : x16_1 < (t159.size : Int)
      · rw [if_pos c3] at H
        have c3b0 : decide (x16_1 < (t159.size : Int)) = true := decide_eq_true c3
        clear c3
        by_cases c4 : 0 ≤ x16_1
        · rw [if_pos c4] at H
          have c4b0 : decide (0 ≤ x16_1) = true := decide_eq_true c4
          clear c4
          by_cases c5 : x16_1 < (t159.size : Int)
          · rw [if_pos c5] at H
            have c5b0 : decide (x16_1 < (t159.size : Int)) = true := decide_eq_true c5
            clear c5
            replace H := Option.bind_eq_some_iff.mp H
            obtain ⟨t160, A70, H⟩ := H
            replace H : (if t160 = true then (name_Unit.l0 k1 t159 (t159.size : Int) (wrap64 (x16_1 + 1))) else (some (0, false))) = some (r1, r2) := H
            have A7 := Aside0.mk A70
            clear A70
            by_cases c8 : t160 = true
            · subst c8
              have H1 : (name_Unit.l0 k1 t159 (t159.size : Int) (wrap64 (x16_1 + 1))) = some (r1, r2) := by rw [if_pos rfl] at H; exact H
              clear H
              have H := H1
              clear H1
              have H' := Aside0.mk H
              clear H
              have p6 : 0 ≤ (x16_1 : Int) := of_decide_eq_true (by first | (with_reducible assumption) | assumption)
              have q6 : x16_1 < (t159.size : Int) := of_decide_eq_true (by first | (with_reducible assumption) | assumption)
              have hx6 := bt_at t159 x16_1
              replace p6 := eq_true p6
              replace q6 := eq_true q6
              go_wp2_with (first | (go_at_call 28; (with_reducible refine (name_hex.calls (bt t159 x16_1) true _ A7.out).mono ?_); rintro e w' ⟨rfl, ⟨nd, rfl⟩⟩; (try first | exact ⟨rfl, _, World.drewN_drewN _ _ _⟩ | exact ⟨rfl, _, Eq.trans (World.drewN_drewN _ _ _) (congrArg (World.drewN _) (Nat.add_assoc _ _ _))⟩)))
              repeat (go_quiet (first | (go_at_call 28; (with_reducible refine (name_hex.calls (bt t159 x16_1) true _ A7.out).mono ?_); rintro e w' ⟨rfl, ⟨nd, rfl⟩⟩; (try first | exact ⟨rfl, _, World.drewN_drewN _ _ _⟩ | exact ⟨rfl, _, Eq.trans (World.drewN_drewN _ _ _) (congrArg (World.drewN _) (Nat.add_assoc _ _ _))⟩))); try go_wp2_with (first | (go_at_call 28; (with_reducible refine (name_hex.calls (bt t159 x16_1) true _ A7.out).mono ?_); rintro e w' ⟨rfl, ⟨nd, rfl⟩⟩; (try first | exact ⟨rfl, _, World.drewN_drewN _ _ _⟩ | exact ⟨rfl, _, Eq.trans (World.drewN_drewN _ _ _) (congrArg (World.drewN _) (Nat.add_assoc _ _ _))⟩))))
              go_roundg k1
              case measure => have := HK1.out; omega
              case rel => exact ⟨(wrap64 (x16_1 + 1)), (by first | rfl | (simp; done) | (simp [*]; done)), H', ⟨by have := HK1.out; omega⟩, ⟨by repeat (first | (with_reducible first | exact HB.out | apply below_alloc | apply pw_below_drewN | apply below_drew1) | exact HB.out)⟩⟩
            · replace c8 := Bool.eq_false_iff.mpr c8
              subst c8
              have H1 : (some (0, false)) = some (r1, r2) := by rw [if_neg (show ¬ (false = true) by decide)] at H; exact H
              clear H
              have H := H1
              clear H1
              simp only [Option.some.injEq, Prod.mk.injEq] at H
              obtain ⟨rfl, rfl⟩ := H
              have p6 : 0 ≤ (x16_1 : Int) := of_decide_eq_true (by first | (with_reducible assumption) | assumption)
              have q6 : x16_1 < (t159.size : Int) := of_decide_eq_true (by first | (with_reducible assumption) | assumption)
              have hx6 := bt_at t159 x16_1
              replace p6 := eq_true p6
              replace q6 := eq_true q6
              go_wp2_with (first | (go_at_call 28; (with_reducible refine (name_hex.calls (bt t159 x16_1) false _ A7.out).mono ?_); rintro e w' ⟨rfl, ⟨nd, rfl⟩⟩; (try first | exact ⟨rfl, _, World.drewN_drewN _ _ _⟩ | exact ⟨rfl, _, Eq.trans (World.drewN_drewN _ _ _) (congrArg (World.drewN _) (Nat.add_assoc _ _ _))⟩)))
              repeat (go_quiet (first | (go_at_call 28; (with_reducible refine (name_hex.calls (bt t159 x16_1) false _ A7.out).mono ?_); rintro e w' ⟨rfl, ⟨nd, rfl⟩⟩; (try first | exact ⟨rfl, _, World.drewN_drewN _ _ _⟩ | exact ⟨rfl, _, Eq.trans (World.drewN_drewN _ _ _) (congrArg (World.drewN _) (Nat.add_assoc _ _ _))⟩))); try go_wp2_with (first | (go_at_call 28; (with_reducible refine (name_hex.calls (bt t159 x16_1) false _ A7.out).mono ?_); rintro e w' ⟨rfl, ⟨nd, rfl⟩⟩; (try first | exact ⟨rfl, _, World.drewN_drewN _ _ _⟩ | exact ⟨rfl, _, Eq.trans (World.drewN_drewN _ _ _) (congrArg (World.drewN _) (Nat.add_assoc _ _ _))⟩))))
              go_ret2
              exact ⟨by first | rfl | (simp [errW_none, errW_some] <;> rfl) | (simp [*, errW_none, errW_some] <;> rfl), by repeat (first | (with_reducible first | exact HB.out | apply below_alloc | apply pw_below_drewN | apply below_drew1) | exact HB.out)⟩
          · rw [if_neg c5] at H
            exact absurd H (by simp)
        · rw [if_neg c4] at H
          exact absurd H (by simp)
      · rw [if_neg c3] at H
        have c3b0 : decide (x16_1 < (t159.size : Int)) = false := decide_eq_false c3
        clear c3
        by_cases c9 : (t159.size : Int) < 1
        · rw [if_pos c9] at H
          have c9b0 : decide ((t159.size : Int) < 1) = true := decide_eq_true c9
          have c9b1 : decide (t159.size < 1) = true := decide_eq_true (by omega)
          clear c9
          simp only [Option.some.injEq, Prod.mk.injEq] at H
          obtain ⟨rfl, rfl⟩ := H
          go_wp2
          repeat (go_quiet (fail); try go_wp2)
          go_ret2
          exact ⟨by first | rfl | (simp [errW_none, errW_some] <;> rfl) | (simp [*, errW_none, errW_some] <;> rfl), by repeat (first | (with_reducible first | exact HB.out | apply below_alloc | apply pw_below_drewN | apply below_drew1) | exact HB.out)⟩
        · rw [if_neg c9] at H
          have c9b0 : decide ((t159.size : Int) < 1) = false := decide_eq_false c9
          have c9b1 : decide (t159.size < 1) = false := decide_eq_false (by omega)
          clear c9
          by_cases c10 : (t159.size : Int) > 16
          · rw [if_pos c10] at H
            have c10b0 : decide (16 < (t159.size : Int)) = true := decide_eq_true c10
            have c10b1 : decide (16 < t159.size) = true := decide_eq_true (by omega)
            clear c10
            simp only [Option.some.injEq, Prod.mk.injEq] at H
            obtain ⟨rfl, rfl⟩ := H
            go_wp2
            repeat (go_quiet (fail); try go_wp2)
            go_ret2
            exact ⟨by first | rfl | (simp [errW_none, errW_some] <;> rfl) | (simp [*, errW_none, errW_some] <;> rfl), by repeat (first | (with_reducible first | exact HB.out | apply below_alloc | apply pw_below_drewN | apply below_drew1) | exact HB.out)⟩
          · rw [if_neg c10] at H
            have c10b0 : decide (16 < (t159.size : Int)) = false := decide_eq_false c10
            have c10b1 : decide (16 < t159.size) = false := decide_eq_false (by omega)
            clear c10
            replace H := Option.bind_eq_some_iff.mp H
            obtain ⟨⟨t161, t162⟩, A110, H⟩ := H
            replace H : (if t162.isNone = true then (some (t161, true)) else (some (t161, false))) = some (r1, r2) := H
            have A11 := Aside0.mk A110
            clear A110
            rcases t162 with _ | q163
            · have H1 : (some (t161, true)) = some (r1, r2) := by rw [if_pos (show (none : Option Int).isNone = true by rfl)] at H; exact H
              clear H
              have H := H1
              clear H1
              try simp only [errW_none, errW_some]
              simp only [Option.some.injEq, Prod.mk.injEq] at H
              obtain ⟨rfl, rfl⟩ := H
              go_wp2_with (first | (go_at_call 29; (with_reducible refine (strconv_ParseUint_29.calls t159 16 64 t161 none _ A11.out).mono ?_); rintro e w12 ⟨rfl, hb⟩; have n0_ := Aside0.mk (below_step (by repeat (first | (with_reducible first | exact HB.out | apply below_alloc | apply pw_below_drewN | apply below_drew1) | exact HB.out)) hb); clear HB; have HB := n0_; clear n0_; (try clear hb); (try clear hb2); (try clear hk); (try clear hi); (try simp only [errW_none, errW_some])))
              repeat (go_quiet (first | (go_at_call 29; (with_reducible refine (strconv_ParseUint_29.calls t159 16 64 t161 none _ A11.out).mono ?_); rintro e w12 ⟨rfl, hb⟩; have n0_ := Aside0.mk (below_step (by repeat (first | (with_reducible first | exact HB.out | apply below_alloc | apply pw_below_drewN | apply below_drew1) | exact HB.out)) hb); clear HB; have HB := n0_; clear n0_; (try clear hb); (try clear hb2); (try clear hk); (try clear hi); (try simp only [errW_none, errW_some]))); try go_wp2_with (first | (go_at_call 29; (with_reducible refine (strconv_ParseUint_29.calls t159 16 64 t161 none _ A11.out).mono ?_); rintro e w12 ⟨rfl, hb⟩; have n0_ := Aside0.mk (below_step (by repeat (first | (with_reducible first | exact HB.out | apply below_alloc | apply pw_below_drewN | apply below_drew1) | exact HB.out)) hb); clear HB; have HB := n0_; clear n0_; (try clear hb); (try clear hb2); (try clear hk); (try clear hi); (try simp only [errW_none, errW_some]))))
              go_ret2
              exact ⟨by first | rfl | (simp [errW_none, errW_some] <;> rfl) | (simp [*, errW_none, errW_some] <;> rfl), by repeat (first | (with_reducible first | exact HB.out | apply below_alloc | apply pw_below_drewN | apply below_drew1) | exact HB.out)⟩
            · have H1 : (some (t161, false)) = some (r1, r2) := by rw [if_neg (show ¬ (some q163).isNone = true by simp)] at H; exact H
              clear H
              have H := H1
              clear H1
              try simp only [errW_none, errW_some]
              simp only [Option.some.injEq, Prod.mk.injEq] at H
              obtain ⟨rfl, rfl⟩ := H
              go_wp2_with (first | (go_at_call 29; (with_reducible refine (strconv_ParseUint_29.calls t159 16 64 t161 (some q163) _ A11.out).mono ?_); rintro e w13 ⟨rfl, hb⟩; have n0_ := Aside0.mk (below_step (by repeat (first | (with_reducible first | exact HB.out | apply below_alloc | apply pw_below_drewN | apply below_drew1) | exact HB.out)) hb); clear HB; have HB := n0_; clear n0_; (try clear hb); (try clear hb2); (try clear hk); (try clear hi); (try simp only [errW_none, errW_some])))
              repeat (go_quiet (first | (go_at_call 29; (with_reducible refine (strconv_ParseUint_29.calls t159 16 64 t161 (some q163) _ A11.out).mono ?_); rintro e w13 ⟨rfl, hb⟩; have n0_ := Aside0.mk (below_step (by repeat (first | (with_reducible first | exact HB.out | apply below_alloc | apply pw_below_drewN | apply below_drew1) | exact HB.out)) hb); clear HB; have HB := n0_; clear n0_; (try clear hb); (try clear hb2); (try clear hk); (try clear hi); (try simp only [errW_none, errW_some]))); try go_wp2_with (first | (go_at_call 29; (with_reducible refine (strconv_ParseUint_29.calls t159 16 64 t161 (some q163) _ A11.out).mono ?_); rintro e w13 ⟨rfl, hb⟩; have n0_ := Aside0.mk (below_step (by repeat (first | (with_reducible first | exact HB.out | apply below_alloc | apply pw_below_drewN | apply below_drew1) | exact HB.out)) hb); clear HB; have HB := n0_; clear n0_; (try clear hb); (try clear hb2); (try clear hk); (try clear hi); (try simp only [errW_none, errW_some]))))
              go_ret2
              exact ⟨by first | rfl | (simp [errW_none, errW_some] <;> rfl) | (simp [*, errW_none, errW_some] <;> rfl), by repeat (first | (with_reducible first | exact HB.out | apply below_alloc | apply pw_below_drewN | apply below_drew1) | exact HB.out)⟩
end Go.Proofs.YteejaaeglfpcmabDoor.PN

namespace Go.Proofs.YteejaaeglfpcmabDoor.PN
open Go.RowKit Go.Proofs.YteejaaeglfpcmabDoorW.PrintWords Go.Proofs.YteejaaeglfpcmabDoorW.PrintLast Go.Proofs.YteejaaeglfpcmabDoorW.PrintMore
attribute [local go_sem] max2_int min2_int max_two min_two max_three min_three max_four min_four   -- for this text's walks alone
set_option linter.unusedVariables false
set_option linter.unusedSimpArgs false
mutual
def arboretlaw02_NameBack.j0 : Nat → Int → ByteArray → Option (Bool)
  | 0, _, _ => none
  | k + 1, x0, x5 => arboretlaw02_NameBack.l0 k x0 x5 (⟨#[]⟩ : ByteArray) x0
def arboretlaw02_NameBack.l0 : Nat → Int → ByteArray → ByteArray → Int → Option (Bool)
  | 0, _, _, _, _ => none
  | k + 1, x0, x5, x6, x7 => if x7 > 0 then (if 0 ≤ (Int.tmod x7 16) then (if (Int.tmod x7 16) ≤ (IntKind.u64.wrap ((Int.tmod x7 16) + 1)) then (if (IntKind.u64.wrap ((Int.tmod x7 16) + 1)) ≤ (x5.size : Int) then (if (x5.extract ((Int.tmod x7 16) : Int).toNat ((IntKind.u64.wrap ((Int.tmod x7 16) + 1)) : Int).toNat).size + x6.size ≤ 9223372036854775807 then (arboretlaw02_NameBack.l0 k x0 x5 ((x5.extract ((Int.tmod x7 16) : Int).toNat ((IntKind.u64.wrap ((Int.tmod x7 16) + 1)) : Int).toNat) ++ x6) (IntKind.u64.wrap (Int.tdiv x7 16))) else (none)) else (none)) else (none)) else (none)) else (if x6.toList = ([] : List UInt8) then (if 0 ≤ (Int.tmod x7 16) then (if (Int.tmod x7 16) ≤ (IntKind.u64.wrap ((Int.tmod x7 16) + 1)) then (if (IntKind.u64.wrap ((Int.tmod x7 16) + 1)) ≤ (x5.size : Int) then (if (x5.extract ((Int.tmod x7 16) : Int).toNat ((IntKind.u64.wrap ((Int.tmod x7 16) + 1)) : Int).toNat).size + x6.size ≤ 9223372036854775807 then (arboretlaw02_NameBack.l0 k x0 x5 ((x5.extract ((Int.tmod x7 16) : Int).toNat ((IntKind.u64.wrap ((Int.tmod x7 16) + 1)) : Int).toNat) ++ x6) (IntKind.u64.wrap (Int.tdiv x7 16))) else (none)) else (none)) else (none)) else (none)) else (if 5 + x6.size ≤ 9223372036854775807 then ((name_Unit.f k ((⟨#[110, 111, 100, 101, 64]⟩ : ByteArray) ++ x6)).bind fun bt165 => (if bt165.2 = true then (if bt165.1 = x0 then ((name_Node.f k ((⟨#[110, 111, 100, 101, 64]⟩ : ByteArray) ++ x6)).bind fun t167 => (some t167)) else (some false)) else (some false))) else (none)))
end
def arboretlaw02_NameBack.f (k : Nat) (a0 : Int) (a1 : Bool) : Option (Bool) := (arboretlaw02_awake.f k).bind fun t164 => (if t164 = true then (if a1 = true then (arboretlaw02_NameBack.j0 k a0 (⟨#[48, 49, 50, 51, 52, 53, 54, 55, 56, 57, 65, 66, 67, 68, 69, 70]⟩ : ByteArray)) else (arboretlaw02_NameBack.j0 k a0 (⟨#[48, 49, 50, 51, 52, 53, 54, 55, 56, 57, 97, 98, 99, 100, 101, 102]⟩ : ByteArray))) else (some false))
set_option maxHeartbeats 8000000 in
set_option maxRecDepth 100000 in
theorem arboretlaw02_NameBack.calls (k : Nat) (a0 : Int) (a1 : Bool) (r : Bool) (w : World) (h : arboretlaw02_NameBack.f k a0 a1 = some r) :
    Calls Tryd.prog 5 #[.int .u64 a0, .bool a1] w fun e w' => e = .returned (.bool r) ∧ Below w.heap.size w w' := by
  have HB := Aside0.mk (Below.refl w.heap.size w)
  have H : ((arboretlaw02_awake.f k).bind fun t164 => (if t164 = true then (if a1 = true then (arboretlaw02_NameBack.j0 k a0 (⟨#[48, 49, 50, 51, 52, 53, 54, 55, 56, 57, 65, 66, 67, 68, 69, 70]⟩ : ByteArray)) else (arboretlaw02_NameBack.j0 k a0 (⟨#[48, 49, 50, 51, 52, 53, 54, 55, 56, 57, 97, 98, 99, 100, 101, 102]⟩ : ByteArray))) else (some false))) = some r := h
  clear h
  replace H := Option.bind_eq_some_iff.mp H
  obtain ⟨t164, A30, H⟩ := H
  replace H : (if t164 = true then (if a1 = true then (arboretlaw02_NameBack.j0 k a0 (⟨#[48, 49, 50, 51, 52, 53, 54, 55, 56, 57, 65, 66, 67, 68, 69, 70]⟩ : ByteArray)) else (arboretlaw02_NameBack.j0 k a0 (⟨#[48, 49, 50, 51, 52, 53, 54, 55, 56, 57, 97, 98, 99, 100, 101, 102]⟩ : ByteArray))) else (some false)) = some r := H
  have A3 := Aside0.mk A30
  clear A30
  by_cases c4 : t164 = true
  · subst c4
    have H1 : (if a1 = true then (arboretlaw02_NameBack.j0 k a0 (⟨#[48, 49, 50, 51, 52, 53, 54, 55, 56, 57, 65, 66, 67, 68, 69, 70]⟩ : ByteArray)) else (arboretlaw02_NameBack.j0 k a0 (⟨#[48, 49, 50, 51, 52, 53, 54, 55, 56, 57, 97, 98, 99, 100, 101, 102]⟩ : ByteArray))) = some r := by rw [if_pos rfl] at H; exact H
    clear H
    have H := H1
    clear H1
    have HC5 := Aside0.mk H
    clear H
    go_enter Tryd.func5, Tryd.ntmps5
    go_upto_if 12 with (first | ((with_reducible refine gate_callee (f := 15) rfl ?_); refine goesL_ (some 10) rfl rfl Tryd.func15 (by kernel_rfl) rfl #[] rfl (by (try simp only [List.map_toArray, List.map_cons, List.map_nil]); first | done | rfl | (simp only [List.length_drop, List.length_take]; rfl)) ?_; (with_reducible refine (arboretlaw02_awake.calls k  true _ A3.out).mono ?_); rintro e w' ⟨rfl, ⟨nd, rfl⟩⟩; refine ⟨_, rfl, ?_⟩))
    (try simp only [Act.put, List.setIfInBounds_toArray, List.set_cons_zero, List.set_cons_succ])
    go_cut [5] (fun v5 wc => ∃ (kq : Nat) (x5_4 : ByteArray), v5 = .string x5_4 ∧ Aside0 (arboretlaw02_NameBack.j0 kq a0 x5_4 = some r) ∧ Aside0 (kq ≤ k) ∧ Aside0 (Below w.heap.size w wc))
    case first =>
      have H := HC5.out
      clear HC5
      by_cases c6 : a1 = true
      · subst c6
        have H1 : (arboretlaw02_NameBack.j0 k a0 (⟨#[48, 49, 50, 51, 52, 53, 54, 55, 56, 57, 65, 66, 67, 68, 69, 70]⟩ : ByteArray)) = some r := by rw [if_pos rfl] at H; exact H
        clear H
        have H := H1
        clear H1
        have H' := Aside0.mk H
        clear H
        go_wp2
        go_meet
        case rel => exact ⟨_, ((⟨#[48, 49, 50, 51, 52, 53, 54, 55, 56, 57, 65, 66, 67, 68, 69, 70]⟩ : ByteArray)), (by first | rfl | (simp; done) | (simp [*]; done)), H', ⟨by first | omega | exact Nat.le_refl _⟩, ⟨by repeat (first | (with_reducible first | exact HB.out | apply below_alloc | apply pw_below_drewN | apply below_drew1) | exact HB.out)⟩⟩
      · replace c6 := Bool.eq_false_iff.mpr c6
        subst c6
        have H1 : (arboretlaw02_NameBack.j0 k a0 (⟨#[48, 49, 50, 51, 52, 53, 54, 55, 56, 57, 97, 98, 99, 100, 101, 102]⟩ : ByteArray)) = some r := by rw [if_neg (show ¬ (false = true) by decide)] at H; exact H
        clear H
        have H := H1
        clear H1
        have H' := Aside0.mk H
        clear H
        go_wp2
        go_meet
        case rel => exact ⟨_, ((⟨#[48, 49, 50, 51, 52, 53, 54, 55, 56, 57, 97, 98, 99, 100, 101, 102]⟩ : ByteArray)), (by first | rfl | (simp; done) | (simp [*]; done)), H', ⟨by first | omega | exact Nat.le_refl _⟩, ⟨by repeat (first | (with_reducible first | exact HB.out | apply below_alloc | apply pw_below_drewN | apply below_drew1) | exact HB.out)⟩⟩
    case rest =>
      clear HC5
      try clear c1
      try clear p2
      try clear c4
      try clear c5
      try clear c6
      obtain ⟨kq, x5_4, rfl, HA, HJ4, HB⟩ := hcut
      cases kq with
      | zero => exact absurd HA.out (by simp [arboretlaw02_NameBack.j0])
      | succ kj4 =>
        have H := HA.out
        clear HA
        simp only [arboretlaw02_NameBack.j0] at H
        have H' := Aside0.mk H
        clear H
        go_wp2
        go_loopg [6, 7] kj4 (fun kq v6 v7 w' => ∃ (x6_2 : ByteArray) (x7_2 : Int), v6 = .string x6_2 ∧ v7 = .int .u64 x7_2 ∧ Aside0 (arboretlaw02_NameBack.l0 kq a0 x5_4 x6_2 x7_2 = some r) ∧ Aside0 (kq ≤ kj4) ∧ Aside0 (Below w.heap.size w w'))
        case atStart => exact ⟨((⟨#[]⟩ : ByteArray)), (a0), (by first | rfl | (simp; done) | (simp [*]; done)), (by first | rfl | (simp; done) | (simp [*]; done)), H', ⟨Nat.le_refl _⟩, ⟨by repeat (first | (with_reducible first | exact HB.out | apply below_alloc | apply pw_below_drewN | apply below_drew1) | exact HB.out)⟩⟩
        case round =>
          clear H'
          try clear c1
          try clear p2
          try clear c4
          try clear c5
          try clear c6
          try clear p2
          obtain ⟨x6_2, x7_2, rfl, rfl, HA, HK2, HB⟩ := hrel
          cases gk with
          | zero => exact absurd HA.out (by simp [arboretlaw02_NameBack.l0])
          | succ k2 =>
            have H := HA.out
            clear HA
            simp only [arboretlaw02_NameBack.l0] at H
            by_cases c7 : x7_2 > 0
            · rw [if_pos c7] at H
              have c7b0 : decide (0 < x7_2) = true := decide_eq_true c7
              clear c7
              obtain ⟨ji8, hji8⟩ : ∃ j_ : Int, (Int.tmod x7_2 16) = j_ := ⟨_, rfl⟩
              replace H : (if 0 ≤ (ji8) then (if (ji8) ≤ (IntKind.u64.wrap ((ji8) + 1)) then (if (IntKind.u64.wrap ((ji8) + 1)) ≤ (x5_4.size : Int) then (if (x5_4.extract ((ji8) : Int).toNat ((IntKind.u64.wrap ((ji8) + 1)) : Int).toNat).size + x6_2.size ≤ 9223372036854775807 then (arboretlaw02_NameBack.l0 k2 a0 x5_4 ((x5_4.extract ((ji8) : Int).toNat ((IntKind.u64.wrap ((ji8) + 1)) : Int).toNat) ++ x6_2) (IntKind.u64.wrap (Int.tdiv x7_2 16))) else (none)) else (none)) else (none)) else (none)) = some r := by first | (rw [hji8] at H; exact H) | (simp only [hji8] at H ⊢; exact H)
              by_cases c9 : 0 ≤ (ji8)
              · rw [if_pos c9] at H
                have c9b0 := eq_true c9
                have c9b1 : decide (0 ≤ (ji8)) = true := decide_eq_true c9
                clear c9
                by_cases c10 : (ji8) ≤ (IntKind.u64.wrap ((ji8) + 1))
                · rw [if_pos c10] at H
                  have c10b0 := eq_true c10
                  have c10b1 : decide ((ji8) ≤ (IntKind.u64.wrap ((ji8) + 1))) = true := decide_eq_true c10
                  by_cases c11 : (IntKind.u64.wrap ((ji8) + 1)) ≤ (x5_4.size : Int)
                  · rw [if_pos c11] at H
                    have c11b0 := eq_true c11
                    have c11b1 : decide ((IntKind.u64.wrap ((ji8) + 1)) ≤ (x5_4.size : Int)) = true := decide_eq_true c11
                    by_cases c12 : (x5_4.extract ((ji8) : Int).toNat ((IntKind.u64.wrap ((ji8) + 1)) : Int).toNat).size + x6_2.size ≤ 9223372036854775807
                    · rw [if_pos c12] at H
                      have c12b0 := eq_true c12
                      have c12b1 : decide ((x5_4.extract ((ji8) : Int).toNat ((IntKind.u64.wrap ((ji8) + 1)) : Int).toNat).size + x6_2.size ≤ 9223372036854775807) = true := decide_eq_true c12
                      try have c12b2 : (9223372036854775807 < (x5_4.extract ((ji8) : Int).toNat ((IntKind.u64.wrap ((ji8) + 1)) : Int).toNat).size + x6_2.size) = False := eq_false (Nat.not_lt.2 c12)
                      have H' := Aside0.mk H
                      clear H
                      go_wp2
                      first | (go_roundg k2) | ((try subst hji8); go_roundg k2)
                      case measure => have := HJ4.out; have := HK2.out; omega
                      case rel => exact ⟨((x5_4.extract ((ji8) : Int).toNat ((IntKind.u64.wrap ((ji8) + 1)) : Int).toNat) ++ x6_2), (IntKind.u64.wrap (Int.tdiv x7_2 16)), (by first | rfl | (simp; done) | (simp only [← hji8] <;> (first | rfl | simp)) | (simp [*]; done)), (by first | rfl | (simp; done) | (simp [*]; done)), H', ⟨by have := HJ4.out; have := HK2.out; omega⟩, ⟨by repeat (first | (with_reducible first | exact HB.out | apply below_alloc | apply pw_below_drewN | apply below_drew1) | exact HB.out)⟩⟩
                    · rw [if_neg c12] at H
                      exact absurd H (by simp)
                  · rw [if_neg c11] at H
                    exact absurd H (by simp)
                · rw [if_neg c10] at H
                  exact absurd H (by simp)
              · rw [if_neg c9] at H
                exact absurd H (by simp)
            · rw [if_neg c7] at H
              have c7b0 : decide (0 < x7_2) = false := decide_eq_false c7
              clear c7
              by_cases c13 : x6_2.toList = ([] : List UInt8)
              · rw [if_pos c13] at H
                have c13b0 : (x6_2.toList == ([] : List UInt8)) = true := beq_iff_eq.mpr c13
                have c13b1 : (x6_2.toList != ([] : List UInt8)) = false := bne_eq_false_iff_eq.mpr c13
                clear c13
                obtain ⟨ji14, hji14⟩ : ∃ j_ : Int, (Int.tmod x7_2 16) = j_ := ⟨_, rfl⟩
                replace H : (if 0 ≤ (ji14) then (if (ji14) ≤ (IntKind.u64.wrap ((ji14) + 1)) then (if (IntKind.u64.wrap ((ji14) + 1)) ≤ (x5_4.size : Int) then (if (x5_4.extract ((ji14) : Int).toNat ((IntKind.u64.wrap ((ji14) + 1)) : Int).toNat).size + x6_2.size ≤ 9223372036854775807 then (arboretlaw02_NameBack.l0 k2 a0 x5_4 ((x5_4.extract ((ji14) : Int).toNat ((IntKind.u64.wrap ((ji14) + 1)) : Int).toNat) ++ x6_2) (IntKind.u64.wrap (Int.tdiv x7_2 16))) else (none)) else (none)) else (none)) else (none)) = some r := by first | (rw [hji14] at H; exact H) | (simp only [hji14] at H ⊢; exact H)
                by_cases c15 : 0 ≤ (ji14)
                · rw [if_pos c15] at H
                  have c15b0 := eq_true c15
                  have c15b1 : decide (0 ≤ (ji14)) = true := decide_eq_true c15
                  clear c15
                  by_cases c16 : (ji14) ≤ (IntKind.u64.wrap ((ji14) + 1))
                  · rw [if_pos c16] at H
                    have c16b0 := eq_true c16
                    have c16b1 : decide ((ji14) ≤ (IntKind.u64.wrap ((ji14) + 1))) = true := decide_eq_true c16
                    by_cases c17 : (IntKind.u64.wrap ((ji14) + 1)) ≤ (x5_4.size : Int)
                    · rw [if_pos c17] at H
                      have c17b0 := eq_true c17
                      have c17b1 : decide ((IntKind.u64.wrap ((ji14) + 1)) ≤ (x5_4.size : Int)) = true := decide_eq_true c17
                      by_cases c18 : (x5_4.extract ((ji14) : Int).toNat ((IntKind.u64.wrap ((ji14) + 1)) : Int).toNat).size + x6_2.size ≤ 9223372036854775807
                      · rw [if_pos c18] at H
                        have c18b0 := eq_true c18
                        have c18b1 : decide ((x5_4.extract ((ji14) : Int).toNat ((IntKind.u64.wrap ((ji14) + 1)) : Int).toNat).size + x6_2.size ≤ 9223372036854775807) = true := decide_eq_true c18
                        try have c18b2 : (9223372036854775807 < (x5_4.extract ((ji14) : Int).toNat ((IntKind.u64.wrap ((ji14) + 1)) : Int).toNat).size + x6_2.size) = False := eq_false (Nat.not_lt.2 c18)
                        have H' := Aside0.mk H
                        clear H
                        go_wp2
                        first | (go_roundg k2) | ((try subst hji14); go_roundg k2)
                        case measure => have := HJ4.out; have := HK2.out; omega
                        case rel => exact ⟨((x5_4.extract ((ji14) : Int).toNat ((IntKind.u64.wrap ((ji14) + 1)) : Int).toNat) ++ x6_2), (IntKind.u64.wrap (Int.tdiv x7_2 16)), (by first | rfl | (simp; done) | (simp only [← hji14] <;> (first | rfl | simp)) | (simp [*]; done)), (by first | rfl | (simp; done) | (simp [*]; done)), H', ⟨by have := HJ4.out; have := HK2.out; omega⟩, ⟨by repeat (first | (with_reducible first | exact HB.out | apply below_alloc | apply pw_below_drewN | apply below_drew1) | exact HB.out)⟩⟩
                      · rw [if_neg c18] at H
                        exact absurd H (by simp)
                    · rw [if_neg c17] at H
                      exact absurd H (by simp)
                  · rw [if_neg c16] at H
                    exact absurd H (by simp)
                · rw [if_neg c15] at H
                  exact absurd H (by simp)
              · rw [if_neg c13] at H
                have c13b0 : (x6_2.toList == ([] : List UInt8)) = false := beq_eq_false_iff_ne.mpr c13
                have c13b1 : (x6_2.toList != ([] : List UInt8)) = true := bne_iff_ne.mpr c13
                by_cases c19 : 5 + x6_2.size ≤ 9223372036854775807
                · rw [if_pos c19] at H
                  have c19b0 := eq_true c19
                  have c19b1 : decide (5 + x6_2.size ≤ 9223372036854775807) = true := decide_eq_true c19
                  try have c19b2 : (9223372036854775807 < 5 + x6_2.size) = False := eq_false (Nat.not_lt.2 c19)
                  replace H := Option.bind_eq_some_iff.mp H
                  obtain ⟨⟨t165, t166⟩, A200, H⟩ := H
                  replace H : (if t166 = true then (if t165 = a0 then ((name_Node.f k2 ((⟨#[110, 111, 100, 101, 64]⟩ : ByteArray) ++ x6_2)).bind fun t167 => (some t167)) else (some false)) else (some false)) = some r := H
                  have A20 := Aside0.mk A200
                  clear A200
                  by_cases c21 : t166 = true
                  · subst c21
                    have H1 : (if t165 = a0 then ((name_Node.f k2 ((⟨#[110, 111, 100, 101, 64]⟩ : ByteArray) ++ x6_2)).bind fun t167 => (some t167)) else (some false)) = some r := by rw [if_pos rfl] at H; exact H
                    clear H
                    have H := H1
                    clear H1
                    by_cases c22 : t165 = a0
                    · rw [if_pos c22] at H
                      have c22b0 : (t165 == a0) = true := beq_iff_eq.mpr c22
                      have c22b1 : (t165 != a0) = false := bne_eq_false_iff_eq.mpr c22
                      clear c22
                      replace H := Option.bind_eq_some_iff.mp H
                      obtain ⟨t167, A230, H⟩ := H
                      replace H : (some t167) = some r := H
                      have A23 := Aside0.mk A230
                      clear A230
                      obtain rfl := Option.some.inj H
                      go_wp2_with (first | ((with_reducible refine gate_callee (f := 16) rfl ?_); refine goesL_ (some 34) rfl rfl Tryd.func16 (by kernel_rfl) rfl #[.string ((⟨#[110, 111, 100, 101, 64]⟩ : ByteArray) ++ x6_2)] rfl (by (try simp only [List.map_toArray, List.map_cons, List.map_nil]); first | done | rfl | (simp only [List.length_drop, List.length_take]; rfl)) ?_; (with_reducible refine (name_Unit.calls k2 ((⟨#[110, 111, 100, 101, 64]⟩ : ByteArray) ++ x6_2) t165 true _ A20.out).mono ?_); rintro e w24 ⟨rfl, hb⟩; refine ⟨_, rfl, ?_⟩; have n0_ := Aside0.mk (below_step (by repeat (first | (with_reducible first | exact HB.out | apply below_alloc | apply pw_below_drewN | apply below_drew1) | exact HB.out)) hb); clear HB; have HB := n0_; clear n0_; (try clear hb); (try clear hb2); (try clear hk); (try clear hi)) | (go_at_call 17; (with_reducible refine (name_Node.calls k2 ((⟨#[110, 111, 100, 101, 64]⟩ : ByteArray) ++ x6_2) t167 _ A23.out).mono ?_); rintro e w' ⟨rfl, ⟨nd, rfl⟩⟩))
                      go_ret
                      exact ⟨by first | rfl | (simp [errW_none, errW_some] <;> rfl) | (simp [*, errW_none, errW_some] <;> rfl), by repeat (first | (with_reducible first | exact HB.out | apply below_alloc | apply pw_below_drewN | apply below_drew1) | exact HB.out)⟩
                    · rw [if_neg c22] at H
                      have c22b0 : (t165 == a0) = false := beq_eq_false_iff_ne.mpr c22
                      have c22b1 : (t165 != a0) = true := bne_iff_ne.mpr c22
                      obtain rfl := Option.some.inj H
                      go_wp2_with (first | ((with_reducible refine gate_callee (f := 16) rfl ?_); refine goesL_ (some 34) rfl rfl Tryd.func16 (by kernel_rfl) rfl #[.string ((⟨#[110, 111, 100, 101, 64]⟩ : ByteArray) ++ x6_2)] rfl (by (try simp only [List.map_toArray, List.map_cons, List.map_nil]); first | done | rfl | (simp only [List.length_drop, List.length_take]; rfl)) ?_; (with_reducible refine (name_Unit.calls k2 ((⟨#[110, 111, 100, 101, 64]⟩ : ByteArray) ++ x6_2) t165 true _ A20.out).mono ?_); rintro e w25 ⟨rfl, hb⟩; refine ⟨_, rfl, ?_⟩; have n0_ := Aside0.mk (below_step (by repeat (first | (with_reducible first | exact HB.out | apply below_alloc | apply pw_below_drewN | apply below_drew1) | exact HB.out)) hb); clear HB; have HB := n0_; clear n0_; (try clear hb); (try clear hb2); (try clear hk); (try clear hi)))
                      go_ret
                      exact ⟨by first | rfl | (simp [errW_none, errW_some] <;> rfl) | (simp [*, errW_none, errW_some] <;> rfl), by repeat (first | (with_reducible first | exact HB.out | apply below_alloc | apply pw_below_drewN | apply below_drew1) | exact HB.out)⟩
                  · replace c21 := Bool.eq_false_iff.mpr c21
                    subst c21
                    have H1 : (some false) = some r := by rw [if_neg (show ¬ (false = true) by decide)] at H; exact H
                    clear H
                    have H := H1
                    clear H1
                    obtain rfl := Option.some.inj H
                    go_wp2_with (first | ((with_reducible refine gate_callee (f := 16) rfl ?_); refine goesL_ (some 34) rfl rfl Tryd.func16 (by kernel_rfl) rfl #[.string ((⟨#[110, 111, 100, 101, 64]⟩ : ByteArray) ++ x6_2)] rfl (by (try simp only [List.map_toArray, List.map_cons, List.map_nil]); first | done | rfl | (simp only [List.length_drop, List.length_take]; rfl)) ?_; (with_reducible refine (name_Unit.calls k2 ((⟨#[110, 111, 100, 101, 64]⟩ : ByteArray) ++ x6_2) t165 false _ A20.out).mono ?_); rintro e w26 ⟨rfl, hb⟩; refine ⟨_, rfl, ?_⟩; have n0_ := Aside0.mk (below_step (by repeat (first | (with_reducible first | exact HB.out | apply below_alloc | apply pw_below_drewN | apply below_drew1) | exact HB.out)) hb); clear HB; have HB := n0_; clear n0_; (try clear hb); (try clear hb2); (try clear hk); (try clear hi)))
                    go_ret
                    exact ⟨by first | rfl | (simp [errW_none, errW_some] <;> rfl) | (simp [*, errW_none, errW_some] <;> rfl), by repeat (first | (with_reducible first | exact HB.out | apply below_alloc | apply pw_below_drewN | apply below_drew1) | exact HB.out)⟩
                · rw [if_neg c19] at H
                  exact absurd H (by simp)
  · replace c4 := Bool.eq_false_iff.mpr c4
    subst c4
    have H1 : (some false) = some r := by rw [if_neg (show ¬ (false = true) by decide)] at H; exact H
    clear H
    have H := H1
    clear H1
    obtain rfl := Option.some.inj H
    go_enter Tryd.func5, Tryd.ntmps5
    go_wp2_with (first | ((with_reducible refine gate_callee (f := 15) rfl ?_); refine goesL_ (some 10) rfl rfl Tryd.func15 (by kernel_rfl) rfl #[] rfl (by (try simp only [List.map_toArray, List.map_cons, List.map_nil]); first | done | rfl | (simp only [List.length_drop, List.length_take]; rfl)) ?_; (with_reducible refine (arboretlaw02_awake.calls k  false _ A3.out).mono ?_); rintro e w' ⟨rfl, ⟨nd, rfl⟩⟩; refine ⟨_, rfl, ?_⟩))
    go_ret
    exact ⟨by first | rfl | (simp [errW_none, errW_some] <;> rfl) | (simp [*, errW_none, errW_some] <;> rfl), by repeat (first | (with_reducible first | exact HB.out | apply below_alloc | apply pw_below_drewN | apply below_drew1) | exact HB.out)⟩
end Go.Proofs.YteejaaeglfpcmabDoor.PN

set_option linter.unusedVariables false
namespace Go.Proofs.YteejaaeglfpcmabDoor.Rdr
open Go.RowKit Go.Proofs.YteejaaeglfpcmabDoorW.PrintWords Go.ChangeShapes Go.WideShapes
section
variable {P : Program} {W : World} {n : Nat}
def wfI (k : IntKind) (x : Int) : Prop := (Lit.int k x).wf = true
end
end Go.Proofs.YteejaaeglfpcmabDoor.Rdr

namespace Go.Proofs.YteejaaeglfpcmabDoor.PN
end Go.Proofs.YteejaaeglfpcmabDoor.PN

namespace Go.Proofs.YteejaaeglfpcmabDoor.PN
open Go.RowKit Go.Proofs.YteejaaeglfpcmabDoor.Rdr Go.Proofs.YteejaaeglfpcmabDoorW.PrintWords Go.Proofs.YteejaaeglfpcmabDoorW.PrintLast Go.Proofs.YteejaaeglfpcmabDoorW.PrintMore
def arboretlaw02_NameBack.Pure : Prop := ∀ (x0 : Int) (x1 : Bool), (wfI .u64) x0 → ∃ k, arboretlaw02_NameBack.f k x0 x1 = some true
end Go.Proofs.YteejaaeglfpcmabDoor.PN

set_option linter.unusedVariables false
set_option linter.unusedSimpArgs false
namespace Go.Proofs.YteejaaeglfpcmabDoor.Aid
open Go.RowKit Go.Proofs.YteejaaeglfpcmabDoorW.PrintWords
section
variable {α β : Type} {r : α}
theorem Ev.pos {c : Prop} [Decidable c] {A B : Nat → Option α} (h : c) (hA : Ev A r) : Ev (fun k => if c then A k else B k) r := by
  simp only [if_pos h]
  exact hA
theorem Ev.neg {c : Prop} [Decidable c] {A B : Nat → Option α} (h : ¬ c) (hB : Ev B r) : Ev (fun k => if c then A k else B k) r := by
  simp only [if_neg h]
  exact hB
theorem Ev.succ {g : Nat → Option α} (h : Ev (fun k => g (k + 1)) r) : Ev g r := Ev.step (fun _ => rfl) h
theorem Ev.some (r : α) : Ev (fun _ => some r) r := ⟨0, fun _ _ => rfl⟩
theorem Ev.fix {g : Option α} (h : g = Option.some r) : Ev (fun _ => g) r := ⟨0, fun _ _ => h⟩
theorem Ev.then {g : Nat → Option α} {f : Nat → α → Option β} {a : α} {b : β} (h : Ev g a) (k : Ev (fun n => f n a) b) : Ev (fun n => (g n).bind (f n)) b := Ev.bind h k
theorem Ev.out {g : Nat → Option α} (h : Ev g r) : ∃ k, g k = Option.some r := Ev.rounds h
end
theorem w64 {x : Int} (h0 : -9223372036854775808 ≤ x) (h1 : x ≤ 9223372036854775807) : wrap64 x = x := by unfold wrap64; omega
theorem wu64 {x : Int} (h0 : 0 ≤ x) (h1 : x < 18446744073709551616) : IntKind.u64.wrap x = x := by
  simp only [IntKind.wrap, IntKind.bits, IntKind.signed]
  simp
  omega
theorem wf_u64 {x : Int} : (Lit.int .u64 x).wf = true ↔ 0 ≤ x ∧ x ≤ 18446744073709551615 := by simp [Lit.wf, IntKind.min, IntKind.max, IntKind.signed, IntKind.bits]
theorem loop {α β : Type} (l : List α) (F : List α → β) (g : Nat → Int → Option β)
    (hend : Ev (fun k => g k (l.length : Int)) (F []))
    (hstep : ∀ i : Nat, (h : i < l.length) → Ev (fun k => g k ((i + 1 : Nat) : Int)) (F (l.drop (i + 1))) → Ev (fun k => g k (i : Int)) (F (l[i] :: l.drop (i + 1)))) :
    ∀ i : Nat, i ≤ l.length → Ev (fun k => g k (i : Int)) (F (l.drop i)) := by
  have key : ∀ (d i : Nat), i + d = l.length → Ev (fun k => g k (i : Int)) (F (l.drop i)) := by
    intro d
    induction d with
    | zero =>
      intro i hi
      have : i = l.length := by omega
      subst this
      rw [List.drop_length]
      exact hend
    | succ d ih =>
      intro i hi
      have h : i < l.length := by omega
      rw [List.drop_eq_getElem_cons h]
      exact hstep i h (ih (i + 1) (by omega))
  intro i hi
  exact key (l.length - i) i (by omega)
end Go.Proofs.YteejaaeglfpcmabDoor.Aid

set_option linter.unusedVariables false
set_option linter.unusedSimpArgs false
namespace Go.Proofs.YteejaaeglfpcmabDoor.PN
open Go.RowKit Go.Proofs.YteejaaeglfpcmabDoor.Aid Go.Proofs.YteejaaeglfpcmabDoorW.PrintWords
def letterB (c : Int) : Bool := (decide (97 ≤ c) && decide (c ≤ 122)) || (decide (65 ≤ c) && decide (c ≤ 90))
def plainB (c : Int) : Bool := letterB c || (decide (48 ≤ c) && decide (c ≤ 57)) || c == 44 || c == 46 || c == 95 || c == 43 || c == 45
def okB (more : ByteArray) (c : Int) : Bool := plainB c || decide (0 ≤ Lib.indexByte more.data.toList c.toNat.toUInt8)
theorem byte_all {p : Int → Prop} (h : ∀ n : Fin 256, p (n.val : Int)) {c : Int} (h0 : 0 ≤ c) (h1 : c ≤ 255) : p c := by
  have := h ⟨c.toNat, by omega⟩
  simp only at this
  rwa [Int.toNat_of_nonneg h0] at this
theorem bytesOf_range (s : ByteArray) : ∀ b ∈ bytesOf s, 0 ≤ b ∧ b ≤ 255 := by
  intro b hb
  simp only [bytesOf, List.mem_map] at hb
  obtain ⟨u, _, rfl⟩ := hb
  have := u.toNat_lt
  omega
theorem bytesOf_at (s : ByteArray) (i : Nat) (h : i < (bytesOf s).length) : bt s (i : Int) = (bytesOf s)[i] := by
  rw [← rd_bytesOf]
  simp [rd, List.getD_eq_getElem?_getD, List.getElem?_eq_getElem h]
theorem bytesOf_upto (s : ByteArray) (k : Nat) : bytesOf (s.extract 0 k) = (bytesOf s).take k := by
  unfold bytesOf
  rw [Lib.Pa.extract_upto_list, List.map_take]
theorem bytesOf_from (s : ByteArray) (k : Nat) : bytesOf (s.extract k s.size) = (bytesOf s).drop k := by
  unfold bytesOf
  rw [Lib.Pa.extract_from, ← List.map_drop]
theorem bytesOf_inj {s t : ByteArray} (h : bytesOf s = bytesOf t) : s = t := by
  have h' : s.data.toList = t.data.toList := by
    unfold bytesOf at h
    refine List.map_inj_right (f := fun b : UInt8 => (b.toNat : Int)) ?_ |>.mp h
    intro x y e
    exact UInt8.toNat_inj.mp (by omega)
  cases s; cases t
  simp only at h'
  rw [Array.toList_inj.mp h']
def allB (more : ByteArray) (l : List Int) : Bool := l.all (okB more) && (decide (1 ≤ l.length) && decide (l.length ≤ 31))
def idx (c : Int) : List Int → Int
  | [] => -1
  | a :: l => if a = c then 0 else if idx c l = -1 then -1 else idx c l + 1
theorem idx_lib (c : UInt8) : ∀ l : List UInt8, Lib.indexByte l c = idx (c.toNat : Int) (l.map fun b => (b.toNat : Int))
  | [] => rfl
  | a :: l => by
    have ih := idx_lib c l
    simp only [Lib.indexByte, idx, List.map_cons, ih]
    by_cases h : a = c
    · simp [h]
    · have h2 : ¬ ((a.toNat : Int) = (c.toNat : Int)) := by
        intro e
        exact h (UInt8.toNat_inj.mp (by omega))
      simp [h, h2]
theorem idx_range (c : Int) : ∀ l : List Int, idx c l = -1 ∨ (0 ≤ idx c l ∧ idx c l < l.length)
  | [] => .inl rfl
  | a :: l => by
    have ih := idx_range c l
    simp only [idx, List.length_cons]
    by_cases h : a = c
    · rw [if_pos h]; right; omega
    · rw [if_neg h]
      by_cases h1 : idx c l = -1
      · rw [if_pos h1]; left; rfl
      · rw [if_neg h1]; right; omega
def cutB (s : ByteArray) : ByteArray × ByteArray × Bool := if idx 64 (bytesOf s) = -1 then (s, ⟨#[]⟩, false) else (s.extract 0 (idx 64 (bytesOf s)).toNat, s.extract ((idx 64 (bytesOf s)).toNat + 1) s.size, true)
end Go.Proofs.YteejaaeglfpcmabDoor.PN

set_option linter.unusedVariables false
set_option linter.unusedSimpArgs false
namespace Go.Proofs.YteejaaeglfpcmabDoor.PN
open Go.RowKit Go.Proofs.YteejaaeglfpcmabDoor.Aid Go.Proofs.YteejaaeglfpcmabDoorW.PrintWords
theorem plain_f {c : Int} (h0 : 0 ≤ c) (h1 : c ≤ 255) : name_plain.f c = some (plainB c) := byte_all (p := fun c => name_plain.f c = some (plainB c)) (by decide +kernel) h0 h1
theorem all_ev (s more : ByteArray) (hs : s.size ≤ 140737488351232) : Ev (fun k => name_all.f k s more) (allB more (bytesOf s)) := by
  have hn : (bytesOf s).length = s.size := bytesOf_length s
  have main := loop (bytesOf s) (fun l => l.all (okB more) && (decide (1 ≤ s.size) && decide (s.size ≤ 31))) (fun k i => name_all.l0 k s more (s.size : Int) i) ?_ ?_ 0 (Nat.zero_le _)
  · have e : allB more (bytesOf s) = (((bytesOf s).drop 0).all (okB more) && (decide (1 ≤ s.size) && decide (s.size ≤ 31))) := by
      unfold allB
      rw [List.drop_zero, hn]
    rw [e]
    exact main
  · rw [hn]
    refine Ev.succ ⟨0, fun k _ => ?_⟩
    simp only [name_all.l0]
    rw [if_neg (by omega)]
    by_cases h : (s.size : Int) ≥ 1
    · rw [if_pos h]
      have h1 : 1 ≤ s.size := by omega
      simp [h1, Int.ofNat_le]
      omega
    · rw [if_neg h]
      have h1 : ¬ 1 ≤ s.size := by omega
      simp [h1]
  · intro i h ih
    obtain ⟨b0, b1⟩ := bytesOf_range s _ (List.getElem_mem h)
    refine Ev.succ ?_
    have hw : wrap64 ((i : Int) + 1) = ((i + 1 : Nat) : Int) := by rw [w64 (by omega) (by omega)]; omega
    simp only [name_all.l0, bytesOf_at s i h, plain_f b0 b1, hw, Option.bind_some, List.all_cons]
    refine Ev.pos (by omega) (Ev.pos (Int.natCast_nonneg i) (Ev.pos (by omega) ?_))
    cases hp : plainB (bytesOf s)[i] with
    | true =>
      have ho : okB more (bytesOf s)[i] = true := by unfold okB; rw [hp]; rfl
      rw [ho, Bool.true_and]
      exact Ev.pos rfl ih
    | false =>
      refine Ev.neg (by decide) ?_
      simp only [strings_IndexByte.f, Option.bind_some]
      by_cases hx : Lib.indexByte more.data.toList (bytesOf s)[i].toNat.toUInt8 < 0
      · have ho : okB more (bytesOf s)[i] = false := by unfold okB; rw [hp, decide_eq_false (by omega)]; rfl
        rw [ho]
        exact Ev.pos hx (Ev.some _)
      · have ho : okB more (bytesOf s)[i] = true := by unfold okB; rw [hp, decide_eq_true (by omega)]; rfl
        rw [ho, Bool.true_and]
        exact Ev.neg hx ih
theorem index_f (s : ByteArray) (u : UInt8) : stringslite_Index.f s ⟨#[u]⟩ = some (idx (u.toNat : Int) (bytesOf s)) := by
  unfold stringslite_Index.f
  simp only
  rw [idx_lib]
  rfl
theorem cut_f (s : ByteArray) (hs : s.size ≤ 140737488351232) : strings_Cut.f s ⟨#[64]⟩ = some (cutB s) := by
  have hr := idx_range 64 (bytesOf s)
  rw [bytesOf_length] at hr
  have e : stringslite_Cut.f s ⟨#[64]⟩ = some (cutB s) := by
    unfold stringslite_Cut.f cutB
    rw [index_f]
    have e64 : ((64 : UInt8).toNat : Int) = 64 := rfl
    rw [e64]
    simp only [Option.bind_some]
    obtain ⟨j, hj⟩ : ∃ j, j = idx 64 (bytesOf s) := ⟨_, rfl⟩
    rw [← hj] at hr ⊢
    have h1 : (((⟨#[64]⟩ : ByteArray).size : Nat) : Int) = 1 := rfl
    rw [h1]
    by_cases h : j = -1
    · rw [if_pos h, if_neg (by omega)]
    · have hw : wrap64 (j + 1) = j + 1 := w64 (by omega) (by omega)
      rw [if_neg h, hw, if_pos (by omega), if_pos (by omega), if_pos (by omega), if_pos (by omega), if_pos (by omega)]
      have e1 : (j + 1).toNat = j.toNat + 1 := by omega
      rw [e1]
  unfold strings_Cut.f
  rw [e]
  rfl
end Go.Proofs.YteejaaeglfpcmabDoor.PN

set_option linter.unusedVariables false
set_option linter.unusedSimpArgs false
namespace Go.Proofs.YteejaaeglfpcmabDoor.Pure
open Go.RowKit Go.Proofs.YteejaaeglfpcmabDoor.PN Go.Proofs.YteejaaeglfpcmabDoor.Rdr Go.Proofs.YteejaaeglfpcmabDoor.Aid Go.Proofs.YteejaaeglfpcmabDoorW.PrintWords
theorem nback_awake : Ev (fun k => arboretlaw02_awake.f k) true := Ev.of (k := 60) (fun k => arboretlaw02_awake.mono k) (by decide +kernel)
def dig (great : Bool) (d : Nat) : UInt8 := UInt8.ofNat (if d < 10 then 48 + d else if great then 55 + d else 87 + d)
def digits (great : Bool) : ByteArray := if great then ⟨#[48, 49, 50, 51, 52, 53, 54, 55, 56, 57, 65, 66, 67, 68, 69, 70]⟩ else ⟨#[48, 49, 50, 51, 52, 53, 54, 55, 56, 57, 97, 98, 99, 100, 101, 102]⟩
theorem dig_cut (great : Bool) (d : Nat) (h : d < 16) : (digits great).extract d (d + 1) = ⟨#[dig great d]⟩ := by
  have key : ∀ (g : Bool) (d : Fin 16), (digits g).extract d.val (d.val + 1) = ⟨#[dig g d.val]⟩ := by decide +kernel
  exact key great ⟨d, h⟩
theorem dig_ok (great : Bool) (d : Nat) (h : d < 16) : hexOk (dig great d).toNat ∧ hexD (dig great d).toNat = d := by
  have key : ∀ (g : Bool) (d : Fin 16), hexOk (dig g d.val).toNat ∧ hexD (dig g d.val).toNat = d.val := by decide +kernel
  exact key great ⟨d, h⟩
theorem hexVal_acc : ∀ (l : List UInt8) (a : Nat), hexVal a l = a * 16 ^ l.length + hexVal 0 l
  | [], a => by simp [hexVal]
  | c :: l, a => by
    simp only [hexVal, List.length_cons]
    rw [hexVal_acc l (a * 16 + hexD c.toNat), hexVal_acc l (0 * 16 + hexD c.toNat), Nat.pow_succ]
    simp only [Nat.add_mul, Nat.zero_mul, Nat.zero_add, Nat.mul_assoc, Nat.add_assoc]
    rw [Nat.mul_comm 16 (16 ^ l.length)]
theorem hex_f (c : Nat) (h : hexOk c) : name_hex.f (c : Int) = some true := by
  have h2 : c < 256 := by unfold hexOk at h; omega
  have key : ∀ n : Fin 256, hexOk n.val → name_hex.f (n.val : Int) = some true := by decide +kernel
  exact key ⟨c, h2⟩ h
theorem node_bytes (s : ByteArray) : bytesOf ((⟨#[110, 111, 100, 101, 64]⟩ : ByteArray) ++ s) = 110 :: 111 :: 100 :: 101 :: 64 :: bytesOf s := by
  unfold bytesOf
  rw [Go.Joins.data_append]
  rfl
theorem cut_node (s : ByteArray) : cutB ((⟨#[110, 111, 100, 101, 64]⟩ : ByteArray) ++ s) = (⟨#[110, 111, 100, 101]⟩, s, true) := by
  have hb := node_bytes s
  have hi : idx 64 (bytesOf ((⟨#[110, 111, 100, 101, 64]⟩ : ByteArray) ++ s)) = 4 := by
    rw [hb]
    simp [idx]
  unfold cutB
  rw [hi, if_neg (by decide)]
  refine Prod.ext (bytesOf_inj ?_) (Prod.ext (bytesOf_inj ?_) rfl)
  · show bytesOf (ByteArray.extract _ 0 4) = _
    rw [bytesOf_upto, hb]
    rfl
  · show bytesOf (ByteArray.extract _ 5 _) = _
    rw [bytesOf_from, hb]
    rfl
theorem unit_ev (s : ByteArray) (h0 : s.size ≠ 0) (h1 : s.size ≤ 16) (hx : ∀ c ∈ s.data.toList, hexOk c.toNat) :
    Ev (fun k => name_Unit.f k ((⟨#[110, 111, 100, 101, 64]⟩ : ByteArray) ++ s)) (((hexVal 0 s.data.toList : Nat) : Int), true) := by
  have hz : ((⟨#[110, 111, 100, 101, 64]⟩ : ByteArray) ++ s).size ≤ 140737488351232 := by
    have : ((⟨#[110, 111, 100, 101, 64]⟩ : ByteArray) ++ s).size = 5 + s.size := by rw [← bytesOf_length, node_bytes]; simp only [List.length_cons, bytesOf_length]; omega
    omega
  have hsp : name_Split.f ((⟨#[110, 111, 100, 101, 64]⟩ : ByteArray) ++ s) = some (⟨#[110, 111, 100, 101]⟩, s) := by
    unfold name_Split.f
    rw [cut_f _ hz, cut_node]
    rfl
  have hn : (bytesOf s).length = s.size := bytesOf_length s
  have hp : strconv_ParseUint_29.f s 16 64 = some (((hexVal 0 s.data.toList : Nat) : Int), none) := by
    unfold strconv_ParseUint_29.f
    rw [if_pos ⟨rfl, rfl, h0, h1, hx⟩]
  have key : ∀ (j i : Nat), i + j = s.size → Ev (fun k => name_Unit.l0 k s (s.size : Int) (i : Int)) (((hexVal 0 s.data.toList : Nat) : Int), true) := by
    intro j
    induction j with
    | zero =>
      intro i hi
      refine Ev.succ ?_
      simp only [name_Unit.l0, hp, Option.bind_some]
      exact Ev.neg (by omega) (Ev.neg (by omega) (Ev.neg (by omega) (Ev.pos (by first | trivial | rfl) (Ev.some _))))
    | succ j ih =>
      intro i hi
      have hw : wrap64 ((i : Int) + 1) = ((i + 1 : Nat) : Int) := by rw [w64 (by omega) (by omega)]; omega
      have hl : i < s.data.toList.length := by rw [Lib.size_eq] at hi; omega
      have hbt : bt s (i : Int) = (((s.data.toList[i]'hl).toNat : Nat) : Int) := by
        rw [bytesOf_at s i (by omega)]
        simp only [bytesOf, List.getElem_map]
      have hh := hex_f _ (hx _ (List.getElem_mem hl))
      rw [← hbt] at hh
      refine Ev.succ ?_
      simp only [name_Unit.l0, hw, hh, Option.bind_some]
      exact Ev.pos (by omega) (Ev.pos (Int.natCast_nonneg i) (Ev.pos (by omega) (Ev.pos (by first | trivial | rfl) (ih (i + 1) (by omega)))))
  unfold name_Unit.f
  simp only [hsp, Option.bind_some]
  exact key s.size 0 (by omega)
theorem hex_plain (c : Nat) (h : hexOk c) : okB ⟨#[]⟩ (c : Int) = true := by
  have h2 : c < 256 := by unfold hexOk at h; omega
  have key : ∀ n : Fin 256, hexOk n.val → okB ⟨#[]⟩ (n.val : Int) = true := by decide +kernel
  exact key ⟨c, h2⟩ h
theorem noden_ev (s : ByteArray) (h0 : s.size ≠ 0) (h1 : s.size ≤ 16) (hx : ∀ c ∈ s.data.toList, hexOk c.toNat) :
    Ev (fun k => name_Node.f k ((⟨#[110, 111, 100, 101, 64]⟩ : ByteArray) ++ s)) true := by
  have hz : ((⟨#[110, 111, 100, 101, 64]⟩ : ByteArray) ++ s).size ≤ 140737488351232 := by
    have : ((⟨#[110, 111, 100, 101, 64]⟩ : ByteArray) ++ s).size = 5 + s.size := by rw [← bytesOf_length, node_bytes]; simp only [List.length_cons, bytesOf_length]; omega
    omega
  have hc := cut_f _ hz
  rw [cut_node] at hc
  have e1 : allB ⟨#[]⟩ (bytesOf ⟨#[110, 111, 100, 101]⟩) = true := by decide +kernel
  have e2 : allB ⟨#[]⟩ (bytesOf s) = true := by
    unfold allB
    have hn : (bytesOf s).length = s.size := bytesOf_length s
    simp only [Bool.and_eq_true, decide_eq_true_eq, List.all_eq_true]
    refine ⟨fun b hb => ?_, by omega, by omega⟩
    unfold bytesOf at hb
    obtain ⟨u, hu, rfl⟩ := List.mem_map.mp hb
    exact hex_plain _ (hx u hu)
  have a1 := all_ev ⟨#[110, 111, 100, 101]⟩ ⟨#[]⟩ (by decide)
  have a2 := all_ev s ⟨#[]⟩ (by omega)
  rw [e1] at a1
  rw [e2] at a2
  have hl : name_letter.f (bt (⟨#[110, 111, 100, 101]⟩ : ByteArray) 0) = some true := by decide +kernel
  unfold name_Node.f
  refine Ev.then (Ev.fix hc) (Ev.then a1 (Ev.pos rfl (Ev.pos (by show (0 : Int) < (((⟨#[110, 111, 100, 101]⟩ : ByteArray).size : Nat) : Int); decide) (Ev.then (Ev.fix hl) (Ev.pos rfl (Ev.pos rfl (Ev.then a2 (Ev.some _))))))))
def Inv (v n : Nat) (s : ByteArray) : Prop := v = n * 16 ^ s.data.toList.length + hexVal 0 s.data.toList ∧ (∀ c ∈ s.data.toList, hexOk c.toNat) ∧ s.data.toList.length ≤ 16
theorem end_ev (v : Nat) (x5 s : ByteArray) (hi : Inv v 0 s) (h0 : s.size ≠ 0) : Ev (fun k => arboretlaw02_NameBack.l0 k (v : Int) x5 s 0) true := by
  obtain ⟨h1, h2, h3⟩ := hi
  have hs : s.size = s.data.toList.length := Lib.size_eq s
  refine Ev.succ ?_
  simp only [arboretlaw02_NameBack.l0]
  have hne : ¬ s.toList = ([] : List UInt8) := by
    rw [ByteArray.toList_eq]
    intro e
    rw [e] at hs
    exact h0 hs
  refine Ev.neg (by decide) (Ev.neg hne (Ev.pos (by omega) (Ev.then (unit_ev s h0 (by omega) h2) (Ev.pos rfl (Ev.pos ?_ (Ev.then (noden_ev s h0 (by omega) h2) (Ev.some _)))))))
  show ((hexVal 0 s.data.toList : Nat) : Int) = v
  rw [h1]
  omega
theorem step_ev (v : Nat) (hv : v < 16 ^ 16) (great : Bool) (n : Nat) (s : ByteArray) (hi : Inv v n s) (hc : 0 < n ∨ s.data.toList = []) :
    Inv v (n / 16) (⟨#[dig great (n % 16)]⟩ ++ s) ∧ (⟨#[dig great (n % 16)]⟩ ++ s : ByteArray).size ≠ 0 ∧ (Ev (fun k => arboretlaw02_NameBack.l0 k (v : Int) (digits great) (⟨#[dig great (n % 16)]⟩ ++ s) ((n / 16 : Nat) : Int)) true → Ev (fun k => arboretlaw02_NameBack.l0 k (v : Int) (digits great) s (n : Int)) true) := by
  obtain ⟨h1, h2, h3⟩ := hi
  have hm := Nat.mod_lt n (show 0 < 16 by decide)
  have hd := dig_ok great (n % 16) hm
  have hdata : (⟨#[dig great (n % 16)]⟩ ++ s : ByteArray).data.toList = dig great (n % 16) :: s.data.toList := by rw [Go.Joins.data_append]; rfl
  have hn64 : n < 18446744073709551616 := by
    have e : (16 : Nat) ^ 16 = 18446744073709551616 := by decide
    have := Nat.le_mul_of_pos_right n (Nat.pow_pos (n := s.data.toList.length) (show 0 < 16 by decide))
    omega
  have hlen : s.data.toList.length < 16 := by
    rcases hc with hc | hc
    · apply Classical.byContradiction
      intro hge
      have h16 : s.data.toList.length = 16 := by omega
      rw [h16] at h1
      have := Nat.le_mul_of_pos_left (16 ^ 16) hc
      omega
    · rw [hc]; decide
  have hs : s.size = s.data.toList.length := Lib.size_eq s
  refine ⟨⟨?_, ?_, ?_⟩, ?_, fun h => ?_⟩
  · rw [hdata]
    simp only [hexVal, List.length_cons, hd.2]
    rw [hexVal_acc, Nat.pow_succ, h1, Nat.zero_mul, Nat.zero_add, ← Nat.add_assoc]
    congr 1
    have := Nat.div_add_mod n 16
    calc n * 16 ^ s.data.toList.length = (16 * (n / 16) + n % 16) * 16 ^ s.data.toList.length := by rw [this]
      _ = n / 16 * (16 ^ s.data.toList.length * 16) + n % 16 * 16 ^ s.data.toList.length := by rw [Nat.add_mul, Nat.mul_comm 16 (n / 16), Nat.mul_assoc, Nat.mul_comm 16 (16 ^ s.data.toList.length)]
  · rw [hdata]
    intro c hcm
    rcases List.mem_cons.mp hcm with rfl | hcm
    · exact hd.1
    · exact h2 c hcm
  · rw [hdata, List.length_cons]; omega
  · rw [Lib.size_eq, hdata, List.length_cons]; omega
  · have t1 : Int.tmod (n : Int) 16 = ((n % 16 : Nat) : Int) := by rw [Int.tmod_eq_emod_of_nonneg (Int.natCast_nonneg n)]; omega
    have t2 : IntKind.u64.wrap (((n % 16 : Nat) : Int) + 1) = ((n % 16 + 1 : Nat) : Int) := by rw [wu64 (by omega) (by omega)]; omega
    have t3 : IntKind.u64.wrap (Int.tdiv (n : Int) 16) = ((n / 16 : Nat) : Int) := by rw [Int.tdiv_eq_ediv_of_nonneg (Int.natCast_nonneg n), wu64 (by omega) (by omega)]; omega
    have hx5 : (digits great).size = 16 := by cases great <;> rfl
    have hcs : ((⟨#[dig great (n % 16)]⟩ : ByteArray)).size = 1 := rfl
    refine Ev.succ ?_
    simp only [arboretlaw02_NameBack.l0, t1, t2, t3, Int.toNat_natCast, dig_cut great (n % 16) hm, hx5, hcs]
    have tail := Ev.pos (B := fun _ => none) (show (0 : Int) ≤ ((n % 16 : Nat) : Int) by omega) (Ev.pos (B := fun _ => none) (show ((n % 16 : Nat) : Int) ≤ ((n % 16 + 1 : Nat) : Int) by omega) (Ev.pos (B := fun _ => none) (show ((n % 16 + 1 : Nat) : Int) ≤ ((16 : Nat) : Int) by omega) (Ev.pos (B := fun _ => none) (show 1 + s.size ≤ 9223372036854775807 by omega) h)))
    by_cases hn : (n : Int) > 0
    · exact Ev.pos hn tail
    · refine Ev.neg hn (Ev.pos ?_ tail)
      rw [ByteArray.toList_eq]
      rcases hc with hc | hc
      · omega
      · exact hc
theorem loop_ev (v : Nat) (hv : v < 16 ^ 16) (great : Bool) : ∀ (m n : Nat) (s : ByteArray), n < 16 ^ m → Inv v n s → s.size ≠ 0 → Ev (fun k => arboretlaw02_NameBack.l0 k (v : Int) (digits great) s (n : Int)) true := by
  intro m
  induction m with
  | zero =>
    intro n s hn hi h0
    obtain rfl : n = 0 := by rw [Nat.pow_zero] at hn; omega
    exact end_ev v _ s hi h0
  | succ m ih =>
    intro n s hn hi h0
    by_cases h : n = 0
    · subst h
      exact end_ev v _ s hi h0
    · obtain ⟨i1, i2, i3⟩ := step_ev v hv great n s hi (.inl (by omega))
      exact i3 (ih _ _ (by rw [Nat.pow_succ] at hn; omega) i1 i2)
theorem NameBack : arboretlaw02_NameBack.Pure := by
  intro v0 great hw
  obtain ⟨h0, h1⟩ := wf_u64.mp hw
  obtain ⟨v, rfl⟩ : ∃ v : Nat, v0 = v := ⟨v0.toNat, by omega⟩
  have e : (16 : Nat) ^ 16 = 18446744073709551616 := by decide
  have hv : v < 16 ^ 16 := by omega
  obtain ⟨i1, i2, i3⟩ := step_ev v hv great v ⟨#[]⟩ ⟨by simp [hexVal], by simp, by simp⟩ (.inr rfl)
  have L := i3 (loop_ev v hv great 16 _ _ (by omega) i1 i2)
  refine Ev.out (?_ : Ev (fun k => arboretlaw02_NameBack.f k v great) true)
  unfold arboretlaw02_NameBack.f
  refine Ev.then nback_awake (Ev.pos rfl ?_)
  cases great with
  | true =>
    refine Ev.pos rfl (Ev.succ ?_)
    simp only [arboretlaw02_NameBack.j0]
    exact L
  | false =>
    refine Ev.neg (by decide) (Ev.succ ?_)
    simp only [arboretlaw02_NameBack.j0]
    exact L
end Go.Proofs.YteejaaeglfpcmabDoor.Pure

namespace Go.Proofs.YteejaaeglfpcmabDoor.nameBack
open Go.ChangeShapes Go.WideShapes Go.ChangeAt Go.RowKit Go.Proofs.YteejaaeglfpcmabDoor.Rdr Go.Proofs.YteejaaeglfpcmabDoor.PN
open Go.ChangeMaps (open_string shut_string)
set_option linter.unusedVariables false
set_option linter.unusedSimpArgs false
theorem own : ownKnob Tryd.prog.godebug = none := by kernel_rfl
theorem laidOut : laidOutB Tryd.prog = true := by kernel_rfl
set_option maxRecDepth 100000 in
theorem contract (H : Type) (enc : TypeId × Value → H) (W : World) (base : Nat) (args : Array Value) (ds gs : List (DataW H)) (before : List MemPlace)
    (hval0 : ∀ (j : Nat) t v, Tryd.f5.params[j]? = some t → args[j]? = some v → Value.okWide Tryd.prog W .any base t v)
    (hW : DataW.Whole enc Tryd.prog Tryd.f5.params.toList Rows.nameBackSpec.vars false W args.toList ds gs before) (hsz : (DataW.weightsEach Tryd.prog (Tryd.f5.params.toList ++ Rows.nameBackSpec.plain.varTypes Tryd.prog) (ds ++ gs)).all (· ≤ reachBytes) = true) :
    Calls Tryd.prog 5 args W fun e W' => ∃ v, e = .returned v ∧ Rows.nameBackSpec.post enc Tryd.prog Tryd.f5 false true false false W args v W' := by
  have hval : ∀ (j : Nat) t v, Tryd.f5.params[j]? = some t → args[j]? = some v → Value.okWide Tryd.prog W .any base t v := hval0
  have hW' := hW
  obtain ⟨p, q, hA0, hV, rfl, hfz, hnd⟩ := hW
  have hA : DataW.TrodAll enc Tryd.prog W 0 (fun _ => true) true Tryd.f5.params.toList args.toList ds p := hA0
  rw [Tryd.params5] at hA hval hsz
  obtain ⟨v0, vs0, d0, ds0, p0, q0, hargs, rfl, rfl, h0, tr0⟩ := trodAll_cons hA
  obtain ⟨v1, vs1, d1, ds1, p1, q1, rfl, rfl, rfl, h1, tr1⟩ := trodAll_cons tr0
  obtain ⟨rfl, rfl, rfl⟩ := trodAll_nil tr1
  obtain rfl : args = #[v0, v1] := by cases args; simp_all
  obtain ⟨rfl, rfl⟩ := trodVars_none hV
  have k0 := h0
  have lt0 : ∀ x ∈ p0, x.block < W.heap.size := by obtain ⟨m, hm⟩ := k0; exact DataW.trod_lt m _ _ _ hm
  have k1 := h1
  have lt1 : ∀ x ∈ p1, x.block < W.heap.size := by obtain ⟨m, hm⟩ := k1; exact DataW.trod_lt m _ _ _ hm
  obtain ⟨x0, rfl, rfl, rfl, g0⟩ := open_int Tryd.underlying38 (hval 0 38 v0 rfl rfl) h0
  obtain ⟨x1, rfl, rfl, rfl⟩ := open_bool Tryd.underlying4 (hval 1 4 v1 rfl rfl) h1
  obtain ⟨k, hk_⟩ := Pure.NameBack x0 x1 g0
  refine (arboretlaw02_NameBack.calls k x0 x1 true W  hk_).mono fun e W' ⟨he, bel0⟩ => ?_
  have bel : Below W.heap.size W W' := bel0
  subst he
  exact ⟨_, rfl, _, _, _, [], _, [], hW', trodAll_mk1 (shut_bool Tryd.underlying4 _), (trodAll_cons_mk (Below.trod laidOut (by kernel_rfl) (of_decide_eq_true (by kernel_rfl)) k0 bel lt0) (trodAll_cons_mk (Below.trod laidOut (by kernel_rfl) (of_decide_eq_true (by kernel_rfl)) k1 bel lt1) trodAll_mk0)), rfl, bel.frame _, fun h => by cases h⟩
open Go
noncomputable def laidWorld (os : Os) : World := let h0 := (World.holding Tryd.prog os ⟨#[], #[], []⟩).heap; { World.holding Tryd.prog os ⟨#[], #[], []⟩ with heap := (((((((h0.modify 6 (fun | .cells _ t fr => .cells #[.int .u8 0, .int .u8 1, .int .u8 28, .int .u8 2, .int .u8 29, .int .u8 14, .int .u8 24, .int .u8 3, .int .u8 30, .int .u8 22, .int .u8 20, .int .u8 15, .int .u8 25, .int .u8 17, .int .u8 4, .int .u8 8, .int .u8 31, .int .u8 27, .int .u8 13, .int .u8 23, .int .u8 21, .int .u8 19, .int .u8 16, .int .u8 7, .int .u8 26, .int .u8 12, .int .u8 18, .int .u8 6, .int .u8 11, .int .u8 5, .int .u8 10, .int .u8 9] t fr | o => o)).modify 7 (fun | .cells _ t fr => .cells #[.int .u8 0, .int .u8 1, .int .u8 56, .int .u8 2, .int .u8 57, .int .u8 49, .int .u8 28, .int .u8 3, .int .u8 61, .int .u8 58, .int .u8 42, .int .u8 50, .int .u8 38, .int .u8 29, .int .u8 17, .int .u8 4, .int .u8 62, .int .u8 47, .int .u8 59, .int .u8 36, .int .u8 45, .int .u8 43, .int .u8 51, .int .u8 22, .int .u8 53, .int .u8 39, .int .u8 33, .int .u8 30, .int .u8 24, .int .u8 18, .int .u8 12, .int .u8 5, .int .u8 63, .int .u8 55, .int .u8 48, .int .u8 27, .int .u8 60, .int .u8 41, .int .u8 37, .int .u8 16, .int .u8 46, .int .u8 35, .int .u8 44, .int .u8 21, .int .u8 52, .int .u8 32, .int .u8 23, .int .u8 11, .int .u8 54, .int .u8 26, .int .u8 40, .int .u8 15, .int .u8 34, .int .u8 20, .int .u8 31, .int .u8 10, .int .u8 25, .int .u8 14, .int .u8 19, .int .u8 9, .int .u8 13, .int .u8 8, .int .u8 7, .int .u8 6] t fr | o => o)).modify 5 (fun | .cells _ t fr => .cells #[.int .u64 1, .int .u64 10, .int .u64 100, .int .u64 1000, .int .u64 10000, .int .u64 100000, .int .u64 1000000, .int .u64 10000000, .int .u64 100000000, .int .u64 1000000000, .int .u64 10000000000, .int .u64 100000000000, .int .u64 1000000000000, .int .u64 10000000000000, .int .u64 100000000000000, .int .u64 1000000000000000, .int .u64 10000000000000000, .int .u64 100000000000000000, .int .u64 1000000000000000000, .int .u64 10000000000000000000] t fr | o => o)).modify 2 (fun | .cells _ t fr => .cells #[.iface 93 (.pointer (some ⟨h0.size + 0, 0, none⟩))] t fr | o => o)).modify 1 (fun | .cells _ t fr => .cells #[.iface 93 (.pointer (some ⟨h0.size + 1, 0, none⟩))] t fr | o => o)).push (.cells #[.string ⟨#[118, 97, 108, 117, 101, 32, 111, 117, 116, 32, 111, 102, 32, 114, 97, 110, 103, 101]⟩] 95 (0, 0))).push (.cells #[.string ⟨#[105, 110, 118, 97, 108, 105, 100, 32, 115, 121, 110, 116, 97, 120]⟩] 95 (0, 0))) }
set_option maxRecDepth 100000 in
theorem laid_met (os : Os) : laidMet Tryd.prog Rows.nameBackRow.laid ((laidWorld os).forCall (fun _ _ => 0) ⟨#[], #[.int .u64 0, .bool false], []⟩).memory := laidMet_of_run' 8 (by kernel_rfl) (by kernel_rfl)
set_option maxRecDepth 100000 in
theorem lifted (os : Os) (started : os.Started) (H : Type) (enc : TypeId × Value → H) (F : Stop.Interp) :
    ReturnsInHanded {} Tryd.checked os 5 .any ((OpenSpec.ofChange Rows.nameBackSpec).preRow enc Tryd.prog Tryd.f5 Rows.nameBackRow.domain false Rows.nameBackRow.laid) (((OpenSpec.ofChange Rows.nameBackSpec).at F).post enc Tryd.prog Tryd.f5 false true false false) := by
  refine returnsInHanded_of_row (C := Tryd.checked) (s := OpenSpec.ofChange Rows.nameBackSpec) own started (by kernel_rfl) Tryd.func5
    (witness_row_at (enc := enc) (C := Tryd.checked) false (laidWorld os) #[.int .u64 0, .bool false] rfl (by kernel_rfl) (by kernel_rfl) (by kernel_rfl)
      (OpenSpec.preRow_of_B rfl 16 (by kernel_rfl) (by kernel_rfl) (laid_met os))) ?_
  intro W base args ds gs before hval hW _ hcond hsz _ _ _
  exact contract H enc W base args ds gs before hval hW hsz
theorem said : Rows.NameBackSaid :=
  OpenClaim.holds_of_cond 5 Tryd.f5 rfl rfl rfl rfl rfl rfl rfl ⟨rfl, rfl, rfl, rfl, rfl⟩ rfl rfl rfl rfl rfl (by kernel_rfl) Tryd.func5 (by kernel_rfl)
    (of_decide_eq_true (by kernel_rfl)) (by unfold Func.isWrapper; first | (rw [if_pos (by decide +kernel)]; kernel_rfl) | (rw [if_neg (by decide +kernel)]; exact ⟨rfl, rfl⟩))
    (fun os started H enc _ F => by rw [OpenClaim.pre_eq_preRow]; exact lifted os started H enc F)
theorem plain (f : FuncId) (fn : Func) (hf : Tryd.pinned.checked.prog.funcNamed "arboret/arboretlaw02.NameBack" = some f) (hfn : Tryd.pinned.checked.prog.funcs[f]? = some fn) :
    true = Tryd.pinned.checked.prog.looks [] ∧ ∀ (j : Nat) t, fn.params[j]? = some t → Tryd.pinned.checked.prog.wantsStandIn t = false := by
  obtain rfl : f = 5 := Option.some.inj ((show Tryd.prog.funcNamed "arboret/arboretlaw02.NameBack" = some 5 by kernel_rfl).symm.trans hf) |>.symm
  obtain rfl : fn = Tryd.f5 := (Option.some.inj (Tryd.func5.symm.trans hfn)).symm
  refine ⟨by kernel_rfl, fun j t ht => ?_⟩
  rw [Tryd.params5] at ht
  have hm := Array.mem_of_getElem? ht
  simp only [List.mem_cons, List.not_mem_nil, or_false, List.mem_toArray] at hm
  rcases hm with rfl | rfl
  · exact (show Tryd.prog.wantsStandIn 38 = false by kernel_rfl)
  · exact (show Tryd.prog.wantsStandIn 4 = false by kernel_rfl)
theorem card : Rows.NameBackCardSaid :=
  Claim7.holds_tied_plain_at .later [] _ _ _ _ said (fun _ h => by cases h) (by kernel_rfl) (fun _ h => by cases h) nameBack_row_tie rfl ⟨rfl, rfl⟩ (by kernel_rfl) rfl plain (by kernel_rfl)
end Go.Proofs.YteejaaeglfpcmabDoor.nameBack
namespace Go.Proofs.YteejaaeglfpcmabDoor
theorem nameBack_holds : Rows.NameBackCardSaid := nameBack.card
end Go.Proofs.YteejaaeglfpcmabDoor
