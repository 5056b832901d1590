/- NameSplits: texts of this session's (Shelf, PXx0, PXx_stringslite_Index, PXx_stringslite_Cut, PXx_strings_Cut, PXx_name_letter, PXx_strings_IndexByte, PXx_name_plain, PXx_name_all, PXx_name_Node, PXx_arboretlaw02_awake, PXx_name_Split, PXx_arboretref01_Cut, PXx_arboretlaw02_NameSplits, Rdr, PXKinds, PXStateNameSplits, PXx_arboretref01_stands, Aid, Name, PureNameSplits, LawNameSplits), laid together for one claim. -/
import Derived.Test.YteejaaeglfpcmabRows
import Derived.Test.YteejaaeglfpcmabProg
import Derived.Below
import Derived.Deep.Draws
import Derived.Deep.AppendLies
import Derived.Maps.AppendAt
import Derived.OwnWalk
import Derived.Laws.BytesArg
import Derived.Laws.MakeOwn
import Derived.Laws.OwnMore
import Derived.Deep.OwnRows
import Derived.Tactics
import Derived.Lib.ConvBytes
import Derived.Laws.Slices
import Derived.WalkKit
import Derived.KernelRfl
import Derived.RowKit3
import Derived.Deep.LoopGhost
import Derived.Deep.QuietTactic
import Derived.BigQuiet
import Derived.WideLaws
import Derived.Deep.DeepCutAuto
import Derived.Deep.CutBlock
import Derived.Deep.RegionHeld3
import Derived.Laws.Rows
import Derived.Lib.AppendStr
import Derived.ArgAppend
import Derived.Laws.IdiomCopy
import Derived.OrdersHeld
import Derived.Laws.BitsLemmas
import Derived.RowKit
import Derived.WalkSpells
import Derived.Shelf.Small.Bits
import Derived.Shelf.Small.Strs
import Derived.Shelf.Strconv.Itoa0
import Derived.Shelf.Strings.Search1
import Derived.Shelf.Strings.Search2
import Derived.Shelf.Strings.Cut
import Derived.Shelf.LaysM
import Derived.Shelf.Strings.Shaped
import Derived.Shelf.Slices.CompactS
import Derived.Shelf.Slices.Cells
import Derived.Test.YteejaaeglfpcmabWWords
import Derived.Test.YteejaaeglfpcmabWLast
import Derived.Test.YteejaaeglfpcmabWTab
import Derived.Test.YteejaaeglfpcmabWFour
import Derived.Test.YteejaaeglfpcmabWQPut
import Derived.Test.YteejaaeglfpcmabWApart
import Derived.Test.YteejaaeglfpcmabWArr
import Derived.Test.YteejaaeglfpcmabWZeros
import Derived.Test.YteejaaeglfpcmabWFoot
import Derived.Test.YteejaaeglfpcmabWKept
import Derived.Test.YteejaaeglfpcmabWShare
import Derived.Test.YteejaaeglfpcmabWN
import Derived.Test.YteejaaeglfpcmabWFootNe
import Derived.Test.YteejaaeglfpcmabWAt
import Derived.Test.YteejaaeglfpcmabWEqStruct
import Derived.Test.YteejaaeglfpcmabWRepsOne
import Derived.Test.YteejaaeglfpcmabWInv
import Derived.Test.YteejaaeglfpcmabWInvWords
import Derived.Test.YteejaaeglfpcmabWGuard
import Derived.Test.YteejaaeglfpcmabWNEv
import Derived.Test.YteejaaeglfpcmabWMore
import Derived.ChangeArms
import Derived.DataReads
import Derived.ChangeSlices
import Derived.Deep.Slices
import Derived.Lib.EndianBits
import Derived.Lib.PathFns
import Derived.ProofKit
import Derived.OpenShut
import Derived.ShutString
import Derived.ChangeOld
import Derived.SizedLaws
import Derived.JoinedCond
import Derived.Deep.CondSized
set_option linter.unusedVariables false
set_option linter.unusedSimpArgs false
/- Contracts of the library's functions at this program, laid by the kit's shelf. -/
namespace Go.Proofs
open Go.Shelf
def Try.lays137_ren : Go.Shelf.Ren := ⟨fun | 137 => 84 | 217 => 95 | 266 => 102 | n => n, fun | 9 => 9 | 5 => 5 | 3 => 3 | n => n, fun | n => n⟩
theorem Try.lays137 : Go.Proofs.Lays.n137 Try.prog Try.lays137_ren := {
  mixed := by kernel_rfl
  f137 := Try.func84.trans (congrArg some (by kernel_rfl))
  f217 := Try.func95.trans (congrArg some (by kernel_rfl))
  f266 := Try.func102.trans (congrArg some (by kernel_rfl))
  t3 := Try.underlying3
  a3 := Try.isAgg3
  z3 := Try.sizeOf3
  v3 := Try.zeroValue3
  t5 := Try.underlying5
  a5 := Try.isAgg5
  z5 := Try.sizeOf5
  v5 := Try.zeroValue5
  t9 := Try.underlying9
  a9 := Try.isAgg9
  z9 := Try.sizeOf9
  v9 := Try.zeroValue9 }
open Go.RowKit in
theorem Try.strings_IndexByte (s : ByteArray) (c : Int) (w : World) :
    Calls Try.prog 84 #[.string s, .int .u8 c] w fun e w' => e = .returned (.int .i64 (Lib.indexByte s.data.toList c.toNat.toUInt8)) ∧ w' = w := Any.strings_IndexByte Try.lays137 s c w
def Try.lays217_ren : Go.Shelf.Ren := ⟨fun | 217 => 95 | 266 => 102 | n => n, fun | 9 => 9 | 5 => 5 | 3 => 3 | n => n, fun | n => n⟩
theorem Try.lays217 : Go.Proofs.Lays.n217 Try.prog Try.lays217_ren := {
  mixed := by kernel_rfl
  f217 := Try.func95.trans (congrArg some (by kernel_rfl))
  f266 := Try.func102.trans (congrArg some (by kernel_rfl))
  t3 := Try.underlying3
  a3 := Try.isAgg3
  z3 := Try.sizeOf3
  v3 := Try.zeroValue3
  t5 := Try.underlying5
  a5 := Try.isAgg5
  z5 := Try.sizeOf5
  v5 := Try.zeroValue5
  t9 := Try.underlying9
  a9 := Try.isAgg9
  z9 := Try.sizeOf9
  v9 := Try.zeroValue9 }
open Go.RowKit Go.Lib in
theorem Try.stringslite_IndexByte (s : ByteArray) (c : Int) (w : World) :
    Calls Try.prog 95 #[.string s, .int .u8 c] w fun e w' => e = .returned (.int .i64 (Lib.indexByte s.data.toList c.toNat.toUInt8)) ∧ w' = w := Any.stringslite_IndexByte Try.lays217 s c w
def Try.lays219_ren : Go.Shelf.Ren := ⟨fun | 219 => 85 | 217 => 95 | 225 => 96 | 224 => 97 | 267 => 98 | 266 => 102 | 314 => 103 | n => n, fun | 9 => 9 | 3 => 3 | 4 => 4 | 5 => 5 | 46 => 119 | 146 => 141 | 51 => 32 | n => n, fun | 1 => 0 | n => n⟩
theorem Try.lays219 : Go.Proofs.Lays.n219 Try.prog Try.lays219_ren := {
  mixed := by kernel_rfl
  f217 := Try.func95.trans (congrArg some (by kernel_rfl))
  f219 := Try.func85.trans (congrArg some (by kernel_rfl))
  f224 := Try.func97.trans (congrArg some (by kernel_rfl))
  f225 := Try.func96.trans (congrArg some (by kernel_rfl))
  f266 := Try.func102.trans (congrArg some (by kernel_rfl))
  f267 := Try.func98.trans (congrArg some (by kernel_rfl))
  f314 := Try.func103.trans (congrArg some (by kernel_rfl))
  t3 := Try.underlying3
  a3 := Try.isAgg3
  z3 := Try.sizeOf3
  v3 := Try.zeroValue3
  t4 := Try.underlying4
  a4 := Try.isAgg4
  z4 := Try.sizeOf4
  v4 := Try.zeroValue4
  t5 := Try.underlying5
  a5 := Try.isAgg5
  z5 := Try.sizeOf5
  v5 := Try.zeroValue5
  t9 := Try.underlying9
  a9 := Try.isAgg9
  z9 := Try.sizeOf9
  v9 := Try.zeroValue9
  t46 := Try.underlying119
  a46 := Try.isAgg119
  z46 := Try.sizeOf119
  v46 := Try.zeroValue119
  t51 := Try.underlying32
  a51 := Try.isAgg32
  z51 := Try.sizeOf32
  v51 := Try.zeroValue32
  t146 := Try.underlying141
  a146 := Try.isAgg141
  z146 := Try.sizeOf141
  v146 := Try.zeroValue141
  g1 := by kernel_rfl }
open Go.RowKit Go.Lib in
theorem Try.stringslite_Index_one (s : ByteArray) (c : UInt8) (w : World) :
    Calls Try.prog 85 #[.string s, .string ⟨#[c]⟩] w fun e w' => e = .returned (.int .i64 (Lib.indexByte s.data.toList c)) ∧ w' = w := Any.stringslite_Index_one Try.lays219 s c w
end Go.Proofs

/- Contracts of the functions that the seat's laws reach, each beside a plain Lean function: by a program of this session's (tools/myprint.py over the kit's print.py), with some of its own proof. -/
namespace Go.Proofs.Yteejaaeglfpcmab.PX
open Go.RowKit Go.Proofs.YteejaaeglfpcmabW.PrintWords Go.Proofs.YteejaaeglfpcmabW.PrintLast Go.Proofs.YteejaaeglfpcmabW.PrintMore
attribute [local go_sem] max2_int min2_int max_two min_two max_three min_three max_four min_four   -- for this text's walks alone
set_option linter.unusedVariables false
set_option linter.unusedSimpArgs false



def errW : Option Int → Value
  | none => .nilIface
  | some c => .iface 0 (.int .i64 c)
theorem errW_none : errW none = .nilIface := rfl
theorem errW_some (c : Int) : errW (some c) = .iface 0 (.int .i64 c) := rfl

theorem info3 : (Try.prog.info? 3).map (fun i => (i.zero, i.size, i.bytes)) = some (some (.int .i64 0), 1, 8) := by kernel_rfl
theorem info5 : (Try.prog.info? 5).map (fun i => (i.zero, i.size, i.bytes)) = some (some (.int .u8 0), 1, 1) := by kernel_rfl
theorem info9 : (Try.prog.info? 9).map (fun i => (i.zero, i.size, i.bytes)) = some (some (.string ⟨#[]⟩), 1, 16) := by kernel_rfl
theorem info30 : (Try.prog.info? 30).map (fun i => (i.zero, i.size, i.bytes)) = some (some (.agg #[(.string ⟨#[]⟩), (.slice none 0 0), (.slice none 0 0)]), 3, 64) := by kernel_rfl
theorem info32 : (Try.prog.info? 32).map (fun i => (i.zero, i.size, i.bytes)) = some (some (.int .u32 0), 1, 4) := by kernel_rfl
theorem info45 : (Try.prog.info? 45).map (fun i => (i.zero, i.size, i.bytes)) = some (some (.agg #[(.int .u64 0), (.int .u64 0), (.int .u64 0)]), 3, 24) := by kernel_rfl
theorem info46 : (Try.prog.info? 46).map (fun i => (i.zero, i.size, i.bytes)) = some (some (.agg #[(.int .u64 0), (.int .u64 0), (.int .u64 0)]), 3, 24) := by kernel_rfl
theorem info66 : (Try.prog.info? 66).map (fun i => (i.zero, i.size, i.bytes)) = some (some (.agg #[(.int .u64 0), (.int .u64 0)]), 2, 16) := by kernel_rfl
theorem info67 : (Try.prog.info? 67).map (fun i => (i.zero, i.size, i.bytes)) = some (some (.agg #[(.int .u64 0), (.int .u64 0)]), 2, 16) := by kernel_rfl
theorem info77 : (Try.prog.info? 77).map (fun i => (i.zero, i.size, i.bytes)) = some (some (.agg #[(.string ⟨#[]⟩), (.slice none 0 0)]), 2, 40) := by kernel_rfl
-- the values' own types
def rd_L2 (xs : List (List Int)) (i : Int) : (List Int) := xs.getD i.toNat ([] : List Int)
theorem at_L2 {w : World} {A : Option Addr} {n : Nat} {xs : List (List Int)} (h : Kd.C (Kd.slice 5 (Kd.int .u8)) w A n xs) (i : Int) (h0 : 0 ≤ i) (h1 : i < n) : ∃ ad A0 c0, A = some ad ∧ w.cell? (ad.add i.toNat) = some (.slice A0 (rd_L2 xs i).length c0) ∧ (rd_L2 xs i).length ≤ c0 ∧ (Kd.int .u8).C w A0 (rd_L2 xs i).length (rd_L2 xs i) := by
  obtain ⟨ad, c, e, _, hK, hc0⟩ := Kd.C_get h ([] : List Int) i h0 h1
  have hc : ∀ j u, c[j]? = some u → w.cell? (ad.add (i.toNat * 1 + j)) = some u := hc0
  obtain ⟨A0, c0, rfl, l0, g0⟩ := hK
  exact ⟨ad, A0, c0, e, by have hq := hc 0 _ rfl; rwa [Nat.mul_one, Nat.add_zero] at hq, l0, g0⟩

/-! #### struct type 77 -/
structure S77 where
  f0 : ByteArray
  f1 : (List Int)
def z77 : S77 := ⟨(⟨#[]⟩ : ByteArray), ([] : List Int)⟩
def k77 : Kd S77 := Kd.iso (Kd.pair Kd.string (Kd.slice 5 (Kd.int .u8))) (fun x : S77 => (x.f0, x.f1))
theorem k77_heap : Kd.Heap k77 := Kd.heap_iso _ (Kd.heap_pair Kd.heap_string (Kd.heap_slice 5 (Kd.heap_int .u8)))
theorem k77_open {w : World} {x : S77} {cs : List Value} (h : k77.K w x cs) : ∃ A1 c1, cs = [.string x.f0, .slice A1 x.f1.length c1] ∧ x.f1.length ≤ c1 ∧ (Kd.int .u8).C w A1 x.f1.length x.f1 := by
  obtain ⟨_, _, rfl, rfl, ⟨A1, c1, rfl, l1, g1⟩⟩ := h
  exact ⟨A1, c1, rfl, l1, g1⟩
theorem k77_openM {w : World} {base : Nat} {ok : Nat → Prop} {x : S77} {cs : List Value} (h : k77.M w base ok x cs) : ∃ v1, cs = [.string x.f0, v1] ∧ (Kd.int .u8).R 5 w base ok v1 x.f1 := by
  obtain ⟨_, _, rfl, rfl, ⟨v1, rfl, g1⟩⟩ := h
  exact ⟨v1, rfl, g1⟩
theorem k77_mk (w : World) (x : S77) {A1 : Option Addr} {c1 : Nat} (l1 : x.f1.length ≤ c1) (g1 : (Kd.int .u8).C w A1 x.f1.length x.f1) : k77.K w x [.string x.f0, .slice A1 x.f1.length c1] := ⟨[.string x.f0], [.slice A1 x.f1.length c1], rfl, rfl, ⟨A1, c1, rfl, l1, g1⟩⟩
theorem k77_mkM (w : World) (base : Nat) (ok : Nat → Prop) (x : S77) {v1 : Value} (g1 : (Kd.int .u8).R 5 w base ok v1 x.f1) : k77.M w base ok x [.string x.f0, v1] := ⟨[.string x.f0], [v1], rfl, rfl, ⟨v1, rfl, g1⟩⟩
theorem k77_openF {W : World} {ok : Nat → Prop} {x : S77} {cs : List Value} (h : Kd.FK k77 W ok x cs) : ∃ A1 c1, cs = [.string x.f0, .slice A1 x.f1.length c1] ∧ x.f1.length ≤ c1 ∧ Kd.F (Kd.int .u8) W ok A1 x.f1.length x.f1 := by
  obtain ⟨A1, c1, rfl, l1, _⟩ := k77_open (Kd.FK_now h)
  exact ⟨A1, c1, rfl, l1, (fun W' hW => by obtain ⟨A1_, c1_, he, l1_, g1_⟩ := k77_open (h W' hW); injection (Option.some.inj (show some (Value.slice A1 x.f1.length c1) = some (Value.slice A1_ x.f1.length c1_) from congrArg (fun l => l[1]?) he)) with ha_ _ _; rw [ha_]; exact g1_)⟩
theorem k77_mkF (W : World) (ok : Nat → Prop) (x : S77) {A1 : Option Addr} {c1 : Nat} (l1 : x.f1.length ≤ c1) (g1 : Kd.F (Kd.int .u8) W ok A1 x.f1.length x.f1) : Kd.FK k77 W ok x [.string x.f0, .slice A1 x.f1.length c1] := fun W2 hW => k77_mk W2 x l1 (g1 W2 hW)
def rd_T77 (xs : List S77) (i : Int) : S77 := xs.getD i.toNat z77
theorem at_T77 {w : World} {A : Option Addr} {n : Nat} {xs : List S77} (h : Kd.C k77 w A n xs) (i : Int) (h0 : 0 ≤ i) (h1 : i < n) : ∃ ad A1 c1, A = some ad ∧ w.cell? (ad.add (i.toNat * 2)) = some (.string (rd_T77 xs i).f0) ∧ w.cell? ⟨(ad.add (i.toNat * 2)).block, (ad.add (i.toNat * 2)).off + 1, none⟩ = some (.slice A1 (rd_T77 xs i).f1.length c1) ∧ (rd_T77 xs i).f1.length ≤ c1 ∧ (Kd.int .u8).C w A1 (rd_T77 xs i).f1.length (rd_T77 xs i).f1 := by
  obtain ⟨ad, c, e, _, hK, hc0⟩ := Kd.C_get h z77 i h0 h1
  have hc : ∀ j u, c[j]? = some u → w.cell? (ad.add (i.toNat * 2 + j)) = some u := hc0
  obtain ⟨A1, c1, rfl, l1, g1⟩ := k77_open hK
  exact ⟨ad, A1, c1, e, hc 0 _ rfl, by rw [← add_field _ _ 1 (by omega)]; exact hc 1 _ rfl, l1, g1⟩

def rd_L4 (xs : List (List S77)) (i : Int) : (List S77) := xs.getD i.toNat ([] : List S77)
theorem at_L4 {w : World} {A : Option Addr} {n : Nat} {xs : List (List S77)} (h : Kd.C (Kd.slice 77 k77) w A n xs) (i : Int) (h0 : 0 ≤ i) (h1 : i < n) : ∃ ad A0 c0, A = some ad ∧ w.cell? (ad.add i.toNat) = some (.slice A0 (rd_L4 xs i).length c0) ∧ (rd_L4 xs i).length ≤ c0 ∧ k77.C w A0 (rd_L4 xs i).length (rd_L4 xs i) := by
  obtain ⟨ad, c, e, _, hK, hc0⟩ := Kd.C_get h ([] : List S77) i h0 h1
  have hc : ∀ j u, c[j]? = some u → w.cell? (ad.add (i.toNat * 1 + j)) = some u := hc0
  obtain ⟨A0, c0, rfl, l0, g0⟩ := hK
  exact ⟨ad, A0, c0, e, by have hq := hc 0 _ rfl; rwa [Nat.mul_one, Nat.add_zero] at hq, l0, g0⟩

/-! #### struct type 30, nested in itself -/
structure S30 where
  f0 : ByteArray
  f1 : (List S77)
  f2 : (List S30)
def z30 : S30 := ⟨(⟨#[]⟩ : ByteArray), ([] : List S77), ([] : List S30)⟩
def F30 (d : Kd S30) : Kd S30 := Kd.iso (Kd.pair Kd.string (Kd.pair (Kd.slice 77 k77) (Kd.slice 30 d))) (fun x : S30 => (x.f0, x.f1, x.f2))
theorem mono30 : Kd.Mono F30 := Kd.mono_iso _ (Kd.mono_pair (Kd.mono_const _) (Kd.mono_pair (Kd.mono_const _) (Kd.mono_slice 30 Kd.mono_id)))
theorem sub30 : Kd.Sub F30 [5, 30, 77] := Kd.sub_iso _ (Kd.sub_pair (Kd.sub_const _ (by decide)) (Kd.sub_pair (Kd.sub_const _ (by decide)) (Kd.sub_slice 30 (by decide) Kd.sub_id)))
theorem sz30 : ∀ n, (Kd.upto F30 3 [5, 30, 77] n).sz = 3 := Kd.upto_sz (fun _ => rfl)
def k30 : Kd S30 := Kd.fix F30 3 [5, 30, 77] sz30 (Kd.upto_E sub30)
theorem k30_heap : Kd.Heap k30 := Kd.heap_fix (fun _ h_ => Kd.heap_iso _ (Kd.heap_pair Kd.heap_string (Kd.heap_pair (Kd.heap_slice 77 k77_heap) (Kd.heap_slice 30 h_))))
theorem k30_open {w : World} {x : S30} {cs : List Value} (h : k30.K w x cs) : ∃ A1 c1 A2 c2, cs = [.string x.f0, .slice A1 x.f1.length c1, .slice A2 x.f2.length c2] ∧ x.f1.length ≤ c1 ∧ k77.C w A1 x.f1.length x.f1 ∧ x.f2.length ≤ c2 ∧ k30.C w A2 x.f2.length x.f2 := by
  obtain ⟨n, h⟩ := h
  cases n with
  | zero => exact h.elim
  | succ n =>
    obtain ⟨_, _, rfl, rfl, ⟨_, _, rfl, ⟨A1, c1, rfl, l1, g1⟩, ⟨A2, c2, rfl, l2, g2⟩⟩⟩ := h
    exact ⟨A1, c1, A2, c2, rfl, l1, g1, l2, Kd.fix_C g2⟩
theorem k30_openM {w : World} {base : Nat} {ok : Nat → Prop} {x : S30} {cs : List Value} (h : k30.M w base ok x cs) : ∃ v1 v2, cs = [.string x.f0, v1, v2] ∧ k77.R 77 w base ok v1 x.f1 ∧ k30.R 30 w base ok v2 x.f2 := by
  obtain ⟨n, h⟩ := h
  cases n with
  | zero => exact h.elim
  | succ n =>
    obtain ⟨_, _, rfl, rfl, ⟨_, _, rfl, ⟨v1, rfl, g1⟩, ⟨v2, rfl, g2⟩⟩⟩ := h
    exact ⟨v1, v2, rfl, g1, Kd.fix_R g2⟩
theorem k30_mk (w : World) (x : S30) {A1 : Option Addr} {c1 : Nat} (l1 : x.f1.length ≤ c1) (g1 : k77.C w A1 x.f1.length x.f1) {A2 : Option Addr} {c2 : Nat} (l2 : x.f2.length ≤ c2) (g2 : k30.C w A2 x.f2.length x.f2) : k30.K w x [.string x.f0, .slice A1 x.f1.length c1, .slice A2 x.f2.length c2] := by
  obtain ⟨n2, q2⟩ := Kd.fix_C_back mono30 g2
  have r2 := Kd.upto_C_le mono30 sz30 (show n2 ≤ n2 by omega) q2
  exact ⟨n2 + 1, ⟨[.string x.f0], [.slice A1 x.f1.length c1, .slice A2 x.f2.length c2], rfl, rfl, ⟨[.slice A1 x.f1.length c1], [.slice A2 x.f2.length c2], rfl, ⟨A1, c1, rfl, l1, g1⟩, ⟨A2, c2, rfl, l2, r2⟩⟩⟩⟩
theorem k30_mkM (w : World) (base : Nat) (ok : Nat → Prop) (x : S30) {v1 : Value} (g1 : k77.R 77 w base ok v1 x.f1) {v2 : Value} (g2 : k30.R 30 w base ok v2 x.f2) : k30.M w base ok x [.string x.f0, v1, v2] := by
  obtain ⟨n2, q2⟩ := Kd.fix_R_back mono30 g2
  have r2 := Kd.upto_R_le mono30 sz30 (show n2 ≤ n2 by omega) q2
  exact ⟨n2 + 1, ⟨[.string x.f0], [v1, v2], rfl, rfl, ⟨[v1], [v2], rfl, ⟨v1, rfl, g1⟩, ⟨v2, rfl, r2⟩⟩⟩⟩
theorem k30_openF {W : World} {ok : Nat → Prop} {x : S30} {cs : List Value} (h : Kd.FK k30 W ok x cs) : ∃ A1 c1 A2 c2, cs = [.string x.f0, .slice A1 x.f1.length c1, .slice A2 x.f2.length c2] ∧ x.f1.length ≤ c1 ∧ Kd.F k77 W ok A1 x.f1.length x.f1 ∧ x.f2.length ≤ c2 ∧ Kd.F k30 W ok A2 x.f2.length x.f2 := by
  obtain ⟨A1, c1, A2, c2, rfl, l1, _, l2, _⟩ := k30_open (Kd.FK_now h)
  exact ⟨A1, c1, A2, c2, rfl, l1, (fun W' hW => by obtain ⟨A1_, c1_, A2_, c2_, he, l1_, g1_, l2_, g2_⟩ := k30_open (h W' hW); injection (Option.some.inj (show some (Value.slice A1 x.f1.length c1) = some (Value.slice A1_ x.f1.length c1_) from congrArg (fun l => l[1]?) he)) with ha_ _ _; rw [ha_]; exact g1_), l2, (fun W' hW => by obtain ⟨A1_, c1_, A2_, c2_, he, l1_, g1_, l2_, g2_⟩ := k30_open (h W' hW); injection (Option.some.inj (show some (Value.slice A2 x.f2.length c2) = some (Value.slice A2_ x.f2.length c2_) from congrArg (fun l => l[2]?) he)) with ha_ _ _; rw [ha_]; exact g2_)⟩
theorem k30_mkF (W : World) (ok : Nat → Prop) (x : S30) {A1 : Option Addr} {c1 : Nat} (l1 : x.f1.length ≤ c1) (g1 : Kd.F k77 W ok A1 x.f1.length x.f1) {A2 : Option Addr} {c2 : Nat} (l2 : x.f2.length ≤ c2) (g2 : Kd.F k30 W ok A2 x.f2.length x.f2) : Kd.FK k30 W ok x [.string x.f0, .slice A1 x.f1.length c1, .slice A2 x.f2.length c2] := fun W2 hW => k30_mk W2 x l1 (g1 W2 hW) l2 (g2 W2 hW)
def rd_T30 (xs : List S30) (i : Int) : S30 := xs.getD i.toNat z30
theorem at_T30 {w : World} {A : Option Addr} {n : Nat} {xs : List S30} (h : Kd.C k30 w A n xs) (i : Int) (h0 : 0 ≤ i) (h1 : i < n) : ∃ ad A1 c1 A2 c2, A = some ad ∧ w.cell? (ad.add (i.toNat * 3)) = some (.string (rd_T30 xs i).f0) ∧ w.cell? ⟨(ad.add (i.toNat * 3)).block, (ad.add (i.toNat * 3)).off + 1, none⟩ = some (.slice A1 (rd_T30 xs i).f1.length c1) ∧ w.cell? ⟨(ad.add (i.toNat * 3)).block, (ad.add (i.toNat * 3)).off + 2, none⟩ = some (.slice A2 (rd_T30 xs i).f2.length c2) ∧ (rd_T30 xs i).f1.length ≤ c1 ∧ k77.C w A1 (rd_T30 xs i).f1.length (rd_T30 xs i).f1 ∧ (rd_T30 xs i).f2.length ≤ c2 ∧ k30.C w A2 (rd_T30 xs i).f2.length (rd_T30 xs i).f2 := by
  obtain ⟨ad, c, e, _, hK, hc0⟩ := Kd.C_get h z30 i h0 h1
  have hc : ∀ j u, c[j]? = some u → w.cell? (ad.add (i.toNat * 3 + j)) = some u := hc0
  obtain ⟨A1, c1, A2, c2, rfl, l1, g1, l2, g2⟩ := k30_open hK
  exact ⟨ad, A1, c1, A2, c2, e, hc 0 _ rfl, by rw [← add_field _ _ 1 (by omega)]; exact hc 1 _ rfl, by rw [← add_field _ _ 2 (by omega)]; exact hc 2 _ rfl, l1, g1, l2, g2⟩

/-! #### struct type 94 -/
structure S94 where
  f0 : Int
  f1 : Int
def z94 : S94 := ⟨(0 : Int), (0 : Int)⟩
def k94 : Kd S94 := Kd.iso (Kd.pair (Kd.int .u64) (Kd.int .u64)) (fun x : S94 => (x.f0, x.f1))
theorem k94_heap : Kd.Heap k94 := Kd.heap_iso _ (Kd.heap_pair (Kd.heap_int .u64) (Kd.heap_int .u64))
theorem k94_open {w : World} {x : S94} {cs : List Value} (h : k94.K w x cs) : cs = [.int .u64 x.f0, .int .u64 x.f1] := by
  obtain ⟨_, _, rfl, rfl, rfl⟩ := h
  exact rfl
theorem k94_openM {w : World} {base : Nat} {ok : Nat → Prop} {x : S94} {cs : List Value} (h : k94.M w base ok x cs) : cs = [.int .u64 x.f0, .int .u64 x.f1] := by
  obtain ⟨_, _, rfl, rfl, rfl⟩ := h
  exact rfl
theorem k94_mk (w : World) (x : S94)  : k94.K w x [.int .u64 x.f0, .int .u64 x.f1] := ⟨[.int .u64 x.f0], [.int .u64 x.f1], rfl, rfl, rfl⟩
theorem k94_mkM (w : World) (base : Nat) (ok : Nat → Prop) (x : S94)  : k94.M w base ok x [.int .u64 x.f0, .int .u64 x.f1] := ⟨[.int .u64 x.f0], [.int .u64 x.f1], rfl, rfl, rfl⟩
theorem k94_mkF (W : World) (ok : Nat → Prop) (x : S94) : Kd.FK k94 W ok x [.int .u64 x.f0, .int .u64 x.f1] := fun W2 _ => k94_mk W2 x
def rd_T94 (xs : List S94) (i : Int) : S94 := xs.getD i.toNat z94
theorem at_T94 {w : World} {A : Option Addr} {n : Nat} {xs : List S94} (h : Kd.C k94 w A n xs) (i : Int) (h0 : 0 ≤ i) (h1 : i < n) : ∃ ad , A = some ad ∧ w.cell? (ad.add (i.toNat * 2)) = some (.int .u64 (rd_T94 xs i).f0) ∧ w.cell? ⟨(ad.add (i.toNat * 2)).block, (ad.add (i.toNat * 2)).off + 1, none⟩ = some (.int .u64 (rd_T94 xs i).f1) := by
  obtain ⟨ad, c, e, _, hK, hc0⟩ := Kd.C_get h z94 i h0 h1
  have hc : ∀ j u, c[j]? = some u → w.cell? (ad.add (i.toNat * 2 + j)) = some u := hc0
  obtain rfl := k94_open hK
  exact ⟨ad, e, hc 0 _ rfl, by rw [← add_field _ _ 1 (by omega)]; exact hc 1 _ rfl⟩

def rd_L9 (xs : List (List S94)) (i : Int) : (List S94) := xs.getD i.toNat ([] : List S94)
theorem at_L9 {w : World} {A : Option Addr} {n : Nat} {xs : List (List S94)} (h : Kd.C (Kd.slice 94 k94) w A n xs) (i : Int) (h0 : 0 ≤ i) (h1 : i < n) : ∃ ad A0 c0, A = some ad ∧ w.cell? (ad.add i.toNat) = some (.slice A0 (rd_L9 xs i).length c0) ∧ (rd_L9 xs i).length ≤ c0 ∧ k94.C w A0 (rd_L9 xs i).length (rd_L9 xs i) := by
  obtain ⟨ad, c, e, _, hK, hc0⟩ := Kd.C_get h ([] : List S94) i h0 h1
  have hc : ∀ j u, c[j]? = some u → w.cell? (ad.add (i.toNat * 1 + j)) = some u := hc0
  obtain ⟨A0, c0, rfl, l0, g0⟩ := hK
  exact ⟨ad, A0, c0, e, by have hq := hc 0 _ rfl; rwa [Nat.mul_one, Nat.add_zero] at hq, l0, g0⟩

/-! #### struct type 35 -/
structure S35 where
  f0 : Int
  f1 : (List S94)
  f2 : S30
def z35 : S35 := ⟨(0 : Int), ([] : List S94), z30⟩
def k35 : Kd S35 := Kd.iso (Kd.pair (Kd.int .u32) (Kd.pair (Kd.slice 94 k94) k30)) (fun x : S35 => (x.f0, x.f1, x.f2))
theorem k35_heap : Kd.Heap k35 := Kd.heap_iso _ (Kd.heap_pair (Kd.heap_int .u32) (Kd.heap_pair (Kd.heap_slice 94 k94_heap) k30_heap))
theorem k35_open {w : World} {x : S35} {cs : List Value} (h : k35.K w x cs) : ∃ A1 c1 A3 c3 A4 c4, cs = [.int .u32 x.f0, .slice A1 x.f1.length c1, .string x.f2.f0, .slice A3 x.f2.f1.length c3, .slice A4 x.f2.f2.length c4] ∧ x.f1.length ≤ c1 ∧ k94.C w A1 x.f1.length x.f1 ∧ x.f2.f1.length ≤ c3 ∧ k77.C w A3 x.f2.f1.length x.f2.f1 ∧ x.f2.f2.length ≤ c4 ∧ k30.C w A4 x.f2.f2.length x.f2.f2 := by
  obtain ⟨_, _, rfl, rfl, ⟨_, _, rfl, ⟨A1, c1, rfl, l1, g1⟩, s2⟩⟩ := h
  obtain ⟨A3, c3, A4, c4, rfl, l3, g3, l4, g4⟩ := k30_open s2
  exact ⟨A1, c1, A3, c3, A4, c4, rfl, l1, g1, l3, g3, l4, g4⟩
theorem k35_openM {w : World} {base : Nat} {ok : Nat → Prop} {x : S35} {cs : List Value} (h : k35.M w base ok x cs) : ∃ v1 v3 v4, cs = [.int .u32 x.f0, v1, .string x.f2.f0, v3, v4] ∧ k94.R 94 w base ok v1 x.f1 ∧ k77.R 77 w base ok v3 x.f2.f1 ∧ k30.R 30 w base ok v4 x.f2.f2 := by
  obtain ⟨_, _, rfl, rfl, ⟨_, _, rfl, ⟨v1, rfl, g1⟩, s2⟩⟩ := h
  obtain ⟨v3, v4, rfl, g3, g4⟩ := k30_openM s2
  exact ⟨v1, v3, v4, rfl, g1, g3, g4⟩
theorem k35_mk (w : World) (x : S35) {A1 : Option Addr} {c1 : Nat} (l1 : x.f1.length ≤ c1) (g1 : k94.C w A1 x.f1.length x.f1) {A3 : Option Addr} {c3 : Nat} (l3 : x.f2.f1.length ≤ c3) (g3 : k77.C w A3 x.f2.f1.length x.f2.f1) {A4 : Option Addr} {c4 : Nat} (l4 : x.f2.f2.length ≤ c4) (g4 : k30.C w A4 x.f2.f2.length x.f2.f2) : k35.K w x [.int .u32 x.f0, .slice A1 x.f1.length c1, .string x.f2.f0, .slice A3 x.f2.f1.length c3, .slice A4 x.f2.f2.length c4] := ⟨[.int .u32 x.f0], [.slice A1 x.f1.length c1, .string x.f2.f0, .slice A3 x.f2.f1.length c3, .slice A4 x.f2.f2.length c4], rfl, rfl, ⟨[.slice A1 x.f1.length c1], [.string x.f2.f0, .slice A3 x.f2.f1.length c3, .slice A4 x.f2.f2.length c4], rfl, ⟨A1, c1, rfl, l1, g1⟩, (k30_mk w x.f2 l3 g3 l4 g4)⟩⟩
theorem k35_mkM (w : World) (base : Nat) (ok : Nat → Prop) (x : S35) {v1 : Value} (g1 : k94.R 94 w base ok v1 x.f1) {v3 : Value} (g3 : k77.R 77 w base ok v3 x.f2.f1) {v4 : Value} (g4 : k30.R 30 w base ok v4 x.f2.f2) : k35.M w base ok x [.int .u32 x.f0, v1, .string x.f2.f0, v3, v4] := ⟨[.int .u32 x.f0], [v1, .string x.f2.f0, v3, v4], rfl, rfl, ⟨[v1], [.string x.f2.f0, v3, v4], rfl, ⟨v1, rfl, g1⟩, (k30_mkM w base ok x.f2 g3 g4)⟩⟩
theorem k35_openF {W : World} {ok : Nat → Prop} {x : S35} {cs : List Value} (h : Kd.FK k35 W ok x cs) : ∃ A1 c1 A3 c3 A4 c4, cs = [.int .u32 x.f0, .slice A1 x.f1.length c1, .string x.f2.f0, .slice A3 x.f2.f1.length c3, .slice A4 x.f2.f2.length c4] ∧ x.f1.length ≤ c1 ∧ Kd.F k94 W ok A1 x.f1.length x.f1 ∧ x.f2.f1.length ≤ c3 ∧ Kd.F k77 W ok A3 x.f2.f1.length x.f2.f1 ∧ x.f2.f2.length ≤ c4 ∧ Kd.F k30 W ok A4 x.f2.f2.length x.f2.f2 := by
  obtain ⟨A1, c1, A3, c3, A4, c4, rfl, l1, _, l3, _, l4, _⟩ := k35_open (Kd.FK_now h)
  exact ⟨A1, c1, A3, c3, A4, c4, rfl, l1, (fun W' hW => by obtain ⟨A1_, c1_, A3_, c3_, A4_, c4_, he, l1_, g1_, l3_, g3_, l4_, g4_⟩ := k35_open (h W' hW); injection (Option.some.inj (show some (Value.slice A1 x.f1.length c1) = some (Value.slice A1_ x.f1.length c1_) from congrArg (fun l => l[1]?) he)) with ha_ _ _; rw [ha_]; exact g1_), l3, (fun W' hW => by obtain ⟨A1_, c1_, A3_, c3_, A4_, c4_, he, l1_, g1_, l3_, g3_, l4_, g4_⟩ := k35_open (h W' hW); injection (Option.some.inj (show some (Value.slice A3 x.f2.f1.length c3) = some (Value.slice A3_ x.f2.f1.length c3_) from congrArg (fun l => l[3]?) he)) with ha_ _ _; rw [ha_]; exact g3_), l4, (fun W' hW => by obtain ⟨A1_, c1_, A3_, c3_, A4_, c4_, he, l1_, g1_, l3_, g3_, l4_, g4_⟩ := k35_open (h W' hW); injection (Option.some.inj (show some (Value.slice A4 x.f2.f2.length c4) = some (Value.slice A4_ x.f2.f2.length c4_) from congrArg (fun l => l[4]?) he)) with ha_ _ _; rw [ha_]; exact g4_)⟩
theorem k35_mkF (W : World) (ok : Nat → Prop) (x : S35) {A1 : Option Addr} {c1 : Nat} (l1 : x.f1.length ≤ c1) (g1 : Kd.F k94 W ok A1 x.f1.length x.f1) {A3 : Option Addr} {c3 : Nat} (l3 : x.f2.f1.length ≤ c3) (g3 : Kd.F k77 W ok A3 x.f2.f1.length x.f2.f1) {A4 : Option Addr} {c4 : Nat} (l4 : x.f2.f2.length ≤ c4) (g4 : Kd.F k30 W ok A4 x.f2.f2.length x.f2.f2) : Kd.FK k35 W ok x [.int .u32 x.f0, .slice A1 x.f1.length c1, .string x.f2.f0, .slice A3 x.f2.f1.length c3, .slice A4 x.f2.f2.length c4] := fun W2 hW => k35_mk W2 x l1 (g1 W2 hW) l3 (g3 W2 hW) l4 (g4 W2 hW)
def rd_T35 (xs : List S35) (i : Int) : S35 := xs.getD i.toNat z35
theorem at_T35 {w : World} {A : Option Addr} {n : Nat} {xs : List S35} (h : Kd.C k35 w A n xs) (i : Int) (h0 : 0 ≤ i) (h1 : i < n) : ∃ ad A1 c1 A3 c3 A4 c4, A = some ad ∧ w.cell? (ad.add (i.toNat * 5)) = some (.int .u32 (rd_T35 xs i).f0) ∧ w.cell? ⟨(ad.add (i.toNat * 5)).block, (ad.add (i.toNat * 5)).off + 1, none⟩ = some (.slice A1 (rd_T35 xs i).f1.length c1) ∧ w.cell? ⟨(ad.add (i.toNat * 5)).block, (ad.add (i.toNat * 5)).off + 2, none⟩ = some (.string (rd_T35 xs i).f2.f0) ∧ w.cell? ⟨(ad.add (i.toNat * 5)).block, (ad.add (i.toNat * 5)).off + 3, none⟩ = some (.slice A3 (rd_T35 xs i).f2.f1.length c3) ∧ w.cell? ⟨(ad.add (i.toNat * 5)).block, (ad.add (i.toNat * 5)).off + 4, none⟩ = some (.slice A4 (rd_T35 xs i).f2.f2.length c4) ∧ (rd_T35 xs i).f1.length ≤ c1 ∧ k94.C w A1 (rd_T35 xs i).f1.length (rd_T35 xs i).f1 ∧ (rd_T35 xs i).f2.f1.length ≤ c3 ∧ k77.C w A3 (rd_T35 xs i).f2.f1.length (rd_T35 xs i).f2.f1 ∧ (rd_T35 xs i).f2.f2.length ≤ c4 ∧ k30.C w A4 (rd_T35 xs i).f2.f2.length (rd_T35 xs i).f2.f2 := by
  obtain ⟨ad, c, e, _, hK, hc0⟩ := Kd.C_get h z35 i h0 h1
  have hc : ∀ j u, c[j]? = some u → w.cell? (ad.add (i.toNat * 5 + j)) = some u := hc0
  obtain ⟨A1, c1, A3, c3, A4, c4, rfl, l1, g1, l3, g3, l4, g4⟩ := k35_open hK
  exact ⟨ad, A1, c1, A3, c3, A4, c4, e, hc 0 _ rfl, by rw [← add_field _ _ 1 (by omega)]; exact hc 1 _ rfl, by rw [← add_field _ _ 2 (by omega)]; exact hc 2 _ rfl, by rw [← add_field _ _ 3 (by omega)]; exact hc 3 _ rfl, by rw [← add_field _ _ 4 (by omega)]; exact hc 4 _ rfl, l1, g1, l3, g3, l4, g4⟩

def rd_L12 (xs : List (List Int)) (i : Int) : (List Int) := xs.getD i.toNat ([] : List Int)
theorem at_L12 {w : World} {A : Option Addr} {n : Nat} {xs : List (List Int)} (h : Kd.C (Kd.slice 3 (Kd.int .i64)) w A n xs) (i : Int) (h0 : 0 ≤ i) (h1 : i < n) : ∃ ad A0 c0, A = some ad ∧ w.cell? (ad.add i.toNat) = some (.slice A0 (rd_L12 xs i).length c0) ∧ (rd_L12 xs i).length ≤ c0 ∧ (Kd.int .i64).C w A0 (rd_L12 xs i).length (rd_L12 xs i) := by
  obtain ⟨ad, c, e, _, hK, hc0⟩ := Kd.C_get h ([] : List Int) i h0 h1
  have hc : ∀ j u, c[j]? = some u → w.cell? (ad.add (i.toNat * 1 + j)) = some u := hc0
  obtain ⟨A0, c0, rfl, l0, g0⟩ := hK
  exact ⟨ad, A0, c0, e, by have hq := hc 0 _ rfl; rwa [Nat.mul_one, Nat.add_zero] at hq, l0, g0⟩

/-! #### struct type 46 -/
structure S46 where
  f0 : Int
  f1 : Int
  f2 : Int
def z46 : S46 := ⟨(0 : Int), (0 : Int), (0 : Int)⟩
def k46 : Kd S46 := Kd.iso (Kd.pair (Kd.int .u64) (Kd.pair (Kd.int .u64) (Kd.int .u64))) (fun x : S46 => (x.f0, x.f1, x.f2))
theorem k46_heap : Kd.Heap k46 := Kd.heap_iso _ (Kd.heap_pair (Kd.heap_int .u64) (Kd.heap_pair (Kd.heap_int .u64) (Kd.heap_int .u64)))
theorem k46_open {w : World} {x : S46} {cs : List Value} (h : k46.K w x cs) : cs = [.int .u64 x.f0, .int .u64 x.f1, .int .u64 x.f2] := by
  obtain ⟨_, _, rfl, rfl, ⟨_, _, rfl, rfl, rfl⟩⟩ := h
  exact rfl
theorem k46_openM {w : World} {base : Nat} {ok : Nat → Prop} {x : S46} {cs : List Value} (h : k46.M w base ok x cs) : cs = [.int .u64 x.f0, .int .u64 x.f1, .int .u64 x.f2] := by
  obtain ⟨_, _, rfl, rfl, ⟨_, _, rfl, rfl, rfl⟩⟩ := h
  exact rfl
theorem k46_mk (w : World) (x : S46)  : k46.K w x [.int .u64 x.f0, .int .u64 x.f1, .int .u64 x.f2] := ⟨[.int .u64 x.f0], [.int .u64 x.f1, .int .u64 x.f2], rfl, rfl, ⟨[.int .u64 x.f1], [.int .u64 x.f2], rfl, rfl, rfl⟩⟩
theorem k46_mkM (w : World) (base : Nat) (ok : Nat → Prop) (x : S46)  : k46.M w base ok x [.int .u64 x.f0, .int .u64 x.f1, .int .u64 x.f2] := ⟨[.int .u64 x.f0], [.int .u64 x.f1, .int .u64 x.f2], rfl, rfl, ⟨[.int .u64 x.f1], [.int .u64 x.f2], rfl, rfl, rfl⟩⟩
theorem k46_mkF (W : World) (ok : Nat → Prop) (x : S46) : Kd.FK k46 W ok x [.int .u64 x.f0, .int .u64 x.f1, .int .u64 x.f2] := fun W2 _ => k46_mk W2 x
def rd_T46 (xs : List S46) (i : Int) : S46 := xs.getD i.toNat z46
theorem at_T46 {w : World} {A : Option Addr} {n : Nat} {xs : List S46} (h : Kd.C k46 w A n xs) (i : Int) (h0 : 0 ≤ i) (h1 : i < n) : ∃ ad , A = some ad ∧ w.cell? (ad.add (i.toNat * 3)) = some (.int .u64 (rd_T46 xs i).f0) ∧ w.cell? ⟨(ad.add (i.toNat * 3)).block, (ad.add (i.toNat * 3)).off + 1, none⟩ = some (.int .u64 (rd_T46 xs i).f1) ∧ w.cell? ⟨(ad.add (i.toNat * 3)).block, (ad.add (i.toNat * 3)).off + 2, none⟩ = some (.int .u64 (rd_T46 xs i).f2) := by
  obtain ⟨ad, c, e, _, hK, hc0⟩ := Kd.C_get h z46 i h0 h1
  have hc : ∀ j u, c[j]? = some u → w.cell? (ad.add (i.toNat * 3 + j)) = some u := hc0
  obtain rfl := k46_open hK
  exact ⟨ad, e, hc 0 _ rfl, by rw [← add_field _ _ 1 (by omega)]; exact hc 1 _ rfl, by rw [← add_field _ _ 2 (by omega)]; exact hc 2 _ rfl⟩

/-! #### struct type 45 -/
structure S45 where
  f0 : Int
  f1 : Int
  f2 : Int
def z45 : S45 := ⟨(0 : Int), (0 : Int), (0 : Int)⟩
def k45 : Kd S45 := Kd.iso (Kd.pair (Kd.int .u64) (Kd.pair (Kd.int .u64) (Kd.int .u64))) (fun x : S45 => (x.f0, x.f1, x.f2))
theorem k45_heap : Kd.Heap k45 := Kd.heap_iso _ (Kd.heap_pair (Kd.heap_int .u64) (Kd.heap_pair (Kd.heap_int .u64) (Kd.heap_int .u64)))
theorem k45_open {w : World} {x : S45} {cs : List Value} (h : k45.K w x cs) : cs = [.int .u64 x.f0, .int .u64 x.f1, .int .u64 x.f2] := by
  obtain ⟨_, _, rfl, rfl, ⟨_, _, rfl, rfl, rfl⟩⟩ := h
  exact rfl
theorem k45_openM {w : World} {base : Nat} {ok : Nat → Prop} {x : S45} {cs : List Value} (h : k45.M w base ok x cs) : cs = [.int .u64 x.f0, .int .u64 x.f1, .int .u64 x.f2] := by
  obtain ⟨_, _, rfl, rfl, ⟨_, _, rfl, rfl, rfl⟩⟩ := h
  exact rfl
theorem k45_mk (w : World) (x : S45)  : k45.K w x [.int .u64 x.f0, .int .u64 x.f1, .int .u64 x.f2] := ⟨[.int .u64 x.f0], [.int .u64 x.f1, .int .u64 x.f2], rfl, rfl, ⟨[.int .u64 x.f1], [.int .u64 x.f2], rfl, rfl, rfl⟩⟩
theorem k45_mkM (w : World) (base : Nat) (ok : Nat → Prop) (x : S45)  : k45.M w base ok x [.int .u64 x.f0, .int .u64 x.f1, .int .u64 x.f2] := ⟨[.int .u64 x.f0], [.int .u64 x.f1, .int .u64 x.f2], rfl, rfl, ⟨[.int .u64 x.f1], [.int .u64 x.f2], rfl, rfl, rfl⟩⟩
theorem k45_mkF (W : World) (ok : Nat → Prop) (x : S45) : Kd.FK k45 W ok x [.int .u64 x.f0, .int .u64 x.f1, .int .u64 x.f2] := fun W2 _ => k45_mk W2 x
def rd_T45 (xs : List S45) (i : Int) : S45 := xs.getD i.toNat z45
theorem at_T45 {w : World} {A : Option Addr} {n : Nat} {xs : List S45} (h : Kd.C k45 w A n xs) (i : Int) (h0 : 0 ≤ i) (h1 : i < n) : ∃ ad , A = some ad ∧ w.cell? (ad.add (i.toNat * 3)) = some (.int .u64 (rd_T45 xs i).f0) ∧ w.cell? ⟨(ad.add (i.toNat * 3)).block, (ad.add (i.toNat * 3)).off + 1, none⟩ = some (.int .u64 (rd_T45 xs i).f1) ∧ w.cell? ⟨(ad.add (i.toNat * 3)).block, (ad.add (i.toNat * 3)).off + 2, none⟩ = some (.int .u64 (rd_T45 xs i).f2) := by
  obtain ⟨ad, c, e, _, hK, hc0⟩ := Kd.C_get h z45 i h0 h1
  have hc : ∀ j u, c[j]? = some u → w.cell? (ad.add (i.toNat * 3 + j)) = some u := hc0
  obtain rfl := k45_open hK
  exact ⟨ad, e, hc 0 _ rfl, by rw [← add_field _ _ 1 (by omega)]; exact hc 1 _ rfl, by rw [← add_field _ _ 2 (by omega)]; exact hc 2 _ rfl⟩

/-! #### struct type 67 -/
structure S67 where
  f0 : Int
  f1 : Int
def z67 : S67 := ⟨(0 : Int), (0 : Int)⟩
def k67 : Kd S67 := Kd.iso (Kd.pair (Kd.int .u64) (Kd.int .u64)) (fun x : S67 => (x.f0, x.f1))
theorem k67_heap : Kd.Heap k67 := Kd.heap_iso _ (Kd.heap_pair (Kd.heap_int .u64) (Kd.heap_int .u64))
theorem k67_open {w : World} {x : S67} {cs : List Value} (h : k67.K w x cs) : cs = [.int .u64 x.f0, .int .u64 x.f1] := by
  obtain ⟨_, _, rfl, rfl, rfl⟩ := h
  exact rfl
theorem k67_openM {w : World} {base : Nat} {ok : Nat → Prop} {x : S67} {cs : List Value} (h : k67.M w base ok x cs) : cs = [.int .u64 x.f0, .int .u64 x.f1] := by
  obtain ⟨_, _, rfl, rfl, rfl⟩ := h
  exact rfl
theorem k67_mk (w : World) (x : S67)  : k67.K w x [.int .u64 x.f0, .int .u64 x.f1] := ⟨[.int .u64 x.f0], [.int .u64 x.f1], rfl, rfl, rfl⟩
theorem k67_mkM (w : World) (base : Nat) (ok : Nat → Prop) (x : S67)  : k67.M w base ok x [.int .u64 x.f0, .int .u64 x.f1] := ⟨[.int .u64 x.f0], [.int .u64 x.f1], rfl, rfl, rfl⟩
theorem k67_mkF (W : World) (ok : Nat → Prop) (x : S67) : Kd.FK k67 W ok x [.int .u64 x.f0, .int .u64 x.f1] := fun W2 _ => k67_mk W2 x
def rd_T67 (xs : List S67) (i : Int) : S67 := xs.getD i.toNat z67
theorem at_T67 {w : World} {A : Option Addr} {n : Nat} {xs : List S67} (h : Kd.C k67 w A n xs) (i : Int) (h0 : 0 ≤ i) (h1 : i < n) : ∃ ad , A = some ad ∧ w.cell? (ad.add (i.toNat * 2)) = some (.int .u64 (rd_T67 xs i).f0) ∧ w.cell? ⟨(ad.add (i.toNat * 2)).block, (ad.add (i.toNat * 2)).off + 1, none⟩ = some (.int .u64 (rd_T67 xs i).f1) := by
  obtain ⟨ad, c, e, _, hK, hc0⟩ := Kd.C_get h z67 i h0 h1
  have hc : ∀ j u, c[j]? = some u → w.cell? (ad.add (i.toNat * 2 + j)) = some u := hc0
  obtain rfl := k67_open hK
  exact ⟨ad, e, hc 0 _ rfl, by rw [← add_field _ _ 1 (by omega)]; exact hc 1 _ rfl⟩

/-! #### struct type 66 -/
structure S66 where
  f0 : Int
  f1 : Int
def z66 : S66 := ⟨(0 : Int), (0 : Int)⟩
def k66 : Kd S66 := Kd.iso (Kd.pair (Kd.int .u64) (Kd.int .u64)) (fun x : S66 => (x.f0, x.f1))
theorem k66_heap : Kd.Heap k66 := Kd.heap_iso _ (Kd.heap_pair (Kd.heap_int .u64) (Kd.heap_int .u64))
theorem k66_open {w : World} {x : S66} {cs : List Value} (h : k66.K w x cs) : cs = [.int .u64 x.f0, .int .u64 x.f1] := by
  obtain ⟨_, _, rfl, rfl, rfl⟩ := h
  exact rfl
theorem k66_openM {w : World} {base : Nat} {ok : Nat → Prop} {x : S66} {cs : List Value} (h : k66.M w base ok x cs) : cs = [.int .u64 x.f0, .int .u64 x.f1] := by
  obtain ⟨_, _, rfl, rfl, rfl⟩ := h
  exact rfl
theorem k66_mk (w : World) (x : S66)  : k66.K w x [.int .u64 x.f0, .int .u64 x.f1] := ⟨[.int .u64 x.f0], [.int .u64 x.f1], rfl, rfl, rfl⟩
theorem k66_mkM (w : World) (base : Nat) (ok : Nat → Prop) (x : S66)  : k66.M w base ok x [.int .u64 x.f0, .int .u64 x.f1] := ⟨[.int .u64 x.f0], [.int .u64 x.f1], rfl, rfl, rfl⟩
theorem k66_mkF (W : World) (ok : Nat → Prop) (x : S66) : Kd.FK k66 W ok x [.int .u64 x.f0, .int .u64 x.f1] := fun W2 _ => k66_mk W2 x
def rd_T66 (xs : List S66) (i : Int) : S66 := xs.getD i.toNat z66
theorem at_T66 {w : World} {A : Option Addr} {n : Nat} {xs : List S66} (h : Kd.C k66 w A n xs) (i : Int) (h0 : 0 ≤ i) (h1 : i < n) : ∃ ad , A = some ad ∧ w.cell? (ad.add (i.toNat * 2)) = some (.int .u64 (rd_T66 xs i).f0) ∧ w.cell? ⟨(ad.add (i.toNat * 2)).block, (ad.add (i.toNat * 2)).off + 1, none⟩ = some (.int .u64 (rd_T66 xs i).f1) := by
  obtain ⟨ad, c, e, _, hK, hc0⟩ := Kd.C_get h z66 i h0 h1
  have hc : ∀ j u, c[j]? = some u → w.cell? (ad.add (i.toNat * 2 + j)) = some u := hc0
  obtain rfl := k66_open hK
  exact ⟨ad, e, hc 0 _ rfl, by rw [← add_field _ _ 1 (by omega)]; exact hc 1 _ rfl⟩

end Go.Proofs.Yteejaaeglfpcmab.PX

/- Contracts of the functions that the seat's laws reach, each beside a plain Lean function: by a program of this session's (tools/myprint.py over the kit's print.py), with some of its own proof. -/
namespace Go.Proofs.Yteejaaeglfpcmab.PX
open Go.RowKit Go.Proofs.YteejaaeglfpcmabW.PrintWords Go.Proofs.YteejaaeglfpcmabW.PrintLast Go.Proofs.YteejaaeglfpcmabW.PrintMore
attribute [local go_sem] max2_int min2_int max_two min_two max_three min_three max_four min_four   -- for this text's walks alone
set_option linter.unusedVariables false
set_option linter.unusedSimpArgs false

/-! ### stringslite_Index: function 85 -/
/-- The first place of a text of one byte in a text, or -1 (the library's own law of it, laid at this program). -/
def stringslite_Index.f (a0 : ByteArray) (a1 : ByteArray) : Option (Int) := match a1.data.toList with | [c] => some (Lib.indexByte a0.data.toList c) | _ => none
theorem stringslite_Index.calls (a0 : ByteArray) (a1 : ByteArray) (r : Int) (w : World) (h : stringslite_Index.f a0 a1 = some r) :
    Calls Try.prog 85 #[.string a0, .string a1] w fun e w' => e = .returned (.int .i64 r) ∧ Drawn0 w w' := by
  unfold stringslite_Index.f at h
  split at h
  · next c hc =>
    have ha : a1 = ⟨#[c]⟩ := by
      obtain ⟨⟨l⟩⟩ := a1
      simp only at hc
      rw [hc]
    subst ha
    injection h with hr
    refine (Try.stringslite_Index_one a0 c w).mono ?_
    rintro e w' ⟨rfl, rfl⟩
    exact ⟨by rw [hr], Drawn0.refl _⟩
  · cases h

end Go.Proofs.Yteejaaeglfpcmab.PX

/- Contracts of the functions that the seat's laws reach, each beside a plain Lean function: by a program of this session's (tools/myprint.py over the kit's print.py), with some of its own proof. -/
namespace Go.Proofs.Yteejaaeglfpcmab.PX
open Go.RowKit Go.Proofs.YteejaaeglfpcmabW.PrintWords Go.Proofs.YteejaaeglfpcmabW.PrintLast Go.Proofs.YteejaaeglfpcmabW.PrintMore
attribute [local go_sem] max2_int min2_int max_two min_two max_three min_three max_four min_four   -- for this text's walks alone
set_option linter.unusedVariables false
set_option linter.unusedSimpArgs false

/-! ### stringslite_Cut: function 69 -/
def stringslite_Cut.f (a0 : ByteArray) (a1 : ByteArray) : Option (ByteArray × ByteArray × Bool) := (stringslite_Index.f a0 a1).bind fun t103 => (if t103 ≥ 0 then (if 0 ≤ t103 then (if t103 ≤ (a0.size : Int) then (if 0 ≤ (wrap64 (t103 + (a1.size : Int))) then (if (wrap64 (t103 + (a1.size : Int))) ≤ (a0.size : Int) then (some (a0.extract 0 (t103 : Int).toNat, a0.extract ((wrap64 (t103 + (a1.size : Int))) : Int).toNat a0.size, true)) else (none)) else (none)) else (none)) else (none)) else (some (a0, (⟨#[]⟩ : ByteArray), false)))
set_option maxHeartbeats 8000000 in
set_option maxRecDepth 100000 in
theorem stringslite_Cut.calls (a0 : ByteArray) (a1 : ByteArray) (r1 : ByteArray) (r2 : ByteArray) (r3 : Bool) (w : World) (h : stringslite_Cut.f a0 a1 = some (r1, r2, r3)) :
    Calls Try.prog 69 #[.string a0, .string a1] w fun e w' => e = .returned (.tuple #[.string r1, .string r2, .bool r3]) ∧ Drawn0 w w' := by
  have H : ((stringslite_Index.f a0 a1).bind fun t103 => (if t103 ≥ 0 then (if 0 ≤ t103 then (if t103 ≤ (a0.size : Int) then (if 0 ≤ (wrap64 (t103 + (a1.size : Int))) then (if (wrap64 (t103 + (a1.size : Int))) ≤ (a0.size : Int) then (some (a0.extract 0 (t103 : Int).toNat, a0.extract ((wrap64 (t103 + (a1.size : Int))) : Int).toNat a0.size, true)) else (none)) else (none)) else (none)) else (none)) else (some (a0, (⟨#[]⟩ : ByteArray), false)))) = some (r1, r2, r3) := h
  clear h
  replace H := Option.bind_eq_some_iff.mp H
  obtain ⟨t103, A30, H⟩ := H
  replace H : (if t103 ≥ 0 then (if 0 ≤ t103 then (if t103 ≤ (a0.size : Int) then (if 0 ≤ (wrap64 (t103 + (a1.size : Int))) then (if (wrap64 (t103 + (a1.size : Int))) ≤ (a0.size : Int) then (some (a0.extract 0 (t103 : Int).toNat, a0.extract ((wrap64 (t103 + (a1.size : Int))) : Int).toNat a0.size, true)) else (none)) else (none)) else (none)) else (none)) else (some (a0, (⟨#[]⟩ : ByteArray), false))) = some (r1, r2, r3) := H
  have A3 := Aside0.mk A30
  clear A30
  by_cases c4 : t103 ≥ 0
  · rw [if_pos c4] at H
    have c4b0 : decide (0 ≤ t103) = true := decide_eq_true c4
    clear c4
    by_cases c5 : 0 ≤ t103
    · rw [if_pos c5] at H
      have c5b0 := eq_true c5
      have c5b1 : decide (0 ≤ t103) = true := decide_eq_true c5
      clear c5
      by_cases c6 : t103 ≤ (a0.size : Int)
      · rw [if_pos c6] at H
        have c6b0 := eq_true c6
        have c6b1 : decide (t103 ≤ (a0.size : Int)) = true := decide_eq_true c6
        clear c6
        obtain ⟨ji7, hji7⟩ : ∃ j_ : Int, (wrap64 (t103 + (a1.size : Int))) = j_ := ⟨_, rfl⟩
        replace H : (if 0 ≤ (ji7) then (if (ji7) ≤ (a0.size : Int) then (some (a0.extract 0 (t103 : Int).toNat, a0.extract ((ji7) : Int).toNat a0.size, true)) else (none)) else (none)) = some (r1, r2, r3) := by first | (rw [hji7] at H; exact H) | (simp only [hji7] at H ⊢; exact H)
        (try rw [hji7] at A3)
        have hji7w : (IntKind.i64.wrap (t103 + (a1.size : Int))) = ji7 := (i64_w _).trans hji7
        by_cases c8 : 0 ≤ (ji7)
        · rw [if_pos c8] at H
          have c8b0 := eq_true c8
          have c8b1 : decide (0 ≤ (ji7)) = true := decide_eq_true c8
          clear c8
          by_cases c9 : (ji7) ≤ (a0.size : Int)
          · rw [if_pos c9] at H
            have c9b0 := eq_true c9
            have c9b1 : decide ((ji7) ≤ (a0.size : Int)) = true := decide_eq_true c9
            clear c9
            simp only [Option.some.injEq, Prod.mk.injEq] at H
            obtain ⟨rfl, rfl, rfl⟩ := H
            go_enter Try.func69, Try.ntmps69
            go_wp2_with (first | (go_at_call 85; (with_reducible refine (stringslite_Index.calls a0 a1 t103 _ A3.out).mono ?_); rintro e w' ⟨rfl, ⟨nd, rfl⟩⟩; (try first | exact ⟨rfl, _, World.drewN_drewN _ _ _⟩ | exact ⟨rfl, _, Eq.trans (World.drewN_drewN _ _ _) (congrArg (World.drewN _) (Nat.add_assoc _ _ _))⟩)))
            repeat (go_quiet (first | (go_at_call 85; (with_reducible refine (stringslite_Index.calls a0 a1 t103 _ A3.out).mono ?_); rintro e w' ⟨rfl, ⟨nd, rfl⟩⟩; (try first | exact ⟨rfl, _, World.drewN_drewN _ _ _⟩ | exact ⟨rfl, _, Eq.trans (World.drewN_drewN _ _ _) (congrArg (World.drewN _) (Nat.add_assoc _ _ _))⟩))); try go_wp2_with (first | (go_at_call 85; (with_reducible refine (stringslite_Index.calls a0 a1 t103 _ A3.out).mono ?_); rintro e w' ⟨rfl, ⟨nd, rfl⟩⟩; (try first | exact ⟨rfl, _, World.drewN_drewN _ _ _⟩ | exact ⟨rfl, _, Eq.trans (World.drewN_drewN _ _ _) (congrArg (World.drewN _) (Nat.add_assoc _ _ _))⟩))))
            go_ret3
            exact ⟨by first | rfl | (simp; done) | (simp only [← hji7] <;> (first | rfl | simp)) | (simp [*]; done), by repeat (first | exact Drawn0.refl _ | apply Drawn0.step)⟩
          · rw [if_neg c9] at H
            exact absurd H (by simp)
        · rw [if_neg c8] at H
          exact absurd H (by simp)
      · rw [if_neg c6] at H
        exact absurd H (by simp)
    · rw [if_neg c5] at H
      exact absurd H (by simp)
  · rw [if_neg c4] at H
    have c4b0 : decide (0 ≤ t103) = false := decide_eq_false c4
    clear c4
    simp only [Option.some.injEq, Prod.mk.injEq] at H
    obtain ⟨rfl, rfl, rfl⟩ := H
    go_enter Try.func69, Try.ntmps69
    go_wp2_with (first | (go_at_call 85; (with_reducible refine (stringslite_Index.calls a0 a1 t103 _ A3.out).mono ?_); rintro e w' ⟨rfl, ⟨nd, rfl⟩⟩; (try first | exact ⟨rfl, _, World.drewN_drewN _ _ _⟩ | exact ⟨rfl, _, Eq.trans (World.drewN_drewN _ _ _) (congrArg (World.drewN _) (Nat.add_assoc _ _ _))⟩)))
    repeat (go_quiet (first | (go_at_call 85; (with_reducible refine (stringslite_Index.calls a0 a1 t103 _ A3.out).mono ?_); rintro e w' ⟨rfl, ⟨nd, rfl⟩⟩; (try first | exact ⟨rfl, _, World.drewN_drewN _ _ _⟩ | exact ⟨rfl, _, Eq.trans (World.drewN_drewN _ _ _) (congrArg (World.drewN _) (Nat.add_assoc _ _ _))⟩))); try go_wp2_with (first | (go_at_call 85; (with_reducible refine (stringslite_Index.calls a0 a1 t103 _ A3.out).mono ?_); rintro e w' ⟨rfl, ⟨nd, rfl⟩⟩; (try first | exact ⟨rfl, _, World.drewN_drewN _ _ _⟩ | exact ⟨rfl, _, Eq.trans (World.drewN_drewN _ _ _) (congrArg (World.drewN _) (Nat.add_assoc _ _ _))⟩))))
    go_ret3
    exact ⟨by first | rfl | (simp; done) | (simp [*]; done), by repeat (first | exact Drawn0.refl _ | apply Drawn0.step)⟩

end Go.Proofs.Yteejaaeglfpcmab.PX

/- Contracts of the functions that the seat's laws reach, each beside a plain Lean function: by a program of this session's (tools/myprint.py over the kit's print.py), with some of its own proof. -/
namespace Go.Proofs.Yteejaaeglfpcmab.PX
open Go.RowKit Go.Proofs.YteejaaeglfpcmabW.PrintWords Go.Proofs.YteejaaeglfpcmabW.PrintLast Go.Proofs.YteejaaeglfpcmabW.PrintMore
attribute [local go_sem] max2_int min2_int max_two min_two max_three min_three max_four min_four   -- for this text's walks alone
set_option linter.unusedVariables false
set_option linter.unusedSimpArgs false

/-! ### strings_Cut: function 41 -/
def strings_Cut.f (a0 : ByteArray) (a1 : ByteArray) : Option (ByteArray × ByteArray × Bool) := (stringslite_Cut.f a0 a1).bind fun bt104 => (some (bt104.1, bt104.2.1, bt104.2.2))
set_option maxHeartbeats 8000000 in
set_option maxRecDepth 100000 in
theorem strings_Cut.calls (a0 : ByteArray) (a1 : ByteArray) (r1 : ByteArray) (r2 : ByteArray) (r3 : Bool) (w : World) (h : strings_Cut.f a0 a1 = some (r1, r2, r3)) :
    Calls Try.prog 41 #[.string a0, .string a1] w fun e w' => e = .returned (.tuple #[.string r1, .string r2, .bool r3]) ∧ Drawn0 w w' := by
  have H : ((stringslite_Cut.f a0 a1).bind fun bt104 => (some (bt104.1, bt104.2.1, bt104.2.2))) = some (r1, r2, r3) := h
  clear h
  replace H := Option.bind_eq_some_iff.mp H
  obtain ⟨⟨t104, t105, t106⟩, A30, H⟩ := H
  replace H : (some (t104, t105, t106)) = some (r1, r2, r3) := H
  have A3 := Aside0.mk A30
  clear A30
  simp only [Option.some.injEq, Prod.mk.injEq] at H
  obtain ⟨rfl, rfl, rfl⟩ := H
  go_enter Try.func41, Try.ntmps41
  go_wp2_with (first | ((with_reducible refine gate_callee (f := 69) rfl ?_); refine goesL_ (some 9) rfl rfl Try.func69 (by kernel_rfl) rfl #[.string a0, .string a1] rfl (by (try simp only [List.map_toArray, List.map_cons, List.map_nil]); first | done | rfl | (simp only [List.length_drop, List.length_take]; rfl)) ?_; (with_reducible refine (stringslite_Cut.calls a0 a1 t104 t105 t106 _ A3.out).mono ?_); rintro e w' ⟨rfl, ⟨nd, rfl⟩⟩; refine ⟨_, rfl, ?_⟩))
  go_ret3
  exact ⟨by first | rfl | (simp; done) | (simp [*]; done), by repeat (first | exact Drawn0.refl _ | apply Drawn0.step)⟩

end Go.Proofs.Yteejaaeglfpcmab.PX

/- Contracts of the functions that the seat's laws reach, each beside a plain Lean function: by a program of this session's (tools/myprint.py over the kit's print.py), with some of its own proof. -/
namespace Go.Proofs.Yteejaaeglfpcmab.PX
open Go.RowKit Go.Proofs.YteejaaeglfpcmabW.PrintWords Go.Proofs.YteejaaeglfpcmabW.PrintLast Go.Proofs.YteejaaeglfpcmabW.PrintMore
attribute [local go_sem] max2_int min2_int max_two min_two max_three min_three max_four min_four   -- for this text's walks alone
set_option linter.unusedVariables false
set_option linter.unusedSimpArgs false

/-! ### name_letter: function 68 -/
def name_letter.f (a0 : Int) : Option (Bool) := if a0 ≥ 97 then (if a0 ≤ 122 then (some true) else (if a0 ≥ 65 then (some (decide (a0 ≤ 90))) else (some false))) else (if a0 ≥ 65 then (some (decide (a0 ≤ 90))) else (some false))
set_option maxHeartbeats 8000000 in
set_option maxRecDepth 100000 in
theorem name_letter.calls (a0 : Int) (r : Bool) (w : World) (h : name_letter.f a0 = some r) :
    Calls Try.prog 68 #[.int .u8 a0] w fun e w' => e = .returned (.bool r) ∧ Drawn0 w w' := by
  have H : (if a0 ≥ 97 then (if a0 ≤ 122 then (some true) else (if a0 ≥ 65 then (some (decide (a0 ≤ 90))) else (some false))) else (if a0 ≥ 65 then (some (decide (a0 ≤ 90))) else (some false))) = some r := h
  clear h
  by_cases c2 : a0 ≥ 97
  · rw [if_pos c2] at H
    have c2b0 : decide (97 ≤ a0) = true := decide_eq_true c2
    clear c2
    by_cases c3 : a0 ≤ 122
    · rw [if_pos c3] at H
      have c3b0 : decide (a0 ≤ 122) = true := decide_eq_true c3
      clear c3
      obtain rfl := Option.some.inj H
      go_enter Try.func68, Try.ntmps68
      go_wp2
      go_ret
      exact ⟨by first | rfl | (simp; done) | (simp [*]; done), by repeat (first | exact Drawn0.refl _ | apply Drawn0.step)⟩
    · rw [if_neg c3] at H
      have c3b0 : decide (a0 ≤ 122) = false := decide_eq_false c3
      clear c3
      by_cases c4 : a0 ≥ 65
      · rw [if_pos c4] at H
        have c4b0 : decide (65 ≤ a0) = true := decide_eq_true c4
        clear c4
        obtain rfl := Option.some.inj H
        go_enter Try.func68, Try.ntmps68
        go_wp2
        go_ret
        exact ⟨by first | rfl | (simp; done) | (simp [*]; done), by repeat (first | exact Drawn0.refl _ | apply Drawn0.step)⟩
      · rw [if_neg c4] at H
        have c4b0 : decide (65 ≤ a0) = false := decide_eq_false c4
        clear c4
        obtain rfl := Option.some.inj H
        go_enter Try.func68, Try.ntmps68
        go_wp2
        go_ret
        exact ⟨by first | rfl | (simp; done) | (simp [*]; done), by repeat (first | exact Drawn0.refl _ | apply Drawn0.step)⟩
  · rw [if_neg c2] at H
    have c2b0 : decide (97 ≤ a0) = false := decide_eq_false c2
    clear c2
    by_cases c5 : a0 ≥ 65
    · rw [if_pos c5] at H
      have c5b0 : decide (65 ≤ a0) = true := decide_eq_true c5
      clear c5
      obtain rfl := Option.some.inj H
      go_enter Try.func68, Try.ntmps68
      go_wp2
      go_ret
      exact ⟨by first | rfl | (simp; done) | (simp [*]; done), by repeat (first | exact Drawn0.refl _ | apply Drawn0.step)⟩
    · rw [if_neg c5] at H
      have c5b0 : decide (65 ≤ a0) = false := decide_eq_false c5
      clear c5
      obtain rfl := Option.some.inj H
      go_enter Try.func68, Try.ntmps68
      go_wp2
      go_ret
      exact ⟨by first | rfl | (simp; done) | (simp [*]; done), by repeat (first | exact Drawn0.refl _ | apply Drawn0.step)⟩

end Go.Proofs.Yteejaaeglfpcmab.PX

/- Contracts of the functions that the seat's laws reach, each beside a plain Lean function: by a program of this session's (tools/myprint.py over the kit's print.py), with some of its own proof. -/
namespace Go.Proofs.Yteejaaeglfpcmab.PX
open Go.RowKit Go.Proofs.YteejaaeglfpcmabW.PrintWords Go.Proofs.YteejaaeglfpcmabW.PrintLast Go.Proofs.YteejaaeglfpcmabW.PrintMore
attribute [local go_sem] max2_int min2_int max_two min_two max_three min_three max_four min_four   -- for this text's walks alone
set_option linter.unusedVariables false
set_option linter.unusedSimpArgs false

/-! ### strings_IndexByte: function 84 -/
/-- The first place of a byte in a text, or -1 (the library's own law of it, laid at this program). -/
def strings_IndexByte.f (a0 : ByteArray) (a1 : Int) : Option (Int) := some (Lib.indexByte a0.data.toList a1.toNat.toUInt8)
theorem strings_IndexByte.calls (a0 : ByteArray) (a1 : Int) (r : Int) (w : World) (h : strings_IndexByte.f a0 a1 = some r) :
    Calls Try.prog 84 #[.string a0, .int .u8 a1] w fun e w' => e = .returned (.int .i64 r) ∧ Drawn0 w w' := by
  have hr : Lib.indexByte a0.data.toList a1.toNat.toUInt8 = r := by
    unfold strings_IndexByte.f at h
    injection h
  refine (Try.strings_IndexByte a0 a1 w).mono ?_
  rintro e w' ⟨rfl, rfl⟩
  exact ⟨by rw [hr], Drawn0.refl _⟩

end Go.Proofs.Yteejaaeglfpcmab.PX

/- Contracts of the functions that the seat's laws reach, each beside a plain Lean function: by a program of this session's (tools/myprint.py over the kit's print.py), with some of its own proof. -/
namespace Go.Proofs.Yteejaaeglfpcmab.PX
open Go.RowKit Go.Proofs.YteejaaeglfpcmabW.PrintWords Go.Proofs.YteejaaeglfpcmabW.PrintLast Go.Proofs.YteejaaeglfpcmabW.PrintMore
attribute [local go_sem] max2_int min2_int max_two min_two max_three min_three max_four min_four   -- for this text's walks alone
set_option linter.unusedVariables false
set_option linter.unusedSimpArgs false

/-! ### name_plain: function 83 -/
def name_plain.f (a0 : Int) : Option (Bool) := (name_letter.f a0).bind fun t107 => (if t107 = true then (some true) else (if a0 ≥ 48 then (if a0 ≤ 57 then (some true) else ((strings_IndexByte.f (⟨#[44, 46, 95, 43, 45]⟩ : ByteArray) a0).bind fun t108 => (some (decide (t108 ≥ 0))))) else ((strings_IndexByte.f (⟨#[44, 46, 95, 43, 45]⟩ : ByteArray) a0).bind fun t109 => (some (decide (t109 ≥ 0))))))
set_option maxHeartbeats 8000000 in
set_option maxRecDepth 100000 in
theorem name_plain.calls (a0 : Int) (r : Bool) (w : World) (h : name_plain.f a0 = some r) :
    Calls Try.prog 83 #[.int .u8 a0] w fun e w' => e = .returned (.bool r) ∧ Drawn0 w w' := by
  have H : ((name_letter.f a0).bind fun t107 => (if t107 = true then (some true) else (if a0 ≥ 48 then (if a0 ≤ 57 then (some true) else ((strings_IndexByte.f (⟨#[44, 46, 95, 43, 45]⟩ : ByteArray) a0).bind fun t108 => (some (decide (t108 ≥ 0))))) else ((strings_IndexByte.f (⟨#[44, 46, 95, 43, 45]⟩ : ByteArray) a0).bind fun t109 => (some (decide (t109 ≥ 0))))))) = some r := h
  clear h
  replace H := Option.bind_eq_some_iff.mp H
  obtain ⟨t107, A20, H⟩ := H
  replace H : (if t107 = true then (some true) else (if a0 ≥ 48 then (if a0 ≤ 57 then (some true) else ((strings_IndexByte.f (⟨#[44, 46, 95, 43, 45]⟩ : ByteArray) a0).bind fun t108 => (some (decide (t108 ≥ 0))))) else ((strings_IndexByte.f (⟨#[44, 46, 95, 43, 45]⟩ : ByteArray) a0).bind fun t109 => (some (decide (t109 ≥ 0)))))) = some r := H
  have A2 := Aside0.mk A20
  clear A20
  by_cases c3 : t107 = true
  · subst c3
    have H1 : (some true) = some r := by rw [if_pos rfl] at H; exact H
    clear H
    have H := H1
    clear H1
    obtain rfl := Option.some.inj H
    go_enter Try.func83, Try.ntmps83
    go_wp2_with (first | ((with_reducible refine gate_callee (f := 68) rfl ?_); refine goesL_ (some 4) rfl rfl Try.func68 (by kernel_rfl) rfl #[.int .u8 a0] rfl (by (try simp only [List.map_toArray, List.map_cons, List.map_nil]); first | done | rfl | (simp only [List.length_drop, List.length_take]; rfl)) ?_; (with_reducible refine (name_letter.calls a0 true _ A2.out).mono ?_); rintro e w' ⟨rfl, ⟨nd, rfl⟩⟩; refine ⟨_, rfl, ?_⟩))
    go_ret
    exact ⟨by first | rfl | (simp; done) | (simp [*]; done), by repeat (first | exact Drawn0.refl _ | apply Drawn0.step)⟩
  · replace c3 := Bool.eq_false_iff.mpr c3
    subst c3
    have H1 : (if a0 ≥ 48 then (if a0 ≤ 57 then (some true) else ((strings_IndexByte.f (⟨#[44, 46, 95, 43, 45]⟩ : ByteArray) a0).bind fun t108 => (some (decide (t108 ≥ 0))))) else ((strings_IndexByte.f (⟨#[44, 46, 95, 43, 45]⟩ : ByteArray) a0).bind fun t109 => (some (decide (t109 ≥ 0))))) = some r := by rw [if_neg (show ¬ (false = true) by decide)] at H; exact H
    clear H
    have H := H1
    clear H1
    by_cases c4 : a0 ≥ 48
    · rw [if_pos c4] at H
      have c4b0 : decide (48 ≤ a0) = true := decide_eq_true c4
      clear c4
      by_cases c5 : a0 ≤ 57
      · rw [if_pos c5] at H
        have c5b0 : decide (a0 ≤ 57) = true := decide_eq_true c5
        clear c5
        obtain rfl := Option.some.inj H
        go_enter Try.func83, Try.ntmps83
        go_wp2_with (first | ((with_reducible refine gate_callee (f := 68) rfl ?_); refine goesL_ (some 4) rfl rfl Try.func68 (by kernel_rfl) rfl #[.int .u8 a0] rfl (by (try simp only [List.map_toArray, List.map_cons, List.map_nil]); first | done | rfl | (simp only [List.length_drop, List.length_take]; rfl)) ?_; (with_reducible refine (name_letter.calls a0 false _ A2.out).mono ?_); rintro e w' ⟨rfl, ⟨nd, rfl⟩⟩; refine ⟨_, rfl, ?_⟩))
        go_ret
        exact ⟨by first | rfl | (simp; done) | (simp [*]; done), by repeat (first | exact Drawn0.refl _ | apply Drawn0.step)⟩
      · rw [if_neg c5] at H
        have c5b0 : decide (a0 ≤ 57) = false := decide_eq_false c5
        clear c5
        replace H := Option.bind_eq_some_iff.mp H
        obtain ⟨t108, A60, H⟩ := H
        replace H : (some (decide (t108 ≥ 0))) = some r := H
        have A6 := Aside0.mk A60
        clear A60
        obtain rfl := Option.some.inj H
        go_enter Try.func83, Try.ntmps83
        go_wp2_with (first | ((with_reducible refine gate_callee (f := 68) rfl ?_); refine goesL_ (some 4) rfl rfl Try.func68 (by kernel_rfl) rfl #[.int .u8 a0] rfl (by (try simp only [List.map_toArray, List.map_cons, List.map_nil]); first | done | rfl | (simp only [List.length_drop, List.length_take]; rfl)) ?_; (with_reducible refine (name_letter.calls a0 false _ A2.out).mono ?_); rintro e w' ⟨rfl, ⟨nd, rfl⟩⟩; refine ⟨_, rfl, ?_⟩) | (go_at_call 84; (with_reducible refine (strings_IndexByte.calls (⟨#[44, 46, 95, 43, 45]⟩ : ByteArray) a0 t108 _ A6.out).mono ?_); rintro e w' ⟨rfl, ⟨nd, rfl⟩⟩))
        go_ret
        exact ⟨by first | rfl | (simp; done) | (simp [*]; done), by repeat (first | exact Drawn0.refl _ | apply Drawn0.step)⟩
    · rw [if_neg c4] at H
      have c4b0 : decide (48 ≤ a0) = false := decide_eq_false c4
      clear c4
      replace H := Option.bind_eq_some_iff.mp H
      obtain ⟨t109, A70, H⟩ := H
      replace H : (some (decide (t109 ≥ 0))) = some r := H
      have A7 := Aside0.mk A70
      clear A70
      obtain rfl := Option.some.inj H
      go_enter Try.func83, Try.ntmps83
      go_wp2_with (first | ((with_reducible refine gate_callee (f := 68) rfl ?_); refine goesL_ (some 4) rfl rfl Try.func68 (by kernel_rfl) rfl #[.int .u8 a0] rfl (by (try simp only [List.map_toArray, List.map_cons, List.map_nil]); first | done | rfl | (simp only [List.length_drop, List.length_take]; rfl)) ?_; (with_reducible refine (name_letter.calls a0 false _ A2.out).mono ?_); rintro e w' ⟨rfl, ⟨nd, rfl⟩⟩; refine ⟨_, rfl, ?_⟩) | (go_at_call 84; (with_reducible refine (strings_IndexByte.calls (⟨#[44, 46, 95, 43, 45]⟩ : ByteArray) a0 t109 _ A7.out).mono ?_); rintro e w' ⟨rfl, ⟨nd, rfl⟩⟩))
      go_ret
      exact ⟨by first | rfl | (simp; done) | (simp [*]; done), by repeat (first | exact Drawn0.refl _ | apply Drawn0.step)⟩

end Go.Proofs.Yteejaaeglfpcmab.PX

/- Contracts of the functions that the seat's laws reach, each beside a plain Lean function: by a program of this session's (tools/myprint.py over the kit's print.py), with some of its own proof. -/
namespace Go.Proofs.Yteejaaeglfpcmab.PX
open Go.RowKit Go.Proofs.YteejaaeglfpcmabW.PrintWords Go.Proofs.YteejaaeglfpcmabW.PrintLast Go.Proofs.YteejaaeglfpcmabW.PrintMore
attribute [local go_sem] max2_int min2_int max_two min_two max_three min_three max_four min_four   -- for this text's walks alone
set_option linter.unusedVariables false
set_option linter.unusedSimpArgs false

/-! ### name_all: function 67 -/
def name_all.l0 : Nat → ByteArray → ByteArray → Int → Int → Option (Bool)
  | 0, _, _, _, _ => none
  | k + 1, x0, x1, x7, x8 => if x8 < x7 then (if 0 ≤ x8 then (if x8 < (x0.size : Int) then ((name_plain.f (bt x0 x8)).bind fun t110 => (if t110 = true then (name_all.l0 k x0 x1 x7 (wrap64 (x8 + 1))) else ((strings_IndexByte.f x1 (bt x0 x8)).bind fun t111 => (if t111 < 0 then (some false) else (name_all.l0 k x0 x1 x7 (wrap64 (x8 + 1))))))) else (none)) else (none)) else (if (x0.size : Int) ≥ 1 then (some (decide ((x0.size : Int) ≤ 31))) else (some false))
def name_all.f (k : Nat) (a0 : ByteArray) (a1 : ByteArray) : Option (Bool) := name_all.l0 k a0 a1 (a0.size : Int) 0
theorem name_all.mono_l : ∀ k, (∀ y0 y1 y2 y3, LeO (name_all.l0 k y0 y1 y2 y3) (name_all.l0 (k + 1) y0 y1 y2 y3))
  | 0 => fun _ _ _ _ r h => by simp [name_all.l0] at h
  | k + 1 => by
    have ih0 := name_all.mono_l k
    · intro y0 y1 y2 y3
      unfold name_all.l0
      repeat' first
      | (with_reducible exact ih0 _ _ _ _)
      | (with_reducible exact LeO.refl _)
      | (with_reducible exact LeO.none _)
      | (with_reducible refine LeO.ite ?_ ?_)
      | (with_reducible refine LeO.bind ?_ (fun _ => ?_))
      | exact ih0 _ _ _ _
      | exact LeO.none _
      | refine LeO.ite ?_ ?_
      | refine LeO.bind ?_ (fun _ => ?_)
theorem name_all.mono : ∀ a0 a1 k, LeO (name_all.f k a0 a1) (name_all.f (k + 1) a0 a1) := by
  intro a0 a1 k
  have ih0 := name_all.mono_l k
  unfold name_all.f
  repeat' first
      | (with_reducible exact ih0 _ _ _ _)
      | (with_reducible exact LeO.refl _)
      | (with_reducible exact LeO.none _)
      | (with_reducible refine LeO.ite ?_ ?_)
      | (with_reducible refine LeO.bind ?_ (fun _ => ?_))
      | exact ih0 _ _ _ _
      | exact LeO.none _
      | refine LeO.ite ?_ ?_
      | refine LeO.bind ?_ (fun _ => ?_)
set_option maxHeartbeats 8000000 in
set_option maxRecDepth 100000 in
theorem name_all.calls (k : Nat) (a0 : ByteArray) (a1 : ByteArray) (r : Bool) (w : World) (h : name_all.f k a0 a1 = some r) :
    Calls Try.prog 67 #[.string a0, .string a1] w fun e w' => e = .returned (.bool r) ∧ Drawn0 w w' := by
  have H : (name_all.l0 k a0 a1 (a0.size : Int) 0) = some r := h
  clear h
  have H' := Aside0.mk H
  clear H
  go_enter Try.func67, Try.ntmps67
  go_wp2
  go_loopg [8] k (fun kq v8 w' => ∃ (x8_1 : Int), v8 = .int .i64 x8_1 ∧ Aside0 (name_all.l0 kq a0 a1 (a0.size : Int) x8_1 = some r) ∧ Aside0 (kq ≤ k) ∧ Drawn0 w w')
  case atStart => exact ⟨(0), (by first | rfl | (simp; done) | (simp [*]; done)), H', ⟨Nat.le_refl _⟩, by repeat (first | exact Drawn0.refl _ | apply Drawn0.step)⟩
  case round =>
    clear H'
    try clear p2
    obtain ⟨x8_1, rfl, HA, HK1, ⟨m1, rfl⟩⟩ := hrel
    cases gk with
    | zero => exact absurd HA.out (by simp [name_all.l0])
    | succ k1 =>
      have H := HA.out
      clear HA
      simp only [name_all.l0] at H
      by_cases c3 : x8_1 < (a0.size : Int)
      · rw [if_pos c3] at H
        have c3b0 : decide (x8_1 < (a0.size : Int)) = true := decide_eq_true c3
        clear c3
        by_cases c4 : 0 ≤ x8_1
        · rw [if_pos c4] at H
          have c4b0 : decide (0 ≤ x8_1) = true := decide_eq_true c4
          clear c4
          by_cases c5 : x8_1 < (a0.size : Int)
          · rw [if_pos c5] at H
            have c5b0 : decide (x8_1 < (a0.size : Int)) = true := decide_eq_true c5
            clear c5
            replace H := Option.bind_eq_some_iff.mp H
            obtain ⟨t110, A70, H⟩ := H
            replace H : (if t110 = true then (name_all.l0 k1 a0 a1 (a0.size : Int) (wrap64 (x8_1 + 1))) else ((strings_IndexByte.f a1 (bt a0 x8_1)).bind fun t111 => (if t111 < 0 then (some false) else (name_all.l0 k1 a0 a1 (a0.size : Int) (wrap64 (x8_1 + 1)))))) = some r := H
            have A7 := Aside0.mk A70
            clear A70
            by_cases c8 : t110 = true
            · subst c8
              have H1 : (name_all.l0 k1 a0 a1 (a0.size : Int) (wrap64 (x8_1 + 1))) = some r := by rw [if_pos rfl] at H; exact H
              clear H
              have H := H1
              clear H1
              have H' := Aside0.mk H
              clear H
              have p6 : 0 ≤ (x8_1 : Int) := of_decide_eq_true (by first | (with_reducible assumption) | assumption)
              have q6 : x8_1 < (a0.size : Int) := of_decide_eq_true (by first | (with_reducible assumption) | assumption)
              have hx6 := bt_at a0 x8_1
              replace p6 := eq_true p6
              replace q6 := eq_true q6
              go_wp2_with (first | ((with_reducible refine gate_callee (f := 83) rfl ?_); refine goesL_ (some 14) rfl rfl Try.func83 (by kernel_rfl) rfl #[.int .u8 (bt a0 x8_1)] rfl (by (try simp only [List.map_toArray, List.map_cons, List.map_nil]); first | done | rfl | (simp only [List.length_drop, List.length_take]; rfl)) ?_; (with_reducible refine (name_plain.calls (bt a0 x8_1) true _ A7.out).mono ?_); rintro e w' ⟨rfl, ⟨nd, rfl⟩⟩; refine ⟨_, rfl, ?_⟩))
              go_roundg k1
              case measure => have := HK1.out; omega
              case rel => exact ⟨(wrap64 (x8_1 + 1)), (by first | rfl | (simp; done) | (simp [*]; done)), H', ⟨by have := HK1.out; omega⟩, by repeat (first | exact Drawn0.refl _ | apply Drawn0.step)⟩
            · replace c8 := Bool.eq_false_iff.mpr c8
              subst c8
              have H1 : ((strings_IndexByte.f a1 (bt a0 x8_1)).bind fun t111 => (if t111 < 0 then (some false) else (name_all.l0 k1 a0 a1 (a0.size : Int) (wrap64 (x8_1 + 1))))) = some r := by rw [if_neg (show ¬ (false = true) by decide)] at H; exact H
              clear H
              have H := H1
              clear H1
              replace H := Option.bind_eq_some_iff.mp H
              obtain ⟨t111, A100, H⟩ := H
              replace H : (if t111 < 0 then (some false) else (name_all.l0 k1 a0 a1 (a0.size : Int) (wrap64 (x8_1 + 1)))) = some r := H
              have A10 := Aside0.mk A100
              clear A100
              by_cases c11 : t111 < 0
              · rw [if_pos c11] at H
                have c11b0 : decide (t111 < 0) = true := decide_eq_true c11
                clear c11
                obtain rfl := Option.some.inj H
                have p6 : 0 ≤ (x8_1 : Int) := of_decide_eq_true (by first | (with_reducible assumption) | assumption)
                have q6 : x8_1 < (a0.size : Int) := of_decide_eq_true (by first | (with_reducible assumption) | assumption)
                have hx6 := bt_at a0 x8_1
                replace p6 := eq_true p6
                replace q6 := eq_true q6
                go_wp2_with (first | ((with_reducible refine gate_callee (f := 83) rfl ?_); refine goesL_ (some 14) rfl rfl Try.func83 (by kernel_rfl) rfl #[.int .u8 (bt a0 x8_1)] rfl (by (try simp only [List.map_toArray, List.map_cons, List.map_nil]); first | done | rfl | (simp only [List.length_drop, List.length_take]; rfl)) ?_; (with_reducible refine (name_plain.calls (bt a0 x8_1) false _ A7.out).mono ?_); rintro e w' ⟨rfl, ⟨nd, rfl⟩⟩; refine ⟨_, rfl, ?_⟩; have p9 : 0 ≤ (x8_1 : Int) := of_decide_eq_true (by first | (with_reducible assumption) | assumption); have q9 : x8_1 < (a0.size : Int) := of_decide_eq_true (by first | (with_reducible assumption) | assumption); have hx9 := bt_at a0 x8_1; replace p9 := eq_true p9; replace q9 := eq_true q9) | (go_at_call 84; (with_reducible refine (strings_IndexByte.calls a1 (bt a0 x8_1) t111 _ A10.out).mono ?_); rintro e w' ⟨rfl, ⟨nd, rfl⟩⟩))
                go_ret
                exact ⟨by first | rfl | (simp; done) | (simp [*]; done), by repeat (first | exact Drawn0.refl _ | apply Drawn0.step)⟩
              · rw [if_neg c11] at H
                have c11b0 : decide (t111 < 0) = false := decide_eq_false c11
                clear c11
                have H' := Aside0.mk H
                clear H
                have p6 : 0 ≤ (x8_1 : Int) := of_decide_eq_true (by first | (with_reducible assumption) | assumption)
                have q6 : x8_1 < (a0.size : Int) := of_decide_eq_true (by first | (with_reducible assumption) | assumption)
                have hx6 := bt_at a0 x8_1
                replace p6 := eq_true p6
                replace q6 := eq_true q6
                go_wp2_with (first | ((with_reducible refine gate_callee (f := 83) rfl ?_); refine goesL_ (some 14) rfl rfl Try.func83 (by kernel_rfl) rfl #[.int .u8 (bt a0 x8_1)] rfl (by (try simp only [List.map_toArray, List.map_cons, List.map_nil]); first | done | rfl | (simp only [List.length_drop, List.length_take]; rfl)) ?_; (with_reducible refine (name_plain.calls (bt a0 x8_1) false _ A7.out).mono ?_); rintro e w' ⟨rfl, ⟨nd, rfl⟩⟩; refine ⟨_, rfl, ?_⟩; have p9 : 0 ≤ (x8_1 : Int) := of_decide_eq_true (by first | (with_reducible assumption) | assumption); have q9 : x8_1 < (a0.size : Int) := of_decide_eq_true (by first | (with_reducible assumption) | assumption); have hx9 := bt_at a0 x8_1; replace p9 := eq_true p9; replace q9 := eq_true q9) | (go_at_call 84; (with_reducible refine (strings_IndexByte.calls a1 (bt a0 x8_1) t111 _ A10.out).mono ?_); rintro e w' ⟨rfl, ⟨nd, rfl⟩⟩))
                go_roundg k1
                case measure => have := HK1.out; omega
                case rel => exact ⟨(wrap64 (x8_1 + 1)), (by first | rfl | (simp; done) | (simp [*]; done)), H', ⟨by have := HK1.out; omega⟩, by repeat (first | exact Drawn0.refl _ | apply Drawn0.step)⟩
          · rw [if_neg c5] at H
            exact absurd H (by simp)
        · rw [if_neg c4] at H
          exact absurd H (by simp)
      · rw [if_neg c3] at H
        have c3b0 : decide (x8_1 < (a0.size : Int)) = false := decide_eq_false c3
        clear c3
        by_cases c12 : (a0.size : Int) ≥ 1
        · rw [if_pos c12] at H
          have c12b0 : decide (1 ≤ (a0.size : Int)) = true := decide_eq_true c12
          have c12b1 : decide (1 ≤ a0.size) = true := decide_eq_true (by omega)
          clear c12
          obtain rfl := Option.some.inj H
          go_wp2
          go_ret
          exact ⟨by first | rfl | (simp; done) | (simp [*]; done), by repeat (first | exact Drawn0.refl _ | apply Drawn0.step)⟩
        · rw [if_neg c12] at H
          have c12b0 : decide (1 ≤ (a0.size : Int)) = false := decide_eq_false c12
          have c12b1 : decide (1 ≤ a0.size) = false := decide_eq_false (by omega)
          clear c12
          obtain rfl := Option.some.inj H
          go_wp2
          go_ret
          exact ⟨by first | rfl | (simp; done) | (simp [*]; done), by repeat (first | exact Drawn0.refl _ | apply Drawn0.step)⟩

end Go.Proofs.Yteejaaeglfpcmab.PX

/- Contracts of the functions that the seat's laws reach, each beside a plain Lean function: by a program of this session's (tools/myprint.py over the kit's print.py), with some of its own proof. -/
namespace Go.Proofs.Yteejaaeglfpcmab.PX
open Go.RowKit Go.Proofs.YteejaaeglfpcmabW.PrintWords Go.Proofs.YteejaaeglfpcmabW.PrintLast Go.Proofs.YteejaaeglfpcmabW.PrintMore
attribute [local go_sem] max2_int min2_int max_two min_two max_three min_three max_four min_four   -- for this text's walks alone
set_option linter.unusedVariables false
set_option linter.unusedSimpArgs false

/-! ### name_Node: function 40 -/
def name_Node.f (k : Nat) (a0 : ByteArray) : Option (Bool) := (strings_Cut.f a0 (⟨#[64]⟩ : ByteArray)).bind fun bt112 => ((name_all.f k bt112.1 (⟨#[]⟩ : ByteArray)).bind fun t115 => (if t115 = true then (if 0 < (bt112.1.size : Int) then ((name_letter.f (bt bt112.1 0)).bind fun t116 => (if t116 = true then (if bt112.2.2 = true then ((name_all.f k bt112.2.1 (⟨#[]⟩ : ByteArray)).bind fun t117 => (some t117)) else (some true)) else (if (bt bt112.1 0) = 95 then (if bt112.2.2 = true then ((name_all.f k bt112.2.1 (⟨#[]⟩ : ByteArray)).bind fun t118 => (some t118)) else (some true)) else (some false)))) else (none)) else (some false)))
theorem name_Node.mono : ∀ a0 k, LeO (name_Node.f k a0) (name_Node.f (k + 1) a0) := by
  intro a0 k
  unfold name_Node.f
  repeat' first
      | (with_reducible exact name_all.mono _ _ _)
      | (with_reducible exact LeO.refl _)
      | (with_reducible exact LeO.none _)
      | (with_reducible refine LeO.ite ?_ ?_)
      | (with_reducible refine LeO.bind ?_ (fun _ => ?_))
      | exact name_all.mono _ _ _
      | exact LeO.none _
      | refine LeO.ite ?_ ?_
      | refine LeO.bind ?_ (fun _ => ?_)
set_option maxHeartbeats 8000000 in
set_option maxRecDepth 100000 in
theorem name_Node.calls (k : Nat) (a0 : ByteArray) (r : Bool) (w : World) (h : name_Node.f k a0 = some r) :
    Calls Try.prog 40 #[.string a0] w fun e w' => e = .returned (.bool r) ∧ Drawn0 w w' := by
  have H : ((strings_Cut.f a0 (⟨#[64]⟩ : ByteArray)).bind fun bt112 => ((name_all.f k bt112.1 (⟨#[]⟩ : ByteArray)).bind fun t115 => (if t115 = true then (if 0 < (bt112.1.size : Int) then ((name_letter.f (bt bt112.1 0)).bind fun t116 => (if t116 = true then (if bt112.2.2 = true then ((name_all.f k bt112.2.1 (⟨#[]⟩ : ByteArray)).bind fun t117 => (some t117)) else (some true)) else (if (bt bt112.1 0) = 95 then (if bt112.2.2 = true then ((name_all.f k bt112.2.1 (⟨#[]⟩ : ByteArray)).bind fun t118 => (some t118)) else (some true)) else (some false)))) else (none)) else (some false)))) = some r := h
  clear h
  replace H := Option.bind_eq_some_iff.mp H
  obtain ⟨⟨t112, t113, t114⟩, A20, H⟩ := H
  replace H : ((name_all.f k t112 (⟨#[]⟩ : ByteArray)).bind fun t115 => (if t115 = true then (if 0 < (t112.size : Int) then ((name_letter.f (bt t112 0)).bind fun t116 => (if t116 = true then (if t114 = true then ((name_all.f k t113 (⟨#[]⟩ : ByteArray)).bind fun t117 => (some t117)) else (some true)) else (if (bt t112 0) = 95 then (if t114 = true then ((name_all.f k t113 (⟨#[]⟩ : ByteArray)).bind fun t118 => (some t118)) else (some true)) else (some false)))) else (none)) else (some false))) = some r := H
  have A2 := Aside0.mk A20
  clear A20
  replace H := Option.bind_eq_some_iff.mp H
  obtain ⟨t115, A30, H⟩ := H
  replace H : (if t115 = true then (if 0 < (t112.size : Int) then ((name_letter.f (bt t112 0)).bind fun t116 => (if t116 = true then (if t114 = true then ((name_all.f k t113 (⟨#[]⟩ : ByteArray)).bind fun t117 => (some t117)) else (some true)) else (if (bt t112 0) = 95 then (if t114 = true then ((name_all.f k t113 (⟨#[]⟩ : ByteArray)).bind fun t118 => (some t118)) else (some true)) else (some false)))) else (none)) else (some false)) = some r := H
  have A3 := Aside0.mk A30
  clear A30
  by_cases c4 : t115 = true
  · subst c4
    have H1 : (if 0 < (t112.size : Int) then ((name_letter.f (bt t112 0)).bind fun t116 => (if t116 = true then (if t114 = true then ((name_all.f k t113 (⟨#[]⟩ : ByteArray)).bind fun t117 => (some t117)) else (some true)) else (if (bt t112 0) = 95 then (if t114 = true then ((name_all.f k t113 (⟨#[]⟩ : ByteArray)).bind fun t118 => (some t118)) else (some true)) else (some false)))) else (none)) = some r := by rw [if_pos rfl] at H; exact H
    clear H
    have H := H1
    clear H1
    by_cases c5 : 0 < (t112.size : Int)
    · rw [if_pos c5] at H
      have c5b0 : decide (0 < (t112.size : Int)) = true := decide_eq_true c5
      have c5b1 : decide (0 < t112.size) = true := decide_eq_true (by omega)
      clear c5
      replace H := Option.bind_eq_some_iff.mp H
      obtain ⟨t116, A70, H⟩ := H
      replace H : (if t116 = true then (if t114 = true then ((name_all.f k t113 (⟨#[]⟩ : ByteArray)).bind fun t117 => (some t117)) else (some true)) else (if (bt t112 0) = 95 then (if t114 = true then ((name_all.f k t113 (⟨#[]⟩ : ByteArray)).bind fun t118 => (some t118)) else (some true)) else (some false))) = some r := H
      have A7 := Aside0.mk A70
      clear A70
      by_cases c8 : t116 = true
      · subst c8
        have H1 : (if t114 = true then ((name_all.f k t113 (⟨#[]⟩ : ByteArray)).bind fun t117 => (some t117)) else (some true)) = some r := by rw [if_pos rfl] at H; exact H
        clear H
        have H := H1
        clear H1
        by_cases c9 : t114 = true
        · subst c9
          have H1 : ((name_all.f k t113 (⟨#[]⟩ : ByteArray)).bind fun t117 => (some t117)) = some r := by rw [if_pos rfl] at H; exact H
          clear H
          have H := H1
          clear H1
          replace H := Option.bind_eq_some_iff.mp H
          obtain ⟨t117, A100, H⟩ := H
          replace H : (some t117) = some r := H
          have A10 := Aside0.mk A100
          clear A100
          obtain rfl := Option.some.inj H
          go_enter Try.func40, Try.ntmps40
          go_wp2_with (first | ((with_reducible refine gate_callee (f := 41) rfl ?_); refine goesL_ (some 8) rfl rfl Try.func41 (by kernel_rfl) rfl #[.string a0, .string (⟨#[64]⟩ : ByteArray)] rfl (by (try simp only [List.map_toArray, List.map_cons, List.map_nil]); first | done | rfl | (simp only [List.length_drop, List.length_take]; rfl)) ?_; (with_reducible refine (strings_Cut.calls a0 (⟨#[64]⟩ : ByteArray) t112 t113 true _ A2.out).mono ?_); rintro e w' ⟨rfl, ⟨nd, rfl⟩⟩; refine ⟨_, rfl, ?_⟩) | ((with_reducible refine gate_callee (f := 67) rfl ?_); refine goesL_ (some 13) rfl rfl Try.func67 (by kernel_rfl) rfl #[.string t112, .string (⟨#[]⟩ : ByteArray)] rfl (by (try simp only [List.map_toArray, List.map_cons, List.map_nil]); first | done | rfl | (simp only [List.length_drop, List.length_take]; rfl)) ?_; (with_reducible refine (name_all.calls k t112 (⟨#[]⟩ : ByteArray) true _ A3.out).mono ?_); rintro e w' ⟨rfl, ⟨nd, rfl⟩⟩; refine ⟨_, rfl, ?_⟩; have p6 : 0 ≤ (0 : Int) := (by omega); have q6 : 0 < t112.size := (by have : (0 : Int) < (t112.size : Int) := of_decide_eq_true (by first | (with_reducible assumption) | assumption); omega); have hx6 : ∀ h : 0 < t112.size, ((t112[0]'h).toNat : Int) = bt t112 0 := bt_at t112 0; clear p6; have qi6 : (0 < (t112.size : Int)) = True := eq_true (of_decide_eq_true (by first | (with_reducible assumption) | assumption)); replace q6 := eq_true q6) | (go_at_call 68; (with_reducible refine (name_letter.calls (bt t112 0) true _ A7.out).mono ?_); rintro e w' ⟨rfl, ⟨nd, rfl⟩⟩) | (go_at_call 67; (with_reducible refine (name_all.calls k t113 (⟨#[]⟩ : ByteArray) t117 _ A10.out).mono ?_); rintro e w' ⟨rfl, ⟨nd, rfl⟩⟩))
          go_ret
          exact ⟨by first | rfl | (simp; done) | (simp [*]; done), by repeat (first | exact Drawn0.refl _ | apply Drawn0.step)⟩
        · replace c9 := Bool.eq_false_iff.mpr c9
          subst c9
          have H1 : (some true) = some r := by rw [if_neg (show ¬ (false = true) by decide)] at H; exact H
          clear H
          have H := H1
          clear H1
          obtain rfl := Option.some.inj H
          go_enter Try.func40, Try.ntmps40
          go_wp2_with (first | ((with_reducible refine gate_callee (f := 41) rfl ?_); refine goesL_ (some 8) rfl rfl Try.func41 (by kernel_rfl) rfl #[.string a0, .string (⟨#[64]⟩ : ByteArray)] rfl (by (try simp only [List.map_toArray, List.map_cons, List.map_nil]); first | done | rfl | (simp only [List.length_drop, List.length_take]; rfl)) ?_; (with_reducible refine (strings_Cut.calls a0 (⟨#[64]⟩ : ByteArray) t112 t113 false _ A2.out).mono ?_); rintro e w' ⟨rfl, ⟨nd, rfl⟩⟩; refine ⟨_, rfl, ?_⟩) | ((with_reducible refine gate_callee (f := 67) rfl ?_); refine goesL_ (some 13) rfl rfl Try.func67 (by kernel_rfl) rfl #[.string t112, .string (⟨#[]⟩ : ByteArray)] rfl (by (try simp only [List.map_toArray, List.map_cons, List.map_nil]); first | done | rfl | (simp only [List.length_drop, List.length_take]; rfl)) ?_; (with_reducible refine (name_all.calls k t112 (⟨#[]⟩ : ByteArray) true _ A3.out).mono ?_); rintro e w' ⟨rfl, ⟨nd, rfl⟩⟩; refine ⟨_, rfl, ?_⟩; have p6 : 0 ≤ (0 : Int) := (by omega); have q6 : 0 < t112.size := (by have : (0 : Int) < (t112.size : Int) := of_decide_eq_true (by first | (with_reducible assumption) | assumption); omega); have hx6 : ∀ h : 0 < t112.size, ((t112[0]'h).toNat : Int) = bt t112 0 := bt_at t112 0; clear p6; have qi6 : (0 < (t112.size : Int)) = True := eq_true (of_decide_eq_true (by first | (with_reducible assumption) | assumption)); replace q6 := eq_true q6) | (go_at_call 68; (with_reducible refine (name_letter.calls (bt t112 0) true _ A7.out).mono ?_); rintro e w' ⟨rfl, ⟨nd, rfl⟩⟩))
          go_ret
          exact ⟨by first | rfl | (simp; done) | (simp [*]; done), by repeat (first | exact Drawn0.refl _ | apply Drawn0.step)⟩
      · replace c8 := Bool.eq_false_iff.mpr c8
        subst c8
        have H1 : (if (bt t112 0) = 95 then (if t114 = true then ((name_all.f k t113 (⟨#[]⟩ : ByteArray)).bind fun t118 => (some t118)) else (some true)) else (some false)) = some r := by rw [if_neg (show ¬ (false = true) by decide)] at H; exact H
        clear H
        have H := H1
        clear H1
        by_cases c12 : (bt t112 0) = 95
        · rw [if_pos c12] at H
          have c12b0 : ((bt t112 0) == 95) = true := beq_iff_eq.mpr c12
          have c12b1 : ((bt t112 0) != 95) = false := bne_eq_false_iff_eq.mpr c12
          clear c12
          by_cases c13 : t114 = true
          · subst c13
            have H1 : ((name_all.f k t113 (⟨#[]⟩ : ByteArray)).bind fun t118 => (some t118)) = some r := by rw [if_pos rfl] at H; exact H
            clear H
            have H := H1
            clear H1
            replace H := Option.bind_eq_some_iff.mp H
            obtain ⟨t118, A140, H⟩ := H
            replace H : (some t118) = some r := H
            have A14 := Aside0.mk A140
            clear A140
            obtain rfl := Option.some.inj H
            go_enter Try.func40, Try.ntmps40
            go_wp2_with (first | ((with_reducible refine gate_callee (f := 41) rfl ?_); refine goesL_ (some 8) rfl rfl Try.func41 (by kernel_rfl) rfl #[.string a0, .string (⟨#[64]⟩ : ByteArray)] rfl (by (try simp only [List.map_toArray, List.map_cons, List.map_nil]); first | done | rfl | (simp only [List.length_drop, List.length_take]; rfl)) ?_; (with_reducible refine (strings_Cut.calls a0 (⟨#[64]⟩ : ByteArray) t112 t113 true _ A2.out).mono ?_); rintro e w' ⟨rfl, ⟨nd, rfl⟩⟩; refine ⟨_, rfl, ?_⟩) | ((with_reducible refine gate_callee (f := 67) rfl ?_); refine goesL_ (some 13) rfl rfl Try.func67 (by kernel_rfl) rfl #[.string t112, .string (⟨#[]⟩ : ByteArray)] rfl (by (try simp only [List.map_toArray, List.map_cons, List.map_nil]); first | done | rfl | (simp only [List.length_drop, List.length_take]; rfl)) ?_; (with_reducible refine (name_all.calls k t112 (⟨#[]⟩ : ByteArray) true _ A3.out).mono ?_); rintro e w' ⟨rfl, ⟨nd, rfl⟩⟩; refine ⟨_, rfl, ?_⟩; have p6 : 0 ≤ (0 : Int) := (by omega); have q6 : 0 < t112.size := (by have : (0 : Int) < (t112.size : Int) := of_decide_eq_true (by first | (with_reducible assumption) | assumption); omega); have hx6 : ∀ h : 0 < t112.size, ((t112[0]'h).toNat : Int) = bt t112 0 := bt_at t112 0; clear p6; have qi6 : (0 < (t112.size : Int)) = True := eq_true (of_decide_eq_true (by first | (with_reducible assumption) | assumption)); replace q6 := eq_true q6) | (go_at_call 68; (with_reducible refine (name_letter.calls (bt t112 0) false _ A7.out).mono ?_); rintro e w' ⟨rfl, ⟨nd, rfl⟩⟩; have p11 : 0 ≤ (0 : Int) := (by omega); have q11 : 0 < t112.size := (by have : (0 : Int) < (t112.size : Int) := of_decide_eq_true (by first | (with_reducible assumption) | assumption); omega); have hx11 : ∀ h : 0 < t112.size, ((t112[0]'h).toNat : Int) = bt t112 0 := bt_at t112 0; clear p11; have qi11 : (0 < (t112.size : Int)) = True := eq_true (of_decide_eq_true (by first | (with_reducible assumption) | assumption)); replace q11 := eq_true q11) | (go_at_call 67; (with_reducible refine (name_all.calls k t113 (⟨#[]⟩ : ByteArray) t118 _ A14.out).mono ?_); rintro e w' ⟨rfl, ⟨nd, rfl⟩⟩))
            go_ret
            exact ⟨by first | rfl | (simp; done) | (simp [*]; done), by repeat (first | exact Drawn0.refl _ | apply Drawn0.step)⟩
          · replace c13 := Bool.eq_false_iff.mpr c13
            subst c13
            have H1 : (some true) = some r := by rw [if_neg (show ¬ (false = true) by decide)] at H; exact H
            clear H
            have H := H1
            clear H1
            obtain rfl := Option.some.inj H
            go_enter Try.func40, Try.ntmps40
            go_wp2_with (first | ((with_reducible refine gate_callee (f := 41) rfl ?_); refine goesL_ (some 8) rfl rfl Try.func41 (by kernel_rfl) rfl #[.string a0, .string (⟨#[64]⟩ : ByteArray)] rfl (by (try simp only [List.map_toArray, List.map_cons, List.map_nil]); first | done | rfl | (simp only [List.length_drop, List.length_take]; rfl)) ?_; (with_reducible refine (strings_Cut.calls a0 (⟨#[64]⟩ : ByteArray) t112 t113 false _ A2.out).mono ?_); rintro e w' ⟨rfl, ⟨nd, rfl⟩⟩; refine ⟨_, rfl, ?_⟩) | ((with_reducible refine gate_callee (f := 67) rfl ?_); refine goesL_ (some 13) rfl rfl Try.func67 (by kernel_rfl) rfl #[.string t112, .string (⟨#[]⟩ : ByteArray)] rfl (by (try simp only [List.map_toArray, List.map_cons, List.map_nil]); first | done | rfl | (simp only [List.length_drop, List.length_take]; rfl)) ?_; (with_reducible refine (name_all.calls k t112 (⟨#[]⟩ : ByteArray) true _ A3.out).mono ?_); rintro e w' ⟨rfl, ⟨nd, rfl⟩⟩; refine ⟨_, rfl, ?_⟩; have p6 : 0 ≤ (0 : Int) := (by omega); have q6 : 0 < t112.size := (by have : (0 : Int) < (t112.size : Int) := of_decide_eq_true (by first | (with_reducible assumption) | assumption); omega); have hx6 : ∀ h : 0 < t112.size, ((t112[0]'h).toNat : Int) = bt t112 0 := bt_at t112 0; clear p6; have qi6 : (0 < (t112.size : Int)) = True := eq_true (of_decide_eq_true (by first | (with_reducible assumption) | assumption)); replace q6 := eq_true q6) | (go_at_call 68; (with_reducible refine (name_letter.calls (bt t112 0) false _ A7.out).mono ?_); rintro e w' ⟨rfl, ⟨nd, rfl⟩⟩; have p11 : 0 ≤ (0 : Int) := (by omega); have q11 : 0 < t112.size := (by have : (0 : Int) < (t112.size : Int) := of_decide_eq_true (by first | (with_reducible assumption) | assumption); omega); have hx11 : ∀ h : 0 < t112.size, ((t112[0]'h).toNat : Int) = bt t112 0 := bt_at t112 0; clear p11; have qi11 : (0 < (t112.size : Int)) = True := eq_true (of_decide_eq_true (by first | (with_reducible assumption) | assumption)); replace q11 := eq_true q11))
            go_ret
            exact ⟨by first | rfl | (simp; done) | (simp [*]; done), by repeat (first | exact Drawn0.refl _ | apply Drawn0.step)⟩
        · rw [if_neg c12] at H
          have c12b0 : ((bt t112 0) == 95) = false := beq_eq_false_iff_ne.mpr c12
          have c12b1 : ((bt t112 0) != 95) = true := bne_iff_ne.mpr c12
          obtain rfl := Option.some.inj H
          go_enter Try.func40, Try.ntmps40
          go_wp2_with (first | ((with_reducible refine gate_callee (f := 41) rfl ?_); refine goesL_ (some 8) rfl rfl Try.func41 (by kernel_rfl) rfl #[.string a0, .string (⟨#[64]⟩ : ByteArray)] rfl (by (try simp only [List.map_toArray, List.map_cons, List.map_nil]); first | done | rfl | (simp only [List.length_drop, List.length_take]; rfl)) ?_; (with_reducible refine (strings_Cut.calls a0 (⟨#[64]⟩ : ByteArray) t112 t113 t114 _ A2.out).mono ?_); rintro e w' ⟨rfl, ⟨nd, rfl⟩⟩; refine ⟨_, rfl, ?_⟩) | ((with_reducible refine gate_callee (f := 67) rfl ?_); refine goesL_ (some 13) rfl rfl Try.func67 (by kernel_rfl) rfl #[.string t112, .string (⟨#[]⟩ : ByteArray)] rfl (by (try simp only [List.map_toArray, List.map_cons, List.map_nil]); first | done | rfl | (simp only [List.length_drop, List.length_take]; rfl)) ?_; (with_reducible refine (name_all.calls k t112 (⟨#[]⟩ : ByteArray) true _ A3.out).mono ?_); rintro e w' ⟨rfl, ⟨nd, rfl⟩⟩; refine ⟨_, rfl, ?_⟩; have p6 : 0 ≤ (0 : Int) := (by omega); have q6 : 0 < t112.size := (by have : (0 : Int) < (t112.size : Int) := of_decide_eq_true (by first | (with_reducible assumption) | assumption); omega); have hx6 : ∀ h : 0 < t112.size, ((t112[0]'h).toNat : Int) = bt t112 0 := bt_at t112 0; clear p6; have qi6 : (0 < (t112.size : Int)) = True := eq_true (of_decide_eq_true (by first | (with_reducible assumption) | assumption)); replace q6 := eq_true q6) | (go_at_call 68; (with_reducible refine (name_letter.calls (bt t112 0) false _ A7.out).mono ?_); rintro e w' ⟨rfl, ⟨nd, rfl⟩⟩; have p11 : 0 ≤ (0 : Int) := (by omega); have q11 : 0 < t112.size := (by have : (0 : Int) < (t112.size : Int) := of_decide_eq_true (by first | (with_reducible assumption) | assumption); omega); have hx11 : ∀ h : 0 < t112.size, ((t112[0]'h).toNat : Int) = bt t112 0 := bt_at t112 0; clear p11; have qi11 : (0 < (t112.size : Int)) = True := eq_true (of_decide_eq_true (by first | (with_reducible assumption) | assumption)); replace q11 := eq_true q11))
          go_ret
          exact ⟨by first | rfl | (simp; done) | (simp [*]; done), by repeat (first | exact Drawn0.refl _ | apply Drawn0.step)⟩
    · rw [if_neg c5] at H
      exact absurd H (by simp)
  · replace c4 := Bool.eq_false_iff.mpr c4
    subst c4
    have H1 : (some false) = some r := by rw [if_neg (show ¬ (false = true) by decide)] at H; exact H
    clear H
    have H := H1
    clear H1
    obtain rfl := Option.some.inj H
    go_enter Try.func40, Try.ntmps40
    go_wp2_with (first | ((with_reducible refine gate_callee (f := 41) rfl ?_); refine goesL_ (some 8) rfl rfl Try.func41 (by kernel_rfl) rfl #[.string a0, .string (⟨#[64]⟩ : ByteArray)] rfl (by (try simp only [List.map_toArray, List.map_cons, List.map_nil]); first | done | rfl | (simp only [List.length_drop, List.length_take]; rfl)) ?_; (with_reducible refine (strings_Cut.calls a0 (⟨#[64]⟩ : ByteArray) t112 t113 t114 _ A2.out).mono ?_); rintro e w' ⟨rfl, ⟨nd, rfl⟩⟩; refine ⟨_, rfl, ?_⟩) | ((with_reducible refine gate_callee (f := 67) rfl ?_); refine goesL_ (some 13) rfl rfl Try.func67 (by kernel_rfl) rfl #[.string t112, .string (⟨#[]⟩ : ByteArray)] rfl (by (try simp only [List.map_toArray, List.map_cons, List.map_nil]); first | done | rfl | (simp only [List.length_drop, List.length_take]; rfl)) ?_; (with_reducible refine (name_all.calls k t112 (⟨#[]⟩ : ByteArray) false _ A3.out).mono ?_); rintro e w' ⟨rfl, ⟨nd, rfl⟩⟩; refine ⟨_, rfl, ?_⟩))
    go_ret
    exact ⟨by first | rfl | (simp; done) | (simp [*]; done), by repeat (first | exact Drawn0.refl _ | apply Drawn0.step)⟩

end Go.Proofs.Yteejaaeglfpcmab.PX

/- Contracts of the functions that the seat's laws reach, each beside a plain Lean function: by a program of this session's (tools/myprint.py over the kit's print.py), with some of its own proof. -/
namespace Go.Proofs.Yteejaaeglfpcmab.PX
open Go.RowKit Go.Proofs.YteejaaeglfpcmabW.PrintWords Go.Proofs.YteejaaeglfpcmabW.PrintLast Go.Proofs.YteejaaeglfpcmabW.PrintMore
attribute [local go_sem] max2_int min2_int max_two min_two max_three min_three max_four min_four   -- for this text's walks alone
set_option linter.unusedVariables false
set_option linter.unusedSimpArgs false

/-! ### arboretlaw02_awake: function 12 -/
def arboretlaw02_awake.f (k : Nat)  : Option (Bool) := (name_Node.f k (⟨#[97, 64, 49]⟩ : ByteArray)).bind fun t119 => (if t119 = true then ((name_Node.f k (⟨#[]⟩ : ByteArray)).bind fun t120 => (some (!t120))) else (some false))
theorem arboretlaw02_awake.mono : ∀ k, LeO (arboretlaw02_awake.f k ) (arboretlaw02_awake.f (k + 1) ) := by
  intro  k
  unfold arboretlaw02_awake.f
  repeat' first
      | (with_reducible exact name_Node.mono _ _)
      | (with_reducible exact LeO.refl _)
      | (with_reducible exact LeO.none _)
      | (with_reducible refine LeO.ite ?_ ?_)
      | (with_reducible refine LeO.bind ?_ (fun _ => ?_))
      | exact name_Node.mono _ _
      | exact LeO.none _
      | refine LeO.ite ?_ ?_
      | refine LeO.bind ?_ (fun _ => ?_)
set_option maxHeartbeats 8000000 in
set_option maxRecDepth 100000 in
theorem arboretlaw02_awake.calls (k : Nat)  (r : Bool) (w : World) (h : arboretlaw02_awake.f k  = some r) :
    Calls Try.prog 12 #[] w fun e w' => e = .returned (.bool r) ∧ Drawn0 w w' := by
  have H : ((name_Node.f k (⟨#[97, 64, 49]⟩ : ByteArray)).bind fun t119 => (if t119 = true then ((name_Node.f k (⟨#[]⟩ : ByteArray)).bind fun t120 => (some (!t120))) else (some false))) = some r := h
  clear h
  replace H := Option.bind_eq_some_iff.mp H
  obtain ⟨t119, A10, H⟩ := H
  replace H : (if t119 = true then ((name_Node.f k (⟨#[]⟩ : ByteArray)).bind fun t120 => (some (!t120))) else (some false)) = some r := H
  have A1 := Aside0.mk A10
  clear A10
  by_cases c2 : t119 = true
  · subst c2
    have H1 : ((name_Node.f k (⟨#[]⟩ : ByteArray)).bind fun t120 => (some (!t120))) = some r := by rw [if_pos rfl] at H; exact H
    clear H
    have H := H1
    clear H1
    replace H := Option.bind_eq_some_iff.mp H
    obtain ⟨t120, A30, H⟩ := H
    replace H : (some (!t120)) = some r := H
    have A3 := Aside0.mk A30
    clear A30
    obtain rfl := Option.some.inj H
    go_enter Try.func12, Try.ntmps12
    go_wp2_with (first | ((with_reducible refine gate_callee (f := 40) rfl ?_); refine goesL_ (some 1) rfl rfl Try.func40 (by kernel_rfl) rfl #[.string (⟨#[97, 64, 49]⟩ : ByteArray)] rfl (by (try simp only [List.map_toArray, List.map_cons, List.map_nil]); first | done | rfl | (simp only [List.length_drop, List.length_take]; rfl)) ?_; (with_reducible refine (name_Node.calls k (⟨#[97, 64, 49]⟩ : ByteArray) true _ A1.out).mono ?_); rintro e w' ⟨rfl, ⟨nd, rfl⟩⟩; refine ⟨_, rfl, ?_⟩) | (go_at_call 40; (with_reducible refine (name_Node.calls k (⟨#[]⟩ : ByteArray) t120 _ A3.out).mono ?_); rintro e w' ⟨rfl, ⟨nd, rfl⟩⟩))
    go_ret
    exact ⟨by first | rfl | (simp; done) | (simp [*]; done), by repeat (first | exact Drawn0.refl _ | apply Drawn0.step)⟩
  · replace c2 := Bool.eq_false_iff.mpr c2
    subst c2
    have H1 : (some false) = some r := by rw [if_neg (show ¬ (false = true) by decide)] at H; exact H
    clear H
    have H := H1
    clear H1
    obtain rfl := Option.some.inj H
    go_enter Try.func12, Try.ntmps12
    go_wp2_with (first | ((with_reducible refine gate_callee (f := 40) rfl ?_); refine goesL_ (some 1) rfl rfl Try.func40 (by kernel_rfl) rfl #[.string (⟨#[97, 64, 49]⟩ : ByteArray)] rfl (by (try simp only [List.map_toArray, List.map_cons, List.map_nil]); first | done | rfl | (simp only [List.length_drop, List.length_take]; rfl)) ?_; (with_reducible refine (name_Node.calls k (⟨#[97, 64, 49]⟩ : ByteArray) false _ A1.out).mono ?_); rintro e w' ⟨rfl, ⟨nd, rfl⟩⟩; refine ⟨_, rfl, ?_⟩))
    go_ret
    exact ⟨by first | rfl | (simp; done) | (simp [*]; done), by repeat (first | exact Drawn0.refl _ | apply Drawn0.step)⟩

end Go.Proofs.Yteejaaeglfpcmab.PX

/- Contracts of the functions that the seat's laws reach, each beside a plain Lean function: by a program of this session's (tools/myprint.py over the kit's print.py), with some of its own proof. -/
namespace Go.Proofs.Yteejaaeglfpcmab.PX
open Go.RowKit Go.Proofs.YteejaaeglfpcmabW.PrintWords Go.Proofs.YteejaaeglfpcmabW.PrintLast Go.Proofs.YteejaaeglfpcmabW.PrintMore
attribute [local go_sem] max2_int min2_int max_two min_two max_three min_three max_four min_four   -- for this text's walks alone
set_option linter.unusedVariables false
set_option linter.unusedSimpArgs false

/-! ### name_Split: function 13 -/
def name_Split.f (a0 : ByteArray) : Option (ByteArray × ByteArray) := (strings_Cut.f a0 (⟨#[64]⟩ : ByteArray)).bind fun bt121 => (some (bt121.1, bt121.2.1))
set_option maxHeartbeats 8000000 in
set_option maxRecDepth 100000 in
theorem name_Split.calls (a0 : ByteArray) (r1 : ByteArray) (r2 : ByteArray) (w : World) (h : name_Split.f a0 = some (r1, r2)) :
    Calls Try.prog 13 #[.string a0] w fun e w' => e = .returned (.tuple #[.string r1, .string r2]) ∧ Drawn0 w w' := by
  have H : ((strings_Cut.f a0 (⟨#[64]⟩ : ByteArray)).bind fun bt121 => (some (bt121.1, bt121.2.1))) = some (r1, r2) := h
  clear h
  replace H := Option.bind_eq_some_iff.mp H
  obtain ⟨⟨t121, t122, t123⟩, A20, H⟩ := H
  replace H : (some (t121, t122)) = some (r1, r2) := H
  have A2 := Aside0.mk A20
  clear A20
  simp only [Option.some.injEq, Prod.mk.injEq] at H
  obtain ⟨rfl, rfl⟩ := H
  go_enter Try.func13, Try.ntmps13
  go_wp2_with (first | ((with_reducible refine gate_callee (f := 41) rfl ?_); refine goesL_ (some 9) rfl rfl Try.func41 (by kernel_rfl) rfl #[.string a0, .string (⟨#[64]⟩ : ByteArray)] rfl (by (try simp only [List.map_toArray, List.map_cons, List.map_nil]); first | done | rfl | (simp only [List.length_drop, List.length_take]; rfl)) ?_; (with_reducible refine (strings_Cut.calls a0 (⟨#[64]⟩ : ByteArray) t121 t122 t123 _ A2.out).mono ?_); rintro e w' ⟨rfl, ⟨nd, rfl⟩⟩; refine ⟨_, rfl, ?_⟩))
  go_ret2
  exact ⟨by first | rfl | (simp; done) | (simp [*]; done), by repeat (first | exact Drawn0.refl _ | apply Drawn0.step)⟩

end Go.Proofs.Yteejaaeglfpcmab.PX

/- Contracts of the functions that the seat's laws reach, each beside a plain Lean function: by a program of this session's (tools/myprint.py over the kit's print.py), with some of its own proof. -/
namespace Go.Proofs.Yteejaaeglfpcmab.PX
open Go.RowKit Go.Proofs.YteejaaeglfpcmabW.PrintWords Go.Proofs.YteejaaeglfpcmabW.PrintLast Go.Proofs.YteejaaeglfpcmabW.PrintMore
attribute [local go_sem] max2_int min2_int max_two min_two max_three min_three max_four min_four   -- for this text's walks alone
set_option linter.unusedVariables false
set_option linter.unusedSimpArgs false

/-! ### arboretref01_Cut: function 14 -/
def arboretref01_Cut.l0 : Nat → ByteArray → Int → Int → Option (Int)
  | 0, _, _, _ => none
  | k + 1, x0, x5, x6 => if x6 < x5 then (if 0 ≤ x6 then (if x6 < (x0.size : Int) then (if (bt x0 x6) = 64 then (some x6) else (arboretref01_Cut.l0 k x0 x5 (wrap64 (x6 + 1)))) else (none)) else (none)) else (some (-1))
def arboretref01_Cut.f (k : Nat) (a0 : ByteArray) : Option (Int) := arboretref01_Cut.l0 k a0 (a0.size : Int) 0
theorem arboretref01_Cut.mono_l : ∀ k, (∀ y0 y1 y2, LeO (arboretref01_Cut.l0 k y0 y1 y2) (arboretref01_Cut.l0 (k + 1) y0 y1 y2))
  | 0 => fun _ _ _ r h => by simp [arboretref01_Cut.l0] at h
  | k + 1 => by
    have ih0 := arboretref01_Cut.mono_l k
    · intro y0 y1 y2
      unfold arboretref01_Cut.l0
      repeat' first
      | (with_reducible exact ih0 _ _ _)
      | (with_reducible exact LeO.refl _)
      | (with_reducible exact LeO.none _)
      | (with_reducible refine LeO.ite ?_ ?_)
      | (with_reducible refine LeO.bind ?_ (fun _ => ?_))
      | exact ih0 _ _ _
      | exact LeO.none _
      | refine LeO.ite ?_ ?_
      | refine LeO.bind ?_ (fun _ => ?_)
theorem arboretref01_Cut.mono : ∀ a0 k, LeO (arboretref01_Cut.f k a0) (arboretref01_Cut.f (k + 1) a0) := by
  intro a0 k
  have ih0 := arboretref01_Cut.mono_l k
  unfold arboretref01_Cut.f
  repeat' first
      | (with_reducible exact ih0 _ _ _)
      | (with_reducible exact LeO.refl _)
      | (with_reducible exact LeO.none _)
      | (with_reducible refine LeO.ite ?_ ?_)
      | (with_reducible refine LeO.bind ?_ (fun _ => ?_))
      | exact ih0 _ _ _
      | exact LeO.none _
      | refine LeO.ite ?_ ?_
      | refine LeO.bind ?_ (fun _ => ?_)
set_option maxHeartbeats 8000000 in
set_option maxRecDepth 100000 in
theorem arboretref01_Cut.calls (k : Nat) (a0 : ByteArray) (r : Int) (w : World) (h : arboretref01_Cut.f k a0 = some r) :
    Calls Try.prog 14 #[.string a0] w fun e w' => e = .returned (.int .i64 r) ∧ Drawn0 w w' := by
  have H : (arboretref01_Cut.l0 k a0 (a0.size : Int) 0) = some r := h
  clear h
  have H' := Aside0.mk H
  clear H
  go_enter Try.func14, Try.ntmps14
  go_wp2
  go_loopg [6] k (fun kq v6 w' => ∃ (x6_1 : Int), v6 = .int .i64 x6_1 ∧ Aside0 (arboretref01_Cut.l0 kq a0 (a0.size : Int) x6_1 = some r) ∧ Aside0 (kq ≤ k) ∧ Drawn0 w w')
  case atStart => exact ⟨(0), (by first | rfl | (simp; done) | (simp [*]; done)), H', ⟨Nat.le_refl _⟩, by repeat (first | exact Drawn0.refl _ | apply Drawn0.step)⟩
  case round =>
    clear H'
    try clear c1
    obtain ⟨x6_1, rfl, HA, HK1, ⟨m1, rfl⟩⟩ := hrel
    cases gk with
    | zero => exact absurd HA.out (by simp [arboretref01_Cut.l0])
    | succ k1 =>
      have H := HA.out
      clear HA
      simp only [arboretref01_Cut.l0] at H
      by_cases c2 : x6_1 < (a0.size : Int)
      · rw [if_pos c2] at H
        have c2b0 : decide (x6_1 < (a0.size : Int)) = true := decide_eq_true c2
        clear c2
        by_cases c3 : 0 ≤ x6_1
        · rw [if_pos c3] at H
          have c3b0 : decide (0 ≤ x6_1) = true := decide_eq_true c3
          clear c3
          by_cases c4 : x6_1 < (a0.size : Int)
          · rw [if_pos c4] at H
            have c4b0 : decide (x6_1 < (a0.size : Int)) = true := decide_eq_true c4
            clear c4
            by_cases c6 : (bt a0 x6_1) = 64
            · rw [if_pos c6] at H
              have c6b0 : ((bt a0 x6_1) == 64) = true := beq_iff_eq.mpr c6
              have c6b1 : ((bt a0 x6_1) != 64) = false := bne_eq_false_iff_eq.mpr c6
              clear c6
              obtain rfl := Option.some.inj H
              have p5 : 0 ≤ (x6_1 : Int) := of_decide_eq_true (by first | (with_reducible assumption) | assumption)
              have q5 : x6_1 < (a0.size : Int) := of_decide_eq_true (by first | (with_reducible assumption) | assumption)
              have hx5 := bt_at a0 x6_1
              replace p5 := eq_true p5
              replace q5 := eq_true q5
              go_wp2
              go_ret
              exact ⟨by first | rfl | (simp; done) | (simp [*]; done), by repeat (first | exact Drawn0.refl _ | apply Drawn0.step)⟩
            · rw [if_neg c6] at H
              have c6b0 : ((bt a0 x6_1) == 64) = false := beq_eq_false_iff_ne.mpr c6
              have c6b1 : ((bt a0 x6_1) != 64) = true := bne_iff_ne.mpr c6
              have H' := Aside0.mk H
              clear H
              have p5 : 0 ≤ (x6_1 : Int) := of_decide_eq_true (by first | (with_reducible assumption) | assumption)
              have q5 : x6_1 < (a0.size : Int) := of_decide_eq_true (by first | (with_reducible assumption) | assumption)
              have hx5 := bt_at a0 x6_1
              replace p5 := eq_true p5
              replace q5 := eq_true q5
              go_wp2
              go_roundg k1
              case measure => have := HK1.out; omega
              case rel => exact ⟨(wrap64 (x6_1 + 1)), (by first | rfl | (simp; done) | (simp [*]; done)), H', ⟨by have := HK1.out; omega⟩, by repeat (first | exact Drawn0.refl _ | apply Drawn0.step)⟩
          · rw [if_neg c4] at H
            exact absurd H (by simp)
        · rw [if_neg c3] at H
          exact absurd H (by simp)
      · rw [if_neg c2] at H
        have c2b0 : decide (x6_1 < (a0.size : Int)) = false := decide_eq_false c2
        clear c2
        obtain rfl := Option.some.inj H
        go_wp2
        go_ret
        exact ⟨by first | rfl | (simp; done) | (simp [*]; done), by repeat (first | exact Drawn0.refl _ | apply Drawn0.step)⟩

end Go.Proofs.Yteejaaeglfpcmab.PX

/- Contracts of the functions that the seat's laws reach, each beside a plain Lean function: by a program of this session's (tools/myprint.py over the kit's print.py), with some of its own proof. -/
namespace Go.Proofs.Yteejaaeglfpcmab.PX
open Go.RowKit Go.Proofs.YteejaaeglfpcmabW.PrintWords Go.Proofs.YteejaaeglfpcmabW.PrintLast Go.Proofs.YteejaaeglfpcmabW.PrintMore
attribute [local go_sem] max2_int min2_int max_two min_two max_three min_three max_four min_four   -- for this text's walks alone
set_option linter.unusedVariables false
set_option linter.unusedSimpArgs false

/-! ### arboretlaw02_NameSplits: function 3 -/
def arboretlaw02_NameSplits.j0 : Nat → ByteArray → Bool → Option (Bool)
  | 0, _, _ => none
  | k + 1, x0, x12 => if x12 = true then ((arboretlaw02_awake.f k).bind fun t125 => (some t125)) else ((name_Split.f x0).bind fun bt126 => ((arboretref01_Cut.f k x0).bind fun t128 => (if t128 < 0 then (if bt126.1.toList = x0.toList then (some (bt126.2.toList == ([] : List UInt8))) else (some false)) else (if 0 ≤ t128 then (if t128 ≤ (x0.size : Int) then (if bt126.1.toList = (x0.extract 0 (t128 : Int).toNat).toList then (if 0 ≤ (wrap64 (t128 + 1)) then (if (wrap64 (t128 + 1)) ≤ (x0.size : Int) then (some (bt126.2.toList == (x0.extract ((wrap64 (t128 + 1)) : Int).toNat x0.size).toList)) else (none)) else (none)) else (some false)) else (none)) else (none)))))
def arboretlaw02_NameSplits.f (k : Nat) (a0 : ByteArray) : Option (Bool) := (arboretlaw02_awake.f k).bind fun t124 => (if t124 = true then (arboretlaw02_NameSplits.j0 k a0 (decide ((a0.size : Int) > 10000))) else (arboretlaw02_NameSplits.j0 k a0 true))
theorem arboretlaw02_NameSplits.mono_l : ∀ k, (∀ y0 y1, LeO (arboretlaw02_NameSplits.j0 k y0 y1) (arboretlaw02_NameSplits.j0 (k + 1) y0 y1))
  | 0 => fun _ _ r h => by simp [arboretlaw02_NameSplits.j0] at h
  | k + 1 => by
    have ih0 := arboretlaw02_NameSplits.mono_l k
    · intro y0 y1
      unfold arboretlaw02_NameSplits.j0
      repeat' first
      | (with_reducible exact ih0 _ _)
      | (with_reducible exact arboretlaw02_awake.mono _)
      | (with_reducible exact arboretref01_Cut.mono _ _)
      | (with_reducible exact LeO.refl _)
      | (with_reducible exact LeO.none _)
      | (with_reducible refine LeO.ite ?_ ?_)
      | (with_reducible refine LeO.bind ?_ (fun _ => ?_))
      | exact ih0 _ _
      | exact arboretlaw02_awake.mono _
      | exact arboretref01_Cut.mono _ _
      | exact LeO.none _
      | refine LeO.ite ?_ ?_
      | refine LeO.bind ?_ (fun _ => ?_)
theorem arboretlaw02_NameSplits.mono : ∀ a0 k, LeO (arboretlaw02_NameSplits.f k a0) (arboretlaw02_NameSplits.f (k + 1) a0) := by
  intro a0 k
  have ih0 := arboretlaw02_NameSplits.mono_l k
  unfold arboretlaw02_NameSplits.f
  repeat' first
      | (with_reducible exact ih0 _ _)
      | (with_reducible exact arboretlaw02_awake.mono _)
      | (with_reducible exact arboretref01_Cut.mono _ _)
      | (with_reducible exact LeO.refl _)
      | (with_reducible exact LeO.none _)
      | (with_reducible refine LeO.ite ?_ ?_)
      | (with_reducible refine LeO.bind ?_ (fun _ => ?_))
      | exact ih0 _ _
      | exact arboretlaw02_awake.mono _
      | exact arboretref01_Cut.mono _ _
      | exact LeO.none _
      | refine LeO.ite ?_ ?_
      | refine LeO.bind ?_ (fun _ => ?_)
set_option maxHeartbeats 8000000 in
set_option maxRecDepth 100000 in
theorem arboretlaw02_NameSplits.calls (k : Nat) (a0 : ByteArray) (r : Bool) (w : World) (h : arboretlaw02_NameSplits.f k a0 = some r) :
    Calls Try.prog 3 #[.string a0] w fun e w' => e = .returned (.bool r) ∧ Drawn0 w w' := by
  have H : ((arboretlaw02_awake.f k).bind fun t124 => (if t124 = true then (arboretlaw02_NameSplits.j0 k a0 (decide ((a0.size : Int) > 10000))) else (arboretlaw02_NameSplits.j0 k a0 true))) = some r := h
  clear h
  have HC2 := Aside0.mk H
  clear H
  go_enter Try.func3, Try.ntmps3
  go_upto_region 1 with (fail)
  go_cut [12] (fun v12 wc => ∃ (kq : Nat) (x12_1 : Bool), v12 = .bool x12_1 ∧ Aside0 (arboretlaw02_NameSplits.j0 kq a0 x12_1 = some r) ∧ Aside0 (kq ≤ k) ∧ Drawn0 w wc)
  case first =>
    have H := HC2.out
    clear HC2
    replace H := Option.bind_eq_some_iff.mp H
    obtain ⟨t124, A30, H⟩ := H
    replace H : (if t124 = true then (arboretlaw02_NameSplits.j0 k a0 (decide ((a0.size : Int) > 10000))) else (arboretlaw02_NameSplits.j0 k a0 true)) = some r := H
    have A3 := Aside0.mk A30
    clear A30
    by_cases c4 : t124 = true
    · subst c4
      have H1 : (arboretlaw02_NameSplits.j0 k a0 (decide ((a0.size : Int) > 10000))) = some r := by rw [if_pos rfl] at H; exact H
      clear H
      have H := H1
      clear H1
      have H' := Aside0.mk H
      clear H
      go_wp2_with (first | ((with_reducible refine gate_callee (f := 12) rfl ?_); refine goesL_ (some 6) rfl rfl Try.func12 (by kernel_rfl) rfl #[] rfl (by (try simp only [List.map_toArray, List.map_cons, List.map_nil]); first | done | rfl | (simp only [List.length_drop, List.length_take]; rfl)) ?_; (with_reducible refine (arboretlaw02_awake.calls k  true _ A3.out).mono ?_); rintro e w' ⟨rfl, ⟨nd, rfl⟩⟩; refine ⟨_, rfl, ?_⟩))
      go_meet
      case rel => exact ⟨_, (decide ((a0.size : Int) > 10000)), (by first | rfl | (simp; done) | (simp [*]; done)), H', ⟨by first | omega | exact Nat.le_refl _⟩, by repeat (first | exact Drawn0.refl _ | apply Drawn0.step)⟩
    · replace c4 := Bool.eq_false_iff.mpr c4
      subst c4
      have H1 : (arboretlaw02_NameSplits.j0 k a0 true) = some r := by rw [if_neg (show ¬ (false = true) by decide)] at H; exact H
      clear H
      have H := H1
      clear H1
      have H' := Aside0.mk H
      clear H
      go_wp2_with (first | ((with_reducible refine gate_callee (f := 12) rfl ?_); refine goesL_ (some 6) rfl rfl Try.func12 (by kernel_rfl) rfl #[] rfl (by (try simp only [List.map_toArray, List.map_cons, List.map_nil]); first | done | rfl | (simp only [List.length_drop, List.length_take]; rfl)) ?_; (with_reducible refine (arboretlaw02_awake.calls k  false _ A3.out).mono ?_); rintro e w' ⟨rfl, ⟨nd, rfl⟩⟩; refine ⟨_, rfl, ?_⟩))
      go_meet
      case rel => exact ⟨_, (true), (by first | rfl | (simp; done) | (simp [*]; done)), H', ⟨by first | omega | exact Nat.le_refl _⟩, by repeat (first | exact Drawn0.refl _ | apply Drawn0.step)⟩
  case rest =>
    clear HC2
    try clear c1
    try clear p2
    try clear c3
    try clear c4
    obtain ⟨kq, x12_1, rfl, HA, HJ1, ⟨mc1, rfl⟩⟩ := hcut
    cases kq with
    | zero => exact absurd HA.out (by simp [arboretlaw02_NameSplits.j0])
    | succ kj1 =>
      have H := HA.out
      clear HA
      simp only [arboretlaw02_NameSplits.j0] at H
      by_cases c5 : x12_1 = true
      · subst c5
        have H1 : ((arboretlaw02_awake.f kj1).bind fun t125 => (some t125)) = some r := by rw [if_pos rfl] at H; exact H
        clear H
        have H := H1
        clear H1
        replace H := Option.bind_eq_some_iff.mp H
        obtain ⟨t125, A60, H⟩ := H
        replace H : (some t125) = some r := H
        have A6 := Aside0.mk A60
        clear A60
        obtain rfl := Option.some.inj H
        go_wp2_with (first | ((with_reducible refine gate_callee (f := 12) rfl ?_); refine goesL_ (some 13) rfl rfl Try.func12 (by kernel_rfl) rfl #[] rfl (by (try simp only [List.map_toArray, List.map_cons, List.map_nil]); first | done | rfl | (simp only [List.length_drop, List.length_take]; rfl)) ?_; (with_reducible refine (arboretlaw02_awake.calls kj1  t125 _ A6.out).mono ?_); rintro e w' ⟨rfl, ⟨nd, rfl⟩⟩; refine ⟨_, rfl, ?_⟩))
        go_ret
        exact ⟨by first | rfl | (simp; done) | (simp [*]; done), by repeat (first | exact Drawn0.refl _ | apply Drawn0.step)⟩
      · replace c5 := Bool.eq_false_iff.mpr c5
        subst c5
        have H1 : ((name_Split.f a0).bind fun bt126 => ((arboretref01_Cut.f kj1 a0).bind fun t128 => (if t128 < 0 then (if bt126.1.toList = a0.toList then (some (bt126.2.toList == ([] : List UInt8))) else (some false)) else (if 0 ≤ t128 then (if t128 ≤ (a0.size : Int) then (if bt126.1.toList = (a0.extract 0 (t128 : Int).toNat).toList then (if 0 ≤ (wrap64 (t128 + 1)) then (if (wrap64 (t128 + 1)) ≤ (a0.size : Int) then (some (bt126.2.toList == (a0.extract ((wrap64 (t128 + 1)) : Int).toNat a0.size).toList)) else (none)) else (none)) else (some false)) else (none)) else (none))))) = some r := by rw [if_neg (show ¬ (false = true) by decide)] at H; exact H
        clear H
        have H := H1
        clear H1
        replace H := Option.bind_eq_some_iff.mp H
        obtain ⟨⟨t126, t127⟩, A70, H⟩ := H
        replace H : ((arboretref01_Cut.f kj1 a0).bind fun t128 => (if t128 < 0 then (if t126.toList = a0.toList then (some (t127.toList == ([] : List UInt8))) else (some false)) else (if 0 ≤ t128 then (if t128 ≤ (a0.size : Int) then (if t126.toList = (a0.extract 0 (t128 : Int).toNat).toList then (if 0 ≤ (wrap64 (t128 + 1)) then (if (wrap64 (t128 + 1)) ≤ (a0.size : Int) then (some (t127.toList == (a0.extract ((wrap64 (t128 + 1)) : Int).toNat a0.size).toList)) else (none)) else (none)) else (some false)) else (none)) else (none)))) = some r := H
        have A7 := Aside0.mk A70
        clear A70
        replace H := Option.bind_eq_some_iff.mp H
        obtain ⟨t128, A80, H⟩ := H
        replace H : (if t128 < 0 then (if t126.toList = a0.toList then (some (t127.toList == ([] : List UInt8))) else (some false)) else (if 0 ≤ t128 then (if t128 ≤ (a0.size : Int) then (if t126.toList = (a0.extract 0 (t128 : Int).toNat).toList then (if 0 ≤ (wrap64 (t128 + 1)) then (if (wrap64 (t128 + 1)) ≤ (a0.size : Int) then (some (t127.toList == (a0.extract ((wrap64 (t128 + 1)) : Int).toNat a0.size).toList)) else (none)) else (none)) else (some false)) else (none)) else (none))) = some r := H
        have A8 := Aside0.mk A80
        clear A80
        by_cases c9 : t128 < 0
        · rw [if_pos c9] at H
          have c9b0 : decide (t128 < 0) = true := decide_eq_true c9
          clear c9
          by_cases c10 : t126.toList = a0.toList
          · rw [if_pos c10] at H
            have c10b0 : (t126.toList == a0.toList) = true := beq_iff_eq.mpr c10
            have c10b1 : (t126.toList != a0.toList) = false := bne_eq_false_iff_eq.mpr c10
            clear c10
            obtain rfl := Option.some.inj H
            go_wp2_with (first | ((with_reducible refine gate_callee (f := 13) rfl ?_); refine goesL_ (some 16) rfl rfl Try.func13 (by kernel_rfl) rfl #[.string a0] rfl (by (try simp only [List.map_toArray, List.map_cons, List.map_nil]); first | done | rfl | (simp only [List.length_drop, List.length_take]; rfl)) ?_; (with_reducible refine (name_Split.calls a0 t126 t127 _ A7.out).mono ?_); rintro e w' ⟨rfl, ⟨nd, rfl⟩⟩; refine ⟨_, rfl, ?_⟩) | ((with_reducible refine gate_callee (f := 14) rfl ?_); refine goesL_ (some 20) rfl rfl Try.func14 (by kernel_rfl) rfl #[.string a0] rfl (by (try simp only [List.map_toArray, List.map_cons, List.map_nil]); first | done | rfl | (simp only [List.length_drop, List.length_take]; rfl)) ?_; (with_reducible refine (arboretref01_Cut.calls kj1 a0 t128 _ A8.out).mono ?_); rintro e w' ⟨rfl, ⟨nd, rfl⟩⟩; refine ⟨_, rfl, ?_⟩))
            go_ret
            exact ⟨by first | rfl | (simp; done) | (simp [*]; done), by repeat (first | exact Drawn0.refl _ | apply Drawn0.step)⟩
          · rw [if_neg c10] at H
            have c10b0 : (t126.toList == a0.toList) = false := beq_eq_false_iff_ne.mpr c10
            have c10b1 : (t126.toList != a0.toList) = true := bne_iff_ne.mpr c10
            obtain rfl := Option.some.inj H
            go_wp2_with (first | ((with_reducible refine gate_callee (f := 13) rfl ?_); refine goesL_ (some 16) rfl rfl Try.func13 (by kernel_rfl) rfl #[.string a0] rfl (by (try simp only [List.map_toArray, List.map_cons, List.map_nil]); first | done | rfl | (simp only [List.length_drop, List.length_take]; rfl)) ?_; (with_reducible refine (name_Split.calls a0 t126 t127 _ A7.out).mono ?_); rintro e w' ⟨rfl, ⟨nd, rfl⟩⟩; refine ⟨_, rfl, ?_⟩) | ((with_reducible refine gate_callee (f := 14) rfl ?_); refine goesL_ (some 20) rfl rfl Try.func14 (by kernel_rfl) rfl #[.string a0] rfl (by (try simp only [List.map_toArray, List.map_cons, List.map_nil]); first | done | rfl | (simp only [List.length_drop, List.length_take]; rfl)) ?_; (with_reducible refine (arboretref01_Cut.calls kj1 a0 t128 _ A8.out).mono ?_); rintro e w' ⟨rfl, ⟨nd, rfl⟩⟩; refine ⟨_, rfl, ?_⟩))
            go_ret
            exact ⟨by first | rfl | (simp; done) | (simp [*]; done), by repeat (first | exact Drawn0.refl _ | apply Drawn0.step)⟩
        · rw [if_neg c9] at H
          have c9b0 : decide (t128 < 0) = false := decide_eq_false c9
          clear c9
          by_cases c11 : 0 ≤ t128
          · rw [if_pos c11] at H
            have c11b0 := eq_true c11
            have c11b1 : decide (0 ≤ t128) = true := decide_eq_true c11
            clear c11
            by_cases c12 : t128 ≤ (a0.size : Int)
            · rw [if_pos c12] at H
              have c12b0 := eq_true c12
              have c12b1 : decide (t128 ≤ (a0.size : Int)) = true := decide_eq_true c12
              clear c12
              by_cases c13 : t126.toList = (a0.extract 0 (t128 : Int).toNat).toList
              · rw [if_pos c13] at H
                have c13b0 : (t126.toList == (a0.extract 0 (t128 : Int).toNat).toList) = true := beq_iff_eq.mpr c13
                have c13b1 : (t126.toList != (a0.extract 0 (t128 : Int).toNat).toList) = false := bne_eq_false_iff_eq.mpr c13
                clear c13
                obtain ⟨ji14, hji14⟩ : ∃ j_ : Int, (wrap64 (t128 + 1)) = j_ := ⟨_, rfl⟩
                replace H : (if 0 ≤ (ji14) then (if (ji14) ≤ (a0.size : Int) then (some (t127.toList == (a0.extract ((ji14) : Int).toNat a0.size).toList)) else (none)) else (none)) = some r := by first | (rw [hji14] at H; exact H) | (simp only [hji14] at H ⊢; exact H)
                (try rw [hji14] at A7)
                (try rw [hji14] at A8)
                have hji14w : (IntKind.i64.wrap (t128 + 1)) = ji14 := (i64_w _).trans hji14
                by_cases c15 : 0 ≤ (ji14)
                · rw [if_pos c15] at H
                  have c15b0 := eq_true c15
                  have c15b1 : decide (0 ≤ (ji14)) = true := decide_eq_true c15
                  clear c15
                  by_cases c16 : (ji14) ≤ (a0.size : Int)
                  · rw [if_pos c16] at H
                    have c16b0 := eq_true c16
                    have c16b1 : decide ((ji14) ≤ (a0.size : Int)) = true := decide_eq_true c16
                    clear c16
                    obtain rfl := Option.some.inj H
                    go_wp2_with (first | ((with_reducible refine gate_callee (f := 13) rfl ?_); refine goesL_ (some 16) rfl rfl Try.func13 (by kernel_rfl) rfl #[.string a0] rfl (by (try simp only [List.map_toArray, List.map_cons, List.map_nil]); first | done | rfl | (simp only [List.length_drop, List.length_take]; rfl)) ?_; (with_reducible refine (name_Split.calls a0 t126 t127 _ A7.out).mono ?_); rintro e w' ⟨rfl, ⟨nd, rfl⟩⟩; refine ⟨_, rfl, ?_⟩) | ((with_reducible refine gate_callee (f := 14) rfl ?_); refine goesL_ (some 20) rfl rfl Try.func14 (by kernel_rfl) rfl #[.string a0] rfl (by (try simp only [List.map_toArray, List.map_cons, List.map_nil]); first | done | rfl | (simp only [List.length_drop, List.length_take]; rfl)) ?_; (with_reducible refine (arboretref01_Cut.calls kj1 a0 t128 _ A8.out).mono ?_); rintro e w' ⟨rfl, ⟨nd, rfl⟩⟩; refine ⟨_, rfl, ?_⟩))
                    go_ret
                    exact ⟨by first | rfl | (simp; done) | (simp only [← hji14] <;> (first | rfl | simp)) | (simp [*]; done), by repeat (first | exact Drawn0.refl _ | apply Drawn0.step)⟩
                  · rw [if_neg c16] at H
                    exact absurd H (by simp)
                · rw [if_neg c15] at H
                  exact absurd H (by simp)
              · rw [if_neg c13] at H
                have c13b0 : (t126.toList == (a0.extract 0 (t128 : Int).toNat).toList) = false := beq_eq_false_iff_ne.mpr c13
                have c13b1 : (t126.toList != (a0.extract 0 (t128 : Int).toNat).toList) = true := bne_iff_ne.mpr c13
                obtain rfl := Option.some.inj H
                go_wp2_with (first | ((with_reducible refine gate_callee (f := 13) rfl ?_); refine goesL_ (some 16) rfl rfl Try.func13 (by kernel_rfl) rfl #[.string a0] rfl (by (try simp only [List.map_toArray, List.map_cons, List.map_nil]); first | done | rfl | (simp only [List.length_drop, List.length_take]; rfl)) ?_; (with_reducible refine (name_Split.calls a0 t126 t127 _ A7.out).mono ?_); rintro e w' ⟨rfl, ⟨nd, rfl⟩⟩; refine ⟨_, rfl, ?_⟩) | ((with_reducible refine gate_callee (f := 14) rfl ?_); refine goesL_ (some 20) rfl rfl Try.func14 (by kernel_rfl) rfl #[.string a0] rfl (by (try simp only [List.map_toArray, List.map_cons, List.map_nil]); first | done | rfl | (simp only [List.length_drop, List.length_take]; rfl)) ?_; (with_reducible refine (arboretref01_Cut.calls kj1 a0 t128 _ A8.out).mono ?_); rintro e w' ⟨rfl, ⟨nd, rfl⟩⟩; refine ⟨_, rfl, ?_⟩))
                go_ret
                exact ⟨by first | rfl | (simp; done) | (simp [*]; done), by repeat (first | exact Drawn0.refl _ | apply Drawn0.step)⟩
            · rw [if_neg c12] at H
              exact absurd H (by simp)
          · rw [if_neg c11] at H
            exact absurd H (by simp)

end Go.Proofs.Yteejaaeglfpcmab.PX

/- How the kinds of the printed words are read out of what a row's arguments hold: slices, strings, numbers; lists' bulk. Own text, no statement of its own. -/
set_option linter.unusedVariables false
namespace Go.Proofs.Yteejaaeglfpcmab.Rdr
open Go.RowKit Go.Proofs.YteejaaeglfpcmabW.PrintWords Go.ChangeShapes Go.WideShapes

/-- The bulk of a list, by its elements'. -/
def sumB {α : Type} (B : α → Nat) : List α → Nat
  | [] => 0
  | x :: r => B x + sumB B r

theorem sumB_le {α : Type} {H : Type} {B : α → Nat} : ∀ {xs : List α} {ds : List (DataW H)}, xs.length = ds.length → (∀ (i : Nat) (x : α) (d : DataW H), xs[i]? = some x → ds[i]? = some d → B x ≤ Rows.uptoBulk d) → sumB B xs ≤ Rows.uptoBulkAll ds
  | [], [], _, _ => Nat.le_refl _
  | x :: xs, d :: ds, hl, h => by
    have h0 := h 0 x d rfl rfl
    have h1 := sumB_le (xs := xs) (ds := ds) (by simpa using hl) (fun i a b ha hb => h (i + 1) a b (by simpa using ha) (by simpa using hb))
    simp only [sumB, Rows.uptoBulkAll]
    omega
  | [], _ :: _, hl, _ => by simp at hl
  | _ :: _, [], hl, _ => by simp at hl

theorem sumB_mem {α : Type} {B : α → Nat} {x : α} : ∀ {xs : List α}, x ∈ xs → B x ≤ sumB B xs
  | a :: r, h => by
    simp only [sumB]
    rcases List.mem_cons.1 h with rfl | h
    · omega
    · have := sumB_mem (B := B) h
      omega
theorem sumB_len {α : Type} {B : α → Nat} (h1 : ∀ x, 1 ≤ B x) : ∀ xs : List α, xs.length ≤ sumB B xs
  | [] => Nat.le_refl _
  | x :: r => by
    have := h1 x
    have := sumB_len h1 r
    simp only [sumB, List.length_cons]
    omega
theorem sumB_one {α : Type} (xs : List α) : sumB (fun _ => 1) xs = xs.length := by
  induction xs with
  | nil => rfl
  | cons x r ih => simp only [sumB, ih, List.length_cons]; omega

theorem list_of {α : Type} {n : Nat} {Q : Nat → α → Prop} (h : ∀ i, i < n → ∃ x, Q i x) : ∃ xs : List α, xs.length = n ∧ ∀ (i : Nat) (x : α), xs[i]? = some x → Q i x := by
  induction n with
  | zero => exact ⟨[], rfl, fun i x hx => by simp at hx⟩
  | succ n ih =>
    obtain ⟨xs, hl, hq⟩ := ih (fun i hi => h i (by omega))
    obtain ⟨y, hy⟩ := h n (by omega)
    refine ⟨xs ++ [y], by simp [hl], fun i x hx => ?_⟩
    rcases Nat.lt_trichotomy i xs.length with hi | hi | hi
    · rw [List.getElem?_append_left hi] at hx
      exact hq i x hx
    · subst hi
      rw [List.getElem?_append_right (Nat.le_refl _)] at hx
      simp at hx
      subst hx
      rw [hl]
      exact hy
    · rw [List.getElem?_append_right (by omega), List.getElem?_eq_none (by simp; omega)] at hx
      cases hx

/-- What reads at a depth below n as data of type t is of the kind d; its bulk is no greater, and it is 'G'. -/
def RdF (P : Program) (W : World) (n : Nat) {α : Type} (d : Kd α) (t : TypeId) (B : α → Nat) (G : α → Prop) : Prop :=
  ∀ (H : Type) (enc : TypeId × Value → H) (fuel : Nat), fuel ≤ n → ∀ (cs : List Value) (x : DataW H × List MemPlace),
    DataW.trod enc P W 0 (fun _ => true) true fuel t cs = some x → ∃ a, d.K W a cs ∧ B a ≤ Rows.uptoBulk x.1 ∧ G a
section
variable {P : Program} {W : World} {n : Nat}
theorem RdF.mono {n' : Nat} {α : Type} {d : Kd α} {t : TypeId} {B : α → Nat} {G : α → Prop} (h : RdF P W n d t B G) (hn : n' ≤ n) : RdF P W n' d t B G :=
  fun H enc fuel hf cs x hx => h H enc fuel (Nat.le_trans hf hn) cs x hx

def wfI (k : IntKind) (x : Int) : Prop := (Lit.int k x).wf = true

theorem rd_int {t : TypeId} {k : IntKind} (ht : P.underlying t = some (.int k)) : RdF P W n (Kd.int k) t (fun _ => 1) (wfI k) := by
  intro H enc fuel hf cs x h
  cases fuel with
  | zero => simp [DataW.trod] at h
  | succ m =>
    unfold DataW.trod at h
    rw [ht] at h
    split at h <;> simp_all
    rename_i k' y z
    obtain ⟨⟨rfl, hw⟩, rfl⟩ := h
    exact ⟨y, rfl, by simp [Rows.uptoBulk], hw⟩
theorem rd_bool {t : TypeId} (ht : P.underlying t = some .bool) : RdF P W n Kd.bool t (fun _ => 1) (fun _ => True) := by
  intro H enc fuel hf cs x h
  cases fuel with
  | zero => simp [DataW.trod] at h
  | succ m =>
    unfold DataW.trod at h
    rw [ht] at h
    split at h <;> simp_all
    subst h
    rename_i b0
    simp only [Rows.uptoBulk]
    first | exact ⟨b0, rfl, Nat.le_refl _, trivial⟩ | (cases b0 <;> simp [Kd.bool, Kd.scalar])
theorem rd_string {t : TypeId} (ht : P.underlying t = some .string) : RdF P W n Kd.string t (fun s => s.size + 1) (fun _ => True) := by
  intro H enc fuel hf cs x h
  cases fuel with
  | zero => simp [DataW.trod] at h
  | succ m =>
    unfold DataW.trod at h
    rw [ht] at h
    split at h <;> simp_all
    obtain ⟨_, rfl⟩ := h
    refine ⟨_, rfl, ?_⟩
    simp [Rows.uptoBulk]

theorem rd_slice {t e : TypeId} {α : Type} {d : Kd α} {B : α → Nat} {G : α → Prop} (ht : P.underlying t = some (.slice e)) (hc : P.cellsOf e = d.sz) (h : RdF P W n d e B G) : RdF P W (n + 1) (Kd.slice e d) t (fun xs => sumB B xs + 1) (fun xs => ∀ x ∈ xs, G x) := by
  intro H enc fuel hf cs x hx
  rcases DataW.trod_slice ht hx with ⟨rfl, rfl⟩ | ⟨a, len, cap, elems, rest, m, rfl, rfl, rfl, hb, hl, hm, hlen, hel, _⟩
  · exact ⟨[], ⟨none, 0, rfl, Nat.le_refl _, rfl, by simp, fun h0 => absurd h0 (by simp)⟩, by simp [sumB, Rows.uptoBulk], fun x hx => by simp at hx⟩
  · have each : ∀ i, i < len → ∃ y : α, ∃ c : List Value, ∃ z, elems[i]? = some z ∧ W.cells? 0 (a.add (i * P.cellsOf e)) (P.cellsOf e) = some c ∧ d.K W y c ∧ B y ≤ Rows.uptoBulk z.1 ∧ G y := by
      intro i hi
      have h1 := hel i hi
      obtain ⟨z, hz⟩ : ∃ z, elems[i]? = some z := ⟨_, List.getElem?_eq_getElem (by omega)⟩
      rw [hz] at h1
      obtain ⟨c, hc1, hc2⟩ := Option.bind_eq_some_iff.1 h1
      obtain ⟨y, k1, k2, k3⟩ := h H enc m (by omega) c z hc2
      exact ⟨y, c, z, hz, hc1, k1, k2, k3⟩
    obtain ⟨ys, hyl, hy⟩ := list_of each
    refine ⟨ys, ⟨some a, cap, by rw [hyl], by omega, ?_⟩, ?_, ?_⟩
    · refine ⟨rfl, ?_, fun _ => ⟨a, rfl, fun j p hj => ?_⟩⟩
      · have : cap ≤ 9223372036854775807 := by simpa [maxLen] using hm
        omega
      · obtain ⟨c, z, _, hcs, hk, _, _⟩ := hy j p hj
        obtain ⟨_, hcl, hcc⟩ := World.cells?_some hcs
        refine ⟨c, by rw [hcl, hc], hk, fun i u hu => ?_⟩
        have hi : i < P.cellsOf e := by
          rw [← hcl]
          exact (List.getElem?_eq_some_iff.1 hu).1
        have h2 := hcc i hi
        rw [hu] at h2
        rw [← h2, hc]
        rw [Deep.add_add]
    · have : sumB B ys ≤ Rows.uptoBulkAll (elems.map (·.1)) := by
        refine sumB_le (by simp [hyl, hlen]) (fun i y dd hyi hdi => ?_)
        obtain ⟨c, z, hz, _, _, hB, _⟩ := hy i y hyi
        rw [List.getElem?_map, hz] at hdi
        simp at hdi
        rw [← hdi]
        exact hB
      simp only [Rows.uptoBulk]
      omega
    · intro y hyy
      obtain ⟨i, hi, he⟩ := List.getElem_of_mem hyy
      obtain ⟨_, _, _, _, _, _, hg⟩ := hy i y (by rw [List.getElem?_eq_getElem hi, he])
      exact hg
end

theorem len_of_trod {P : Program} {W : World} {H : Type} {enc : TypeId × Value → H} {t e : TypeId} {fuel n c B M : Nat} {a : Option Addr} {d : DataW H} {ps : List MemPlace} (ht : P.underlying t = some (.slice e))
    (h : DataW.trod enc P W 0 (fun _ => true) true fuel t [.slice a n c] = some (d, ps)) (hy : ∀ xs ys, d = .slice xs ys → (xs.length + ys.length) * B ≤ M) : n * B ≤ M := by
  rcases DataW.trod_slice ht h with ⟨he, _⟩ | ⟨a', len, cap, elems, rest, m, _, he, hx, _, _, _, hlen, _⟩
  · injection he with he
    injection he with _ h2 _
    subst h2
    simp
  · injection he with he
    injection he with _ h2 _
    subst h2
    injection hx with hx _
    have := hy _ _ hx
    simp only [List.length_map] at this
    rw [hlen] at this
    exact Nat.le_trans (Nat.mul_le_mul_right _ (Nat.le_add_right _ _)) this
theorem len_1 {α : Type} {l : List α} (h : l.length = 1) : ∃ a0, l = [a0] := by
  match l, h with
  | [b0], _ => exact ⟨b0, rfl⟩
theorem len_2 {α : Type} {l : List α} (h : l.length = 2) : ∃ a0 a1, l = [a0, a1] := by
  match l, h with
  | [b0, b1], _ => exact ⟨b0, b1, rfl⟩
theorem len_3 {α : Type} {l : List α} (h : l.length = 3) : ∃ a0 a1 a2, l = [a0, a1, a2] := by
  match l, h with
  | [b0, b1, b2], _ => exact ⟨b0, b1, b2, rfl⟩
theorem len_4 {α : Type} {l : List α} (h : l.length = 4) : ∃ a0 a1 a2 a3, l = [a0, a1, a2, a3] := by
  match l, h with
  | [b0, b1, b2, b3], _ => exact ⟨b0, b1, b2, b3, rfl⟩
theorem len_5 {α : Type} {l : List α} (h : l.length = 5) : ∃ a0 a1 a2 a3 a4, l = [a0, a1, a2, a3, a4] := by
  match l, h with
  | [b0, b1, b2, b3, b4], _ => exact ⟨b0, b1, b2, b3, b4, rfl⟩
theorem len_6 {α : Type} {l : List α} (h : l.length = 6) : ∃ a0 a1 a2 a3 a4 a5, l = [a0, a1, a2, a3, a4, a5] := by
  match l, h with
  | [b0, b1, b2, b3, b4, b5], _ => exact ⟨b0, b1, b2, b3, b4, b5, rfl⟩
theorem len_7 {α : Type} {l : List α} (h : l.length = 7) : ∃ a0 a1 a2 a3 a4 a5 a6, l = [a0, a1, a2, a3, a4, a5, a6] := by
  match l, h with
  | [b0, b1, b2, b3, b4, b5, b6], _ => exact ⟨b0, b1, b2, b3, b4, b5, b6, rfl⟩
theorem len_8 {α : Type} {l : List α} (h : l.length = 8) : ∃ a0 a1 a2 a3 a4 a5 a6 a7, l = [a0, a1, a2, a3, a4, a5, a6, a7] := by
  match l, h with
  | [b0, b1, b2, b3, b4, b5, b6, b7], _ => exact ⟨b0, b1, b2, b3, b4, b5, b6, b7, rfl⟩
theorem len_9 {α : Type} {l : List α} (h : l.length = 9) : ∃ a0 a1 a2 a3 a4 a5 a6 a7 a8, l = [a0, a1, a2, a3, a4, a5, a6, a7, a8] := by
  match l, h with
  | [b0, b1, b2, b3, b4, b5, b6, b7, b8], _ => exact ⟨b0, b1, b2, b3, b4, b5, b6, b7, b8, rfl⟩
theorem len_10 {α : Type} {l : List α} (h : l.length = 10) : ∃ a0 a1 a2 a3 a4 a5 a6 a7 a8 a9, l = [a0, a1, a2, a3, a4, a5, a6, a7, a8, a9] := by
  match l, h with
  | [b0, b1, b2, b3, b4, b5, b6, b7, b8, b9], _ => exact ⟨b0, b1, b2, b3, b4, b5, b6, b7, b8, b9, rfl⟩
theorem len_11 {α : Type} {l : List α} (h : l.length = 11) : ∃ a0 a1 a2 a3 a4 a5 a6 a7 a8 a9 a10, l = [a0, a1, a2, a3, a4, a5, a6, a7, a8, a9, a10] := by
  match l, h with
  | [b0, b1, b2, b3, b4, b5, b6, b7, b8, b9, b10], _ => exact ⟨b0, b1, b2, b3, b4, b5, b6, b7, b8, b9, b10, rfl⟩
theorem len_12 {α : Type} {l : List α} (h : l.length = 12) : ∃ a0 a1 a2 a3 a4 a5 a6 a7 a8 a9 a10 a11, l = [a0, a1, a2, a3, a4, a5, a6, a7, a8, a9, a10, a11] := by
  match l, h with
  | [b0, b1, b2, b3, b4, b5, b6, b7, b8, b9, b10, b11], _ => exact ⟨b0, b1, b2, b3, b4, b5, b6, b7, b8, b9, b10, b11, rfl⟩
/-- a struct's fields, told one by one -/
theorem all_1 {H : Type} {x : DataW H} : Rows.uptoBulkAll [x] = Rows.uptoBulk x := by simp [Rows.uptoBulkAll]
theorem bound {H : Type} {l : List (DataW H)} (hk : Rows.uptoSmall H l = true) : Rows.uptoBulkAll l ≤ 1048576 := of_decide_eq_true hk
end Go.Proofs.Yteejaaeglfpcmab.Rdr

/- The kinds of structs that laws take: their bulk, what is good of them, and how they are read out of a row's arguments. Own text. -/
set_option linter.unusedVariables false
set_option linter.unusedSimpArgs false
namespace Go.Proofs.Yteejaaeglfpcmab.PX
open Go.RowKit Go.Proofs.Yteejaaeglfpcmab.Rdr Go.Proofs.YteejaaeglfpcmabW.PrintWords Go.Proofs.YteejaaeglfpcmabW.PrintLast Go.Proofs.YteejaaeglfpcmabW.PrintMore
def bulk77 (x : S77) : Nat := (fun s => s.size + 1) x.f0 + (fun xs => sumB (fun _ => 1) xs + 1) x.f1 + 1
def good77 (x : S77) : Prop := (fun _ => True) x.f0 ∧ (fun xs => ∀ x ∈ xs, (wfI .u8) x) x.f1
theorem rd77 (W : World) (n : Nat) : RdF Try.prog W n k77 77 bulk77 good77 := by
  intro H enc fuel hfu cs x h
  cases n with
  | zero =>
    obtain rfl : fuel = 0 := by omega
    simp [DataW.trod] at h
  | succ n =>
  obtain ⟨xs, m, rfl, rfl, hl, hlen, hf⟩ := DataW.trod_struct Try.underlying77 h
  have hl' : cs.length = 2 := hl.trans (by kernel_rfl)
  clear hl
  obtain ⟨u0, u1, rfl⟩ := len_2 hl'
  have z9 : Try.prog.cellsOf 9 = 1 := by kernel_rfl
  have z72 : Try.prog.cellsOf 72 = 1 := by kernel_rfl
  obtain ⟨y0, hy0⟩ : ∃ y, xs[0]? = some y := ⟨_, List.getElem?_eq_getElem (by rw [hlen]; decide)⟩
  have h0 := hf 0 _ rfl
  rw [hy0] at h0
  simp only [z9, List.getElem_toArray, List.getElem_cons_zero, List.getElem_cons_succ, List.drop_zero, List.drop_succ_cons, List.take_succ_cons, List.take_zero] at h0
  have h0' : DataW.trod enc Try.prog W 0 (fun _ => true) true m 9 [u0] = some y0 := h0
  obtain ⟨y1, hy1⟩ : ∃ y, xs[1]? = some y := ⟨_, List.getElem?_eq_getElem (by rw [hlen]; decide)⟩
  have h1 := hf 1 _ rfl
  rw [hy1] at h1
  simp only [z72, List.getElem_toArray, List.getElem_cons_zero, List.getElem_cons_succ, List.drop_zero, List.drop_succ_cons, List.take_succ_cons, List.take_zero] at h1
  have h1' : DataW.trod enc Try.prog W 0 (fun _ => true) true m 72 [u1] = some y1 := h1
  obtain ⟨a0, k0, b0, g0⟩ := (rd_string (n := (n + 1)) Try.underlying9) H enc m (by omega) _ _ h0'
  obtain ⟨a1, k1, b1, g1⟩ := (rd_slice (n := n) Try.underlying72 (by kernel_rfl) (rd_int (n := n) Try.underlying5)) H enc m (by omega) _ _ h1'
  have hall : xs = [y0, y1] := by
    obtain ⟨q0, q1, rfl⟩ := len_2 (l := xs) hlen
    simp only [List.getElem?_cons_zero, List.getElem?_cons_succ, Option.some.injEq] at hy0 hy1
    rw [hy0, hy1]
  subst hall
  refine ⟨⟨a0, a1⟩, ⟨[u0], [u1], rfl, k0, k1⟩, ?_, ?_⟩
  · (try dsimp only at b0); (try dsimp only at b1); simp only [bulk77, Rows.uptoBulk, Rows.uptoBulkAll, List.map_cons, List.map_nil]; omega
  · exact ⟨g0, g1⟩
mutual
def bulk30 : S30 → Nat
  | ⟨x0, x1, x2⟩ => (fun s => s.size + 1) x0 + (fun xs => sumB bulk77 xs + 1) x1 + (bulks30 x2 + 1) + 1
def bulks30 : List S30 → Nat
  | [] => 0
  | x :: r => bulk30 x + bulks30 r
end
theorem bulks30_eq (l : List S30) : bulks30 l = sumB bulk30 l := by
  induction l with
  | nil => rfl
  | cons x r ih => simp only [bulks30, sumB, ih]
mutual
def good30 : S30 → Prop
  | ⟨x0, x1, x2⟩ => (fun _ => True) x0 ∧ (fun xs => ∀ x ∈ xs, good77 x) x1 ∧ goods30 x2
def goods30 : List S30 → Prop
  | [] => True
  | x :: r => good30 x ∧ goods30 r
end
theorem goods30_iff (l : List S30) : goods30 l ↔ ∀ x ∈ l, good30 x := by
  induction l with
  | nil => simp [goods30]
  | cons x r ih => simp [goods30, ih]
theorem rd30 (W : World) (n : Nat) : RdF Try.prog W n k30 30 bulk30 good30 := by
  induction n with
  | zero =>
    intro H enc fuel hf cs x h
    obtain rfl : fuel = 0 := by omega
    simp [DataW.trod] at h
  | succ n ih =>
  intro H enc fuel hfu cs x h
  obtain ⟨xs, m, rfl, rfl, hl, hlen, hf⟩ := DataW.trod_struct Try.underlying30 h
  have hl' : cs.length = 3 := hl.trans (by kernel_rfl)
  clear hl
  obtain ⟨u0, u1, u2, rfl⟩ := len_3 hl'
  have z9 : Try.prog.cellsOf 9 = 1 := by kernel_rfl
  have z27 : Try.prog.cellsOf 27 = 1 := by kernel_rfl
  have z28 : Try.prog.cellsOf 28 = 1 := by kernel_rfl
  obtain ⟨y0, hy0⟩ : ∃ y, xs[0]? = some y := ⟨_, List.getElem?_eq_getElem (by rw [hlen]; decide)⟩
  have h0 := hf 0 _ rfl
  rw [hy0] at h0
  simp only [z9, List.getElem_toArray, List.getElem_cons_zero, List.getElem_cons_succ, List.drop_zero, List.drop_succ_cons, List.take_succ_cons, List.take_zero] at h0
  have h0' : DataW.trod enc Try.prog W 0 (fun _ => true) true m 9 [u0] = some y0 := h0
  obtain ⟨y1, hy1⟩ : ∃ y, xs[1]? = some y := ⟨_, List.getElem?_eq_getElem (by rw [hlen]; decide)⟩
  have h1 := hf 1 _ rfl
  rw [hy1] at h1
  simp only [z27, List.getElem_toArray, List.getElem_cons_zero, List.getElem_cons_succ, List.drop_zero, List.drop_succ_cons, List.take_succ_cons, List.take_zero] at h1
  have h1' : DataW.trod enc Try.prog W 0 (fun _ => true) true m 27 [u1] = some y1 := h1
  obtain ⟨y2, hy2⟩ : ∃ y, xs[2]? = some y := ⟨_, List.getElem?_eq_getElem (by rw [hlen]; decide)⟩
  have h2 := hf 2 _ rfl
  rw [hy2] at h2
  simp only [z28, List.getElem_toArray, List.getElem_cons_zero, List.getElem_cons_succ, List.drop_zero, List.drop_succ_cons, List.take_succ_cons, List.take_zero] at h2
  have h2' : DataW.trod enc Try.prog W 0 (fun _ => true) true m 28 [u2] = some y2 := h2
  obtain ⟨a0, k0, b0, g0⟩ := (rd_string (n := (n + 1)) Try.underlying9) H enc m (by omega) _ _ h0'
  obtain ⟨a1, k1, b1, g1⟩ := (rd_slice (n := n) Try.underlying27 (by kernel_rfl) (rd77 W n)) H enc m (by omega) _ _ h1'
  obtain ⟨a2, k2, b2, g2⟩ := (rd_slice (n := n) Try.underlying28 (by kernel_rfl) ih) H enc m (by omega) _ _ h2'
  have hall : xs = [y0, y1, y2] := by
    obtain ⟨q0, q1, q2, rfl⟩ := len_3 (l := xs) hlen
    simp only [List.getElem?_cons_zero, List.getElem?_cons_succ, Option.some.injEq] at hy0 hy1 hy2
    rw [hy0, hy1, hy2]
  subst hall
  cases k0
  obtain ⟨A1, c1, e1, l1, r1⟩ := k1
  cases e1
  obtain ⟨A2, c2, e2, l2, r2⟩ := k2
  cases e2
  refine ⟨⟨a0, a1, a2⟩, k30_mk W ⟨a0, a1, a2⟩ l1 r1 l2 r2, ?_, ?_⟩
  · (try dsimp only at b0); (try dsimp only at b1); (try dsimp only at b2); simp only [bulk30, bulks30_eq, Rows.uptoBulk, Rows.uptoBulkAll, List.map_cons, List.map_nil]; omega
  · exact ⟨g0, g1, (goods30_iff _).mpr g2⟩
def bulk94 (x : S94) : Nat := (fun _ => 1) x.f0 + (fun _ => 1) x.f1 + 1
def good94 (x : S94) : Prop := (wfI .u64) x.f0 ∧ (wfI .u64) x.f1
theorem rd94 (W : World) (n : Nat) : RdF Try.prog W n k94 94 bulk94 good94 := by
  intro H enc fuel hfu cs x h
  cases n with
  | zero =>
    obtain rfl : fuel = 0 := by omega
    simp [DataW.trod] at h
  | succ n =>
  obtain ⟨xs, m, rfl, rfl, hl, hlen, hf⟩ := DataW.trod_struct Try.underlying94 h
  have hl' : cs.length = 2 := hl.trans (by kernel_rfl)
  clear hl
  obtain ⟨u0, u1, rfl⟩ := len_2 hl'
  have z43 : Try.prog.cellsOf 43 = 1 := by kernel_rfl
  obtain ⟨y0, hy0⟩ : ∃ y, xs[0]? = some y := ⟨_, List.getElem?_eq_getElem (by rw [hlen]; decide)⟩
  have h0 := hf 0 _ rfl
  rw [hy0] at h0
  simp only [z43, List.getElem_toArray, List.getElem_cons_zero, List.getElem_cons_succ, List.drop_zero, List.drop_succ_cons, List.take_succ_cons, List.take_zero] at h0
  have h0' : DataW.trod enc Try.prog W 0 (fun _ => true) true m 43 [u0] = some y0 := h0
  obtain ⟨y1, hy1⟩ : ∃ y, xs[1]? = some y := ⟨_, List.getElem?_eq_getElem (by rw [hlen]; decide)⟩
  have h1 := hf 1 _ rfl
  rw [hy1] at h1
  simp only [z43, List.getElem_toArray, List.getElem_cons_zero, List.getElem_cons_succ, List.drop_zero, List.drop_succ_cons, List.take_succ_cons, List.take_zero] at h1
  have h1' : DataW.trod enc Try.prog W 0 (fun _ => true) true m 43 [u1] = some y1 := h1
  obtain ⟨a0, k0, b0, g0⟩ := (rd_int (n := (n + 1)) Try.underlying43) H enc m (by omega) _ _ h0'
  obtain ⟨a1, k1, b1, g1⟩ := (rd_int (n := (n + 1)) Try.underlying43) H enc m (by omega) _ _ h1'
  have hall : xs = [y0, y1] := by
    obtain ⟨q0, q1, rfl⟩ := len_2 (l := xs) hlen
    simp only [List.getElem?_cons_zero, List.getElem?_cons_succ, Option.some.injEq] at hy0 hy1
    rw [hy0, hy1]
  subst hall
  refine ⟨⟨a0, a1⟩, ⟨[u0], [u1], rfl, k0, k1⟩, ?_, ?_⟩
  · (try dsimp only at b0); (try dsimp only at b1); simp only [bulk94, Rows.uptoBulk, Rows.uptoBulkAll, List.map_cons, List.map_nil]; omega
  · exact ⟨g0, g1⟩
def bulk35 (x : S35) : Nat := (fun _ => 1) x.f0 + (fun xs => sumB bulk94 xs + 1) x.f1 + bulk30 x.f2 + 1
def good35 (x : S35) : Prop := (wfI .u32) x.f0 ∧ (fun xs => ∀ x ∈ xs, good94 x) x.f1 ∧ good30 x.f2
theorem rd35 (W : World) (n : Nat) : RdF Try.prog W n k35 35 bulk35 good35 := by
  intro H enc fuel hfu cs x h
  cases n with
  | zero =>
    obtain rfl : fuel = 0 := by omega
    simp [DataW.trod] at h
  | succ n =>
  obtain ⟨xs, m, rfl, rfl, hl, hlen, hf⟩ := DataW.trod_struct Try.underlying35 h
  have hl' : cs.length = 5 := hl.trans (by kernel_rfl)
  clear hl
  obtain ⟨u0, u1, u2, u3, u4, rfl⟩ := len_5 hl'
  have z30 : Try.prog.cellsOf 30 = 3 := by kernel_rfl
  have z32 : Try.prog.cellsOf 32 = 1 := by kernel_rfl
  have z33 : Try.prog.cellsOf 33 = 1 := by kernel_rfl
  obtain ⟨y0, hy0⟩ : ∃ y, xs[0]? = some y := ⟨_, List.getElem?_eq_getElem (by rw [hlen]; decide)⟩
  have h0 := hf 0 _ rfl
  rw [hy0] at h0
  simp only [z32, List.getElem_toArray, List.getElem_cons_zero, List.getElem_cons_succ, List.drop_zero, List.drop_succ_cons, List.take_succ_cons, List.take_zero] at h0
  have h0' : DataW.trod enc Try.prog W 0 (fun _ => true) true m 32 [u0] = some y0 := h0
  obtain ⟨y1, hy1⟩ : ∃ y, xs[1]? = some y := ⟨_, List.getElem?_eq_getElem (by rw [hlen]; decide)⟩
  have h1 := hf 1 _ rfl
  rw [hy1] at h1
  simp only [z33, List.getElem_toArray, List.getElem_cons_zero, List.getElem_cons_succ, List.drop_zero, List.drop_succ_cons, List.take_succ_cons, List.take_zero] at h1
  have h1' : DataW.trod enc Try.prog W 0 (fun _ => true) true m 33 [u1] = some y1 := h1
  obtain ⟨y2, hy2⟩ : ∃ y, xs[2]? = some y := ⟨_, List.getElem?_eq_getElem (by rw [hlen]; decide)⟩
  have h2 := hf 2 _ rfl
  rw [hy2] at h2
  simp only [z30, List.getElem_toArray, List.getElem_cons_zero, List.getElem_cons_succ, List.drop_zero, List.drop_succ_cons, List.take_succ_cons, List.take_zero] at h2
  have h2' : DataW.trod enc Try.prog W 0 (fun _ => true) true m 30 [u2, u3, u4] = some y2 := h2
  obtain ⟨a0, k0, b0, g0⟩ := (rd_int (n := (n + 1)) Try.underlying32) H enc m (by omega) _ _ h0'
  obtain ⟨a1, k1, b1, g1⟩ := (rd_slice (n := n) Try.underlying33 (by kernel_rfl) (rd94 W n)) H enc m (by omega) _ _ h1'
  obtain ⟨a2, k2, b2, g2⟩ := (rd30 W (n + 1)) H enc m (by omega) _ _ h2'
  have hall : xs = [y0, y1, y2] := by
    obtain ⟨q0, q1, q2, rfl⟩ := len_3 (l := xs) hlen
    simp only [List.getElem?_cons_zero, List.getElem?_cons_succ, Option.some.injEq] at hy0 hy1 hy2
    rw [hy0, hy1, hy2]
  subst hall
  refine ⟨⟨a0, a1, a2⟩, ⟨[u0], [u1, u2, u3, u4], rfl, k0, ⟨[u1], [u2, u3, u4], rfl, k1, k2⟩⟩, ?_, ?_⟩
  · (try dsimp only at b0); (try dsimp only at b1); (try dsimp only at b2); simp only [bulk35, Rows.uptoBulk, Rows.uptoBulkAll, List.map_cons, List.map_nil]; omega
  · exact ⟨g0, g1, g2⟩
end Go.Proofs.Yteejaaeglfpcmab.PX

/- The pure statement of NameSplits, as its row wants it. -/
namespace Go.Proofs.Yteejaaeglfpcmab.PX
open Go.RowKit Go.Proofs.Yteejaaeglfpcmab.Rdr Go.Proofs.YteejaaeglfpcmabW.PrintWords Go.Proofs.YteejaaeglfpcmabW.PrintLast Go.Proofs.YteejaaeglfpcmabW.PrintMore
def arboretlaw02_NameSplits.Pure : Prop := ∀ (x0 : ByteArray), x0.size ≤ 140737488351232 → ∃ k, arboretlaw02_NameSplits.f k x0 = some true
end Go.Proofs.Yteejaaeglfpcmab.PX

/- Contracts of the functions that the seat's laws reach, each beside a plain Lean function: by a program of this session's (tools/myprint.py over the kit's print.py), with some of its own proof. -/
namespace Go.Proofs.Yteejaaeglfpcmab.PX
open Go.RowKit Go.Proofs.YteejaaeglfpcmabW.PrintWords Go.Proofs.YteejaaeglfpcmabW.PrintLast Go.Proofs.YteejaaeglfpcmabW.PrintMore
attribute [local go_sem] max2_int min2_int max_two min_two max_three min_three max_four min_four   -- for this text's walks alone
set_option linter.unusedVariables false
set_option linter.unusedSimpArgs false

/-! ### arboretref01_stands: function 90 -/
def arboretref01_stands.f (a0 : Int) : Option (Bool) := if a0 ≥ 48 then (if a0 ≤ 57 then (some true) else (if a0 ≥ 97 then (if a0 ≤ 122 then (some true) else (if a0 ≥ 65 then (if a0 ≤ 90 then (some true) else (if a0 = 44 then (some true) else (if a0 = 46 then (some true) else (if a0 = 95 then (some true) else (if a0 = 43 then (some true) else (some (a0 == 45))))))) else (if a0 = 44 then (some true) else (if a0 = 46 then (some true) else (if a0 = 95 then (some true) else (if a0 = 43 then (some true) else (some (a0 == 45)))))))) else (if a0 ≥ 65 then (if a0 ≤ 90 then (some true) else (if a0 = 44 then (some true) else (if a0 = 46 then (some true) else (if a0 = 95 then (some true) else (if a0 = 43 then (some true) else (some (a0 == 45))))))) else (if a0 = 44 then (some true) else (if a0 = 46 then (some true) else (if a0 = 95 then (some true) else (if a0 = 43 then (some true) else (some (a0 == 45))))))))) else (if a0 ≥ 97 then (if a0 ≤ 122 then (some true) else (if a0 ≥ 65 then (if a0 ≤ 90 then (some true) else (if a0 = 44 then (some true) else (if a0 = 46 then (some true) else (if a0 = 95 then (some true) else (if a0 = 43 then (some true) else (some (a0 == 45))))))) else (if a0 = 44 then (some true) else (if a0 = 46 then (some true) else (if a0 = 95 then (some true) else (if a0 = 43 then (some true) else (some (a0 == 45)))))))) else (if a0 ≥ 65 then (if a0 ≤ 90 then (some true) else (if a0 = 44 then (some true) else (if a0 = 46 then (some true) else (if a0 = 95 then (some true) else (if a0 = 43 then (some true) else (some (a0 == 45))))))) else (if a0 = 44 then (some true) else (if a0 = 46 then (some true) else (if a0 = 95 then (some true) else (if a0 = 43 then (some true) else (some (a0 == 45))))))))
set_option maxHeartbeats 8000000 in
set_option maxRecDepth 100000 in
theorem arboretref01_stands.calls (a0 : Int) (r : Bool) (w : World) (h : arboretref01_stands.f a0 = some r) :
    Calls Try.prog 90 #[.int .u8 a0] w fun e w' => e = .returned (.bool r) ∧ Drawn0 w w' := by
  have H : (if a0 ≥ 48 then (if a0 ≤ 57 then (some true) else (if a0 ≥ 97 then (if a0 ≤ 122 then (some true) else (if a0 ≥ 65 then (if a0 ≤ 90 then (some true) else (if a0 = 44 then (some true) else (if a0 = 46 then (some true) else (if a0 = 95 then (some true) else (if a0 = 43 then (some true) else (some (a0 == 45))))))) else (if a0 = 44 then (some true) else (if a0 = 46 then (some true) else (if a0 = 95 then (some true) else (if a0 = 43 then (some true) else (some (a0 == 45)))))))) else (if a0 ≥ 65 then (if a0 ≤ 90 then (some true) else (if a0 = 44 then (some true) else (if a0 = 46 then (some true) else (if a0 = 95 then (some true) else (if a0 = 43 then (some true) else (some (a0 == 45))))))) else (if a0 = 44 then (some true) else (if a0 = 46 then (some true) else (if a0 = 95 then (some true) else (if a0 = 43 then (some true) else (some (a0 == 45))))))))) else (if a0 ≥ 97 then (if a0 ≤ 122 then (some true) else (if a0 ≥ 65 then (if a0 ≤ 90 then (some true) else (if a0 = 44 then (some true) else (if a0 = 46 then (some true) else (if a0 = 95 then (some true) else (if a0 = 43 then (some true) else (some (a0 == 45))))))) else (if a0 = 44 then (some true) else (if a0 = 46 then (some true) else (if a0 = 95 then (some true) else (if a0 = 43 then (some true) else (some (a0 == 45)))))))) else (if a0 ≥ 65 then (if a0 ≤ 90 then (some true) else (if a0 = 44 then (some true) else (if a0 = 46 then (some true) else (if a0 = 95 then (some true) else (if a0 = 43 then (some true) else (some (a0 == 45))))))) else (if a0 = 44 then (some true) else (if a0 = 46 then (some true) else (if a0 = 95 then (some true) else (if a0 = 43 then (some true) else (some (a0 == 45))))))))) = some r := h
  clear h
  by_cases c2 : a0 ≥ 48
  · rw [if_pos c2] at H
    have c2b0 : decide (48 ≤ a0) = true := decide_eq_true c2
    clear c2
    by_cases c3 : a0 ≤ 57
    · rw [if_pos c3] at H
      have c3b0 : decide (a0 ≤ 57) = true := decide_eq_true c3
      clear c3
      obtain rfl := Option.some.inj H
      go_enter Try.func90, Try.ntmps90
      go_wp2
      go_ret
      exact ⟨by first | rfl | (simp; done) | (simp [*]; done), by repeat (first | exact Drawn0.refl _ | apply Drawn0.step)⟩
    · rw [if_neg c3] at H
      have c3b0 : decide (a0 ≤ 57) = false := decide_eq_false c3
      clear c3
      by_cases c4 : a0 ≥ 97
      · rw [if_pos c4] at H
        have c4b0 : decide (97 ≤ a0) = true := decide_eq_true c4
        clear c4
        by_cases c5 : a0 ≤ 122
        · rw [if_pos c5] at H
          have c5b0 : decide (a0 ≤ 122) = true := decide_eq_true c5
          clear c5
          obtain rfl := Option.some.inj H
          go_enter Try.func90, Try.ntmps90
          go_wp2
          go_ret
          exact ⟨by first | rfl | (simp; done) | (simp [*]; done), by repeat (first | exact Drawn0.refl _ | apply Drawn0.step)⟩
        · rw [if_neg c5] at H
          have c5b0 : decide (a0 ≤ 122) = false := decide_eq_false c5
          clear c5
          by_cases c6 : a0 ≥ 65
          · rw [if_pos c6] at H
            have c6b0 : decide (65 ≤ a0) = true := decide_eq_true c6
            clear c6
            by_cases c7 : a0 ≤ 90
            · rw [if_pos c7] at H
              have c7b0 : decide (a0 ≤ 90) = true := decide_eq_true c7
              clear c7
              obtain rfl := Option.some.inj H
              go_enter Try.func90, Try.ntmps90
              go_wp2
              go_ret
              exact ⟨by first | rfl | (simp; done) | (simp [*]; done), by repeat (first | exact Drawn0.refl _ | apply Drawn0.step)⟩
            · rw [if_neg c7] at H
              have c7b0 : decide (a0 ≤ 90) = false := decide_eq_false c7
              clear c7
              by_cases c8 : a0 = 44
              · rw [if_pos c8] at H
                have c8b0 : (a0 == 44) = true := beq_iff_eq.mpr c8
                have c8b1 : (a0 != 44) = false := bne_eq_false_iff_eq.mpr c8
                clear c8
                obtain rfl := Option.some.inj H
                go_enter Try.func90, Try.ntmps90
                go_wp2
                go_ret
                exact ⟨by first | rfl | (simp; done) | (simp [*]; done), by repeat (first | exact Drawn0.refl _ | apply Drawn0.step)⟩
              · rw [if_neg c8] at H
                have c8b0 : (a0 == 44) = false := beq_eq_false_iff_ne.mpr c8
                have c8b1 : (a0 != 44) = true := bne_iff_ne.mpr c8
                by_cases c9 : a0 = 46
                · rw [if_pos c9] at H
                  have c9b0 : (a0 == 46) = true := beq_iff_eq.mpr c9
                  have c9b1 : (a0 != 46) = false := bne_eq_false_iff_eq.mpr c9
                  clear c9
                  obtain rfl := Option.some.inj H
                  go_enter Try.func90, Try.ntmps90
                  go_wp2
                  go_ret
                  exact ⟨by first | rfl | (simp; done) | (simp [*]; done), by repeat (first | exact Drawn0.refl _ | apply Drawn0.step)⟩
                · rw [if_neg c9] at H
                  have c9b0 : (a0 == 46) = false := beq_eq_false_iff_ne.mpr c9
                  have c9b1 : (a0 != 46) = true := bne_iff_ne.mpr c9
                  by_cases c10 : a0 = 95
                  · rw [if_pos c10] at H
                    have c10b0 : (a0 == 95) = true := beq_iff_eq.mpr c10
                    have c10b1 : (a0 != 95) = false := bne_eq_false_iff_eq.mpr c10
                    clear c10
                    obtain rfl := Option.some.inj H
                    go_enter Try.func90, Try.ntmps90
                    go_wp2
                    go_ret
                    exact ⟨by first | rfl | (simp; done) | (simp [*]; done), by repeat (first | exact Drawn0.refl _ | apply Drawn0.step)⟩
                  · rw [if_neg c10] at H
                    have c10b0 : (a0 == 95) = false := beq_eq_false_iff_ne.mpr c10
                    have c10b1 : (a0 != 95) = true := bne_iff_ne.mpr c10
                    by_cases c11 : a0 = 43
                    · rw [if_pos c11] at H
                      have c11b0 : (a0 == 43) = true := beq_iff_eq.mpr c11
                      have c11b1 : (a0 != 43) = false := bne_eq_false_iff_eq.mpr c11
                      clear c11
                      obtain rfl := Option.some.inj H
                      go_enter Try.func90, Try.ntmps90
                      go_wp2
                      go_ret
                      exact ⟨by first | rfl | (simp; done) | (simp [*]; done), by repeat (first | exact Drawn0.refl _ | apply Drawn0.step)⟩
                    · rw [if_neg c11] at H
                      have c11b0 : (a0 == 43) = false := beq_eq_false_iff_ne.mpr c11
                      have c11b1 : (a0 != 43) = true := bne_iff_ne.mpr c11
                      obtain rfl := Option.some.inj H
                      go_enter Try.func90, Try.ntmps90
                      go_wp2
                      go_ret
                      exact ⟨by first | rfl | (simp; done) | (simp [*]; done), by repeat (first | exact Drawn0.refl _ | apply Drawn0.step)⟩
          · rw [if_neg c6] at H
            have c6b0 : decide (65 ≤ a0) = false := decide_eq_false c6
            clear c6
            by_cases c12 : a0 = 44
            · rw [if_pos c12] at H
              have c12b0 : (a0 == 44) = true := beq_iff_eq.mpr c12
              have c12b1 : (a0 != 44) = false := bne_eq_false_iff_eq.mpr c12
              clear c12
              obtain rfl := Option.some.inj H
              go_enter Try.func90, Try.ntmps90
              go_wp2
              go_ret
              exact ⟨by first | rfl | (simp; done) | (simp [*]; done), by repeat (first | exact Drawn0.refl _ | apply Drawn0.step)⟩
            · rw [if_neg c12] at H
              have c12b0 : (a0 == 44) = false := beq_eq_false_iff_ne.mpr c12
              have c12b1 : (a0 != 44) = true := bne_iff_ne.mpr c12
              by_cases c13 : a0 = 46
              · rw [if_pos c13] at H
                have c13b0 : (a0 == 46) = true := beq_iff_eq.mpr c13
                have c13b1 : (a0 != 46) = false := bne_eq_false_iff_eq.mpr c13
                clear c13
                obtain rfl := Option.some.inj H
                go_enter Try.func90, Try.ntmps90
                go_wp2
                go_ret
                exact ⟨by first | rfl | (simp; done) | (simp [*]; done), by repeat (first | exact Drawn0.refl _ | apply Drawn0.step)⟩
              · rw [if_neg c13] at H
                have c13b0 : (a0 == 46) = false := beq_eq_false_iff_ne.mpr c13
                have c13b1 : (a0 != 46) = true := bne_iff_ne.mpr c13
                by_cases c14 : a0 = 95
                · rw [if_pos c14] at H
                  have c14b0 : (a0 == 95) = true := beq_iff_eq.mpr c14
                  have c14b1 : (a0 != 95) = false := bne_eq_false_iff_eq.mpr c14
                  clear c14
                  obtain rfl := Option.some.inj H
                  go_enter Try.func90, Try.ntmps90
                  go_wp2
                  go_ret
                  exact ⟨by first | rfl | (simp; done) | (simp [*]; done), by repeat (first | exact Drawn0.refl _ | apply Drawn0.step)⟩
                · rw [if_neg c14] at H
                  have c14b0 : (a0 == 95) = false := beq_eq_false_iff_ne.mpr c14
                  have c14b1 : (a0 != 95) = true := bne_iff_ne.mpr c14
                  by_cases c15 : a0 = 43
                  · rw [if_pos c15] at H
                    have c15b0 : (a0 == 43) = true := beq_iff_eq.mpr c15
                    have c15b1 : (a0 != 43) = false := bne_eq_false_iff_eq.mpr c15
                    clear c15
                    obtain rfl := Option.some.inj H
                    go_enter Try.func90, Try.ntmps90
                    go_wp2
                    go_ret
                    exact ⟨by first | rfl | (simp; done) | (simp [*]; done), by repeat (first | exact Drawn0.refl _ | apply Drawn0.step)⟩
                  · rw [if_neg c15] at H
                    have c15b0 : (a0 == 43) = false := beq_eq_false_iff_ne.mpr c15
                    have c15b1 : (a0 != 43) = true := bne_iff_ne.mpr c15
                    obtain rfl := Option.some.inj H
                    go_enter Try.func90, Try.ntmps90
                    go_wp2
                    go_ret
                    exact ⟨by first | rfl | (simp; done) | (simp [*]; done), by repeat (first | exact Drawn0.refl _ | apply Drawn0.step)⟩
      · rw [if_neg c4] at H
        have c4b0 : decide (97 ≤ a0) = false := decide_eq_false c4
        clear c4
        by_cases c16 : a0 ≥ 65
        · rw [if_pos c16] at H
          have c16b0 : decide (65 ≤ a0) = true := decide_eq_true c16
          clear c16
          by_cases c17 : a0 ≤ 90
          · rw [if_pos c17] at H
            have c17b0 : decide (a0 ≤ 90) = true := decide_eq_true c17
            clear c17
            obtain rfl := Option.some.inj H
            go_enter Try.func90, Try.ntmps90
            go_wp2
            go_ret
            exact ⟨by first | rfl | (simp; done) | (simp [*]; done), by repeat (first | exact Drawn0.refl _ | apply Drawn0.step)⟩
          · rw [if_neg c17] at H
            have c17b0 : decide (a0 ≤ 90) = false := decide_eq_false c17
            clear c17
            by_cases c18 : a0 = 44
            · rw [if_pos c18] at H
              have c18b0 : (a0 == 44) = true := beq_iff_eq.mpr c18
              have c18b1 : (a0 != 44) = false := bne_eq_false_iff_eq.mpr c18
              clear c18
              obtain rfl := Option.some.inj H
              go_enter Try.func90, Try.ntmps90
              go_wp2
              go_ret
              exact ⟨by first | rfl | (simp; done) | (simp [*]; done), by repeat (first | exact Drawn0.refl _ | apply Drawn0.step)⟩
            · rw [if_neg c18] at H
              have c18b0 : (a0 == 44) = false := beq_eq_false_iff_ne.mpr c18
              have c18b1 : (a0 != 44) = true := bne_iff_ne.mpr c18
              by_cases c19 : a0 = 46
              · rw [if_pos c19] at H
                have c19b0 : (a0 == 46) = true := beq_iff_eq.mpr c19
                have c19b1 : (a0 != 46) = false := bne_eq_false_iff_eq.mpr c19
                clear c19
                obtain rfl := Option.some.inj H
                go_enter Try.func90, Try.ntmps90
                go_wp2
                go_ret
                exact ⟨by first | rfl | (simp; done) | (simp [*]; done), by repeat (first | exact Drawn0.refl _ | apply Drawn0.step)⟩
              · rw [if_neg c19] at H
                have c19b0 : (a0 == 46) = false := beq_eq_false_iff_ne.mpr c19
                have c19b1 : (a0 != 46) = true := bne_iff_ne.mpr c19
                by_cases c20 : a0 = 95
                · rw [if_pos c20] at H
                  have c20b0 : (a0 == 95) = true := beq_iff_eq.mpr c20
                  have c20b1 : (a0 != 95) = false := bne_eq_false_iff_eq.mpr c20
                  clear c20
                  obtain rfl := Option.some.inj H
                  go_enter Try.func90, Try.ntmps90
                  go_wp2
                  go_ret
                  exact ⟨by first | rfl | (simp; done) | (simp [*]; done), by repeat (first | exact Drawn0.refl _ | apply Drawn0.step)⟩
                · rw [if_neg c20] at H
                  have c20b0 : (a0 == 95) = false := beq_eq_false_iff_ne.mpr c20
                  have c20b1 : (a0 != 95) = true := bne_iff_ne.mpr c20
                  by_cases c21 : a0 = 43
                  · rw [if_pos c21] at H
                    have c21b0 : (a0 == 43) = true := beq_iff_eq.mpr c21
                    have c21b1 : (a0 != 43) = false := bne_eq_false_iff_eq.mpr c21
                    clear c21
                    obtain rfl := Option.some.inj H
                    go_enter Try.func90, Try.ntmps90
                    go_wp2
                    go_ret
                    exact ⟨by first | rfl | (simp; done) | (simp [*]; done), by repeat (first | exact Drawn0.refl _ | apply Drawn0.step)⟩
                  · rw [if_neg c21] at H
                    have c21b0 : (a0 == 43) = false := beq_eq_false_iff_ne.mpr c21
                    have c21b1 : (a0 != 43) = true := bne_iff_ne.mpr c21
                    obtain rfl := Option.some.inj H
                    go_enter Try.func90, Try.ntmps90
                    go_wp2
                    go_ret
                    exact ⟨by first | rfl | (simp; done) | (simp [*]; done), by repeat (first | exact Drawn0.refl _ | apply Drawn0.step)⟩
        · rw [if_neg c16] at H
          have c16b0 : decide (65 ≤ a0) = false := decide_eq_false c16
          clear c16
          by_cases c22 : a0 = 44
          · rw [if_pos c22] at H
            have c22b0 : (a0 == 44) = true := beq_iff_eq.mpr c22
            have c22b1 : (a0 != 44) = false := bne_eq_false_iff_eq.mpr c22
            clear c22
            obtain rfl := Option.some.inj H
            go_enter Try.func90, Try.ntmps90
            go_wp2
            go_ret
            exact ⟨by first | rfl | (simp; done) | (simp [*]; done), by repeat (first | exact Drawn0.refl _ | apply Drawn0.step)⟩
          · rw [if_neg c22] at H
            have c22b0 : (a0 == 44) = false := beq_eq_false_iff_ne.mpr c22
            have c22b1 : (a0 != 44) = true := bne_iff_ne.mpr c22
            by_cases c23 : a0 = 46
            · rw [if_pos c23] at H
              have c23b0 : (a0 == 46) = true := beq_iff_eq.mpr c23
              have c23b1 : (a0 != 46) = false := bne_eq_false_iff_eq.mpr c23
              clear c23
              obtain rfl := Option.some.inj H
              go_enter Try.func90, Try.ntmps90
              go_wp2
              go_ret
              exact ⟨by first | rfl | (simp; done) | (simp [*]; done), by repeat (first | exact Drawn0.refl _ | apply Drawn0.step)⟩
            · rw [if_neg c23] at H
              have c23b0 : (a0 == 46) = false := beq_eq_false_iff_ne.mpr c23
              have c23b1 : (a0 != 46) = true := bne_iff_ne.mpr c23
              by_cases c24 : a0 = 95
              · rw [if_pos c24] at H
                have c24b0 : (a0 == 95) = true := beq_iff_eq.mpr c24
                have c24b1 : (a0 != 95) = false := bne_eq_false_iff_eq.mpr c24
                clear c24
                obtain rfl := Option.some.inj H
                go_enter Try.func90, Try.ntmps90
                go_wp2
                go_ret
                exact ⟨by first | rfl | (simp; done) | (simp [*]; done), by repeat (first | exact Drawn0.refl _ | apply Drawn0.step)⟩
              · rw [if_neg c24] at H
                have c24b0 : (a0 == 95) = false := beq_eq_false_iff_ne.mpr c24
                have c24b1 : (a0 != 95) = true := bne_iff_ne.mpr c24
                by_cases c25 : a0 = 43
                · rw [if_pos c25] at H
                  have c25b0 : (a0 == 43) = true := beq_iff_eq.mpr c25
                  have c25b1 : (a0 != 43) = false := bne_eq_false_iff_eq.mpr c25
                  clear c25
                  obtain rfl := Option.some.inj H
                  go_enter Try.func90, Try.ntmps90
                  go_wp2
                  go_ret
                  exact ⟨by first | rfl | (simp; done) | (simp [*]; done), by repeat (first | exact Drawn0.refl _ | apply Drawn0.step)⟩
                · rw [if_neg c25] at H
                  have c25b0 : (a0 == 43) = false := beq_eq_false_iff_ne.mpr c25
                  have c25b1 : (a0 != 43) = true := bne_iff_ne.mpr c25
                  obtain rfl := Option.some.inj H
                  go_enter Try.func90, Try.ntmps90
                  go_wp2
                  go_ret
                  exact ⟨by first | rfl | (simp; done) | (simp [*]; done), by repeat (first | exact Drawn0.refl _ | apply Drawn0.step)⟩
  · rw [if_neg c2] at H
    have c2b0 : decide (48 ≤ a0) = false := decide_eq_false c2
    clear c2
    by_cases c26 : a0 ≥ 97
    · rw [if_pos c26] at H
      have c26b0 : decide (97 ≤ a0) = true := decide_eq_true c26
      clear c26
      by_cases c27 : a0 ≤ 122
      · rw [if_pos c27] at H
        have c27b0 : decide (a0 ≤ 122) = true := decide_eq_true c27
        clear c27
        obtain rfl := Option.some.inj H
        go_enter Try.func90, Try.ntmps90
        go_wp2
        go_ret
        exact ⟨by first | rfl | (simp; done) | (simp [*]; done), by repeat (first | exact Drawn0.refl _ | apply Drawn0.step)⟩
      · rw [if_neg c27] at H
        have c27b0 : decide (a0 ≤ 122) = false := decide_eq_false c27
        clear c27
        by_cases c28 : a0 ≥ 65
        · rw [if_pos c28] at H
          have c28b0 : decide (65 ≤ a0) = true := decide_eq_true c28
          clear c28
          by_cases c29 : a0 ≤ 90
          · rw [if_pos c29] at H
            have c29b0 : decide (a0 ≤ 90) = true := decide_eq_true c29
            clear c29
            obtain rfl := Option.some.inj H
            go_enter Try.func90, Try.ntmps90
            go_wp2
            go_ret
            exact ⟨by first | rfl | (simp; done) | (simp [*]; done), by repeat (first | exact Drawn0.refl _ | apply Drawn0.step)⟩
          · rw [if_neg c29] at H
            have c29b0 : decide (a0 ≤ 90) = false := decide_eq_false c29
            clear c29
            by_cases c30 : a0 = 44
            · rw [if_pos c30] at H
              have c30b0 : (a0 == 44) = true := beq_iff_eq.mpr c30
              have c30b1 : (a0 != 44) = false := bne_eq_false_iff_eq.mpr c30
              clear c30
              obtain rfl := Option.some.inj H
              go_enter Try.func90, Try.ntmps90
              go_wp2
              go_ret
              exact ⟨by first | rfl | (simp; done) | (simp [*]; done), by repeat (first | exact Drawn0.refl _ | apply Drawn0.step)⟩
            · rw [if_neg c30] at H
              have c30b0 : (a0 == 44) = false := beq_eq_false_iff_ne.mpr c30
              have c30b1 : (a0 != 44) = true := bne_iff_ne.mpr c30
              by_cases c31 : a0 = 46
              · rw [if_pos c31] at H
                have c31b0 : (a0 == 46) = true := beq_iff_eq.mpr c31
                have c31b1 : (a0 != 46) = false := bne_eq_false_iff_eq.mpr c31
                clear c31
                obtain rfl := Option.some.inj H
                go_enter Try.func90, Try.ntmps90
                go_wp2
                go_ret
                exact ⟨by first | rfl | (simp; done) | (simp [*]; done), by repeat (first | exact Drawn0.refl _ | apply Drawn0.step)⟩
              · rw [if_neg c31] at H
                have c31b0 : (a0 == 46) = false := beq_eq_false_iff_ne.mpr c31
                have c31b1 : (a0 != 46) = true := bne_iff_ne.mpr c31
                by_cases c32 : a0 = 95
                · rw [if_pos c32] at H
                  have c32b0 : (a0 == 95) = true := beq_iff_eq.mpr c32
                  have c32b1 : (a0 != 95) = false := bne_eq_false_iff_eq.mpr c32
                  clear c32
                  obtain rfl := Option.some.inj H
                  go_enter Try.func90, Try.ntmps90
                  go_wp2
                  go_ret
                  exact ⟨by first | rfl | (simp; done) | (simp [*]; done), by repeat (first | exact Drawn0.refl _ | apply Drawn0.step)⟩
                · rw [if_neg c32] at H
                  have c32b0 : (a0 == 95) = false := beq_eq_false_iff_ne.mpr c32
                  have c32b1 : (a0 != 95) = true := bne_iff_ne.mpr c32
                  by_cases c33 : a0 = 43
                  · rw [if_pos c33] at H
                    have c33b0 : (a0 == 43) = true := beq_iff_eq.mpr c33
                    have c33b1 : (a0 != 43) = false := bne_eq_false_iff_eq.mpr c33
                    clear c33
                    obtain rfl := Option.some.inj H
                    go_enter Try.func90, Try.ntmps90
                    go_wp2
                    go_ret
                    exact ⟨by first | rfl | (simp; done) | (simp [*]; done), by repeat (first | exact Drawn0.refl _ | apply Drawn0.step)⟩
                  · rw [if_neg c33] at H
                    have c33b0 : (a0 == 43) = false := beq_eq_false_iff_ne.mpr c33
                    have c33b1 : (a0 != 43) = true := bne_iff_ne.mpr c33
                    obtain rfl := Option.some.inj H
                    go_enter Try.func90, Try.ntmps90
                    go_wp2
                    go_ret
                    exact ⟨by first | rfl | (simp; done) | (simp [*]; done), by repeat (first | exact Drawn0.refl _ | apply Drawn0.step)⟩
        · rw [if_neg c28] at H
          have c28b0 : decide (65 ≤ a0) = false := decide_eq_false c28
          clear c28
          by_cases c34 : a0 = 44
          · rw [if_pos c34] at H
            have c34b0 : (a0 == 44) = true := beq_iff_eq.mpr c34
            have c34b1 : (a0 != 44) = false := bne_eq_false_iff_eq.mpr c34
            clear c34
            obtain rfl := Option.some.inj H
            go_enter Try.func90, Try.ntmps90
            go_wp2
            go_ret
            exact ⟨by first | rfl | (simp; done) | (simp [*]; done), by repeat (first | exact Drawn0.refl _ | apply Drawn0.step)⟩
          · rw [if_neg c34] at H
            have c34b0 : (a0 == 44) = false := beq_eq_false_iff_ne.mpr c34
            have c34b1 : (a0 != 44) = true := bne_iff_ne.mpr c34
            by_cases c35 : a0 = 46
            · rw [if_pos c35] at H
              have c35b0 : (a0 == 46) = true := beq_iff_eq.mpr c35
              have c35b1 : (a0 != 46) = false := bne_eq_false_iff_eq.mpr c35
              clear c35
              obtain rfl := Option.some.inj H
              go_enter Try.func90, Try.ntmps90
              go_wp2
              go_ret
              exact ⟨by first | rfl | (simp; done) | (simp [*]; done), by repeat (first | exact Drawn0.refl _ | apply Drawn0.step)⟩
            · rw [if_neg c35] at H
              have c35b0 : (a0 == 46) = false := beq_eq_false_iff_ne.mpr c35
              have c35b1 : (a0 != 46) = true := bne_iff_ne.mpr c35
              by_cases c36 : a0 = 95
              · rw [if_pos c36] at H
                have c36b0 : (a0 == 95) = true := beq_iff_eq.mpr c36
                have c36b1 : (a0 != 95) = false := bne_eq_false_iff_eq.mpr c36
                clear c36
                obtain rfl := Option.some.inj H
                go_enter Try.func90, Try.ntmps90
                go_wp2
                go_ret
                exact ⟨by first | rfl | (simp; done) | (simp [*]; done), by repeat (first | exact Drawn0.refl _ | apply Drawn0.step)⟩
              · rw [if_neg c36] at H
                have c36b0 : (a0 == 95) = false := beq_eq_false_iff_ne.mpr c36
                have c36b1 : (a0 != 95) = true := bne_iff_ne.mpr c36
                by_cases c37 : a0 = 43
                · rw [if_pos c37] at H
                  have c37b0 : (a0 == 43) = true := beq_iff_eq.mpr c37
                  have c37b1 : (a0 != 43) = false := bne_eq_false_iff_eq.mpr c37
                  clear c37
                  obtain rfl := Option.some.inj H
                  go_enter Try.func90, Try.ntmps90
                  go_wp2
                  go_ret
                  exact ⟨by first | rfl | (simp; done) | (simp [*]; done), by repeat (first | exact Drawn0.refl _ | apply Drawn0.step)⟩
                · rw [if_neg c37] at H
                  have c37b0 : (a0 == 43) = false := beq_eq_false_iff_ne.mpr c37
                  have c37b1 : (a0 != 43) = true := bne_iff_ne.mpr c37
                  obtain rfl := Option.some.inj H
                  go_enter Try.func90, Try.ntmps90
                  go_wp2
                  go_ret
                  exact ⟨by first | rfl | (simp; done) | (simp [*]; done), by repeat (first | exact Drawn0.refl _ | apply Drawn0.step)⟩
    · rw [if_neg c26] at H
      have c26b0 : decide (97 ≤ a0) = false := decide_eq_false c26
      clear c26
      by_cases c38 : a0 ≥ 65
      · rw [if_pos c38] at H
        have c38b0 : decide (65 ≤ a0) = true := decide_eq_true c38
        clear c38
        by_cases c39 : a0 ≤ 90
        · rw [if_pos c39] at H
          have c39b0 : decide (a0 ≤ 90) = true := decide_eq_true c39
          clear c39
          obtain rfl := Option.some.inj H
          go_enter Try.func90, Try.ntmps90
          go_wp2
          go_ret
          exact ⟨by first | rfl | (simp; done) | (simp [*]; done), by repeat (first | exact Drawn0.refl _ | apply Drawn0.step)⟩
        · rw [if_neg c39] at H
          have c39b0 : decide (a0 ≤ 90) = false := decide_eq_false c39
          clear c39
          by_cases c40 : a0 = 44
          · rw [if_pos c40] at H
            have c40b0 : (a0 == 44) = true := beq_iff_eq.mpr c40
            have c40b1 : (a0 != 44) = false := bne_eq_false_iff_eq.mpr c40
            clear c40
            obtain rfl := Option.some.inj H
            go_enter Try.func90, Try.ntmps90
            go_wp2
            go_ret
            exact ⟨by first | rfl | (simp; done) | (simp [*]; done), by repeat (first | exact Drawn0.refl _ | apply Drawn0.step)⟩
          · rw [if_neg c40] at H
            have c40b0 : (a0 == 44) = false := beq_eq_false_iff_ne.mpr c40
            have c40b1 : (a0 != 44) = true := bne_iff_ne.mpr c40
            by_cases c41 : a0 = 46
            · rw [if_pos c41] at H
              have c41b0 : (a0 == 46) = true := beq_iff_eq.mpr c41
              have c41b1 : (a0 != 46) = false := bne_eq_false_iff_eq.mpr c41
              clear c41
              obtain rfl := Option.some.inj H
              go_enter Try.func90, Try.ntmps90
              go_wp2
              go_ret
              exact ⟨by first | rfl | (simp; done) | (simp [*]; done), by repeat (first | exact Drawn0.refl _ | apply Drawn0.step)⟩
            · rw [if_neg c41] at H
              have c41b0 : (a0 == 46) = false := beq_eq_false_iff_ne.mpr c41
              have c41b1 : (a0 != 46) = true := bne_iff_ne.mpr c41
              by_cases c42 : a0 = 95
              · rw [if_pos c42] at H
                have c42b0 : (a0 == 95) = true := beq_iff_eq.mpr c42
                have c42b1 : (a0 != 95) = false := bne_eq_false_iff_eq.mpr c42
                clear c42
                obtain rfl := Option.some.inj H
                go_enter Try.func90, Try.ntmps90
                go_wp2
                go_ret
                exact ⟨by first | rfl | (simp; done) | (simp [*]; done), by repeat (first | exact Drawn0.refl _ | apply Drawn0.step)⟩
              · rw [if_neg c42] at H
                have c42b0 : (a0 == 95) = false := beq_eq_false_iff_ne.mpr c42
                have c42b1 : (a0 != 95) = true := bne_iff_ne.mpr c42
                by_cases c43 : a0 = 43
                · rw [if_pos c43] at H
                  have c43b0 : (a0 == 43) = true := beq_iff_eq.mpr c43
                  have c43b1 : (a0 != 43) = false := bne_eq_false_iff_eq.mpr c43
                  clear c43
                  obtain rfl := Option.some.inj H
                  go_enter Try.func90, Try.ntmps90
                  go_wp2
                  go_ret
                  exact ⟨by first | rfl | (simp; done) | (simp [*]; done), by repeat (first | exact Drawn0.refl _ | apply Drawn0.step)⟩
                · rw [if_neg c43] at H
                  have c43b0 : (a0 == 43) = false := beq_eq_false_iff_ne.mpr c43
                  have c43b1 : (a0 != 43) = true := bne_iff_ne.mpr c43
                  obtain rfl := Option.some.inj H
                  go_enter Try.func90, Try.ntmps90
                  go_wp2
                  go_ret
                  exact ⟨by first | rfl | (simp; done) | (simp [*]; done), by repeat (first | exact Drawn0.refl _ | apply Drawn0.step)⟩
      · rw [if_neg c38] at H
        have c38b0 : decide (65 ≤ a0) = false := decide_eq_false c38
        clear c38
        by_cases c44 : a0 = 44
        · rw [if_pos c44] at H
          have c44b0 : (a0 == 44) = true := beq_iff_eq.mpr c44
          have c44b1 : (a0 != 44) = false := bne_eq_false_iff_eq.mpr c44
          clear c44
          obtain rfl := Option.some.inj H
          go_enter Try.func90, Try.ntmps90
          go_wp2
          go_ret
          exact ⟨by first | rfl | (simp; done) | (simp [*]; done), by repeat (first | exact Drawn0.refl _ | apply Drawn0.step)⟩
        · rw [if_neg c44] at H
          have c44b0 : (a0 == 44) = false := beq_eq_false_iff_ne.mpr c44
          have c44b1 : (a0 != 44) = true := bne_iff_ne.mpr c44
          by_cases c45 : a0 = 46
          · rw [if_pos c45] at H
            have c45b0 : (a0 == 46) = true := beq_iff_eq.mpr c45
            have c45b1 : (a0 != 46) = false := bne_eq_false_iff_eq.mpr c45
            clear c45
            obtain rfl := Option.some.inj H
            go_enter Try.func90, Try.ntmps90
            go_wp2
            go_ret
            exact ⟨by first | rfl | (simp; done) | (simp [*]; done), by repeat (first | exact Drawn0.refl _ | apply Drawn0.step)⟩
          · rw [if_neg c45] at H
            have c45b0 : (a0 == 46) = false := beq_eq_false_iff_ne.mpr c45
            have c45b1 : (a0 != 46) = true := bne_iff_ne.mpr c45
            by_cases c46 : a0 = 95
            · rw [if_pos c46] at H
              have c46b0 : (a0 == 95) = true := beq_iff_eq.mpr c46
              have c46b1 : (a0 != 95) = false := bne_eq_false_iff_eq.mpr c46
              clear c46
              obtain rfl := Option.some.inj H
              go_enter Try.func90, Try.ntmps90
              go_wp2
              go_ret
              exact ⟨by first | rfl | (simp; done) | (simp [*]; done), by repeat (first | exact Drawn0.refl _ | apply Drawn0.step)⟩
            · rw [if_neg c46] at H
              have c46b0 : (a0 == 95) = false := beq_eq_false_iff_ne.mpr c46
              have c46b1 : (a0 != 95) = true := bne_iff_ne.mpr c46
              by_cases c47 : a0 = 43
              · rw [if_pos c47] at H
                have c47b0 : (a0 == 43) = true := beq_iff_eq.mpr c47
                have c47b1 : (a0 != 43) = false := bne_eq_false_iff_eq.mpr c47
                clear c47
                obtain rfl := Option.some.inj H
                go_enter Try.func90, Try.ntmps90
                go_wp2
                go_ret
                exact ⟨by first | rfl | (simp; done) | (simp [*]; done), by repeat (first | exact Drawn0.refl _ | apply Drawn0.step)⟩
              · rw [if_neg c47] at H
                have c47b0 : (a0 == 43) = false := beq_eq_false_iff_ne.mpr c47
                have c47b1 : (a0 != 43) = true := bne_iff_ne.mpr c47
                obtain rfl := Option.some.inj H
                go_enter Try.func90, Try.ntmps90
                go_wp2
                go_ret
                exact ⟨by first | rfl | (simp; done) | (simp [*]; done), by repeat (first | exact Drawn0.refl _ | apply Drawn0.step)⟩

end Go.Proofs.Yteejaaeglfpcmab.PX

/- Small words for pure statements over rounds: what answers from some number of rounds on; wraps that do nothing; bits that don't meet. Own text. -/
set_option linter.unusedVariables false
set_option linter.unusedSimpArgs false
namespace Go.Proofs.Yteejaaeglfpcmab.Aid
open Go.RowKit Go.Proofs.YteejaaeglfpcmabW.PrintWords
section
variable {α β : Type} {r : α}
theorem Ev.pos {c : Prop} [Decidable c] {A B : Nat → Option α} (h : c) (hA : Ev A r) : Ev (fun k => if c then A k else B k) r := by
  simp only [if_pos h]
  exact hA
theorem Ev.neg {c : Prop} [Decidable c] {A B : Nat → Option α} (h : ¬ c) (hB : Ev B r) : Ev (fun k => if c then A k else B k) r := by
  simp only [if_neg h]
  exact hB
theorem Ev.ite {c : Prop} [Decidable c] {A B : Nat → Option α} {a b : α} (hA : c → Ev A a) (hB : ¬ c → Ev B b) : Ev (fun k => if c then A k else B k) (if c then a else b) := by
  by_cases h : c
  · rw [if_pos h]; exact Ev.pos h (hA h)
  · rw [if_neg h]; exact Ev.neg h (hB h)
theorem Ev.succ {g : Nat → Option α} (h : Ev (fun k => g (k + 1)) r) : Ev g r := Ev.step (fun _ => rfl) h
theorem Ev.some (r : α) : Ev (fun _ => some r) r := ⟨0, fun _ _ => rfl⟩
theorem Ev.fix {g : Option α} (h : g = Option.some r) : Ev (fun _ => g) r := ⟨0, fun _ _ => h⟩
theorem Ev.then {g : Nat → Option α} {f : Nat → α → Option β} {a : α} {b : β} (h : Ev g a) (k : Ev (fun n => f n a) b) : Ev (fun n => (g n).bind (f n)) b := Ev.bind h k
theorem Ev.out {g : Nat → Option α} (h : Ev g r) : ∃ k, g k = Option.some r := Ev.rounds h
theorem Ev.unique {g : Nat → Option α} {a b : α} (h : Ev g a) (k : Ev g b) : a = b := by
  obtain ⟨K, h⟩ := h
  obtain ⟨K', k⟩ := k
  have h1 := h (max K K') (by omega)
  rw [k (max K K') (by omega)] at h1
  exact (Option.some.inj h1).symm
end

/-! ### numbers -/
theorem w64 {x : Int} (h0 : -9223372036854775808 ≤ x) (h1 : x ≤ 9223372036854775807) : wrap64 x = x := by unfold wrap64; omega
theorem wu64 {x : Int} (h0 : 0 ≤ x) (h1 : x < 18446744073709551616) : IntKind.u64.wrap x = x := by
  simp only [IntKind.wrap, IntKind.bits, IntKind.signed]
  simp
  omega
theorem wu64_def (x : Int) : IntKind.u64.wrap x = x % 18446744073709551616 := by
  simp only [IntKind.wrap, IntKind.bits, IntKind.signed]
  simp
theorem or_low (i : Nat) (hi : i ≤ 64) {x y : Int} (hx : 0 ≤ x) (hxm : x % 2 ^ i = 0) (hx1 : x < 18446744073709551616) (hy : 0 ≤ y) (hy1 : y < 2 ^ i) : Go.bits .or .u64 x y = x + y := by
  have h2 : (2 : Int) ^ i ≤ 18446744073709551616 := by
    have h : (2 : Nat) ^ i ≤ 2 ^ 64 := Nat.pow_le_pow_right (by decide) hi
    have h' : ((2 ^ i : Nat) : Int) ≤ ((2 ^ 64 : Nat) : Int) := Int.ofNat_le.mpr h
    simpa using h'
  exact Go.bits_join .u64 64 (by decide) (fun n h0 h1 => wu64 h0 (by simpa using h1)) i x y hx hxm (by simpa using hx1) hy hy1 (by simpa using Int.lt_of_lt_of_le hy1 h2)
theorem wf_u8 {x : Int} : (Lit.int .u8 x).wf = true ↔ 0 ≤ x ∧ x ≤ 255 := by simp [Lit.wf, IntKind.min, IntKind.max, IntKind.signed, IntKind.bits]
theorem wf_u16 {x : Int} : (Lit.int .u16 x).wf = true ↔ 0 ≤ x ∧ x ≤ 65535 := by simp [Lit.wf, IntKind.min, IntKind.max, IntKind.signed, IntKind.bits]
theorem wf_u32 {x : Int} : (Lit.int .u32 x).wf = true ↔ 0 ≤ x ∧ x ≤ 4294967295 := by simp [Lit.wf, IntKind.min, IntKind.max, IntKind.signed, IntKind.bits]
theorem wf_u64 {x : Int} : (Lit.int .u64 x).wf = true ↔ 0 ≤ x ∧ x ≤ 18446744073709551615 := by simp [Lit.wf, IntKind.min, IntKind.max, IntKind.signed, IntKind.bits]
theorem wf_i64 {x : Int} : (Lit.int .i64 x).wf = true ↔ -9223372036854775808 ≤ x ∧ x ≤ 9223372036854775807 := by simp [Lit.wf, IntKind.min, IntKind.max, IntKind.signed, IntKind.bits]

/-! ### lists read by an index -/
theorem getD_at {α : Type} {l : List α} {d : α} {i : Nat} (h : i < l.length) : l.getD i d = l[i] := by simp [List.getD_eq_getElem?_getD, List.getElem?_eq_getElem h]
theorem drop_at {α : Type} {l : List α} {d : α} {i : Nat} (h : i < l.length) : l.drop i = l.getD i d :: l.drop (i + 1) := by rw [getD_at h]; exact List.drop_eq_getElem_cons h
/-- A loop over an index: what it comes to from i on is told by what lies behind i. -/
theorem loop {α β : Type} (l : List α) (F : List α → β) (g : Nat → Int → Option β)
    (hend : Ev (fun k => g k (l.length : Int)) (F []))
    (hstep : ∀ i : Nat, (h : i < l.length) → Ev (fun k => g k ((i + 1 : Nat) : Int)) (F (l.drop (i + 1))) → Ev (fun k => g k (i : Int)) (F (l[i] :: l.drop (i + 1)))) :
    ∀ i : Nat, i ≤ l.length → Ev (fun k => g k (i : Int)) (F (l.drop i)) := by
  have key : ∀ (d i : Nat), i + d = l.length → Ev (fun k => g k (i : Int)) (F (l.drop i)) := by
    intro d
    induction d with
    | zero =>
      intro i hi
      have : i = l.length := by omega
      subst this
      rw [List.drop_length]
      exact hend
    | succ d ih =>
      intro i hi
      have h : i < l.length := by omega
      rw [List.drop_eq_getElem_cons h]
      exact hstep i h (ih (i + 1) (by omega))
  intro i hi
  exact key (l.length - i) i (by omega)
end Go.Proofs.Yteejaaeglfpcmab.Aid

/- Names: which bytes stand in them, where the first @ is, and how a text is cut there. Own text. -/
set_option linter.unusedVariables false
set_option linter.unusedSimpArgs false
namespace Go.Proofs.Yteejaaeglfpcmab.PX
open Go.RowKit Go.Proofs.Yteejaaeglfpcmab.Aid Go.Proofs.YteejaaeglfpcmabW.PrintWords
def letterB (c : Int) : Bool := (decide (97 ≤ c) && decide (c ≤ 122)) || (decide (65 ≤ c) && decide (c ≤ 90))
def plainB (c : Int) : Bool := letterB c || (decide (48 ≤ c) && decide (c ≤ 57)) || c == 44 || c == 46 || c == 95 || c == 43 || c == 45
/-- Which bytes may stand where 'more' may, too. -/
def okB (more : ByteArray) (c : Int) : Bool := plainB c || decide (0 ≤ Lib.indexByte more.data.toList c.toNat.toUInt8)
theorem byte_all {p : Int → Prop} (h : ∀ n : Fin 256, p (n.val : Int)) {c : Int} (h0 : 0 ≤ c) (h1 : c ≤ 255) : p c := by
  have := h ⟨c.toNat, by omega⟩
  simp only at this
  rwa [Int.toNat_of_nonneg h0] at this
theorem plain_f {c : Int} (h0 : 0 ≤ c) (h1 : c ≤ 255) : name_plain.f c = some (plainB c) := byte_all (p := fun c => name_plain.f c = some (plainB c)) (by decide +kernel) h0 h1
theorem letter_f {c : Int} (h0 : 0 ≤ c) (h1 : c ≤ 255) : name_letter.f c = some (letterB c) := byte_all (p := fun c => name_letter.f c = some (letterB c)) (by decide +kernel) h0 h1
theorem stands_f {c : Int} (h0 : 0 ≤ c) (h1 : c ≤ 255) : arboretref01_stands.f c = some (plainB c) := byte_all (p := fun c => arboretref01_stands.f c = some (plainB c)) (by decide +kernel) h0 h1
theorem ok_none {c : Int} (h0 : 0 ≤ c) (h1 : c ≤ 255) : okB ⟨#[]⟩ c = plainB c := byte_all (p := fun c => okB ⟨#[]⟩ c = plainB c) (by decide +kernel) h0 h1
theorem ok_prop {c : Int} (h0 : 0 ≤ c) (h1 : c ≤ 255) : okB ⟨#[63, 35]⟩ c = (plainB c || c == 63 || c == 35) := byte_all (p := fun c => okB ⟨#[63, 35]⟩ c = (plainB c || c == 63 || c == 35)) (by decide +kernel) h0 h1

theorem bytesOf_range (s : ByteArray) : ∀ b ∈ bytesOf s, 0 ≤ b ∧ b ≤ 255 := by
  intro b hb
  simp only [bytesOf, List.mem_map] at hb
  obtain ⟨u, _, rfl⟩ := hb
  have := u.toNat_lt
  omega
theorem bytesOf_at (s : ByteArray) (i : Nat) (h : i < (bytesOf s).length) : bt s (i : Int) = (bytesOf s)[i] := by
  rw [← rd_bytesOf]
  simp [rd, List.getD_eq_getElem?_getD, List.getElem?_eq_getElem h]
theorem bytesOf_upto (s : ByteArray) (k : Nat) : bytesOf (s.extract 0 k) = (bytesOf s).take k := by
  unfold bytesOf
  rw [Lib.Pa.extract_upto_list, List.map_take]
theorem bytesOf_from (s : ByteArray) (k : Nat) : bytesOf (s.extract k s.size) = (bytesOf s).drop k := by
  unfold bytesOf
  rw [Lib.Pa.extract_from, ← List.map_drop]
theorem bytesOf_inj {s t : ByteArray} (h : bytesOf s = bytesOf t) : s = t := by
  have h' : s.data.toList = t.data.toList := by
    unfold bytesOf at h
    refine List.map_inj_right (f := fun b : UInt8 => (b.toNat : Int)) ?_ |>.mp h
    intro x y e
    exact UInt8.toNat_inj.mp (by omega)
  cases s; cases t
  simp only at h'
  rw [Array.toList_inj.mp h']

/-! ### all -/
def allB (more : ByteArray) (l : List Int) : Bool := l.all (okB more) && (decide (1 ≤ l.length) && decide (l.length ≤ 31))
theorem all_ev (s more : ByteArray) (hs : s.size ≤ 140737488351232) : Ev (fun k => name_all.f k s more) (allB more (bytesOf s)) := by
  have hn : (bytesOf s).length = s.size := bytesOf_length s
  have main := loop (bytesOf s) (fun l => l.all (okB more) && (decide (1 ≤ s.size) && decide (s.size ≤ 31))) (fun k i => name_all.l0 k s more (s.size : Int) i) ?_ ?_ 0 (Nat.zero_le _)
  · have e : allB more (bytesOf s) = (((bytesOf s).drop 0).all (okB more) && (decide (1 ≤ s.size) && decide (s.size ≤ 31))) := by
      unfold allB
      rw [List.drop_zero, hn]
    rw [e]
    exact main
  · rw [hn]
    refine Ev.succ ⟨0, fun k _ => ?_⟩
    simp only [name_all.l0]
    rw [if_neg (by omega)]
    by_cases h : (s.size : Int) ≥ 1
    · rw [if_pos h]
      have h1 : 1 ≤ s.size := by omega
      simp [h1, Int.ofNat_le]
      omega
    · rw [if_neg h]
      have h1 : ¬ 1 ≤ s.size := by omega
      simp [h1]
  · intro i h ih
    obtain ⟨b0, b1⟩ := bytesOf_range s _ (List.getElem_mem h)
    refine Ev.succ ?_
    have hw : wrap64 ((i : Int) + 1) = ((i + 1 : Nat) : Int) := by rw [w64 (by omega) (by omega)]; omega
    simp only [name_all.l0, bytesOf_at s i h, plain_f b0 b1, hw, Option.bind_some, List.all_cons]
    refine Ev.pos (by omega) (Ev.pos (Int.natCast_nonneg i) (Ev.pos (by omega) ?_))
    cases hp : plainB (bytesOf s)[i] with
    | true =>
      have ho : okB more (bytesOf s)[i] = true := by unfold okB; rw [hp]; rfl
      rw [ho, Bool.true_and]
      exact Ev.pos rfl ih
    | false =>
      refine Ev.neg (by decide) ?_
      simp only [strings_IndexByte.f, Option.bind_some]
      by_cases hx : Lib.indexByte more.data.toList (bytesOf s)[i].toNat.toUInt8 < 0
      · have ho : okB more (bytesOf s)[i] = false := by unfold okB; rw [hp, decide_eq_false (by omega)]; rfl
        rw [ho]
        exact Ev.pos hx (Ev.some _)
      · have ho : okB more (bytesOf s)[i] = true := by unfold okB; rw [hp, decide_eq_true (by omega)]; rfl
        rw [ho, Bool.true_and]
        exact Ev.neg hx ih

/-! ### the first @ -/
def idx (c : Int) : List Int → Int
  | [] => -1
  | a :: l => if a = c then 0 else if idx c l = -1 then -1 else idx c l + 1
theorem idx_lib (c : UInt8) : ∀ l : List UInt8, Lib.indexByte l c = idx (c.toNat : Int) (l.map fun b => (b.toNat : Int))
  | [] => rfl
  | a :: l => by
    have ih := idx_lib c l
    simp only [Lib.indexByte, idx, List.map_cons, ih]
    by_cases h : a = c
    · simp [h]
    · have h2 : ¬ ((a.toNat : Int) = (c.toNat : Int)) := by
        intro e
        exact h (UInt8.toNat_inj.mp (by omega))
      simp [h, h2]
theorem idx_range (c : Int) : ∀ l : List Int, idx c l = -1 ∨ (0 ≤ idx c l ∧ idx c l < l.length)
  | [] => .inl rfl
  | a :: l => by
    have ih := idx_range c l
    simp only [idx, List.length_cons]
    by_cases h : a = c
    · rw [if_pos h]; right; omega
    · rw [if_neg h]
      by_cases h1 : idx c l = -1
      · rw [if_pos h1]; left; rfl
      · rw [if_neg h1]; right; omega
/-- Behind a place that is told, the byte; ahead of it, none. -/
theorem idx_split (c : Int) : ∀ (l : List Int) (j : Nat), idx c l = (j : Int) → l = l.take j ++ c :: l.drop (j + 1)
  | [], j, h => by simp [idx] at h
  | a :: l, j, h => by
    simp only [idx] at h
    by_cases h0 : a = c
    · rw [if_pos h0] at h
      have : j = 0 := by omega
      subst this; subst h0; simp
    · rw [if_neg h0] at h
      by_cases h1 : idx c l = -1
      · rw [if_pos h1] at h; omega
      · rw [if_neg h1] at h
        obtain ⟨j, rfl⟩ : ∃ m, j = m + 1 := ⟨j - 1, by have := idx_range c l; omega⟩
        have := idx_split c l j (by omega)
        simp only [List.take_succ_cons, List.drop_succ_cons, List.cons_append]
        rw [← this]
theorem index_f (s : ByteArray) (u : UInt8) : stringslite_Index.f s ⟨#[u]⟩ = some (idx (u.toNat : Int) (bytesOf s)) := by
  unfold stringslite_Index.f
  simp only
  rw [idx_lib]
  rfl
theorem refcut_ev (s : ByteArray) (hs : s.size ≤ 140737488351232) : Ev (fun k => arboretref01_Cut.f k s) (idx 64 (bytesOf s)) := by
  have hn : (bytesOf s).length = s.size := bytesOf_length s
  have main := loop (bytesOf s) (fun l => if idx 64 l = -1 then -1 else idx 64 l + ((s.size : Int) - l.length)) (fun k i => arboretref01_Cut.l0 k s (s.size : Int) i) ?_ ?_ 0 (Nat.zero_le _)
  · have e : (if idx 64 ((bytesOf s).drop 0) = -1 then -1 else idx 64 ((bytesOf s).drop 0) + ((s.size : Int) - ((bytesOf s).drop 0).length)) = idx 64 (bytesOf s) := by
      rw [List.drop_zero, hn]
      split <;> omega
    rw [← e]
    exact main
  · rw [hn]
    refine Ev.succ ⟨0, fun k _ => ?_⟩
    simp only [arboretref01_Cut.l0]
    rw [if_neg (by omega)]
    rfl
  · intro i h ih
    refine Ev.succ ?_
    have hw : wrap64 ((i : Int) + 1) = ((i + 1 : Nat) : Int) := by rw [w64 (by omega) (by omega)]; omega
    simp only [arboretref01_Cut.l0, bytesOf_at s i h, hw]
    refine Ev.pos (by omega) (Ev.pos (Int.natCast_nonneg i) (Ev.pos (by omega) ?_))
    have hl : ((bytesOf s).drop (i + 1)).length = s.size - (i + 1) := by rw [List.length_drop, hn]
    simp only [idx, List.length_cons, hl]
    simp only [hl] at ih
    by_cases hc : (bytesOf s)[i] = 64
    · rw [if_pos hc, if_neg (by omega)]
      refine Ev.pos hc (Ev.fix ?_)
      congr 1
      omega
    · rw [if_neg hc]
      refine Ev.neg hc ?_
      by_cases h1 : idx 64 ((bytesOf s).drop (i + 1)) = -1
      · rw [if_pos h1] at ih
        rw [if_pos h1, if_pos rfl]
        exact ih
      · rw [if_neg h1] at ih
        have hr := idx_range 64 ((bytesOf s).drop (i + 1))
        rw [if_neg h1, if_neg (by omega)]
        have e : idx 64 ((bytesOf s).drop (i + 1)) + ((s.size : Int) - ((s.size - (i + 1) : Nat) : Int)) = idx 64 ((bytesOf s).drop (i + 1)) + 1 + ((s.size : Int) - ((s.size - (i + 1) + 1 : Nat) : Int)) := by omega
        rw [← e]
        exact ih
/-- A text, cut at the first @. -/
def cutB (s : ByteArray) : ByteArray × ByteArray × Bool := if idx 64 (bytesOf s) = -1 then (s, ⟨#[]⟩, false) else (s.extract 0 (idx 64 (bytesOf s)).toNat, s.extract ((idx 64 (bytesOf s)).toNat + 1) s.size, true)
theorem cut_f (s : ByteArray) (hs : s.size ≤ 140737488351232) : strings_Cut.f s ⟨#[64]⟩ = some (cutB s) := by
  have hr := idx_range 64 (bytesOf s)
  rw [bytesOf_length] at hr
  have e : stringslite_Cut.f s ⟨#[64]⟩ = some (cutB s) := by
    unfold stringslite_Cut.f cutB
    rw [index_f]
    have e64 : ((64 : UInt8).toNat : Int) = 64 := rfl
    rw [e64]
    simp only [Option.bind_some]
    obtain ⟨j, hj⟩ : ∃ j, j = idx 64 (bytesOf s) := ⟨_, rfl⟩
    rw [← hj] at hr ⊢
    have h1 : (((⟨#[64]⟩ : ByteArray).size : Nat) : Int) = 1 := rfl
    rw [h1]
    by_cases h : j = -1
    · rw [if_pos h, if_neg (by omega)]
    · have hw : wrap64 (j + 1) = j + 1 := w64 (by omega) (by omega)
      rw [if_neg h, hw, if_pos (by omega), if_pos (by omega), if_pos (by omega), if_pos (by omega), if_pos (by omega)]
      have e1 : (j + 1).toNat = j.toNat + 1 := by omega
      rw [e1]
  unfold strings_Cut.f
  rw [e]
  rfl
end Go.Proofs.Yteejaaeglfpcmab.PX

/- The pure side of NameSplits: a text is cut at its first @, by both sides. Own text. -/
set_option linter.unusedVariables false
set_option linter.unusedSimpArgs false
namespace Go.Proofs.Yteejaaeglfpcmab.Pure
open Go.RowKit Go.Proofs.Yteejaaeglfpcmab.PX Go.Proofs.Yteejaaeglfpcmab.Rdr Go.Proofs.Yteejaaeglfpcmab.Aid Go.Proofs.YteejaaeglfpcmabW.PrintWords
theorem name_awake2 : Ev (fun k => arboretlaw02_awake.f k) true := ⟨12, fun k hk => at_rounds (g := fun k => arboretlaw02_awake.f k) (fun k => arboretlaw02_awake.mono k) hk (by decide +kernel)⟩
theorem NameSplits : arboretlaw02_NameSplits.Pure := by
  intro s hs
  have hn : (bytesOf s).length = s.size := bytesOf_length s
  have hr := idx_range 64 (bytesOf s)
  refine Ev.out (g := fun k => arboretlaw02_NameSplits.f k s) ?_
  unfold arboretlaw02_NameSplits.f
  refine Ev.then name_awake2 (Ev.pos rfl ?_)
  refine Ev.succ ?_
  simp only [arboretlaw02_NameSplits.j0]
  by_cases h : (s.size : Int) > 10000
  · exact Ev.pos (decide_eq_true h) (Ev.then name_awake2 (Ev.some _))
  · refine Ev.neg (by rw [decide_eq_false h]; decide) ?_
    have e : name_Split.f s = some ((cutB s).1, (cutB s).2.1) := by
      unfold name_Split.f
      rw [cut_f s hs]
      rfl
    refine Ev.then (Ev.fix e) (Ev.then (refcut_ev s hs) ?_)
    unfold cutB
    by_cases h1 : idx 64 (bytesOf s) = -1
    · rw [if_pos h1]
      refine Ev.pos (by omega) (Ev.pos rfl (Ev.fix ?_))
      show some ((⟨#[]⟩ : ByteArray).toList == []) = some true
      decide +kernel
    · rw [if_neg h1]
      obtain ⟨j, hj⟩ : ∃ j : Nat, idx 64 (bytesOf s) = (j : Int) := ⟨(idx 64 (bytesOf s)).toNat, by omega⟩
      rw [hj] at hr ⊢
      have hw : wrap64 ((j : Int) + 1) = ((j + 1 : Nat) : Int) := by rw [w64 (by omega) (by omega)]; omega
      simp only [hw, Int.toNat_natCast]
      refine Ev.neg (by omega) (Ev.pos (Int.natCast_nonneg j) (Ev.pos (by omega) (Ev.pos trivial (Ev.pos (by omega) (Ev.pos (by omega) (Ev.fix ?_))))))
      simp
end Go.Proofs.Yteejaaeglfpcmab.Pure

/- NameSplits: the given statement NameSplitsSaid, out of the walk's contract and the pure statement. Conditions: the row's own. -/
namespace Go.Proofs.Yteejaaeglfpcmab.nameSplits
open Go.ChangeShapes Go.WideShapes Go.ChangeAt Go.RowKit Go.Proofs.Yteejaaeglfpcmab.Rdr Go.Proofs.Yteejaaeglfpcmab.PX
open Go.ChangeMaps (open_string shut_string)
set_option linter.unusedVariables false
set_option linter.unusedSimpArgs false
theorem own : ownKnob Try.prog.godebug = none := by kernel_rfl
theorem laidOut : laidOutB Try.prog = true := by kernel_rfl
set_option maxRecDepth 100000 in
theorem contract (H : Type) (enc : TypeId × Value → H) (W : World) (base : Nat) (args : Array Value) (ds gs : List (DataW H)) (before : List MemPlace)
    (hval0 : ∀ (j : Nat) t v, Try.f3.params[j]? = some t → args[j]? = some v → Value.okWide Try.prog W .any base t v)
    (hW : DataW.Whole enc Try.prog Try.f3.params.toList Rows.nameSplitsSpec.vars false W args.toList ds gs before) (hsz : (DataW.weightsEach Try.prog (Try.f3.params.toList ++ Rows.nameSplitsSpec.plain.varTypes Try.prog) (ds ++ gs)).all (· ≤ reachBytes) = true) :
    Calls Try.prog 3 args W fun e W' => ∃ v, e = .returned v ∧ Rows.nameSplitsSpec.post enc Try.prog Try.f3 false true false false W args v W' := by
  have hval : ∀ (j : Nat) t v, Try.f3.params[j]? = some t → args[j]? = some v → Value.okWide Try.prog W .any base t v := hval0
  have hW' := hW
  obtain ⟨p, q, hA0, hV, rfl, hfz, hnd⟩ := hW
  have hA : DataW.TrodAll enc Try.prog W 0 (fun _ => true) true Try.f3.params.toList args.toList ds p := hA0
  rw [Try.params3] at hA hval hsz
  obtain ⟨v0, vs0, d0, ds0, p0, q0, hargs, rfl, rfl, h0, tr0⟩ := trodAll_cons hA
  obtain ⟨rfl, rfl, rfl⟩ := trodAll_nil tr0
  obtain rfl : args = #[v0] := by cases args; simp_all
  obtain ⟨rfl, rfl⟩ := trodVars_none hV
  have k0 := h0
  have lt0 : ∀ x ∈ p0, x.block < W.heap.size := by obtain ⟨m, hm⟩ := k0; exact DataW.trod_lt m _ _ _ hm
  obtain ⟨x0, rfl, rfl, rfl, y0⟩ := open_string Try.underlying9 (hval 0 9 v0 rfl rfl) h0
  have w0 : x0.size ≤ 140737488351232 := by
    have z := sized_string hsz (j := 0) (t := 9) rfl rfl
    rw [Array.length_toList] at z
    exact z
  obtain ⟨k, hk_⟩ := Pure.NameSplits x0 w0
  refine (arboretlaw02_NameSplits.calls k x0 true W  hk_).mono fun e W' ⟨he, bel0⟩ => ?_
  have bel : Below W.heap.size W W' := bel0.below
  subst he
  exact ⟨_, rfl, _, _, _, [], _, [], hW', trodAll_mk1 (shut_bool Try.underlying4 _), (trodAll_cons_mk (Below.trod laidOut (by kernel_rfl) (of_decide_eq_true (by kernel_rfl)) k0 bel lt0) trodAll_mk0), rfl, bel.frame _, fun h => by cases h⟩
set_option maxRecDepth 100000 in
theorem lifted (os : Os) (started : os.Started) (H : Type) (enc : TypeId × Value → H) :
    ReturnsInHanded {} Try.checked os 3 .any (Rows.nameSplitsSpec.pre6 enc Try.prog Try.f3 Rows.nameSplitsRow.domain false) (Rows.nameSplitsSpec.post enc Try.prog Try.f3 false true false false) := by
  refine returnsInHanded_of_change_sized (C := Try.checked) own started (by kernel_rfl) Try.func3
    (ChangeSpec.witness6 (enc := enc) (C := Try.checked) false ⟨#[], #[.string ByteArray.empty], []⟩ 16 (by kernel_rfl) (by kernel_rfl) (by kernel_rfl) (by kernel_rfl)) ?_
  intro W base args ds gs before hval hW _ hsz _
  exact contract H enc W base args ds gs before hval hW hsz
theorem over : Rows.nameSplitsRow.holds Try.pinned (OpenSpec.ofChange Rows.nameSplitsSpec) :=
  OpenClaim.holds_of_wide 3 Try.f3 rfl rfl rfl rfl rfl rfl rfl ⟨rfl, rfl, rfl, rfl, rfl⟩ rfl rfl rfl rfl rfl (by kernel_rfl) Try.func3 (by kernel_rfl)
    (of_decide_eq_true (by kernel_rfl)) (by unfold Func.isWrapper; first | (rw [if_pos (by decide +kernel)]; kernel_rfl) | (rw [if_neg (by decide +kernel)]; exact ⟨rfl, rfl⟩))
    (fun os started H enc _ => lifted os started H enc)
theorem proved : Rows.NameSplitsSaid := over
end Go.Proofs.Yteejaaeglfpcmab.nameSplits
namespace Go.Proofs.Yteejaaeglfpcmab
/-- The row, under a short name, for the claim. -/
theorem nameSplits_holds : Rows.NameSplitsSaid := nameSplits.proved
end Go.Proofs.Yteejaaeglfpcmab
