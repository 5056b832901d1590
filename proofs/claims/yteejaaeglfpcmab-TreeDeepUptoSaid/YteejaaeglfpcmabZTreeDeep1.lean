/- TreeDeep: texts of this session's, and what the kit's print laid for this seat, as far as the law's row uses them (Shelf, PCx0, PCx_tree_Count, PCx_strings_IndexByte, PCx_name_letter, PCx_name_plain, PCx_name_all, PCx_name_Prop, PCx_stringslite_Index, PCx_stringslite_Cut, PCx_strings_Cut, PCx_name_Node, PCx_tree_names, PCx_tree_check, PCx_eq94, PCx_api_Reserve_82, PCx_api_Reserve_56, PCx_tree_Check, PCx_arboretlaw03_awake, PCx_arboretlaw03_TreeDeep, Rdr, PCKinds, PCStateTreeDeep, Aid, PCx_arboretlaw03_size, PCx_arboretlaw03_Few, Tree, PCx_arboretref01_Cut, PCx_arboretref01_stands, Name, PCx_arboretref01_Node, PCx_arboretref01_Prop, NameRef, NameEv). -/
import Derived.Shelf.Small.Strs
import Derived.Shelf.Strings.Search1
import Derived.Shelf.Strings.Search2
import Derived.Shelf.Strings.Cut
import Derived.Shelf.LaysM
import Derived.Shelf.Strings.Shaped
import Derived.Shelf.Sort.Plain
import Derived.Shelf.Slices.CompactS
import Derived.Shelf.Slices.In.SortNone
import Derived.Test.YteejaaeglfpcmabProg
import Derived.WalkSpells
import Derived.Sort.OwnSorted
import Derived.Test.YteejaaeglfpcmabRows
import Derived.ChangeArms
import Derived.DataReads
import Derived.Deep.Slices
import Derived.Lib.EndianBits
import Derived.Lib.PathFns
import Derived.Test.YteejaaeglfpcmabZTreeDeep0
set_option linter.unusedVariables false
set_option linter.unusedSimpArgs false
namespace Go.Proofs
open Go.Shelf
def Try.lays137_ren : Go.Shelf.Ren := ⟨fun | 137 => 84 | 217 => 95 | 266 => 102 | n => n, fun | 9 => 9 | 5 => 5 | 3 => 3 | n => n, fun | n => n⟩
theorem Try.lays137 : Go.Proofs.Lays.n137 Try.prog Try.lays137_ren := {
  mixed := by kernel_rfl
  f137 := Try.func84.trans (congrArg some (by kernel_rfl))
  f217 := Try.func95.trans (congrArg some (by kernel_rfl))
  f266 := Try.func102.trans (congrArg some (by kernel_rfl))
  t3 := Try.underlying3
  a3 := Try.isAgg3
  z3 := Try.sizeOf3
  v3 := Try.zeroValue3
  t5 := Try.underlying5
  a5 := Try.isAgg5
  z5 := Try.sizeOf5
  v5 := Try.zeroValue5
  t9 := Try.underlying9
  a9 := Try.isAgg9
  z9 := Try.sizeOf9
  v9 := Try.zeroValue9 }
open Go.RowKit in
theorem Try.strings_IndexByte (s : ByteArray) (c : Int) (w : World) :
    Calls Try.prog 84 #[.string s, .int .u8 c] w fun e w' => e = .returned (.int .i64 (Lib.indexByte s.data.toList c.toNat.toUInt8)) ∧ w' = w := Any.strings_IndexByte Try.lays137 s c w
def Try.lays219_ren : Go.Shelf.Ren := ⟨fun | 219 => 85 | 217 => 95 | 225 => 96 | 224 => 97 | 267 => 98 | 266 => 102 | 314 => 103 | n => n, fun | 9 => 9 | 3 => 3 | 4 => 4 | 5 => 5 | 46 => 119 | 146 => 141 | 51 => 32 | n => n, fun | 1 => 0 | n => n⟩
theorem Try.lays219 : Go.Proofs.Lays.n219 Try.prog Try.lays219_ren := {
  mixed := by kernel_rfl
  f217 := Try.func95.trans (congrArg some (by kernel_rfl))
  f219 := Try.func85.trans (congrArg some (by kernel_rfl))
  f224 := Try.func97.trans (congrArg some (by kernel_rfl))
  f225 := Try.func96.trans (congrArg some (by kernel_rfl))
  f266 := Try.func102.trans (congrArg some (by kernel_rfl))
  f267 := Try.func98.trans (congrArg some (by kernel_rfl))
  f314 := Try.func103.trans (congrArg some (by kernel_rfl))
  t3 := Try.underlying3
  a3 := Try.isAgg3
  z3 := Try.sizeOf3
  v3 := Try.zeroValue3
  t4 := Try.underlying4
  a4 := Try.isAgg4
  z4 := Try.sizeOf4
  v4 := Try.zeroValue4
  t5 := Try.underlying5
  a5 := Try.isAgg5
  z5 := Try.sizeOf5
  v5 := Try.zeroValue5
  t9 := Try.underlying9
  a9 := Try.isAgg9
  z9 := Try.sizeOf9
  v9 := Try.zeroValue9
  t46 := Try.underlying119
  a46 := Try.isAgg119
  z46 := Try.sizeOf119
  v46 := Try.zeroValue119
  t51 := Try.underlying32
  a51 := Try.isAgg32
  z51 := Try.sizeOf32
  v51 := Try.zeroValue32
  t146 := Try.underlying141
  a146 := Try.isAgg141
  z146 := Try.sizeOf141
  v146 := Try.zeroValue141
  g1 := by kernel_rfl }
open Go.RowKit Go.Lib in
theorem Try.stringslite_Index_one (s : ByteArray) (c : UInt8) (w : World) :
    Calls Try.prog 85 #[.string s, .string ⟨#[c]⟩] w fun e w' => e = .returned (.int .i64 (Lib.indexByte s.data.toList c)) ∧ w' = w := Any.stringslite_Index_one Try.lays219 s c w
def Try.lays190_ren : Go.Shelf.Ren := ⟨fun | 190 => 93 | 125 => 101 | 258 => 100 | 128 => 113 | 129 => 114 | 302 => 104 | 303 => 105 | 304 => 106 | 305 => 107 | 306 => 108 | 307 => 109 | 308 => 110 | 309 => 111 | 310 => 112 | 333 => 115 | 329 => 116 | 330 => 117 | 334 => 118 | 335 => 119 | 336 => 120 | 344 => 121 | n => n, fun | 31 => 123 | 9 => 9 | 3 => 3 | 46 => 119 | 0 => 0 | 51 => 32 | 53 => 43 | 4 => 4 | 183 => 145 | 182 => 144 | 131 => 149 | 5 => 5 | 218 => 153 | 222 => 157 | 228 => 159 | 229 => 70 | n => n, fun | n => n⟩
theorem Try.lays190 : Go.Proofs.Lays.n190 Try.prog Try.lays190_ren := {
  mixed := by kernel_rfl
  f125 := Try.func101.trans (congrArg some (by kernel_rfl))
  f128 := Try.func113.trans (congrArg some (by kernel_rfl))
  f129 := Try.func114.trans (congrArg some (by kernel_rfl))
  f190 := Try.func93.trans (congrArg some (by kernel_rfl))
  f258 := Try.func100.trans (congrArg some (by kernel_rfl))
  f302 := Try.func104.trans (congrArg some (by kernel_rfl))
  f303 := Try.func105.trans (congrArg some (by kernel_rfl))
  f304 := Try.func106.trans (congrArg some (by kernel_rfl))
  f305 := Try.func107.trans (congrArg some (by kernel_rfl))
  f306 := Try.func108.trans (congrArg some (by kernel_rfl))
  f307 := Try.func109.trans (congrArg some (by kernel_rfl))
  f308 := Try.func110.trans (congrArg some (by kernel_rfl))
  f309 := Try.func111.trans (congrArg some (by kernel_rfl))
  f310 := Try.func112.trans (congrArg some (by kernel_rfl))
  f329 := Try.func116.trans (congrArg some (by kernel_rfl))
  f330 := Try.func117.trans (congrArg some (by kernel_rfl))
  f333 := Try.func115.trans (congrArg some (by kernel_rfl))
  f334 := Try.func118.trans (congrArg some (by kernel_rfl))
  f335 := Try.func119.trans (congrArg some (by kernel_rfl))
  f336 := Try.func120.trans (congrArg some (by kernel_rfl))
  f344 := Try.func121.trans (congrArg some (by kernel_rfl))
  t0 := Try.underlying0
  a0 := Try.isAgg0
  z0 := Try.sizeOf0
  v0 := Try.zeroValue0
  t3 := Try.underlying3
  a3 := Try.isAgg3
  z3 := Try.sizeOf3
  v3 := Try.zeroValue3
  t4 := Try.underlying4
  a4 := Try.isAgg4
  z4 := Try.sizeOf4
  v4 := Try.zeroValue4
  t5 := Try.underlying5
  a5 := Try.isAgg5
  z5 := Try.sizeOf5
  v5 := Try.zeroValue5
  t9 := Try.underlying9
  a9 := Try.isAgg9
  z9 := Try.sizeOf9
  v9 := Try.zeroValue9
  t31 := Try.underlying123
  a31 := Try.isAgg123
  z31 := Try.sizeOf123
  v31 := Try.zeroValue123
  t46 := Try.underlying119
  a46 := Try.isAgg119
  z46 := Try.sizeOf119
  v46 := Try.zeroValue119
  t51 := Try.underlying32
  a51 := Try.isAgg32
  z51 := Try.sizeOf32
  v51 := Try.zeroValue32
  t53 := Try.underlying43
  a53 := Try.isAgg43
  z53 := Try.sizeOf43
  v53 := Try.zeroValue43
  t131 := Try.underlying149
  a131 := Try.isAgg149
  z131 := Try.sizeOf149
  v131 := Try.zeroValue149
  t182 := Try.underlying144
  a182 := Try.isAgg144
  z182 := Try.sizeOf144
  v182 := Try.zeroValue144
  t183 := Try.underlying145
  a183 := Try.isAgg145
  z183 := Try.sizeOf145
  v183 := Try.zeroValue145
  t218 := Try.underlying153
  a218 := Try.isAgg153
  z218 := Try.sizeOf153
  v218 := Try.zeroValue153
  t222 := Try.underlying157
  a222 := Try.isAgg157
  z222 := Try.sizeOf157
  v222 := Try.zeroValue157
  t228 := Try.underlying159
  a228 := Try.isAgg159
  z228 := Try.sizeOf159
  v228 := Try.zeroValue159
  t229 := Try.underlying70
  a229 := Try.isAgg70
  z229 := Try.sizeOf70
  v229 := Try.zeroValue70 }
open Go.Sort Go.RowKit in
theorem Try.slices_Sort_string (blk off cap : Nat) (ss : List (List UInt8)) (w : World) (hH : Holds encStr w blk off ss.toArray) (hblk : blk < w.heap.size) (hsz : ss.length < 4611686018427387904) :
    Calls Try.prog 93 #[.slice (some ⟨blk, off, none⟩) ss.length cap] w fun e w' =>
      e = .returned (.tuple #[]) ∧ ∃ n os, w' = grow (putRow encStr (Sort.ahead w n) blk off (ss.mergeSort fun x y => decide (x ≤ y)).toArray) os := Any.slices_Sort_string Try.lays190 blk off cap ss w hH hblk hsz
def Try.lays194_ren : Go.Shelf.Ren := ⟨fun | 194 => 94 | n => n, fun | 31 => 123 | 9 => 9 | 3 => 3 | 4 => 4 | 0 => 0 | n => n, fun | n => n⟩
theorem Try.lays194 : Go.Proofs.Lays.n194 Try.prog Try.lays194_ren := {
  mixed := by kernel_rfl
  f194 := Try.func94.trans (congrArg some (by kernel_rfl))
  t0 := Try.underlying0
  a0 := Try.isAgg0
  z0 := Try.sizeOf0
  v0 := Try.zeroValue0
  t3 := Try.underlying3
  a3 := Try.isAgg3
  z3 := Try.sizeOf3
  v3 := Try.zeroValue3
  t4 := Try.underlying4
  a4 := Try.isAgg4
  z4 := Try.sizeOf4
  v4 := Try.zeroValue4
  t9 := Try.underlying9
  a9 := Try.isAgg9
  z9 := Try.sizeOf9
  v9 := Try.zeroValue9
  t31 := Try.underlying123
  a31 := Try.isAgg123
  z31 := Try.sizeOf123
  v31 := Try.zeroValue123 }
open Go.RowKit Go.Lib Go.Sort in
theorem Try.slices_Compact_string (blk off cap : Nat) (zs : List (List UInt8)) (w : World) (hH : Holds encStr w blk off zs.toArray) (hsz : zs.length ≤ 9223372036854775807) (hcap : zs.length ≤ cap) :
    Calls Try.prog 94 #[.slice (some ⟨blk, off, none⟩) zs.length cap] w fun e w' => e = .returned (.slice (some ⟨blk, off, none⟩) (Lib.compact zs).length cap) ∧ ∃ q, w' = putRow encStr (Sort.ahead w q) blk off (Lib.compact zs ++ List.replicate (zs.length - (Lib.compact zs).length) []).toArray := Any.slices_Compact_string Try.lays194 blk off cap zs w hH hsz hcap
open Go.RowKit Go.Lib Go.Sort in
theorem Try.slices_Compact_string_empty (a : Option Addr) (cap : Nat) (w : World) :
    Calls Try.prog 94 #[.slice a 0 cap] w fun e w' => e = .returned (.slice a 0 cap) ∧ w' = w := Any.slices_Compact_string_empty Try.lays194 a cap w
open Go.RowKit Go.Sort in
theorem Try.slices_Sort_string_none (p : Option Addr) (cap : Nat) (w : World) :
    Calls Try.prog 93 #[.slice p 0 cap] w fun e w' => e = .returned (.tuple #[]) ∧ w' = w := Any.slices_Sort_string_none Try.lays190 p cap w
end Go.Proofs

namespace Go.Proofs.Yteejaaeglfpcmab.PC
open Go.RowKit Go.Proofs.YteejaaeglfpcmabW.PrintWords Go.Proofs.YteejaaeglfpcmabW.PrintLast Go.Proofs.YteejaaeglfpcmabW.PrintMore
attribute [local go_sem] max2_int min2_int max_two min_two max_three min_three max_four min_four   -- for this text's walks alone
set_option linter.unusedVariables false
set_option linter.unusedSimpArgs false
def errW : Option Int → Value
  | none => .nilIface
  | some c => .iface 0 (.int .i64 c)
theorem errW_none : errW none = .nilIface := rfl
theorem errW_some (c : Int) : errW (some c) = .iface 0 (.int .i64 c) := rfl
theorem info9 : (Try.prog.info? 9).map (fun i => (i.zero, i.size, i.bytes)) = some (some (.string ⟨#[]⟩), 1, 16) := by kernel_rfl
structure S94 where
  f0 : Int
  f1 : Int
def z94 : S94 := ⟨(0 : Int), (0 : Int)⟩
def k94 : Kd S94 := Kd.iso (Kd.pair (Kd.int .u64) (Kd.int .u64)) (fun x : S94 => (x.f0, x.f1))
theorem k94_open {w : World} {x : S94} {cs : List Value} (h : k94.K w x cs) : cs = [.int .u64 x.f0, .int .u64 x.f1] := by
  obtain ⟨_, _, rfl, rfl, rfl⟩ := h
  exact rfl
def rd_T94 (xs : List S94) (i : Int) : S94 := xs.getD i.toNat z94
theorem at_T94 {w : World} {A : Option Addr} {n : Nat} {xs : List S94} (h : Kd.C k94 w A n xs) (i : Int) (h0 : 0 ≤ i) (h1 : i < n) : ∃ ad , A = some ad ∧ w.cell? (ad.add (i.toNat * 2)) = some (.int .u64 (rd_T94 xs i).f0) ∧ w.cell? ⟨(ad.add (i.toNat * 2)).block, (ad.add (i.toNat * 2)).off + 1, none⟩ = some (.int .u64 (rd_T94 xs i).f1) := by
  obtain ⟨ad, c, e, _, hK, hc0⟩ := Kd.C_get h z94 i h0 h1
  have hc : ∀ j u, c[j]? = some u → w.cell? (ad.add (i.toNat * 2 + j)) = some u := hc0
  obtain rfl := k94_open hK
  exact ⟨ad, e, hc 0 _ rfl, by rw [← add_field _ _ 1 (by omega)]; exact hc 1 _ rfl⟩
structure S77 where
  f0 : ByteArray
  f1 : (List Int)
def z77 : S77 := ⟨(⟨#[]⟩ : ByteArray), ([] : List Int)⟩
def k77 : Kd S77 := Kd.iso (Kd.pair Kd.string (Kd.slice 5 (Kd.int .u8))) (fun x : S77 => (x.f0, x.f1))
theorem k77_open {w : World} {x : S77} {cs : List Value} (h : k77.K w x cs) : ∃ A1 c1, cs = [.string x.f0, .slice A1 x.f1.length c1] ∧ x.f1.length ≤ c1 ∧ (Kd.int .u8).C w A1 x.f1.length x.f1 := by
  obtain ⟨_, _, rfl, rfl, ⟨A1, c1, rfl, l1, g1⟩⟩ := h
  exact ⟨A1, c1, rfl, l1, g1⟩
def rd_T77 (xs : List S77) (i : Int) : S77 := xs.getD i.toNat z77
theorem at_T77 {w : World} {A : Option Addr} {n : Nat} {xs : List S77} (h : Kd.C k77 w A n xs) (i : Int) (h0 : 0 ≤ i) (h1 : i < n) : ∃ ad A1 c1, A = some ad ∧ w.cell? (ad.add (i.toNat * 2)) = some (.string (rd_T77 xs i).f0) ∧ w.cell? ⟨(ad.add (i.toNat * 2)).block, (ad.add (i.toNat * 2)).off + 1, none⟩ = some (.slice A1 (rd_T77 xs i).f1.length c1) ∧ (rd_T77 xs i).f1.length ≤ c1 ∧ (Kd.int .u8).C w A1 (rd_T77 xs i).f1.length (rd_T77 xs i).f1 := by
  obtain ⟨ad, c, e, _, hK, hc0⟩ := Kd.C_get h z77 i h0 h1
  have hc : ∀ j u, c[j]? = some u → w.cell? (ad.add (i.toNat * 2 + j)) = some u := hc0
  obtain ⟨A1, c1, rfl, l1, g1⟩ := k77_open hK
  exact ⟨ad, A1, c1, e, hc 0 _ rfl, by rw [← add_field _ _ 1 (by omega)]; exact hc 1 _ rfl, l1, g1⟩
structure S30 where
  f0 : ByteArray
  f1 : (List S77)
  f2 : (List S30)
def z30 : S30 := ⟨(⟨#[]⟩ : ByteArray), ([] : List S77), ([] : List S30)⟩
def F30 (d : Kd S30) : Kd S30 := Kd.iso (Kd.pair Kd.string (Kd.pair (Kd.slice 77 k77) (Kd.slice 30 d))) (fun x : S30 => (x.f0, x.f1, x.f2))
theorem mono30 : Kd.Mono F30 := Kd.mono_iso _ (Kd.mono_pair (Kd.mono_const _) (Kd.mono_pair (Kd.mono_const _) (Kd.mono_slice 30 Kd.mono_id)))
theorem sub30 : Kd.Sub F30 [5, 30, 77] := Kd.sub_iso _ (Kd.sub_pair (Kd.sub_const _ (by decide)) (Kd.sub_pair (Kd.sub_const _ (by decide)) (Kd.sub_slice 30 (by decide) Kd.sub_id)))
theorem sz30 : ∀ n, (Kd.upto F30 3 [5, 30, 77] n).sz = 3 := Kd.upto_sz (fun _ => rfl)
def k30 : Kd S30 := Kd.fix F30 3 [5, 30, 77] sz30 (Kd.upto_E sub30)
theorem k30_open {w : World} {x : S30} {cs : List Value} (h : k30.K w x cs) : ∃ A1 c1 A2 c2, cs = [.string x.f0, .slice A1 x.f1.length c1, .slice A2 x.f2.length c2] ∧ x.f1.length ≤ c1 ∧ k77.C w A1 x.f1.length x.f1 ∧ x.f2.length ≤ c2 ∧ k30.C w A2 x.f2.length x.f2 := by
  obtain ⟨n, h⟩ := h
  cases n with
  | zero => exact h.elim
  | succ n =>
    obtain ⟨_, _, rfl, rfl, ⟨_, _, rfl, ⟨A1, c1, rfl, l1, g1⟩, ⟨A2, c2, rfl, l2, g2⟩⟩⟩ := h
    exact ⟨A1, c1, A2, c2, rfl, l1, g1, l2, Kd.fix_C g2⟩
theorem k30_mk (w : World) (x : S30) {A1 : Option Addr} {c1 : Nat} (l1 : x.f1.length ≤ c1) (g1 : k77.C w A1 x.f1.length x.f1) {A2 : Option Addr} {c2 : Nat} (l2 : x.f2.length ≤ c2) (g2 : k30.C w A2 x.f2.length x.f2) : k30.K w x [.string x.f0, .slice A1 x.f1.length c1, .slice A2 x.f2.length c2] := by
  obtain ⟨n2, q2⟩ := Kd.fix_C_back mono30 g2
  have r2 := Kd.upto_C_le mono30 sz30 (show n2 ≤ n2 by omega) q2
  exact ⟨n2 + 1, ⟨[.string x.f0], [.slice A1 x.f1.length c1, .slice A2 x.f2.length c2], rfl, rfl, ⟨[.slice A1 x.f1.length c1], [.slice A2 x.f2.length c2], rfl, ⟨A1, c1, rfl, l1, g1⟩, ⟨A2, c2, rfl, l2, r2⟩⟩⟩⟩
theorem k30_mkF (W : World) (ok : Nat → Prop) (x : S30) {A1 : Option Addr} {c1 : Nat} (l1 : x.f1.length ≤ c1) (g1 : Kd.F k77 W ok A1 x.f1.length x.f1) {A2 : Option Addr} {c2 : Nat} (l2 : x.f2.length ≤ c2) (g2 : Kd.F k30 W ok A2 x.f2.length x.f2) : Kd.FK k30 W ok x [.string x.f0, .slice A1 x.f1.length c1, .slice A2 x.f2.length c2] := fun W2 hW => k30_mk W2 x l1 (g1 W2 hW) l2 (g2 W2 hW)
def rd_T30 (xs : List S30) (i : Int) : S30 := xs.getD i.toNat z30
theorem at_T30 {w : World} {A : Option Addr} {n : Nat} {xs : List S30} (h : Kd.C k30 w A n xs) (i : Int) (h0 : 0 ≤ i) (h1 : i < n) : ∃ ad A1 c1 A2 c2, A = some ad ∧ w.cell? (ad.add (i.toNat * 3)) = some (.string (rd_T30 xs i).f0) ∧ w.cell? ⟨(ad.add (i.toNat * 3)).block, (ad.add (i.toNat * 3)).off + 1, none⟩ = some (.slice A1 (rd_T30 xs i).f1.length c1) ∧ w.cell? ⟨(ad.add (i.toNat * 3)).block, (ad.add (i.toNat * 3)).off + 2, none⟩ = some (.slice A2 (rd_T30 xs i).f2.length c2) ∧ (rd_T30 xs i).f1.length ≤ c1 ∧ k77.C w A1 (rd_T30 xs i).f1.length (rd_T30 xs i).f1 ∧ (rd_T30 xs i).f2.length ≤ c2 ∧ k30.C w A2 (rd_T30 xs i).f2.length (rd_T30 xs i).f2 := by
  obtain ⟨ad, c, e, _, hK, hc0⟩ := Kd.C_get h z30 i h0 h1
  have hc : ∀ j u, c[j]? = some u → w.cell? (ad.add (i.toNat * 3 + j)) = some u := hc0
  obtain ⟨A1, c1, A2, c2, rfl, l1, g1, l2, g2⟩ := k30_open hK
  exact ⟨ad, A1, c1, A2, c2, e, hc 0 _ rfl, by rw [← add_field _ _ 1 (by omega)]; exact hc 1 _ rfl, by rw [← add_field _ _ 2 (by omega)]; exact hc 2 _ rfl, l1, g1, l2, g2⟩
end Go.Proofs.Yteejaaeglfpcmab.PC

namespace Go.Proofs.Yteejaaeglfpcmab.PC
open Go.RowKit Go.Proofs.YteejaaeglfpcmabW.PrintWords Go.Proofs.YteejaaeglfpcmabW.PrintLast Go.Proofs.YteejaaeglfpcmabW.PrintMore
attribute [local go_sem] max2_int min2_int max_two min_two max_three min_three max_four min_four   -- for this text's walks alone
set_option linter.unusedVariables false
set_option linter.unusedSimpArgs false
mutual
def tree_Count.l0 : Nat → Int → Int → List (S30) → Int → Int → Option (Int × Int)
  | 0, _, _, _, _, _ => none
  | k + 1, x4, x5, x14, x15, x16 => if x16 < x15 then (if 0 ≤ x16 then (if x16 < (x14.length : Int) then ((tree_Count.f k ((rd_T30 x14 x16).f0) ((rd_T30 x14 x16).f1) ((rd_T30 x14 x16).f2)).bind fun bt141 => (tree_Count.l0 k (wrap64 (x4 + bt141.1)) (wrap64 (x5 + bt141.2)) x14 x15 (wrap64 (x16 + 1)))) else (none)) else (none)) else (some (x4, x5))
def tree_Count.f : Nat → ByteArray → List (S77) → List (S30) → Option (Int × Int)
  | 0, _, _, _ => none
  | k + 1, a0_0, l0_1, l0_2 => tree_Count.l0 k 1 (l0_1.length : Int) l0_2 (l0_2.length : Int) 0
end
set_option maxHeartbeats 8000000 in
set_option maxRecDepth 100000 in
theorem tree_Count.calls (k : Nat) : ∀ (a0_0 : ByteArray) (A0_1 : Option Addr) (c0_1 : Nat) (l0_1 : List (S77)) (A0_2 : Option Addr) (c0_2 : Nat) (l0_2 : List (S30)) (r1 : Int) (r2 : Int) (w : World) (hr0_1 : Kd.C k77 w A0_1 l0_1.length l0_1) (hc0_1 : l0_1.length ≤ c0_1) (hr0_2 : Kd.C k30 w A0_2 l0_2.length l0_2) (hc0_2 : l0_2.length ≤ c0_2) (h : tree_Count.f k a0_0 l0_1 l0_2 = some (r1, r2)),
    Calls Try.prog 29 #[.agg #[.string a0_0, .slice A0_1 l0_1.length c0_1, .slice A0_2 l0_2.length c0_2]] w fun e w' => e = .returned (.tuple #[.int .i64 r1, .int .i64 r2]) ∧ Below w.heap.size w w' := by
  induction k using Nat.strongRecOn with
  | _ k ih =>
  intro a0_0 A0_1 c0_1 l0_1 A0_2 c0_2 l0_2 r1 r2 w hr0_1 hc0_1 hr0_2 hc0_2 h
  cases k with
  | zero => exact absurd h (by simp [tree_Count.f])
  | succ k =>
  simp only [tree_Count.f] at h
  have hu30 := Try.underlying30
  have HR0_1 := Aside0.mk hr0_1
  have HC0_1 := Aside0.mk hc0_1
  clear hr0_1 hc0_1
  have HR0_2 := Aside0.mk hr0_2
  have HC0_2 := Aside0.mk hc0_2
  clear hr0_2 hc0_2
  have HB := Aside0.mk (Below.refl w.heap.size w)
  have H : (tree_Count.l0 k 1 (l0_1.length : Int) l0_2 (l0_2.length : Int) 0) = some (r1, r2) := h
  clear h
  have H' := Aside0.mk H
  clear H
  go_enter Try.func29, Try.ntmps29
  go_wp2_with (first | ((with_reducible refine gate_dst (N := 1) rfl ?_); refine box_event ?hg (N := 1) ?hd (cs := #[.string a0_0, .slice A0_1 l0_1.length c0_1, .slice A0_2 l0_2.length c0_2]) (t := 30) ?hr ?_; (case hd => rfl); (case hg => rfl); (case hr => first | (go_simp; done) | (go_simp; rfl)); intro gb138 hg w2 hbox hb; have n0_ := Aside0.mk (below_step (by repeat (first | (with_reducible first | exact HB.out | apply below_alloc | apply pw_below_drewN | apply below_drew1) | exact HB.out)) hb); have n1_ := Aside0.mk (hbox); have n2_ := Aside0.mk ((by rw [hg]; exact (below_size (by repeat (first | (with_reducible first | exact HB.out | apply below_alloc | apply pw_below_drewN | apply below_drew1) | exact HB.out))) : w.heap.size ≤ gb138)); have n3_ := Aside0.mk ((by rw [hg]; exact (below_size (by repeat (first | (with_reducible first | exact HB.out | apply below_alloc | apply pw_below_drewN | apply below_drew1) | exact HB.out))) : w.heap.size ≤ gb138)); clear HB; have HB := n0_; have BK138 := n1_; have GW138 := n2_; have GE138 := n3_; clear n0_ n1_ n2_ n3_; clear hb hbox hg; have hcz3_0 : w2.cell? ⟨gb138, 0, none⟩ = some (.string a0_0) := (blk_cell BK138.out 0).trans rfl; have hcz3_1 : w2.cell? ⟨gb138, 1, none⟩ = some (.slice A0_1 l0_1.length c0_1) := (blk_cell BK138.out 1).trans rfl; have hcz3_2 : w2.cell? ⟨gb138, 2, none⟩ = some (.slice A0_2 l0_2.length c0_2) := (blk_cell BK138.out 2).trans rfl; have hfz3_0 := blk_frozen BK138.out 0; have hfz3_1 := blk_frozen BK138.out 1; have hfz3_2 := blk_frozen BK138.out 2))
  repeat (go_quiet (first | ((with_reducible refine gate_dst (N := 1) rfl ?_); refine box_event ?hg (N := 1) ?hd (cs := #[.string a0_0, .slice A0_1 l0_1.length c0_1, .slice A0_2 l0_2.length c0_2]) (t := 30) ?hr ?_; (case hd => rfl); (case hg => rfl); (case hr => first | (go_simp; done) | (go_simp; rfl)); intro gb138 hg w2 hbox hb; have n0_ := Aside0.mk (below_step (by repeat (first | (with_reducible first | exact HB.out | apply below_alloc | apply pw_below_drewN | apply below_drew1) | exact HB.out)) hb); have n1_ := Aside0.mk (hbox); have n2_ := Aside0.mk ((by rw [hg]; exact (below_size (by repeat (first | (with_reducible first | exact HB.out | apply below_alloc | apply pw_below_drewN | apply below_drew1) | exact HB.out))) : w.heap.size ≤ gb138)); have n3_ := Aside0.mk ((by rw [hg]; exact (below_size (by repeat (first | (with_reducible first | exact HB.out | apply below_alloc | apply pw_below_drewN | apply below_drew1) | exact HB.out))) : w.heap.size ≤ gb138)); clear HB; have HB := n0_; have BK138 := n1_; have GW138 := n2_; have GE138 := n3_; clear n0_ n1_ n2_ n3_; clear hb hbox hg; have hcz3_0 : w2.cell? ⟨gb138, 0, none⟩ = some (.string a0_0) := (blk_cell BK138.out 0).trans rfl; have hcz3_1 : w2.cell? ⟨gb138, 1, none⟩ = some (.slice A0_1 l0_1.length c0_1) := (blk_cell BK138.out 1).trans rfl; have hcz3_2 : w2.cell? ⟨gb138, 2, none⟩ = some (.slice A0_2 l0_2.length c0_2) := (blk_cell BK138.out 2).trans rfl; have hfz3_0 := blk_frozen BK138.out 0; have hfz3_1 := blk_frozen BK138.out 1; have hfz3_2 := blk_frozen BK138.out 2)); try go_wp2_with (first | ((with_reducible refine gate_dst (N := 1) rfl ?_); refine box_event ?hg (N := 1) ?hd (cs := #[.string a0_0, .slice A0_1 l0_1.length c0_1, .slice A0_2 l0_2.length c0_2]) (t := 30) ?hr ?_; (case hd => rfl); (case hg => rfl); (case hr => first | (go_simp; done) | (go_simp; rfl)); intro gb138 hg w2 hbox hb; have n0_ := Aside0.mk (below_step (by repeat (first | (with_reducible first | exact HB.out | apply below_alloc | apply pw_below_drewN | apply below_drew1) | exact HB.out)) hb); have n1_ := Aside0.mk (hbox); have n2_ := Aside0.mk ((by rw [hg]; exact (below_size (by repeat (first | (with_reducible first | exact HB.out | apply below_alloc | apply pw_below_drewN | apply below_drew1) | exact HB.out))) : w.heap.size ≤ gb138)); have n3_ := Aside0.mk ((by rw [hg]; exact (below_size (by repeat (first | (with_reducible first | exact HB.out | apply below_alloc | apply pw_below_drewN | apply below_drew1) | exact HB.out))) : w.heap.size ≤ gb138)); clear HB; have HB := n0_; have BK138 := n1_; have GW138 := n2_; have GE138 := n3_; clear n0_ n1_ n2_ n3_; clear hb hbox hg; have hcz3_0 : w2.cell? ⟨gb138, 0, none⟩ = some (.string a0_0) := (blk_cell BK138.out 0).trans rfl; have hcz3_1 : w2.cell? ⟨gb138, 1, none⟩ = some (.slice A0_1 l0_1.length c0_1) := (blk_cell BK138.out 1).trans rfl; have hcz3_2 : w2.cell? ⟨gb138, 2, none⟩ = some (.slice A0_2 l0_2.length c0_2) := (blk_cell BK138.out 2).trans rfl; have hfz3_0 := blk_frozen BK138.out 0; have hfz3_1 := blk_frozen BK138.out 1; have hfz3_2 := blk_frozen BK138.out 2)))
  go_loopg [4, 5, 16] k (fun kq v4 v5 v16 w' => ∃ (x4_1 : Int) (x5_1 : Int) (x16_1 : Int), v4 = .int .i64 x4_1 ∧ v5 = .int .i64 x5_1 ∧ v16 = .int .i64 x16_1 ∧ Aside0 (tree_Count.l0 kq x4_1 x5_1 l0_2 (l0_2.length : Int) x16_1 = some (r1, r2)) ∧ Aside0 (kq ≤ k) ∧ Aside0 (w'.heap[gb138]? = some (.cells #[.string a0_0, (.slice A0_1 l0_1.length c0_1), (.slice A0_2 l0_2.length c0_2)] 30 (0, 0))) ∧ Aside0 (Below w.heap.size w w'))
  case atStart => exact ⟨(1), ((l0_1.length : Int)), (0), (by first | rfl | (simp; done) | (simp [*]; done)), (by first | rfl | (simp; done) | (simp [*]; done)), (by first | rfl | (simp; done) | (simp [*]; done)), H', ⟨Nat.le_refl _⟩, ⟨by (with_reducible repeat (first | refine blk_drewN ?_ _ | refine blk_drew ?_ | refine blk_alloc ?_ _)); exact BK138.out⟩, ⟨by repeat (first | (with_reducible first | exact HB.out | apply below_alloc | apply pw_below_drewN | apply below_drew1 | refine below_set ?_ GE138.out) | exact HB.out)⟩⟩
  case round =>
    clear H'
    try clear c2
    try clear p2
    try clear hcz3_0
    try clear hcz3_1
    try clear hcz3_2
    try clear hfz3_0
    try clear hfz3_1
    try clear hfz3_2
    obtain ⟨x4_1, x5_1, x16_1, rfl, rfl, rfl, HA, HK1, BK138, HB⟩ := hrel
    cases gk with
    | zero => exact absurd HA.out (by simp [tree_Count.l0])
    | succ k1 =>
      have H := HA.out
      clear HA
      simp only [tree_Count.l0] at H
      by_cases c4 : x16_1 < (l0_2.length : Int)
      · rw [if_pos c4] at H
        have c4b0 : decide (x16_1 < (l0_2.length : Int)) = true := decide_eq_true c4
        clear c4
        by_cases c5 : 0 ≤ x16_1
        · rw [if_pos c5] at H
          have c5b0 : decide (0 ≤ x16_1) = true := decide_eq_true c5
          clear c5
          by_cases c6 : x16_1 < (l0_2.length : Int)
          · rw [if_pos c6] at H
            have c6b0 : decide (x16_1 < (l0_2.length : Int)) = true := decide_eq_true c6
            clear c6
            replace H := Option.bind_eq_some_iff.mp H
            obtain ⟨⟨t141, t142⟩, A70, H⟩ := H
            replace H : (tree_Count.l0 k1 (wrap64 (x4_1 + t141)) (wrap64 (x5_1 + t142)) l0_2 (l0_2.length : Int) (wrap64 (x16_1 + 1))) = some (r1, r2) := H
            have A7 := Aside0.mk A70
            clear A70
            have H' := Aside0.mk H
            clear H
            have p139 : 0 ≤ (x16_1 : Int) := of_decide_eq_true (by first | (with_reducible assumption) | assumption)
            have q139 : x16_1 < (l0_2.length : Int) := of_decide_eq_true (by first | (with_reducible assumption) | assumption)
            obtain ⟨ad139, A139_1, c139_1, A139_2, c139_2, e139, hx139_0, hx139_1, hx139_2, hl139_1, hi139_1, hl139_2, hi139_2⟩ := at_T30 HR0_2.out x16_1 p139 q139
            cases e139
            replace hx139_0 := (HB.out.cell (World.block_lt_of_cell? w _ hx139_0)).trans hx139_0
            replace hx139_1 := (HB.out.cell (World.block_lt_of_cell? w _ hx139_1)).trans hx139_1
            replace hx139_2 := (HB.out.cell (World.block_lt_of_cell? w _ hx139_2)).trans hx139_2
            have HR139_1 := Aside0.mk hi139_1
            have HC139_1 := Aside0.mk hl139_1
            clear hi139_1 hl139_1
            have HR139_2 := Aside0.mk hi139_2
            have HC139_2 := Aside0.mk hl139_2
            clear hi139_2 hl139_2
            replace p139 := eq_true p139
            replace q139 := eq_true q139
            go_wp2_with (first | ((with_reducible refine gate_dst (N := 7) rfl ?_); refine box_event ?hg (N := 7) ?hd (cs := #[.string (⟨#[]⟩ : ByteArray), .slice none 0 0, .slice none 0 0]) (t := 30) ?hr ?_; (case hd => rfl); (case hg => rfl); (case hr => first | (go_simp; done) | (go_simp; rfl)); intro gb140 hg w8 hbox hb; have n0_ := Aside0.mk (blk_below (g := gb138) (o := .cells #[.string a0_0, .slice A0_1 l0_1.length c0_1, .slice (some ad139) l0_2.length c0_2] 30 (0, 0)) (by (with_reducible repeat (first | refine blk_drewN ?_ _ | refine blk_drew ?_ | refine blk_alloc ?_ _)); exact BK138.out) hb); have n1_ := Aside0.mk (below_step (by repeat (first | (with_reducible first | exact HB.out | apply below_alloc | apply pw_below_drewN | apply below_drew1 | refine below_set ?_ GE138.out) | exact HB.out)) hb); have n2_ := Aside0.mk (hbox); have n3_ := Aside0.mk ((by rw [hg]; exact (below_size (by repeat (first | (with_reducible first | exact HB.out | apply below_alloc | apply pw_below_drewN | apply below_drew1 | refine below_set ?_ GE138.out) | exact HB.out))) : w.heap.size ≤ gb140)); have n4_ := Aside0.mk ((by rw [hg]; exact (below_size (by repeat (first | (with_reducible first | exact HB.out | apply below_alloc | apply pw_below_drewN | apply below_drew1 | refine below_set ?_ GE138.out) | exact HB.out))) : w.heap.size ≤ gb140)); have n5_ := Aside0.mk ((by rw [hg]; exact Nat.ne_of_lt (blk_lt (g := gb138) (o := .cells #[.string a0_0, .slice A0_1 l0_1.length c0_1, .slice (some ad139) l0_2.length c0_2] 30 (0, 0)) (by (with_reducible repeat (first | refine blk_drewN ?_ _ | refine blk_drew ?_ | refine blk_alloc ?_ _)); exact BK138.out)) : gb138 ≠ gb140)); have n6_ := Aside0.mk ((by rw [hg]; exact Nat.ne_of_gt (blk_lt (g := gb138) (o := .cells #[.string a0_0, .slice A0_1 l0_1.length c0_1, .slice (some ad139) l0_2.length c0_2] 30 (0, 0)) (by (with_reducible repeat (first | refine blk_drewN ?_ _ | refine blk_drew ?_ | refine blk_alloc ?_ _)); exact BK138.out)) : gb140 ≠ gb138)); clear BK138; clear HB; have BK138 := n0_; have HB := n1_; have BK140 := n2_; have GW140 := n3_; have GE140 := n4_; have NB138_140 := n5_; have NB140_138 := n6_; clear n0_ n1_ n2_ n3_ n4_ n5_ n6_; clear hb hbox hg; have hnb9 := NB140_138.out; have hnc9 := NB138_140.out; have hcz10_0 : w8.cell? ⟨gb140, 0, none⟩ = some (.string (⟨#[]⟩ : ByteArray)) := (blk_cell BK140.out 0).trans rfl; have hcz10_1 : w8.cell? ⟨gb140, 1, none⟩ = some (.slice none 0 0) := (blk_cell BK140.out 1).trans rfl; have hcz10_2 : w8.cell? ⟨gb140, 2, none⟩ = some (.slice none 0 0) := (blk_cell BK140.out 2).trans rfl; have hfz10_0 := blk_frozen BK140.out 0; have hfz10_1 := blk_frozen BK140.out 1; have hfz10_2 := blk_frozen BK140.out 2) | (go_at_call 29; (with_reducible refine (ih k1 (by have := HK1.out; omega) ((rd_T30 l0_2 x16_1).f0) _ _ ((rd_T30 l0_2 x16_1).f1) _ _ ((rd_T30 l0_2 x16_1).f2) t141 t142 _ ?side1 ?side2 ?side3 ?side4 A7.out).mono ?_); (case side1 => exact Kd.C_below HR139_1.out (by repeat (first | (with_reducible first | exact HB.out | apply below_alloc | apply pw_below_drewN | apply below_drew1 | refine below_set ?_ GE138.out | refine below_set ?_ GE140.out) | exact HB.out))); (case side2 => exact HC139_1.out); (case side3 => exact Kd.C_below HR139_2.out (by repeat (first | (with_reducible first | exact HB.out | apply below_alloc | apply pw_below_drewN | apply below_drew1 | refine below_set ?_ GE138.out | refine below_set ?_ GE140.out) | exact HB.out))); (case side4 => exact HC139_2.out); rintro e w11 ⟨rfl, hb⟩; have n0_ := Aside0.mk (blk_below (g := gb138) (o := .cells #[.string a0_0, .slice A0_1 l0_1.length c0_1, .slice (some ad139) l0_2.length c0_2] 30 (0, 0)) (by (with_reducible repeat (first | refine blk_drewN ?_ _ | refine blk_drew ?_ | refine blk_alloc ?_ _)); refine blk_far ?_ NB138_140.out _; (with_reducible repeat (first | refine blk_drewN ?_ _ | refine blk_drew ?_ | refine blk_alloc ?_ _)); refine blk_far ?_ NB138_140.out _; (with_reducible repeat (first | refine blk_drewN ?_ _ | refine blk_drew ?_ | refine blk_alloc ?_ _)); refine blk_far ?_ NB138_140.out _; (with_reducible repeat (first | refine blk_drewN ?_ _ | refine blk_drew ?_ | refine blk_alloc ?_ _)); exact BK138.out) hb); have n1_ := Aside0.mk (blk_below (g := gb140) (o := .cells #[.string ((rd_T30 l0_2 x16_1).f0), .slice A139_1 ((rd_T30 l0_2 x16_1).f1).length c139_1, .slice A139_2 ((rd_T30 l0_2 x16_1).f2).length c139_2] 30 (0, 0)) (by (with_reducible repeat (first | refine blk_drewN ?_ _ | refine blk_drew ?_ | refine blk_alloc ?_ _)); refine blk_put (cs := #[.string ((rd_T30 l0_2 x16_1).f0), .slice A139_1 ((rd_T30 l0_2 x16_1).f1).length c139_1, .slice none 0 0]) ?_ 2 _ rfl; (with_reducible repeat (first | refine blk_drewN ?_ _ | refine blk_drew ?_ | refine blk_alloc ?_ _)); refine blk_put (cs := #[.string ((rd_T30 l0_2 x16_1).f0), .slice none 0 0, .slice none 0 0]) ?_ 1 _ rfl; (with_reducible repeat (first | refine blk_drewN ?_ _ | refine blk_drew ?_ | refine blk_alloc ?_ _)); refine blk_put (cs := #[.string (⟨#[]⟩ : ByteArray), .slice none 0 0, .slice none 0 0]) ?_ 0 _ rfl; (with_reducible repeat (first | refine blk_drewN ?_ _ | refine blk_drew ?_ | refine blk_alloc ?_ _)); exact BK140.out) hb); have n2_ := Aside0.mk (below_step (by repeat (first | (with_reducible first | exact HB.out | apply below_alloc | apply pw_below_drewN | apply below_drew1 | refine below_set ?_ GE138.out | refine below_set ?_ GE140.out) | exact HB.out)) hb); clear BK138; clear BK140; clear HB; have BK138 := n0_; have BK140 := n1_; have HB := n2_; clear n0_ n1_ n2_; (try clear hb); (try clear hb2); (try clear hk); (try clear hi)))
            repeat (go_quiet (first | ((with_reducible refine gate_dst (N := 7) rfl ?_); refine box_event ?hg (N := 7) ?hd (cs := #[.string (⟨#[]⟩ : ByteArray), .slice none 0 0, .slice none 0 0]) (t := 30) ?hr ?_; (case hd => rfl); (case hg => rfl); (case hr => first | (go_simp; done) | (go_simp; rfl)); intro gb140 hg w8 hbox hb; have n0_ := Aside0.mk (blk_below (g := gb138) (o := .cells #[.string a0_0, .slice A0_1 l0_1.length c0_1, .slice (some ad139) l0_2.length c0_2] 30 (0, 0)) (by (with_reducible repeat (first | refine blk_drewN ?_ _ | refine blk_drew ?_ | refine blk_alloc ?_ _)); exact BK138.out) hb); have n1_ := Aside0.mk (below_step (by repeat (first | (with_reducible first | exact HB.out | apply below_alloc | apply pw_below_drewN | apply below_drew1 | refine below_set ?_ GE138.out) | exact HB.out)) hb); have n2_ := Aside0.mk (hbox); have n3_ := Aside0.mk ((by rw [hg]; exact (below_size (by repeat (first | (with_reducible first | exact HB.out | apply below_alloc | apply pw_below_drewN | apply below_drew1 | refine below_set ?_ GE138.out) | exact HB.out))) : w.heap.size ≤ gb140)); have n4_ := Aside0.mk ((by rw [hg]; exact (below_size (by repeat (first | (with_reducible first | exact HB.out | apply below_alloc | apply pw_below_drewN | apply below_drew1 | refine below_set ?_ GE138.out) | exact HB.out))) : w.heap.size ≤ gb140)); have n5_ := Aside0.mk ((by rw [hg]; exact Nat.ne_of_lt (blk_lt (g := gb138) (o := .cells #[.string a0_0, .slice A0_1 l0_1.length c0_1, .slice (some ad139) l0_2.length c0_2] 30 (0, 0)) (by (with_reducible repeat (first | refine blk_drewN ?_ _ | refine blk_drew ?_ | refine blk_alloc ?_ _)); exact BK138.out)) : gb138 ≠ gb140)); have n6_ := Aside0.mk ((by rw [hg]; exact Nat.ne_of_gt (blk_lt (g := gb138) (o := .cells #[.string a0_0, .slice A0_1 l0_1.length c0_1, .slice (some ad139) l0_2.length c0_2] 30 (0, 0)) (by (with_reducible repeat (first | refine blk_drewN ?_ _ | refine blk_drew ?_ | refine blk_alloc ?_ _)); exact BK138.out)) : gb140 ≠ gb138)); clear BK138; clear HB; have BK138 := n0_; have HB := n1_; have BK140 := n2_; have GW140 := n3_; have GE140 := n4_; have NB138_140 := n5_; have NB140_138 := n6_; clear n0_ n1_ n2_ n3_ n4_ n5_ n6_; clear hb hbox hg; have hnb9 := NB140_138.out; have hnc9 := NB138_140.out; have hcz10_0 : w8.cell? ⟨gb140, 0, none⟩ = some (.string (⟨#[]⟩ : ByteArray)) := (blk_cell BK140.out 0).trans rfl; have hcz10_1 : w8.cell? ⟨gb140, 1, none⟩ = some (.slice none 0 0) := (blk_cell BK140.out 1).trans rfl; have hcz10_2 : w8.cell? ⟨gb140, 2, none⟩ = some (.slice none 0 0) := (blk_cell BK140.out 2).trans rfl; have hfz10_0 := blk_frozen BK140.out 0; have hfz10_1 := blk_frozen BK140.out 1; have hfz10_2 := blk_frozen BK140.out 2) | (go_at_call 29; (with_reducible refine (ih k1 (by have := HK1.out; omega) ((rd_T30 l0_2 x16_1).f0) _ _ ((rd_T30 l0_2 x16_1).f1) _ _ ((rd_T30 l0_2 x16_1).f2) t141 t142 _ ?side1 ?side2 ?side3 ?side4 A7.out).mono ?_); (case side1 => exact Kd.C_below HR139_1.out (by repeat (first | (with_reducible first | exact HB.out | apply below_alloc | apply pw_below_drewN | apply below_drew1 | refine below_set ?_ GE138.out | refine below_set ?_ GE140.out) | exact HB.out))); (case side2 => exact HC139_1.out); (case side3 => exact Kd.C_below HR139_2.out (by repeat (first | (with_reducible first | exact HB.out | apply below_alloc | apply pw_below_drewN | apply below_drew1 | refine below_set ?_ GE138.out | refine below_set ?_ GE140.out) | exact HB.out))); (case side4 => exact HC139_2.out); rintro e w11 ⟨rfl, hb⟩; have n0_ := Aside0.mk (blk_below (g := gb138) (o := .cells #[.string a0_0, .slice A0_1 l0_1.length c0_1, .slice (some ad139) l0_2.length c0_2] 30 (0, 0)) (by (with_reducible repeat (first | refine blk_drewN ?_ _ | refine blk_drew ?_ | refine blk_alloc ?_ _)); refine blk_far ?_ NB138_140.out _; (with_reducible repeat (first | refine blk_drewN ?_ _ | refine blk_drew ?_ | refine blk_alloc ?_ _)); refine blk_far ?_ NB138_140.out _; (with_reducible repeat (first | refine blk_drewN ?_ _ | refine blk_drew ?_ | refine blk_alloc ?_ _)); refine blk_far ?_ NB138_140.out _; (with_reducible repeat (first | refine blk_drewN ?_ _ | refine blk_drew ?_ | refine blk_alloc ?_ _)); exact BK138.out) hb); have n1_ := Aside0.mk (blk_below (g := gb140) (o := .cells #[.string ((rd_T30 l0_2 x16_1).f0), .slice A139_1 ((rd_T30 l0_2 x16_1).f1).length c139_1, .slice A139_2 ((rd_T30 l0_2 x16_1).f2).length c139_2] 30 (0, 0)) (by (with_reducible repeat (first | refine blk_drewN ?_ _ | refine blk_drew ?_ | refine blk_alloc ?_ _)); refine blk_put (cs := #[.string ((rd_T30 l0_2 x16_1).f0), .slice A139_1 ((rd_T30 l0_2 x16_1).f1).length c139_1, .slice none 0 0]) ?_ 2 _ rfl; (with_reducible repeat (first | refine blk_drewN ?_ _ | refine blk_drew ?_ | refine blk_alloc ?_ _)); refine blk_put (cs := #[.string ((rd_T30 l0_2 x16_1).f0), .slice none 0 0, .slice none 0 0]) ?_ 1 _ rfl; (with_reducible repeat (first | refine blk_drewN ?_ _ | refine blk_drew ?_ | refine blk_alloc ?_ _)); refine blk_put (cs := #[.string (⟨#[]⟩ : ByteArray), .slice none 0 0, .slice none 0 0]) ?_ 0 _ rfl; (with_reducible repeat (first | refine blk_drewN ?_ _ | refine blk_drew ?_ | refine blk_alloc ?_ _)); exact BK140.out) hb); have n2_ := Aside0.mk (below_step (by repeat (first | (with_reducible first | exact HB.out | apply below_alloc | apply pw_below_drewN | apply below_drew1 | refine below_set ?_ GE138.out | refine below_set ?_ GE140.out) | exact HB.out)) hb); clear BK138; clear BK140; clear HB; have BK138 := n0_; have BK140 := n1_; have HB := n2_; clear n0_ n1_ n2_; (try clear hb); (try clear hb2); (try clear hk); (try clear hi))); try go_wp2_with (first | ((with_reducible refine gate_dst (N := 7) rfl ?_); refine box_event ?hg (N := 7) ?hd (cs := #[.string (⟨#[]⟩ : ByteArray), .slice none 0 0, .slice none 0 0]) (t := 30) ?hr ?_; (case hd => rfl); (case hg => rfl); (case hr => first | (go_simp; done) | (go_simp; rfl)); intro gb140 hg w8 hbox hb; have n0_ := Aside0.mk (blk_below (g := gb138) (o := .cells #[.string a0_0, .slice A0_1 l0_1.length c0_1, .slice (some ad139) l0_2.length c0_2] 30 (0, 0)) (by (with_reducible repeat (first | refine blk_drewN ?_ _ | refine blk_drew ?_ | refine blk_alloc ?_ _)); exact BK138.out) hb); have n1_ := Aside0.mk (below_step (by repeat (first | (with_reducible first | exact HB.out | apply below_alloc | apply pw_below_drewN | apply below_drew1 | refine below_set ?_ GE138.out) | exact HB.out)) hb); have n2_ := Aside0.mk (hbox); have n3_ := Aside0.mk ((by rw [hg]; exact (below_size (by repeat (first | (with_reducible first | exact HB.out | apply below_alloc | apply pw_below_drewN | apply below_drew1 | refine below_set ?_ GE138.out) | exact HB.out))) : w.heap.size ≤ gb140)); have n4_ := Aside0.mk ((by rw [hg]; exact (below_size (by repeat (first | (with_reducible first | exact HB.out | apply below_alloc | apply pw_below_drewN | apply below_drew1 | refine below_set ?_ GE138.out) | exact HB.out))) : w.heap.size ≤ gb140)); have n5_ := Aside0.mk ((by rw [hg]; exact Nat.ne_of_lt (blk_lt (g := gb138) (o := .cells #[.string a0_0, .slice A0_1 l0_1.length c0_1, .slice (some ad139) l0_2.length c0_2] 30 (0, 0)) (by (with_reducible repeat (first | refine blk_drewN ?_ _ | refine blk_drew ?_ | refine blk_alloc ?_ _)); exact BK138.out)) : gb138 ≠ gb140)); have n6_ := Aside0.mk ((by rw [hg]; exact Nat.ne_of_gt (blk_lt (g := gb138) (o := .cells #[.string a0_0, .slice A0_1 l0_1.length c0_1, .slice (some ad139) l0_2.length c0_2] 30 (0, 0)) (by (with_reducible repeat (first | refine blk_drewN ?_ _ | refine blk_drew ?_ | refine blk_alloc ?_ _)); exact BK138.out)) : gb140 ≠ gb138)); clear BK138; clear HB; have BK138 := n0_; have HB := n1_; have BK140 := n2_; have GW140 := n3_; have GE140 := n4_; have NB138_140 := n5_; have NB140_138 := n6_; clear n0_ n1_ n2_ n3_ n4_ n5_ n6_; clear hb hbox hg; have hnb9 := NB140_138.out; have hnc9 := NB138_140.out; have hcz10_0 : w8.cell? ⟨gb140, 0, none⟩ = some (.string (⟨#[]⟩ : ByteArray)) := (blk_cell BK140.out 0).trans rfl; have hcz10_1 : w8.cell? ⟨gb140, 1, none⟩ = some (.slice none 0 0) := (blk_cell BK140.out 1).trans rfl; have hcz10_2 : w8.cell? ⟨gb140, 2, none⟩ = some (.slice none 0 0) := (blk_cell BK140.out 2).trans rfl; have hfz10_0 := blk_frozen BK140.out 0; have hfz10_1 := blk_frozen BK140.out 1; have hfz10_2 := blk_frozen BK140.out 2) | (go_at_call 29; (with_reducible refine (ih k1 (by have := HK1.out; omega) ((rd_T30 l0_2 x16_1).f0) _ _ ((rd_T30 l0_2 x16_1).f1) _ _ ((rd_T30 l0_2 x16_1).f2) t141 t142 _ ?side1 ?side2 ?side3 ?side4 A7.out).mono ?_); (case side1 => exact Kd.C_below HR139_1.out (by repeat (first | (with_reducible first | exact HB.out | apply below_alloc | apply pw_below_drewN | apply below_drew1 | refine below_set ?_ GE138.out | refine below_set ?_ GE140.out) | exact HB.out))); (case side2 => exact HC139_1.out); (case side3 => exact Kd.C_below HR139_2.out (by repeat (first | (with_reducible first | exact HB.out | apply below_alloc | apply pw_below_drewN | apply below_drew1 | refine below_set ?_ GE138.out | refine below_set ?_ GE140.out) | exact HB.out))); (case side4 => exact HC139_2.out); rintro e w11 ⟨rfl, hb⟩; have n0_ := Aside0.mk (blk_below (g := gb138) (o := .cells #[.string a0_0, .slice A0_1 l0_1.length c0_1, .slice (some ad139) l0_2.length c0_2] 30 (0, 0)) (by (with_reducible repeat (first | refine blk_drewN ?_ _ | refine blk_drew ?_ | refine blk_alloc ?_ _)); refine blk_far ?_ NB138_140.out _; (with_reducible repeat (first | refine blk_drewN ?_ _ | refine blk_drew ?_ | refine blk_alloc ?_ _)); refine blk_far ?_ NB138_140.out _; (with_reducible repeat (first | refine blk_drewN ?_ _ | refine blk_drew ?_ | refine blk_alloc ?_ _)); refine blk_far ?_ NB138_140.out _; (with_reducible repeat (first | refine blk_drewN ?_ _ | refine blk_drew ?_ | refine blk_alloc ?_ _)); exact BK138.out) hb); have n1_ := Aside0.mk (blk_below (g := gb140) (o := .cells #[.string ((rd_T30 l0_2 x16_1).f0), .slice A139_1 ((rd_T30 l0_2 x16_1).f1).length c139_1, .slice A139_2 ((rd_T30 l0_2 x16_1).f2).length c139_2] 30 (0, 0)) (by (with_reducible repeat (first | refine blk_drewN ?_ _ | refine blk_drew ?_ | refine blk_alloc ?_ _)); refine blk_put (cs := #[.string ((rd_T30 l0_2 x16_1).f0), .slice A139_1 ((rd_T30 l0_2 x16_1).f1).length c139_1, .slice none 0 0]) ?_ 2 _ rfl; (with_reducible repeat (first | refine blk_drewN ?_ _ | refine blk_drew ?_ | refine blk_alloc ?_ _)); refine blk_put (cs := #[.string ((rd_T30 l0_2 x16_1).f0), .slice none 0 0, .slice none 0 0]) ?_ 1 _ rfl; (with_reducible repeat (first | refine blk_drewN ?_ _ | refine blk_drew ?_ | refine blk_alloc ?_ _)); refine blk_put (cs := #[.string (⟨#[]⟩ : ByteArray), .slice none 0 0, .slice none 0 0]) ?_ 0 _ rfl; (with_reducible repeat (first | refine blk_drewN ?_ _ | refine blk_drew ?_ | refine blk_alloc ?_ _)); exact BK140.out) hb); have n2_ := Aside0.mk (below_step (by repeat (first | (with_reducible first | exact HB.out | apply below_alloc | apply pw_below_drewN | apply below_drew1 | refine below_set ?_ GE138.out | refine below_set ?_ GE140.out) | exact HB.out)) hb); clear BK138; clear BK140; clear HB; have BK138 := n0_; have BK140 := n1_; have HB := n2_; clear n0_ n1_ n2_; (try clear hb); (try clear hb2); (try clear hk); (try clear hi))))
            go_roundg k1
            case measure => have := HK1.out; omega
            case rel => exact ⟨(wrap64 (x4_1 + t141)), (wrap64 (x5_1 + t142)), (wrap64 (x16_1 + 1)), (by first | rfl | (simp; done) | (simp [*]; done)), (by first | rfl | (simp; done) | (simp [*]; done)), (by first | rfl | (simp; done) | (simp [*]; done)), H', ⟨by have := HK1.out; omega⟩, ⟨by (with_reducible repeat (first | refine blk_drewN ?_ _ | refine blk_drew ?_ | refine blk_alloc ?_ _)); exact BK138.out⟩, ⟨by repeat (first | (with_reducible first | exact HB.out | apply below_alloc | apply pw_below_drewN | apply below_drew1 | refine below_set ?_ GE138.out | refine below_set ?_ GE140.out) | exact HB.out)⟩⟩
          · rw [if_neg c6] at H
            exact absurd H (by simp)
        · rw [if_neg c5] at H
          exact absurd H (by simp)
      · rw [if_neg c4] at H
        have c4b0 : decide (x16_1 < (l0_2.length : Int)) = false := decide_eq_false c4
        clear c4
        simp only [Option.some.injEq, Prod.mk.injEq] at H
        obtain ⟨rfl, rfl⟩ := H
        go_wp2
        repeat (go_quiet (fail); try go_wp2)
        go_ret2
        exact ⟨by first | rfl | (simp [errW_none, errW_some] <;> rfl) | (simp [*, errW_none, errW_some] <;> rfl), by repeat (first | (with_reducible first | exact HB.out | apply below_alloc | apply pw_below_drewN | apply below_drew1 | refine below_set ?_ GE138.out) | exact HB.out)⟩
end Go.Proofs.Yteejaaeglfpcmab.PC

namespace Go.Proofs.Yteejaaeglfpcmab.PC
open Go.RowKit Go.Proofs.YteejaaeglfpcmabW.PrintWords Go.Proofs.YteejaaeglfpcmabW.PrintLast Go.Proofs.YteejaaeglfpcmabW.PrintMore
attribute [local go_sem] max2_int min2_int max_two min_two max_three min_three max_four min_four   -- for this text's walks alone
set_option linter.unusedVariables false
set_option linter.unusedSimpArgs false
def strings_IndexByte.f (a0 : ByteArray) (a1 : Int) : Option (Int) := some (Lib.indexByte a0.data.toList a1.toNat.toUInt8)
theorem strings_IndexByte.calls (a0 : ByteArray) (a1 : Int) (r : Int) (w : World) (h : strings_IndexByte.f a0 a1 = some r) :
    Calls Try.prog 84 #[.string a0, .int .u8 a1] w fun e w' => e = .returned (.int .i64 r) ∧ Drawn0 w w' := by
  have hr : Lib.indexByte a0.data.toList a1.toNat.toUInt8 = r := by
    unfold strings_IndexByte.f at h
    injection h
  refine (Try.strings_IndexByte a0 a1 w).mono ?_
  rintro e w' ⟨rfl, rfl⟩
  exact ⟨by rw [hr], Drawn0.refl _⟩
end Go.Proofs.Yteejaaeglfpcmab.PC

namespace Go.Proofs.Yteejaaeglfpcmab.PC
open Go.RowKit Go.Proofs.YteejaaeglfpcmabW.PrintWords Go.Proofs.YteejaaeglfpcmabW.PrintLast Go.Proofs.YteejaaeglfpcmabW.PrintMore
attribute [local go_sem] max2_int min2_int max_two min_two max_three min_three max_four min_four   -- for this text's walks alone
set_option linter.unusedVariables false
set_option linter.unusedSimpArgs false
def name_letter.f (a0 : Int) : Option (Bool) := if a0 ≥ 97 then (if a0 ≤ 122 then (some true) else (if a0 ≥ 65 then (some (decide (a0 ≤ 90))) else (some false))) else (if a0 ≥ 65 then (some (decide (a0 ≤ 90))) else (some false))
set_option maxHeartbeats 8000000 in
set_option maxRecDepth 100000 in
theorem name_letter.calls (a0 : Int) (r : Bool) (w : World) (h : name_letter.f a0 = some r) :
    Calls Try.prog 68 #[.int .u8 a0] w fun e w' => e = .returned (.bool r) ∧ Drawn0 w w' := by
  have H : (if a0 ≥ 97 then (if a0 ≤ 122 then (some true) else (if a0 ≥ 65 then (some (decide (a0 ≤ 90))) else (some false))) else (if a0 ≥ 65 then (some (decide (a0 ≤ 90))) else (some false))) = some r := h
  clear h
  by_cases c2 : a0 ≥ 97
  · rw [if_pos c2] at H
    have c2b0 : decide (97 ≤ a0) = true := decide_eq_true c2
    clear c2
    by_cases c3 : a0 ≤ 122
    · rw [if_pos c3] at H
      have c3b0 : decide (a0 ≤ 122) = true := decide_eq_true c3
      clear c3
      obtain rfl := Option.some.inj H
      go_enter Try.func68, Try.ntmps68
      go_wp2
      go_ret
      exact ⟨by first | rfl | (simp; done) | (simp [*]; done), by repeat (first | exact Drawn0.refl _ | apply Drawn0.step)⟩
    · rw [if_neg c3] at H
      have c3b0 : decide (a0 ≤ 122) = false := decide_eq_false c3
      clear c3
      by_cases c4 : a0 ≥ 65
      · rw [if_pos c4] at H
        have c4b0 : decide (65 ≤ a0) = true := decide_eq_true c4
        clear c4
        obtain rfl := Option.some.inj H
        go_enter Try.func68, Try.ntmps68
        go_wp2
        go_ret
        exact ⟨by first | rfl | (simp; done) | (simp [*]; done), by repeat (first | exact Drawn0.refl _ | apply Drawn0.step)⟩
      · rw [if_neg c4] at H
        have c4b0 : decide (65 ≤ a0) = false := decide_eq_false c4
        clear c4
        obtain rfl := Option.some.inj H
        go_enter Try.func68, Try.ntmps68
        go_wp2
        go_ret
        exact ⟨by first | rfl | (simp; done) | (simp [*]; done), by repeat (first | exact Drawn0.refl _ | apply Drawn0.step)⟩
  · rw [if_neg c2] at H
    have c2b0 : decide (97 ≤ a0) = false := decide_eq_false c2
    clear c2
    by_cases c5 : a0 ≥ 65
    · rw [if_pos c5] at H
      have c5b0 : decide (65 ≤ a0) = true := decide_eq_true c5
      clear c5
      obtain rfl := Option.some.inj H
      go_enter Try.func68, Try.ntmps68
      go_wp2
      go_ret
      exact ⟨by first | rfl | (simp; done) | (simp [*]; done), by repeat (first | exact Drawn0.refl _ | apply Drawn0.step)⟩
    · rw [if_neg c5] at H
      have c5b0 : decide (65 ≤ a0) = false := decide_eq_false c5
      clear c5
      obtain rfl := Option.some.inj H
      go_enter Try.func68, Try.ntmps68
      go_wp2
      go_ret
      exact ⟨by first | rfl | (simp; done) | (simp [*]; done), by repeat (first | exact Drawn0.refl _ | apply Drawn0.step)⟩
end Go.Proofs.Yteejaaeglfpcmab.PC

namespace Go.Proofs.Yteejaaeglfpcmab.PC
open Go.RowKit Go.Proofs.YteejaaeglfpcmabW.PrintWords Go.Proofs.YteejaaeglfpcmabW.PrintLast Go.Proofs.YteejaaeglfpcmabW.PrintMore
attribute [local go_sem] max2_int min2_int max_two min_two max_three min_three max_four min_four   -- for this text's walks alone
set_option linter.unusedVariables false
set_option linter.unusedSimpArgs false
def name_plain.f (a0 : Int) : Option (Bool) := (name_letter.f a0).bind fun t101 => (if t101 = true then (some true) else (if a0 ≥ 48 then (if a0 ≤ 57 then (some true) else ((strings_IndexByte.f (⟨#[44, 46, 95, 43, 45]⟩ : ByteArray) a0).bind fun t102 => (some (decide (t102 ≥ 0))))) else ((strings_IndexByte.f (⟨#[44, 46, 95, 43, 45]⟩ : ByteArray) a0).bind fun t103 => (some (decide (t103 ≥ 0))))))
set_option maxHeartbeats 8000000 in
set_option maxRecDepth 100000 in
theorem name_plain.calls (a0 : Int) (r : Bool) (w : World) (h : name_plain.f a0 = some r) :
    Calls Try.prog 83 #[.int .u8 a0] w fun e w' => e = .returned (.bool r) ∧ Drawn0 w w' := by
  have H : ((name_letter.f a0).bind fun t101 => (if t101 = true then (some true) else (if a0 ≥ 48 then (if a0 ≤ 57 then (some true) else ((strings_IndexByte.f (⟨#[44, 46, 95, 43, 45]⟩ : ByteArray) a0).bind fun t102 => (some (decide (t102 ≥ 0))))) else ((strings_IndexByte.f (⟨#[44, 46, 95, 43, 45]⟩ : ByteArray) a0).bind fun t103 => (some (decide (t103 ≥ 0))))))) = some r := h
  clear h
  replace H := Option.bind_eq_some_iff.mp H
  obtain ⟨t101, A20, H⟩ := H
  replace H : (if t101 = true then (some true) else (if a0 ≥ 48 then (if a0 ≤ 57 then (some true) else ((strings_IndexByte.f (⟨#[44, 46, 95, 43, 45]⟩ : ByteArray) a0).bind fun t102 => (some (decide (t102 ≥ 0))))) else ((strings_IndexByte.f (⟨#[44, 46, 95, 43, 45]⟩ : ByteArray) a0).bind fun t103 => (some (decide (t103 ≥ 0)))))) = some r := H
  have A2 := Aside0.mk A20
  clear A20
  by_cases c3 : t101 = true
  · subst c3
    have H1 : (some true) = some r := by rw [if_pos rfl] at H; exact H
    clear H
    have H := H1
    clear H1
    obtain rfl := Option.some.inj H
    go_enter Try.func83, Try.ntmps83
    go_wp2_with (first | ((with_reducible refine gate_callee (f := 68) rfl ?_); refine goesL_ (some 4) rfl rfl Try.func68 (by kernel_rfl) rfl #[.int .u8 a0] rfl (by (try simp only [List.map_toArray, List.map_cons, List.map_nil]); first | done | rfl | (simp only [List.length_drop, List.length_take]; rfl)) ?_; (with_reducible refine (name_letter.calls a0 true _ A2.out).mono ?_); rintro e w' ⟨rfl, ⟨nd, rfl⟩⟩; refine ⟨_, rfl, ?_⟩))
    go_ret
    exact ⟨by first | rfl | (simp; done) | (simp [*]; done), by repeat (first | exact Drawn0.refl _ | apply Drawn0.step)⟩
  · replace c3 := Bool.eq_false_iff.mpr c3
    subst c3
    have H1 : (if a0 ≥ 48 then (if a0 ≤ 57 then (some true) else ((strings_IndexByte.f (⟨#[44, 46, 95, 43, 45]⟩ : ByteArray) a0).bind fun t102 => (some (decide (t102 ≥ 0))))) else ((strings_IndexByte.f (⟨#[44, 46, 95, 43, 45]⟩ : ByteArray) a0).bind fun t103 => (some (decide (t103 ≥ 0))))) = some r := by rw [if_neg (show ¬ (false = true) by decide)] at H; exact H
    clear H
    have H := H1
    clear H1
    by_cases c4 : a0 ≥ 48
    · rw [if_pos c4] at H
      have c4b0 : decide (48 ≤ a0) = true := decide_eq_true c4
      clear c4
      by_cases c5 : a0 ≤ 57
      · rw [if_pos c5] at H
        have c5b0 : decide (a0 ≤ 57) = true := decide_eq_true c5
        clear c5
        obtain rfl := Option.some.inj H
        go_enter Try.func83, Try.ntmps83
        go_wp2_with (first | ((with_reducible refine gate_callee (f := 68) rfl ?_); refine goesL_ (some 4) rfl rfl Try.func68 (by kernel_rfl) rfl #[.int .u8 a0] rfl (by (try simp only [List.map_toArray, List.map_cons, List.map_nil]); first | done | rfl | (simp only [List.length_drop, List.length_take]; rfl)) ?_; (with_reducible refine (name_letter.calls a0 false _ A2.out).mono ?_); rintro e w' ⟨rfl, ⟨nd, rfl⟩⟩; refine ⟨_, rfl, ?_⟩))
        go_ret
        exact ⟨by first | rfl | (simp; done) | (simp [*]; done), by repeat (first | exact Drawn0.refl _ | apply Drawn0.step)⟩
      · rw [if_neg c5] at H
        have c5b0 : decide (a0 ≤ 57) = false := decide_eq_false c5
        clear c5
        replace H := Option.bind_eq_some_iff.mp H
        obtain ⟨t102, A60, H⟩ := H
        replace H : (some (decide (t102 ≥ 0))) = some r := H
        have A6 := Aside0.mk A60
        clear A60
        obtain rfl := Option.some.inj H
        go_enter Try.func83, Try.ntmps83
        go_wp2_with (first | ((with_reducible refine gate_callee (f := 68) rfl ?_); refine goesL_ (some 4) rfl rfl Try.func68 (by kernel_rfl) rfl #[.int .u8 a0] rfl (by (try simp only [List.map_toArray, List.map_cons, List.map_nil]); first | done | rfl | (simp only [List.length_drop, List.length_take]; rfl)) ?_; (with_reducible refine (name_letter.calls a0 false _ A2.out).mono ?_); rintro e w' ⟨rfl, ⟨nd, rfl⟩⟩; refine ⟨_, rfl, ?_⟩) | (go_at_call 84; (with_reducible refine (strings_IndexByte.calls (⟨#[44, 46, 95, 43, 45]⟩ : ByteArray) a0 t102 _ A6.out).mono ?_); rintro e w' ⟨rfl, ⟨nd, rfl⟩⟩))
        go_ret
        exact ⟨by first | rfl | (simp; done) | (simp [*]; done), by repeat (first | exact Drawn0.refl _ | apply Drawn0.step)⟩
    · rw [if_neg c4] at H
      have c4b0 : decide (48 ≤ a0) = false := decide_eq_false c4
      clear c4
      replace H := Option.bind_eq_some_iff.mp H
      obtain ⟨t103, A70, H⟩ := H
      replace H : (some (decide (t103 ≥ 0))) = some r := H
      have A7 := Aside0.mk A70
      clear A70
      obtain rfl := Option.some.inj H
      go_enter Try.func83, Try.ntmps83
      go_wp2_with (first | ((with_reducible refine gate_callee (f := 68) rfl ?_); refine goesL_ (some 4) rfl rfl Try.func68 (by kernel_rfl) rfl #[.int .u8 a0] rfl (by (try simp only [List.map_toArray, List.map_cons, List.map_nil]); first | done | rfl | (simp only [List.length_drop, List.length_take]; rfl)) ?_; (with_reducible refine (name_letter.calls a0 false _ A2.out).mono ?_); rintro e w' ⟨rfl, ⟨nd, rfl⟩⟩; refine ⟨_, rfl, ?_⟩) | (go_at_call 84; (with_reducible refine (strings_IndexByte.calls (⟨#[44, 46, 95, 43, 45]⟩ : ByteArray) a0 t103 _ A7.out).mono ?_); rintro e w' ⟨rfl, ⟨nd, rfl⟩⟩))
      go_ret
      exact ⟨by first | rfl | (simp; done) | (simp [*]; done), by repeat (first | exact Drawn0.refl _ | apply Drawn0.step)⟩
end Go.Proofs.Yteejaaeglfpcmab.PC

namespace Go.Proofs.Yteejaaeglfpcmab.PC
open Go.RowKit Go.Proofs.YteejaaeglfpcmabW.PrintWords Go.Proofs.YteejaaeglfpcmabW.PrintLast Go.Proofs.YteejaaeglfpcmabW.PrintMore
attribute [local go_sem] max2_int min2_int max_two min_two max_three min_three max_four min_four   -- for this text's walks alone
set_option linter.unusedVariables false
set_option linter.unusedSimpArgs false
def name_all.l0 : Nat → ByteArray → ByteArray → Int → Int → Option (Bool)
  | 0, _, _, _, _ => none
  | k + 1, x0, x1, x7, x8 => if x8 < x7 then (if 0 ≤ x8 then (if x8 < (x0.size : Int) then ((name_plain.f (bt x0 x8)).bind fun t104 => (if t104 = true then (name_all.l0 k x0 x1 x7 (wrap64 (x8 + 1))) else ((strings_IndexByte.f x1 (bt x0 x8)).bind fun t105 => (if t105 < 0 then (some false) else (name_all.l0 k x0 x1 x7 (wrap64 (x8 + 1))))))) else (none)) else (none)) else (if (x0.size : Int) ≥ 1 then (some (decide ((x0.size : Int) ≤ 31))) else (some false))
def name_all.f (k : Nat) (a0 : ByteArray) (a1 : ByteArray) : Option (Bool) := name_all.l0 k a0 a1 (a0.size : Int) 0
set_option maxHeartbeats 8000000 in
set_option maxRecDepth 100000 in
theorem name_all.calls (k : Nat) (a0 : ByteArray) (a1 : ByteArray) (r : Bool) (w : World) (h : name_all.f k a0 a1 = some r) :
    Calls Try.prog 67 #[.string a0, .string a1] w fun e w' => e = .returned (.bool r) ∧ Drawn0 w w' := by
  have H : (name_all.l0 k a0 a1 (a0.size : Int) 0) = some r := h
  clear h
  have H' := Aside0.mk H
  clear H
  go_enter Try.func67, Try.ntmps67
  go_wp2
  go_loopg [8] k (fun kq v8 w' => ∃ (x8_1 : Int), v8 = .int .i64 x8_1 ∧ Aside0 (name_all.l0 kq a0 a1 (a0.size : Int) x8_1 = some r) ∧ Aside0 (kq ≤ k) ∧ Drawn0 w w')
  case atStart => exact ⟨(0), (by first | rfl | (simp; done) | (simp [*]; done)), H', ⟨Nat.le_refl _⟩, by repeat (first | exact Drawn0.refl _ | apply Drawn0.step)⟩
  case round =>
    clear H'
    try clear p2
    obtain ⟨x8_1, rfl, HA, HK1, ⟨m1, rfl⟩⟩ := hrel
    cases gk with
    | zero => exact absurd HA.out (by simp [name_all.l0])
    | succ k1 =>
      have H := HA.out
      clear HA
      simp only [name_all.l0] at H
      by_cases c3 : x8_1 < (a0.size : Int)
      · rw [if_pos c3] at H
        have c3b0 : decide (x8_1 < (a0.size : Int)) = true := decide_eq_true c3
        clear c3
        by_cases c4 : 0 ≤ x8_1
        · rw [if_pos c4] at H
          have c4b0 : decide (0 ≤ x8_1) = true := decide_eq_true c4
          clear c4
          by_cases c5 : x8_1 < (a0.size : Int)
          · rw [if_pos c5] at H
            have c5b0 : decide (x8_1 < (a0.size : Int)) = true := decide_eq_true c5
            clear c5
            replace H := Option.bind_eq_some_iff.mp H
            obtain ⟨t104, A70, H⟩ := H
            replace H : (if t104 = true then (name_all.l0 k1 a0 a1 (a0.size : Int) (wrap64 (x8_1 + 1))) else ((strings_IndexByte.f a1 (bt a0 x8_1)).bind fun t105 => (if t105 < 0 then (some false) else (name_all.l0 k1 a0 a1 (a0.size : Int) (wrap64 (x8_1 + 1)))))) = some r := H
            have A7 := Aside0.mk A70
            clear A70
            by_cases c8 : t104 = true
            · subst c8
              have H1 : (name_all.l0 k1 a0 a1 (a0.size : Int) (wrap64 (x8_1 + 1))) = some r := by rw [if_pos rfl] at H; exact H
              clear H
              have H := H1
              clear H1
              have H' := Aside0.mk H
              clear H
              have p6 : 0 ≤ (x8_1 : Int) := of_decide_eq_true (by first | (with_reducible assumption) | assumption)
              have q6 : x8_1 < (a0.size : Int) := of_decide_eq_true (by first | (with_reducible assumption) | assumption)
              have hx6 := bt_at a0 x8_1
              replace p6 := eq_true p6
              replace q6 := eq_true q6
              go_wp2_with (first | ((with_reducible refine gate_callee (f := 83) rfl ?_); refine goesL_ (some 14) rfl rfl Try.func83 (by kernel_rfl) rfl #[.int .u8 (bt a0 x8_1)] rfl (by (try simp only [List.map_toArray, List.map_cons, List.map_nil]); first | done | rfl | (simp only [List.length_drop, List.length_take]; rfl)) ?_; (with_reducible refine (name_plain.calls (bt a0 x8_1) true _ A7.out).mono ?_); rintro e w' ⟨rfl, ⟨nd, rfl⟩⟩; refine ⟨_, rfl, ?_⟩))
              go_roundg k1
              case measure => have := HK1.out; omega
              case rel => exact ⟨(wrap64 (x8_1 + 1)), (by first | rfl | (simp; done) | (simp [*]; done)), H', ⟨by have := HK1.out; omega⟩, by repeat (first | exact Drawn0.refl _ | apply Drawn0.step)⟩
            · replace c8 := Bool.eq_false_iff.mpr c8
              subst c8
              have H1 : ((strings_IndexByte.f a1 (bt a0 x8_1)).bind fun t105 => (if t105 < 0 then (some false) else (name_all.l0 k1 a0 a1 (a0.size : Int) (wrap64 (x8_1 + 1))))) = some r := by rw [if_neg (show ¬ (false = true) by decide)] at H; exact H
              clear H
              have H := H1
              clear H1
              replace H := Option.bind_eq_some_iff.mp H
              obtain ⟨t105, A100, H⟩ := H
              replace H : (if t105 < 0 then (some false) else (name_all.l0 k1 a0 a1 (a0.size : Int) (wrap64 (x8_1 + 1)))) = some r := H
              have A10 := Aside0.mk A100
              clear A100
              by_cases c11 : t105 < 0
              · rw [if_pos c11] at H
                have c11b0 : decide (t105 < 0) = true := decide_eq_true c11
                clear c11
                obtain rfl := Option.some.inj H
                have p6 : 0 ≤ (x8_1 : Int) := of_decide_eq_true (by first | (with_reducible assumption) | assumption)
                have q6 : x8_1 < (a0.size : Int) := of_decide_eq_true (by first | (with_reducible assumption) | assumption)
                have hx6 := bt_at a0 x8_1
                replace p6 := eq_true p6
                replace q6 := eq_true q6
                go_wp2_with (first | ((with_reducible refine gate_callee (f := 83) rfl ?_); refine goesL_ (some 14) rfl rfl Try.func83 (by kernel_rfl) rfl #[.int .u8 (bt a0 x8_1)] rfl (by (try simp only [List.map_toArray, List.map_cons, List.map_nil]); first | done | rfl | (simp only [List.length_drop, List.length_take]; rfl)) ?_; (with_reducible refine (name_plain.calls (bt a0 x8_1) false _ A7.out).mono ?_); rintro e w' ⟨rfl, ⟨nd, rfl⟩⟩; refine ⟨_, rfl, ?_⟩; have p9 : 0 ≤ (x8_1 : Int) := of_decide_eq_true (by first | (with_reducible assumption) | assumption); have q9 : x8_1 < (a0.size : Int) := of_decide_eq_true (by first | (with_reducible assumption) | assumption); have hx9 := bt_at a0 x8_1; replace p9 := eq_true p9; replace q9 := eq_true q9) | (go_at_call 84; (with_reducible refine (strings_IndexByte.calls a1 (bt a0 x8_1) t105 _ A10.out).mono ?_); rintro e w' ⟨rfl, ⟨nd, rfl⟩⟩))
                go_ret
                exact ⟨by first | rfl | (simp; done) | (simp [*]; done), by repeat (first | exact Drawn0.refl _ | apply Drawn0.step)⟩
              · rw [if_neg c11] at H
                have c11b0 : decide (t105 < 0) = false := decide_eq_false c11
                clear c11
                have H' := Aside0.mk H
                clear H
                have p6 : 0 ≤ (x8_1 : Int) := of_decide_eq_true (by first | (with_reducible assumption) | assumption)
                have q6 : x8_1 < (a0.size : Int) := of_decide_eq_true (by first | (with_reducible assumption) | assumption)
                have hx6 := bt_at a0 x8_1
                replace p6 := eq_true p6
                replace q6 := eq_true q6
                go_wp2_with (first | ((with_reducible refine gate_callee (f := 83) rfl ?_); refine goesL_ (some 14) rfl rfl Try.func83 (by kernel_rfl) rfl #[.int .u8 (bt a0 x8_1)] rfl (by (try simp only [List.map_toArray, List.map_cons, List.map_nil]); first | done | rfl | (simp only [List.length_drop, List.length_take]; rfl)) ?_; (with_reducible refine (name_plain.calls (bt a0 x8_1) false _ A7.out).mono ?_); rintro e w' ⟨rfl, ⟨nd, rfl⟩⟩; refine ⟨_, rfl, ?_⟩; have p9 : 0 ≤ (x8_1 : Int) := of_decide_eq_true (by first | (with_reducible assumption) | assumption); have q9 : x8_1 < (a0.size : Int) := of_decide_eq_true (by first | (with_reducible assumption) | assumption); have hx9 := bt_at a0 x8_1; replace p9 := eq_true p9; replace q9 := eq_true q9) | (go_at_call 84; (with_reducible refine (strings_IndexByte.calls a1 (bt a0 x8_1) t105 _ A10.out).mono ?_); rintro e w' ⟨rfl, ⟨nd, rfl⟩⟩))
                go_roundg k1
                case measure => have := HK1.out; omega
                case rel => exact ⟨(wrap64 (x8_1 + 1)), (by first | rfl | (simp; done) | (simp [*]; done)), H', ⟨by have := HK1.out; omega⟩, by repeat (first | exact Drawn0.refl _ | apply Drawn0.step)⟩
          · rw [if_neg c5] at H
            exact absurd H (by simp)
        · rw [if_neg c4] at H
          exact absurd H (by simp)
      · rw [if_neg c3] at H
        have c3b0 : decide (x8_1 < (a0.size : Int)) = false := decide_eq_false c3
        clear c3
        by_cases c12 : (a0.size : Int) ≥ 1
        · rw [if_pos c12] at H
          have c12b0 : decide (1 ≤ (a0.size : Int)) = true := decide_eq_true c12
          have c12b1 : decide (1 ≤ a0.size) = true := decide_eq_true (by omega)
          clear c12
          obtain rfl := Option.some.inj H
          go_wp2
          go_ret
          exact ⟨by first | rfl | (simp; done) | (simp [*]; done), by repeat (first | exact Drawn0.refl _ | apply Drawn0.step)⟩
        · rw [if_neg c12] at H
          have c12b0 : decide (1 ≤ (a0.size : Int)) = false := decide_eq_false c12
          have c12b1 : decide (1 ≤ a0.size) = false := decide_eq_false (by omega)
          clear c12
          obtain rfl := Option.some.inj H
          go_wp2
          go_ret
          exact ⟨by first | rfl | (simp; done) | (simp [*]; done), by repeat (first | exact Drawn0.refl _ | apply Drawn0.step)⟩
end Go.Proofs.Yteejaaeglfpcmab.PC

namespace Go.Proofs.Yteejaaeglfpcmab.PC
open Go.RowKit Go.Proofs.YteejaaeglfpcmabW.PrintWords Go.Proofs.YteejaaeglfpcmabW.PrintLast Go.Proofs.YteejaaeglfpcmabW.PrintMore
attribute [local go_sem] max2_int min2_int max_two min_two max_three min_three max_four min_four   -- for this text's walks alone
set_option linter.unusedVariables false
set_option linter.unusedSimpArgs false
def name_Prop.f (k : Nat) (a0 : ByteArray) : Option (Bool) := (name_all.f k a0 (⟨#[63, 35]⟩ : ByteArray)).bind fun t106 => (some t106)
set_option maxHeartbeats 8000000 in
set_option maxRecDepth 100000 in
theorem name_Prop.calls (k : Nat) (a0 : ByteArray) (r : Bool) (w : World) (h : name_Prop.f k a0 = some r) :
    Calls Try.prog 80 #[.string a0] w fun e w' => e = .returned (.bool r) ∧ Drawn0 w w' := by
  have H : ((name_all.f k a0 (⟨#[63, 35]⟩ : ByteArray)).bind fun t106 => (some t106)) = some r := h
  clear h
  replace H := Option.bind_eq_some_iff.mp H
  obtain ⟨t106, A20, H⟩ := H
  replace H : (some t106) = some r := H
  have A2 := Aside0.mk A20
  clear A20
  obtain rfl := Option.some.inj H
  go_enter Try.func80, Try.ntmps80
  go_wp2_with (first | ((with_reducible refine gate_callee (f := 67) rfl ?_); refine goesL_ (some 4) rfl rfl Try.func67 (by kernel_rfl) rfl #[.string a0, .string (⟨#[63, 35]⟩ : ByteArray)] rfl (by (try simp only [List.map_toArray, List.map_cons, List.map_nil]); first | done | rfl | (simp only [List.length_drop, List.length_take]; rfl)) ?_; (with_reducible refine (name_all.calls k a0 (⟨#[63, 35]⟩ : ByteArray) t106 _ A2.out).mono ?_); rintro e w' ⟨rfl, ⟨nd, rfl⟩⟩; refine ⟨_, rfl, ?_⟩))
  go_ret
  exact ⟨by first | rfl | (simp; done) | (simp [*]; done), by repeat (first | exact Drawn0.refl _ | apply Drawn0.step)⟩
end Go.Proofs.Yteejaaeglfpcmab.PC

namespace Go.Proofs.Yteejaaeglfpcmab.PC
open Go.RowKit Go.Proofs.YteejaaeglfpcmabW.PrintWords Go.Proofs.YteejaaeglfpcmabW.PrintLast Go.Proofs.YteejaaeglfpcmabW.PrintMore
attribute [local go_sem] max2_int min2_int max_two min_two max_three min_three max_four min_four   -- for this text's walks alone
set_option linter.unusedVariables false
set_option linter.unusedSimpArgs false
def stringslite_Index.f (a0 : ByteArray) (a1 : ByteArray) : Option (Int) := match a1.data.toList with | [c] => some (Lib.indexByte a0.data.toList c) | _ => none
theorem stringslite_Index.calls (a0 : ByteArray) (a1 : ByteArray) (r : Int) (w : World) (h : stringslite_Index.f a0 a1 = some r) :
    Calls Try.prog 85 #[.string a0, .string a1] w fun e w' => e = .returned (.int .i64 r) ∧ Drawn0 w w' := by
  unfold stringslite_Index.f at h
  split at h
  · next c hc =>
    have ha : a1 = ⟨#[c]⟩ := by
      obtain ⟨⟨l⟩⟩ := a1
      simp only at hc
      rw [hc]
    subst ha
    injection h with hr
    refine (Try.stringslite_Index_one a0 c w).mono ?_
    rintro e w' ⟨rfl, rfl⟩
    exact ⟨by rw [hr], Drawn0.refl _⟩
  · cases h
end Go.Proofs.Yteejaaeglfpcmab.PC

namespace Go.Proofs.Yteejaaeglfpcmab.PC
open Go.RowKit Go.Proofs.YteejaaeglfpcmabW.PrintWords Go.Proofs.YteejaaeglfpcmabW.PrintLast Go.Proofs.YteejaaeglfpcmabW.PrintMore
attribute [local go_sem] max2_int min2_int max_two min_two max_three min_three max_four min_four   -- for this text's walks alone
set_option linter.unusedVariables false
set_option linter.unusedSimpArgs false
def stringslite_Cut.f (a0 : ByteArray) (a1 : ByteArray) : Option (ByteArray × ByteArray × Bool) := (stringslite_Index.f a0 a1).bind fun t145 => (if t145 ≥ 0 then (if 0 ≤ t145 then (if t145 ≤ (a0.size : Int) then (if 0 ≤ (wrap64 (t145 + (a1.size : Int))) then (if (wrap64 (t145 + (a1.size : Int))) ≤ (a0.size : Int) then (some (a0.extract 0 (t145 : Int).toNat, a0.extract ((wrap64 (t145 + (a1.size : Int))) : Int).toNat a0.size, true)) else (none)) else (none)) else (none)) else (none)) else (some (a0, (⟨#[]⟩ : ByteArray), false)))
set_option maxHeartbeats 8000000 in
set_option maxRecDepth 100000 in
theorem stringslite_Cut.calls (a0 : ByteArray) (a1 : ByteArray) (r1 : ByteArray) (r2 : ByteArray) (r3 : Bool) (w : World) (h : stringslite_Cut.f a0 a1 = some (r1, r2, r3)) :
    Calls Try.prog 69 #[.string a0, .string a1] w fun e w' => e = .returned (.tuple #[.string r1, .string r2, .bool r3]) ∧ Drawn0 w w' := by
  have H : ((stringslite_Index.f a0 a1).bind fun t145 => (if t145 ≥ 0 then (if 0 ≤ t145 then (if t145 ≤ (a0.size : Int) then (if 0 ≤ (wrap64 (t145 + (a1.size : Int))) then (if (wrap64 (t145 + (a1.size : Int))) ≤ (a0.size : Int) then (some (a0.extract 0 (t145 : Int).toNat, a0.extract ((wrap64 (t145 + (a1.size : Int))) : Int).toNat a0.size, true)) else (none)) else (none)) else (none)) else (none)) else (some (a0, (⟨#[]⟩ : ByteArray), false)))) = some (r1, r2, r3) := h
  clear h
  replace H := Option.bind_eq_some_iff.mp H
  obtain ⟨t145, A30, H⟩ := H
  replace H : (if t145 ≥ 0 then (if 0 ≤ t145 then (if t145 ≤ (a0.size : Int) then (if 0 ≤ (wrap64 (t145 + (a1.size : Int))) then (if (wrap64 (t145 + (a1.size : Int))) ≤ (a0.size : Int) then (some (a0.extract 0 (t145 : Int).toNat, a0.extract ((wrap64 (t145 + (a1.size : Int))) : Int).toNat a0.size, true)) else (none)) else (none)) else (none)) else (none)) else (some (a0, (⟨#[]⟩ : ByteArray), false))) = some (r1, r2, r3) := H
  have A3 := Aside0.mk A30
  clear A30
  by_cases c4 : t145 ≥ 0
  · rw [if_pos c4] at H
    have c4b0 : decide (0 ≤ t145) = true := decide_eq_true c4
    clear c4
    by_cases c5 : 0 ≤ t145
    · rw [if_pos c5] at H
      have c5b0 := eq_true c5
      have c5b1 : decide (0 ≤ t145) = true := decide_eq_true c5
      clear c5
      by_cases c6 : t145 ≤ (a0.size : Int)
      · rw [if_pos c6] at H
        have c6b0 := eq_true c6
        have c6b1 : decide (t145 ≤ (a0.size : Int)) = true := decide_eq_true c6
        clear c6
        obtain ⟨ji7, hji7⟩ : ∃ j_ : Int, (wrap64 (t145 + (a1.size : Int))) = j_ := ⟨_, rfl⟩
        replace H : (if 0 ≤ (ji7) then (if (ji7) ≤ (a0.size : Int) then (some (a0.extract 0 (t145 : Int).toNat, a0.extract ((ji7) : Int).toNat a0.size, true)) else (none)) else (none)) = some (r1, r2, r3) := by first | (rw [hji7] at H; exact H) | (simp only [hji7] at H ⊢; exact H)
        (try rw [hji7] at A3)
        have hji7w : (IntKind.i64.wrap (t145 + (a1.size : Int))) = ji7 := (i64_w _).trans hji7
        by_cases c8 : 0 ≤ (ji7)
        · rw [if_pos c8] at H
          have c8b0 := eq_true c8
          have c8b1 : decide (0 ≤ (ji7)) = true := decide_eq_true c8
          clear c8
          by_cases c9 : (ji7) ≤ (a0.size : Int)
          · rw [if_pos c9] at H
            have c9b0 := eq_true c9
            have c9b1 : decide ((ji7) ≤ (a0.size : Int)) = true := decide_eq_true c9
            clear c9
            simp only [Option.some.injEq, Prod.mk.injEq] at H
            obtain ⟨rfl, rfl, rfl⟩ := H
            go_enter Try.func69, Try.ntmps69
            go_wp2_with (first | (go_at_call 85; (with_reducible refine (stringslite_Index.calls a0 a1 t145 _ A3.out).mono ?_); rintro e w' ⟨rfl, ⟨nd, rfl⟩⟩; (try first | exact ⟨rfl, _, World.drewN_drewN _ _ _⟩ | exact ⟨rfl, _, Eq.trans (World.drewN_drewN _ _ _) (congrArg (World.drewN _) (Nat.add_assoc _ _ _))⟩)))
            repeat (go_quiet (first | (go_at_call 85; (with_reducible refine (stringslite_Index.calls a0 a1 t145 _ A3.out).mono ?_); rintro e w' ⟨rfl, ⟨nd, rfl⟩⟩; (try first | exact ⟨rfl, _, World.drewN_drewN _ _ _⟩ | exact ⟨rfl, _, Eq.trans (World.drewN_drewN _ _ _) (congrArg (World.drewN _) (Nat.add_assoc _ _ _))⟩))); try go_wp2_with (first | (go_at_call 85; (with_reducible refine (stringslite_Index.calls a0 a1 t145 _ A3.out).mono ?_); rintro e w' ⟨rfl, ⟨nd, rfl⟩⟩; (try first | exact ⟨rfl, _, World.drewN_drewN _ _ _⟩ | exact ⟨rfl, _, Eq.trans (World.drewN_drewN _ _ _) (congrArg (World.drewN _) (Nat.add_assoc _ _ _))⟩))))
            go_ret3
            exact ⟨by first | rfl | (simp; done) | (simp only [← hji7] <;> (first | rfl | simp)) | (simp [*]; done), by repeat (first | exact Drawn0.refl _ | apply Drawn0.step)⟩
          · rw [if_neg c9] at H
            exact absurd H (by simp)
        · rw [if_neg c8] at H
          exact absurd H (by simp)
      · rw [if_neg c6] at H
        exact absurd H (by simp)
    · rw [if_neg c5] at H
      exact absurd H (by simp)
  · rw [if_neg c4] at H
    have c4b0 : decide (0 ≤ t145) = false := decide_eq_false c4
    clear c4
    simp only [Option.some.injEq, Prod.mk.injEq] at H
    obtain ⟨rfl, rfl, rfl⟩ := H
    go_enter Try.func69, Try.ntmps69
    go_wp2_with (first | (go_at_call 85; (with_reducible refine (stringslite_Index.calls a0 a1 t145 _ A3.out).mono ?_); rintro e w' ⟨rfl, ⟨nd, rfl⟩⟩; (try first | exact ⟨rfl, _, World.drewN_drewN _ _ _⟩ | exact ⟨rfl, _, Eq.trans (World.drewN_drewN _ _ _) (congrArg (World.drewN _) (Nat.add_assoc _ _ _))⟩)))
    repeat (go_quiet (first | (go_at_call 85; (with_reducible refine (stringslite_Index.calls a0 a1 t145 _ A3.out).mono ?_); rintro e w' ⟨rfl, ⟨nd, rfl⟩⟩; (try first | exact ⟨rfl, _, World.drewN_drewN _ _ _⟩ | exact ⟨rfl, _, Eq.trans (World.drewN_drewN _ _ _) (congrArg (World.drewN _) (Nat.add_assoc _ _ _))⟩))); try go_wp2_with (first | (go_at_call 85; (with_reducible refine (stringslite_Index.calls a0 a1 t145 _ A3.out).mono ?_); rintro e w' ⟨rfl, ⟨nd, rfl⟩⟩; (try first | exact ⟨rfl, _, World.drewN_drewN _ _ _⟩ | exact ⟨rfl, _, Eq.trans (World.drewN_drewN _ _ _) (congrArg (World.drewN _) (Nat.add_assoc _ _ _))⟩))))
    go_ret3
    exact ⟨by first | rfl | (simp; done) | (simp [*]; done), by repeat (first | exact Drawn0.refl _ | apply Drawn0.step)⟩
end Go.Proofs.Yteejaaeglfpcmab.PC

namespace Go.Proofs.Yteejaaeglfpcmab.PC
open Go.RowKit Go.Proofs.YteejaaeglfpcmabW.PrintWords Go.Proofs.YteejaaeglfpcmabW.PrintLast Go.Proofs.YteejaaeglfpcmabW.PrintMore
attribute [local go_sem] max2_int min2_int max_two min_two max_three min_three max_four min_four   -- for this text's walks alone
set_option linter.unusedVariables false
set_option linter.unusedSimpArgs false
def strings_Cut.f (a0 : ByteArray) (a1 : ByteArray) : Option (ByteArray × ByteArray × Bool) := (stringslite_Cut.f a0 a1).bind fun bt146 => (some (bt146.1, bt146.2.1, bt146.2.2))
set_option maxHeartbeats 8000000 in
set_option maxRecDepth 100000 in
theorem strings_Cut.calls (a0 : ByteArray) (a1 : ByteArray) (r1 : ByteArray) (r2 : ByteArray) (r3 : Bool) (w : World) (h : strings_Cut.f a0 a1 = some (r1, r2, r3)) :
    Calls Try.prog 41 #[.string a0, .string a1] w fun e w' => e = .returned (.tuple #[.string r1, .string r2, .bool r3]) ∧ Drawn0 w w' := by
  have H : ((stringslite_Cut.f a0 a1).bind fun bt146 => (some (bt146.1, bt146.2.1, bt146.2.2))) = some (r1, r2, r3) := h
  clear h
  replace H := Option.bind_eq_some_iff.mp H
  obtain ⟨⟨t146, t147, t148⟩, A30, H⟩ := H
  replace H : (some (t146, t147, t148)) = some (r1, r2, r3) := H
  have A3 := Aside0.mk A30
  clear A30
  simp only [Option.some.injEq, Prod.mk.injEq] at H
  obtain ⟨rfl, rfl, rfl⟩ := H
  go_enter Try.func41, Try.ntmps41
  go_wp2_with (first | ((with_reducible refine gate_callee (f := 69) rfl ?_); refine goesL_ (some 9) rfl rfl Try.func69 (by kernel_rfl) rfl #[.string a0, .string a1] rfl (by (try simp only [List.map_toArray, List.map_cons, List.map_nil]); first | done | rfl | (simp only [List.length_drop, List.length_take]; rfl)) ?_; (with_reducible refine (stringslite_Cut.calls a0 a1 t146 t147 t148 _ A3.out).mono ?_); rintro e w' ⟨rfl, ⟨nd, rfl⟩⟩; refine ⟨_, rfl, ?_⟩))
  go_ret3
  exact ⟨by first | rfl | (simp; done) | (simp [*]; done), by repeat (first | exact Drawn0.refl _ | apply Drawn0.step)⟩
end Go.Proofs.Yteejaaeglfpcmab.PC

namespace Go.Proofs.Yteejaaeglfpcmab.PC
open Go.RowKit Go.Proofs.YteejaaeglfpcmabW.PrintWords Go.Proofs.YteejaaeglfpcmabW.PrintLast Go.Proofs.YteejaaeglfpcmabW.PrintMore
attribute [local go_sem] max2_int min2_int max_two min_two max_three min_three max_four min_four   -- for this text's walks alone
set_option linter.unusedVariables false
set_option linter.unusedSimpArgs false
def name_Node.f (k : Nat) (a0 : ByteArray) : Option (Bool) := (strings_Cut.f a0 (⟨#[64]⟩ : ByteArray)).bind fun bt149 => ((name_all.f k bt149.1 (⟨#[]⟩ : ByteArray)).bind fun t152 => (if t152 = true then (if 0 < (bt149.1.size : Int) then ((name_letter.f (bt bt149.1 0)).bind fun t153 => (if t153 = true then (if bt149.2.2 = true then ((name_all.f k bt149.2.1 (⟨#[]⟩ : ByteArray)).bind fun t154 => (some t154)) else (some true)) else (if (bt bt149.1 0) = 95 then (if bt149.2.2 = true then ((name_all.f k bt149.2.1 (⟨#[]⟩ : ByteArray)).bind fun t155 => (some t155)) else (some true)) else (some false)))) else (none)) else (some false)))
set_option maxHeartbeats 8000000 in
set_option maxRecDepth 100000 in
theorem name_Node.calls (k : Nat) (a0 : ByteArray) (r : Bool) (w : World) (h : name_Node.f k a0 = some r) :
    Calls Try.prog 40 #[.string a0] w fun e w' => e = .returned (.bool r) ∧ Drawn0 w w' := by
  have H : ((strings_Cut.f a0 (⟨#[64]⟩ : ByteArray)).bind fun bt149 => ((name_all.f k bt149.1 (⟨#[]⟩ : ByteArray)).bind fun t152 => (if t152 = true then (if 0 < (bt149.1.size : Int) then ((name_letter.f (bt bt149.1 0)).bind fun t153 => (if t153 = true then (if bt149.2.2 = true then ((name_all.f k bt149.2.1 (⟨#[]⟩ : ByteArray)).bind fun t154 => (some t154)) else (some true)) else (if (bt bt149.1 0) = 95 then (if bt149.2.2 = true then ((name_all.f k bt149.2.1 (⟨#[]⟩ : ByteArray)).bind fun t155 => (some t155)) else (some true)) else (some false)))) else (none)) else (some false)))) = some r := h
  clear h
  replace H := Option.bind_eq_some_iff.mp H
  obtain ⟨⟨t149, t150, t151⟩, A20, H⟩ := H
  replace H : ((name_all.f k t149 (⟨#[]⟩ : ByteArray)).bind fun t152 => (if t152 = true then (if 0 < (t149.size : Int) then ((name_letter.f (bt t149 0)).bind fun t153 => (if t153 = true then (if t151 = true then ((name_all.f k t150 (⟨#[]⟩ : ByteArray)).bind fun t154 => (some t154)) else (some true)) else (if (bt t149 0) = 95 then (if t151 = true then ((name_all.f k t150 (⟨#[]⟩ : ByteArray)).bind fun t155 => (some t155)) else (some true)) else (some false)))) else (none)) else (some false))) = some r := H
  have A2 := Aside0.mk A20
  clear A20
  replace H := Option.bind_eq_some_iff.mp H
  obtain ⟨t152, A30, H⟩ := H
  replace H : (if t152 = true then (if 0 < (t149.size : Int) then ((name_letter.f (bt t149 0)).bind fun t153 => (if t153 = true then (if t151 = true then ((name_all.f k t150 (⟨#[]⟩ : ByteArray)).bind fun t154 => (some t154)) else (some true)) else (if (bt t149 0) = 95 then (if t151 = true then ((name_all.f k t150 (⟨#[]⟩ : ByteArray)).bind fun t155 => (some t155)) else (some true)) else (some false)))) else (none)) else (some false)) = some r := H
  have A3 := Aside0.mk A30
  clear A30
  by_cases c4 : t152 = true
  · subst c4
    have H1 : (if 0 < (t149.size : Int) then ((name_letter.f (bt t149 0)).bind fun t153 => (if t153 = true then (if t151 = true then ((name_all.f k t150 (⟨#[]⟩ : ByteArray)).bind fun t154 => (some t154)) else (some true)) else (if (bt t149 0) = 95 then (if t151 = true then ((name_all.f k t150 (⟨#[]⟩ : ByteArray)).bind fun t155 => (some t155)) else (some true)) else (some false)))) else (none)) = some r := by rw [if_pos rfl] at H; exact H
    clear H
    have H := H1
    clear H1
    by_cases c5 : 0 < (t149.size : Int)
    · rw [if_pos c5] at H
      have c5b0 : decide (0 < (t149.size : Int)) = true := decide_eq_true c5
      have c5b1 : decide (0 < t149.size) = true := decide_eq_true (by omega)
      clear c5
      replace H := Option.bind_eq_some_iff.mp H
      obtain ⟨t153, A70, H⟩ := H
      replace H : (if t153 = true then (if t151 = true then ((name_all.f k t150 (⟨#[]⟩ : ByteArray)).bind fun t154 => (some t154)) else (some true)) else (if (bt t149 0) = 95 then (if t151 = true then ((name_all.f k t150 (⟨#[]⟩ : ByteArray)).bind fun t155 => (some t155)) else (some true)) else (some false))) = some r := H
      have A7 := Aside0.mk A70
      clear A70
      by_cases c8 : t153 = true
      · subst c8
        have H1 : (if t151 = true then ((name_all.f k t150 (⟨#[]⟩ : ByteArray)).bind fun t154 => (some t154)) else (some true)) = some r := by rw [if_pos rfl] at H; exact H
        clear H
        have H := H1
        clear H1
        by_cases c9 : t151 = true
        · subst c9
          have H1 : ((name_all.f k t150 (⟨#[]⟩ : ByteArray)).bind fun t154 => (some t154)) = some r := by rw [if_pos rfl] at H; exact H
          clear H
          have H := H1
          clear H1
          replace H := Option.bind_eq_some_iff.mp H
          obtain ⟨t154, A100, H⟩ := H
          replace H : (some t154) = some r := H
          have A10 := Aside0.mk A100
          clear A100
          obtain rfl := Option.some.inj H
          go_enter Try.func40, Try.ntmps40
          go_wp2_with (first | ((with_reducible refine gate_callee (f := 41) rfl ?_); refine goesL_ (some 8) rfl rfl Try.func41 (by kernel_rfl) rfl #[.string a0, .string (⟨#[64]⟩ : ByteArray)] rfl (by (try simp only [List.map_toArray, List.map_cons, List.map_nil]); first | done | rfl | (simp only [List.length_drop, List.length_take]; rfl)) ?_; (with_reducible refine (strings_Cut.calls a0 (⟨#[64]⟩ : ByteArray) t149 t150 true _ A2.out).mono ?_); rintro e w' ⟨rfl, ⟨nd, rfl⟩⟩; refine ⟨_, rfl, ?_⟩) | ((with_reducible refine gate_callee (f := 67) rfl ?_); refine goesL_ (some 13) rfl rfl Try.func67 (by kernel_rfl) rfl #[.string t149, .string (⟨#[]⟩ : ByteArray)] rfl (by (try simp only [List.map_toArray, List.map_cons, List.map_nil]); first | done | rfl | (simp only [List.length_drop, List.length_take]; rfl)) ?_; (with_reducible refine (name_all.calls k t149 (⟨#[]⟩ : ByteArray) true _ A3.out).mono ?_); rintro e w' ⟨rfl, ⟨nd, rfl⟩⟩; refine ⟨_, rfl, ?_⟩; have p6 : 0 ≤ (0 : Int) := (by omega); have q6 : 0 < t149.size := (by have : (0 : Int) < (t149.size : Int) := of_decide_eq_true (by first | (with_reducible assumption) | assumption); omega); have hx6 : ∀ h : 0 < t149.size, ((t149[0]'h).toNat : Int) = bt t149 0 := bt_at t149 0; clear p6; have qi6 : (0 < (t149.size : Int)) = True := eq_true (of_decide_eq_true (by first | (with_reducible assumption) | assumption)); replace q6 := eq_true q6) | (go_at_call 68; (with_reducible refine (name_letter.calls (bt t149 0) true _ A7.out).mono ?_); rintro e w' ⟨rfl, ⟨nd, rfl⟩⟩) | (go_at_call 67; (with_reducible refine (name_all.calls k t150 (⟨#[]⟩ : ByteArray) t154 _ A10.out).mono ?_); rintro e w' ⟨rfl, ⟨nd, rfl⟩⟩))
          go_ret
          exact ⟨by first | rfl | (simp; done) | (simp [*]; done), by repeat (first | exact Drawn0.refl _ | apply Drawn0.step)⟩
        · replace c9 := Bool.eq_false_iff.mpr c9
          subst c9
          have H1 : (some true) = some r := by rw [if_neg (show ¬ (false = true) by decide)] at H; exact H
          clear H
          have H := H1
          clear H1
          obtain rfl := Option.some.inj H
          go_enter Try.func40, Try.ntmps40
          go_wp2_with (first | ((with_reducible refine gate_callee (f := 41) rfl ?_); refine goesL_ (some 8) rfl rfl Try.func41 (by kernel_rfl) rfl #[.string a0, .string (⟨#[64]⟩ : ByteArray)] rfl (by (try simp only [List.map_toArray, List.map_cons, List.map_nil]); first | done | rfl | (simp only [List.length_drop, List.length_take]; rfl)) ?_; (with_reducible refine (strings_Cut.calls a0 (⟨#[64]⟩ : ByteArray) t149 t150 false _ A2.out).mono ?_); rintro e w' ⟨rfl, ⟨nd, rfl⟩⟩; refine ⟨_, rfl, ?_⟩) | ((with_reducible refine gate_callee (f := 67) rfl ?_); refine goesL_ (some 13) rfl rfl Try.func67 (by kernel_rfl) rfl #[.string t149, .string (⟨#[]⟩ : ByteArray)] rfl (by (try simp only [List.map_toArray, List.map_cons, List.map_nil]); first | done | rfl | (simp only [List.length_drop, List.length_take]; rfl)) ?_; (with_reducible refine (name_all.calls k t149 (⟨#[]⟩ : ByteArray) true _ A3.out).mono ?_); rintro e w' ⟨rfl, ⟨nd, rfl⟩⟩; refine ⟨_, rfl, ?_⟩; have p6 : 0 ≤ (0 : Int) := (by omega); have q6 : 0 < t149.size := (by have : (0 : Int) < (t149.size : Int) := of_decide_eq_true (by first | (with_reducible assumption) | assumption); omega); have hx6 : ∀ h : 0 < t149.size, ((t149[0]'h).toNat : Int) = bt t149 0 := bt_at t149 0; clear p6; have qi6 : (0 < (t149.size : Int)) = True := eq_true (of_decide_eq_true (by first | (with_reducible assumption) | assumption)); replace q6 := eq_true q6) | (go_at_call 68; (with_reducible refine (name_letter.calls (bt t149 0) true _ A7.out).mono ?_); rintro e w' ⟨rfl, ⟨nd, rfl⟩⟩))
          go_ret
          exact ⟨by first | rfl | (simp; done) | (simp [*]; done), by repeat (first | exact Drawn0.refl _ | apply Drawn0.step)⟩
      · replace c8 := Bool.eq_false_iff.mpr c8
        subst c8
        have H1 : (if (bt t149 0) = 95 then (if t151 = true then ((name_all.f k t150 (⟨#[]⟩ : ByteArray)).bind fun t155 => (some t155)) else (some true)) else (some false)) = some r := by rw [if_neg (show ¬ (false = true) by decide)] at H; exact H
        clear H
        have H := H1
        clear H1
        by_cases c12 : (bt t149 0) = 95
        · rw [if_pos c12] at H
          have c12b0 : ((bt t149 0) == 95) = true := beq_iff_eq.mpr c12
          have c12b1 : ((bt t149 0) != 95) = false := bne_eq_false_iff_eq.mpr c12
          clear c12
          by_cases c13 : t151 = true
          · subst c13
            have H1 : ((name_all.f k t150 (⟨#[]⟩ : ByteArray)).bind fun t155 => (some t155)) = some r := by rw [if_pos rfl] at H; exact H
            clear H
            have H := H1
            clear H1
            replace H := Option.bind_eq_some_iff.mp H
            obtain ⟨t155, A140, H⟩ := H
            replace H : (some t155) = some r := H
            have A14 := Aside0.mk A140
            clear A140
            obtain rfl := Option.some.inj H
            go_enter Try.func40, Try.ntmps40
            go_wp2_with (first | ((with_reducible refine gate_callee (f := 41) rfl ?_); refine goesL_ (some 8) rfl rfl Try.func41 (by kernel_rfl) rfl #[.string a0, .string (⟨#[64]⟩ : ByteArray)] rfl (by (try simp only [List.map_toArray, List.map_cons, List.map_nil]); first | done | rfl | (simp only [List.length_drop, List.length_take]; rfl)) ?_; (with_reducible refine (strings_Cut.calls a0 (⟨#[64]⟩ : ByteArray) t149 t150 true _ A2.out).mono ?_); rintro e w' ⟨rfl, ⟨nd, rfl⟩⟩; refine ⟨_, rfl, ?_⟩) | ((with_reducible refine gate_callee (f := 67) rfl ?_); refine goesL_ (some 13) rfl rfl Try.func67 (by kernel_rfl) rfl #[.string t149, .string (⟨#[]⟩ : ByteArray)] rfl (by (try simp only [List.map_toArray, List.map_cons, List.map_nil]); first | done | rfl | (simp only [List.length_drop, List.length_take]; rfl)) ?_; (with_reducible refine (name_all.calls k t149 (⟨#[]⟩ : ByteArray) true _ A3.out).mono ?_); rintro e w' ⟨rfl, ⟨nd, rfl⟩⟩; refine ⟨_, rfl, ?_⟩; have p6 : 0 ≤ (0 : Int) := (by omega); have q6 : 0 < t149.size := (by have : (0 : Int) < (t149.size : Int) := of_decide_eq_true (by first | (with_reducible assumption) | assumption); omega); have hx6 : ∀ h : 0 < t149.size, ((t149[0]'h).toNat : Int) = bt t149 0 := bt_at t149 0; clear p6; have qi6 : (0 < (t149.size : Int)) = True := eq_true (of_decide_eq_true (by first | (with_reducible assumption) | assumption)); replace q6 := eq_true q6) | (go_at_call 68; (with_reducible refine (name_letter.calls (bt t149 0) false _ A7.out).mono ?_); rintro e w' ⟨rfl, ⟨nd, rfl⟩⟩; have p11 : 0 ≤ (0 : Int) := (by omega); have q11 : 0 < t149.size := (by have : (0 : Int) < (t149.size : Int) := of_decide_eq_true (by first | (with_reducible assumption) | assumption); omega); have hx11 : ∀ h : 0 < t149.size, ((t149[0]'h).toNat : Int) = bt t149 0 := bt_at t149 0; clear p11; have qi11 : (0 < (t149.size : Int)) = True := eq_true (of_decide_eq_true (by first | (with_reducible assumption) | assumption)); replace q11 := eq_true q11) | (go_at_call 67; (with_reducible refine (name_all.calls k t150 (⟨#[]⟩ : ByteArray) t155 _ A14.out).mono ?_); rintro e w' ⟨rfl, ⟨nd, rfl⟩⟩))
            go_ret
            exact ⟨by first | rfl | (simp; done) | (simp [*]; done), by repeat (first | exact Drawn0.refl _ | apply Drawn0.step)⟩
          · replace c13 := Bool.eq_false_iff.mpr c13
            subst c13
            have H1 : (some true) = some r := by rw [if_neg (show ¬ (false = true) by decide)] at H; exact H
            clear H
            have H := H1
            clear H1
            obtain rfl := Option.some.inj H
            go_enter Try.func40, Try.ntmps40
            go_wp2_with (first | ((with_reducible refine gate_callee (f := 41) rfl ?_); refine goesL_ (some 8) rfl rfl Try.func41 (by kernel_rfl) rfl #[.string a0, .string (⟨#[64]⟩ : ByteArray)] rfl (by (try simp only [List.map_toArray, List.map_cons, List.map_nil]); first | done | rfl | (simp only [List.length_drop, List.length_take]; rfl)) ?_; (with_reducible refine (strings_Cut.calls a0 (⟨#[64]⟩ : ByteArray) t149 t150 false _ A2.out).mono ?_); rintro e w' ⟨rfl, ⟨nd, rfl⟩⟩; refine ⟨_, rfl, ?_⟩) | ((with_reducible refine gate_callee (f := 67) rfl ?_); refine goesL_ (some 13) rfl rfl Try.func67 (by kernel_rfl) rfl #[.string t149, .string (⟨#[]⟩ : ByteArray)] rfl (by (try simp only [List.map_toArray, List.map_cons, List.map_nil]); first | done | rfl | (simp only [List.length_drop, List.length_take]; rfl)) ?_; (with_reducible refine (name_all.calls k t149 (⟨#[]⟩ : ByteArray) true _ A3.out).mono ?_); rintro e w' ⟨rfl, ⟨nd, rfl⟩⟩; refine ⟨_, rfl, ?_⟩; have p6 : 0 ≤ (0 : Int) := (by omega); have q6 : 0 < t149.size := (by have : (0 : Int) < (t149.size : Int) := of_decide_eq_true (by first | (with_reducible assumption) | assumption); omega); have hx6 : ∀ h : 0 < t149.size, ((t149[0]'h).toNat : Int) = bt t149 0 := bt_at t149 0; clear p6; have qi6 : (0 < (t149.size : Int)) = True := eq_true (of_decide_eq_true (by first | (with_reducible assumption) | assumption)); replace q6 := eq_true q6) | (go_at_call 68; (with_reducible refine (name_letter.calls (bt t149 0) false _ A7.out).mono ?_); rintro e w' ⟨rfl, ⟨nd, rfl⟩⟩; have p11 : 0 ≤ (0 : Int) := (by omega); have q11 : 0 < t149.size := (by have : (0 : Int) < (t149.size : Int) := of_decide_eq_true (by first | (with_reducible assumption) | assumption); omega); have hx11 : ∀ h : 0 < t149.size, ((t149[0]'h).toNat : Int) = bt t149 0 := bt_at t149 0; clear p11; have qi11 : (0 < (t149.size : Int)) = True := eq_true (of_decide_eq_true (by first | (with_reducible assumption) | assumption)); replace q11 := eq_true q11))
            go_ret
            exact ⟨by first | rfl | (simp; done) | (simp [*]; done), by repeat (first | exact Drawn0.refl _ | apply Drawn0.step)⟩
        · rw [if_neg c12] at H
          have c12b0 : ((bt t149 0) == 95) = false := beq_eq_false_iff_ne.mpr c12
          have c12b1 : ((bt t149 0) != 95) = true := bne_iff_ne.mpr c12
          obtain rfl := Option.some.inj H
          go_enter Try.func40, Try.ntmps40
          go_wp2_with (first | ((with_reducible refine gate_callee (f := 41) rfl ?_); refine goesL_ (some 8) rfl rfl Try.func41 (by kernel_rfl) rfl #[.string a0, .string (⟨#[64]⟩ : ByteArray)] rfl (by (try simp only [List.map_toArray, List.map_cons, List.map_nil]); first | done | rfl | (simp only [List.length_drop, List.length_take]; rfl)) ?_; (with_reducible refine (strings_Cut.calls a0 (⟨#[64]⟩ : ByteArray) t149 t150 t151 _ A2.out).mono ?_); rintro e w' ⟨rfl, ⟨nd, rfl⟩⟩; refine ⟨_, rfl, ?_⟩) | ((with_reducible refine gate_callee (f := 67) rfl ?_); refine goesL_ (some 13) rfl rfl Try.func67 (by kernel_rfl) rfl #[.string t149, .string (⟨#[]⟩ : ByteArray)] rfl (by (try simp only [List.map_toArray, List.map_cons, List.map_nil]); first | done | rfl | (simp only [List.length_drop, List.length_take]; rfl)) ?_; (with_reducible refine (name_all.calls k t149 (⟨#[]⟩ : ByteArray) true _ A3.out).mono ?_); rintro e w' ⟨rfl, ⟨nd, rfl⟩⟩; refine ⟨_, rfl, ?_⟩; have p6 : 0 ≤ (0 : Int) := (by omega); have q6 : 0 < t149.size := (by have : (0 : Int) < (t149.size : Int) := of_decide_eq_true (by first | (with_reducible assumption) | assumption); omega); have hx6 : ∀ h : 0 < t149.size, ((t149[0]'h).toNat : Int) = bt t149 0 := bt_at t149 0; clear p6; have qi6 : (0 < (t149.size : Int)) = True := eq_true (of_decide_eq_true (by first | (with_reducible assumption) | assumption)); replace q6 := eq_true q6) | (go_at_call 68; (with_reducible refine (name_letter.calls (bt t149 0) false _ A7.out).mono ?_); rintro e w' ⟨rfl, ⟨nd, rfl⟩⟩; have p11 : 0 ≤ (0 : Int) := (by omega); have q11 : 0 < t149.size := (by have : (0 : Int) < (t149.size : Int) := of_decide_eq_true (by first | (with_reducible assumption) | assumption); omega); have hx11 : ∀ h : 0 < t149.size, ((t149[0]'h).toNat : Int) = bt t149 0 := bt_at t149 0; clear p11; have qi11 : (0 < (t149.size : Int)) = True := eq_true (of_decide_eq_true (by first | (with_reducible assumption) | assumption)); replace q11 := eq_true q11))
          go_ret
          exact ⟨by first | rfl | (simp; done) | (simp [*]; done), by repeat (first | exact Drawn0.refl _ | apply Drawn0.step)⟩
    · rw [if_neg c5] at H
      exact absurd H (by simp)
  · replace c4 := Bool.eq_false_iff.mpr c4
    subst c4
    have H1 : (some false) = some r := by rw [if_neg (show ¬ (false = true) by decide)] at H; exact H
    clear H
    have H := H1
    clear H1
    obtain rfl := Option.some.inj H
    go_enter Try.func40, Try.ntmps40
    go_wp2_with (first | ((with_reducible refine gate_callee (f := 41) rfl ?_); refine goesL_ (some 8) rfl rfl Try.func41 (by kernel_rfl) rfl #[.string a0, .string (⟨#[64]⟩ : ByteArray)] rfl (by (try simp only [List.map_toArray, List.map_cons, List.map_nil]); first | done | rfl | (simp only [List.length_drop, List.length_take]; rfl)) ?_; (with_reducible refine (strings_Cut.calls a0 (⟨#[64]⟩ : ByteArray) t149 t150 t151 _ A2.out).mono ?_); rintro e w' ⟨rfl, ⟨nd, rfl⟩⟩; refine ⟨_, rfl, ?_⟩) | ((with_reducible refine gate_callee (f := 67) rfl ?_); refine goesL_ (some 13) rfl rfl Try.func67 (by kernel_rfl) rfl #[.string t149, .string (⟨#[]⟩ : ByteArray)] rfl (by (try simp only [List.map_toArray, List.map_cons, List.map_nil]); first | done | rfl | (simp only [List.length_drop, List.length_take]; rfl)) ?_; (with_reducible refine (name_all.calls k t149 (⟨#[]⟩ : ByteArray) false _ A3.out).mono ?_); rintro e w' ⟨rfl, ⟨nd, rfl⟩⟩; refine ⟨_, rfl, ?_⟩))
    go_ret
    exact ⟨by first | rfl | (simp; done) | (simp [*]; done), by repeat (first | exact Drawn0.refl _ | apply Drawn0.step)⟩
end Go.Proofs.Yteejaaeglfpcmab.PC

namespace Go.Proofs.Yteejaaeglfpcmab.PC
open Go.RowKit Go.Proofs.YteejaaeglfpcmabW.PrintWords Go.Proofs.YteejaaeglfpcmabW.PrintLast Go.Proofs.YteejaaeglfpcmabW.PrintMore
attribute [local go_sem] max2_int min2_int max_two min_two max_three min_three max_four min_four   -- for this text's walks alone
set_option linter.unusedVariables false
set_option linter.unusedSimpArgs false
mutual
def tree_names.l0 : Nat → List ByteArray → List (S77) → Int → Int → ByteArray → List (S77) → List (S30) → Option (List ByteArray × List ByteArray)
  | 0, _, _, _, _, _, _, _ => none
  | k + 1, x4, x11, x12, x13, x157000, x157001, x157002 => if x13 < x12 then (if 0 ≤ x13 then (if x13 < (x11.length : Int) then (if x4.length < 8796093022208 then (tree_names.l0 k (x4 ++ [(rd_T77 x11 x13).f0]) x11 x12 (wrap64 (x13 + 1)) x157000 x157001 x157002) else (none)) else (none)) else (none)) else (tree_names.l1 k x4 ([] : List ByteArray) x157002 (x157002.length : Int) 0)
def tree_names.l1 : Nat → List ByteArray → List ByteArray → List (S30) → Int → Int → Option (List ByteArray × List ByteArray)
  | 0, _, _, _, _, _ => none
  | k + 1, x4, x5, x24, x25, x26 => if x26 < x25 then (if 0 ≤ x26 then (if x26 < (x24.length : Int) then (if x5.length < 8796093022208 then (tree_names.l1 k x4 (x5 ++ [(rd_T30 x24 x26).f0]) x24 x25 (wrap64 (x26 + 1))) else (none)) else (none)) else (none)) else (some (x4, x5))
end
def tree_names.f (k : Nat) (a0_0 : ByteArray) (l0_1 : List (S77)) (l0_2 : List (S30)) : Option (List ByteArray × List ByteArray) := tree_names.l0 k ([] : List ByteArray) l0_1 (l0_1.length : Int) 0 a0_0 l0_1 l0_2
set_option maxHeartbeats 8000000 in
set_option maxRecDepth 100000 in
theorem tree_names.calls (k : Nat) (a0_0 : ByteArray) (A0_1 : Option Addr) (c0_1 : Nat) (l0_1 : List (S77)) (A0_2 : Option Addr) (c0_2 : Nat) (l0_2 : List (S30)) (r1 : List ByteArray) (r2 : List ByteArray) (w : World) (hr0_1 : Kd.C k77 w A0_1 l0_1.length l0_1) (hc0_1 : l0_1.length ≤ c0_1) (hr0_2 : Kd.C k30 w A0_2 l0_2.length l0_2) (hc0_2 : l0_2.length ≤ c0_2) (h : tree_names.f k a0_0 l0_1 l0_2 = some (r1, r2)) :
    Calls Try.prog 77 #[.agg #[.string a0_0, .slice A0_1 l0_1.length c0_1, .slice A0_2 l0_2.length c0_2]] w fun e w' => ∃ v0_ v1_ : Value, e = .returned (.tuple #[v0_, v1_]) ∧ Kd.R Kd.string 9 w' w.heap.size (fun k_ => some k_ ≠ (v1_ : Value).ownBlock) v0_ r1 ∧ Kd.R Kd.string 9 w' w.heap.size (fun k_ => some k_ ≠ (v0_ : Value).ownBlock) v1_ r2 ∧ Below w.heap.size w w' := by
  have hu30 := Try.underlying30
  have hu77 := Try.underlying77
  have HR0_1 := Aside0.mk hr0_1
  have HC0_1 := Aside0.mk hc0_1
  clear hr0_1 hc0_1
  have HR0_2 := Aside0.mk hr0_2
  have HC0_2 := Aside0.mk hc0_2
  clear hr0_2 hc0_2
  have HB := Aside0.mk (Below.refl w.heap.size w)
  have H : (tree_names.l0 k ([] : List ByteArray) l0_1 (l0_1.length : Int) 0 a0_0 l0_1 l0_2) = some (r1, r2) := h
  clear h
  have H' := Aside0.mk H
  clear H
  go_enter Try.func77, Try.ntmps77
  go_wp2_with (first | ((with_reducible refine gate_dst (N := 1) rfl ?_); refine box_event ?hg (N := 1) ?hd (cs := #[.string a0_0, .slice A0_1 l0_1.length c0_1, .slice A0_2 l0_2.length c0_2]) (t := 30) ?hr ?_; (case hd => rfl); (case hg => rfl); (case hr => first | (go_simp; done) | (go_simp; rfl)); intro gb156 hg w2 hbox hb; have n0_ := Aside0.mk (below_step (by repeat (first | (with_reducible first | exact HB.out | apply below_alloc | apply pw_below_drewN | apply below_drew1) | exact HB.out)) hb); have n1_ := Aside0.mk (hbox); have n2_ := Aside0.mk ((by rw [hg]; exact (below_size (by repeat (first | (with_reducible first | exact HB.out | apply below_alloc | apply pw_below_drewN | apply below_drew1) | exact HB.out))) : w.heap.size ≤ gb156)); have n3_ := Aside0.mk ((by rw [hg]; exact (below_size (by repeat (first | (with_reducible first | exact HB.out | apply below_alloc | apply pw_below_drewN | apply below_drew1) | exact HB.out))) : w.heap.size ≤ gb156)); clear HB; have HB := n0_; have BK156 := n1_; have GW156 := n2_; have GE156 := n3_; clear n0_ n1_ n2_ n3_; clear hb hbox hg; have hcz3_0 : w2.cell? ⟨gb156, 0, none⟩ = some (.string a0_0) := (blk_cell BK156.out 0).trans rfl; have hcz3_1 : w2.cell? ⟨gb156, 1, none⟩ = some (.slice A0_1 l0_1.length c0_1) := (blk_cell BK156.out 1).trans rfl; have hcz3_2 : w2.cell? ⟨gb156, 2, none⟩ = some (.slice A0_2 l0_2.length c0_2) := (blk_cell BK156.out 2).trans rfl; have hfz3_0 := blk_frozen BK156.out 0; have hfz3_1 := blk_frozen BK156.out 1; have hfz3_2 := blk_frozen BK156.out 2))
  go_loopg [4, 13] k (fun kq v4 v13 w' => ∃ (x4_1 : List ByteArray) (x13_1 : Int), v13 = .int .i64 x13_1 ∧ Aside0 (tree_names.l0 kq x4_1 l0_1 (l0_1.length : Int) x13_1 a0_0 l0_1 l0_2 = some (r1, r2)) ∧ Aside0 (kq ≤ k) ∧ Aside0 (Kd.R Kd.string 9 w' w.heap.size (fun _ => True) v4 x4_1) ∧ Aside0 (w'.heap[gb156]? = some (.cells #[.string a0_0, (.slice A0_1 l0_1.length c0_1), (.slice A0_2 l0_2.length c0_2)] 30 (0, 0))) ∧ Aside0 (Below w.heap.size w w'))
  case atStart => exact ⟨(([] : List ByteArray)), (0), (by first | rfl | (simp; done) | (simp [*]; done)), H', ⟨Nat.le_refl _⟩, ⟨by first | exact Kd.R_nil _ _ _ _ _ | exact Kd.N_nil _ _ _ _ _ | exact Kd.V_nil _ _ _ _ _ | exact Kd.Q_nil _ _ _ _ _ | exact Kd.S_nil _ _ _ _ _⟩, ⟨by (with_reducible repeat (first | refine blk_drewN ?_ _ | refine blk_drew ?_ | refine blk_alloc ?_ _)); exact BK156.out⟩, ⟨by repeat (first | (with_reducible first | exact HB.out | apply below_alloc | apply pw_below_drewN | apply below_drew1 | refine below_set ?_ GE156.out) | exact HB.out)⟩⟩
  case round =>
    clear H'
    try clear p2
    try clear hcz3_0
    try clear hcz3_1
    try clear hcz3_2
    try clear hfz3_0
    try clear hfz3_1
    try clear hfz3_2
    obtain ⟨x4_1, x13_1, rfl, HA, HK1, HO_4, BK156, HB⟩ := hrel
    cases gk with
    | zero => exact absurd HA.out (by simp [tree_names.l0])
    | succ k1 =>
      have H := HA.out
      clear HA
      simp only [tree_names.l0] at H
      by_cases c4 : x13_1 < (l0_1.length : Int)
      · rw [if_pos c4] at H
        have c4b0 : decide (x13_1 < (l0_1.length : Int)) = true := decide_eq_true c4
        clear c4
        by_cases c5 : 0 ≤ x13_1
        · rw [if_pos c5] at H
          have c5b0 : decide (0 ≤ x13_1) = true := decide_eq_true c5
          clear c5
          by_cases c6 : x13_1 < (l0_1.length : Int)
          · rw [if_pos c6] at H
            have c6b0 : decide (x13_1 < (l0_1.length : Int)) = true := decide_eq_true c6
            clear c6
            by_cases c7 : x4_1.length < 8796093022208
            · rw [if_pos c7] at H
              have LMc7 := Aside0.mk c7
              clear c7
              obtain ⟨y159, hy159⟩ : ∃ y_ : List ByteArray, y_ = (x4_1 ++ [(rd_T77 l0_1 x13_1).f0]) := ⟨_, rfl⟩
              replace H : (tree_names.l0 k1 y159 l0_1 (l0_1.length : Int) (wrap64 (x13_1 + 1)) a0_0 l0_1 l0_2) = some (r1, r2) := by first | (rw [hy159]; with_reducible exact H) | (have H2_ := (Option.bind_some _ _).symm.trans H; rw [hy159]; with_reducible exact H2_) | (have H2_ := (Option.bind_some _ _).symm.trans H; with_reducible exact H2_) | with_reducible exact H | (rw [hy159]; exact H) | exact H
              have Ny159 := Aside0.mk hy159
              clear hy159
              have H' := Aside0.mk H
              clear H
              have p157 : 0 ≤ (x13_1 : Int) := of_decide_eq_true (by first | (with_reducible assumption) | assumption)
              have q157 : x13_1 < (l0_1.length : Int) := of_decide_eq_true (by first | (with_reducible assumption) | assumption)
              obtain ⟨ad157, A157_1, c157_1, e157, hx157_0, hx157_1, hl157_1, hi157_1⟩ := at_T77 HR0_1.out x13_1 p157 q157
              cases e157
              replace hx157_0 := (HB.out.cell (World.block_lt_of_cell? w _ hx157_0)).trans hx157_0
              replace hx157_1 := (HB.out.cell (World.block_lt_of_cell? w _ hx157_1)).trans hx157_1
              have HR157_1 := Aside0.mk hi157_1
              have HC157_1 := Aside0.mk hl157_1
              clear hi157_1 hl157_1
              replace p157 := eq_true p157
              replace q157 := eq_true q157
              go_wp2_with (first | ((with_reducible refine gate_dst (N := 7) rfl ?_); refine box_event ?hg (N := 7) ?hd (cs := #[.string (⟨#[]⟩ : ByteArray), .slice none 0 0]) (t := 77) ?hr ?_; (case hd => rfl); (case hg => rfl); (case hr => first | (go_simp; done) | (go_simp; rfl)); intro gb158 hg w8 hbox hb; have n0_ := Aside0.mk (Kd.R_below (by (with_reducible repeat (first | apply Kd.R_alloc | apply Kd.R_drewN | apply Kd.R_drew)); exact HO_4.out) hb); have n1_ := Aside0.mk (blk_below (g := gb156) (o := .cells #[.string a0_0, .slice (some ad157) l0_1.length c0_1, .slice A0_2 l0_2.length c0_2] 30 (0, 0)) (by (with_reducible repeat (first | refine blk_drewN ?_ _ | refine blk_drew ?_ | refine blk_alloc ?_ _)); exact BK156.out) hb); have n2_ := Aside0.mk (below_step (by repeat (first | (with_reducible first | exact HB.out | apply below_alloc | apply pw_below_drewN | apply below_drew1 | refine below_set ?_ GE156.out) | exact HB.out)) hb); have n3_ := Aside0.mk (hbox); have n4_ := Aside0.mk ((by rw [hg]; exact (below_size (by repeat (first | (with_reducible first | exact HB.out | apply below_alloc | apply pw_below_drewN | apply below_drew1 | refine below_set ?_ GE156.out) | exact HB.out))) : w.heap.size ≤ gb158)); have n5_ := Aside0.mk ((by rw [hg]; exact (below_size (by repeat (first | (with_reducible first | exact HB.out | apply below_alloc | apply pw_below_drewN | apply below_drew1 | refine below_set ?_ GE156.out) | exact HB.out))) : w.heap.size ≤ gb158)); have n6_ := Aside0.mk ((by rw [hg]; exact Nat.ne_of_lt (blk_lt (g := gb156) (o := .cells #[.string a0_0, .slice (some ad157) l0_1.length c0_1, .slice A0_2 l0_2.length c0_2] 30 (0, 0)) (by (with_reducible repeat (first | refine blk_drewN ?_ _ | refine blk_drew ?_ | refine blk_alloc ?_ _)); exact BK156.out)) : gb156 ≠ gb158)); have n7_ := Aside0.mk ((by rw [hg]; exact Nat.ne_of_gt (blk_lt (g := gb156) (o := .cells #[.string a0_0, .slice (some ad157) l0_1.length c0_1, .slice A0_2 l0_2.length c0_2] 30 (0, 0)) (by (with_reducible repeat (first | refine blk_drewN ?_ _ | refine blk_drew ?_ | refine blk_alloc ?_ _)); exact BK156.out)) : gb158 ≠ gb156)); clear HO_4; clear BK156; clear HB; have HO_4 := n0_; have BK156 := n1_; have HB := n2_; have BK158 := n3_; have GW158 := n4_; have GE158 := n5_; have NB156_158 := n6_; have NB158_156 := n7_; clear n0_ n1_ n2_ n3_ n4_ n5_ n6_ n7_; clear hb hbox hg; have hnb9 := NB158_156.out; have hnc9 := NB156_158.out; have hcz10_0 : w8.cell? ⟨gb158, 0, none⟩ = some (.string (⟨#[]⟩ : ByteArray)) := (blk_cell BK158.out 0).trans rfl; have hcz10_1 : w8.cell? ⟨gb158, 1, none⟩ = some (.slice none 0 0) := (blk_cell BK158.out 1).trans rfl; have hfz10_0 := blk_frozen BK158.out 0; have hfz10_1 := blk_frozen BK158.out 1) | ((with_reducible refine gate_builtin (b := .append) (xs := #[.tmp 17, .tmp 20]) rfl ?_); at_builtin; refine Kd.R_append Kd.string (w0 := w) w.heap.size rfl (.tmp 17) (.tmp 20) 123 9 (.string ⟨#[]⟩) 16 rfl Try.underlying123 info9 rfl (by decide) (by omega) u4 x4_1 ((rd_T77 l0_1 x13_1).f0) [.string ((rd_T77 l0_1 x13_1).f0)] (fun _ => True) (fun _ => False) rfl (by first | (go_simp; done) | (go_simp; rfl)) ?aP (fun _ hk => hk.elim) ?aF ?aO ?aB ?aS ?aL ?_; (case aP => exact rfl); (case aB => exact (by repeat (first | (with_reducible first | exact HB.out | apply below_alloc | apply pw_below_drewN | apply below_drew1 | refine below_set ?_ GE156.out | refine below_set ?_ GE158.out) | exact HB.out))); (case aF => exact (fun _ _ => trivial)); (case aO => exact (by (with_reducible repeat (first | apply Kd.R_alloc | apply Kd.R_drewN | apply Kd.R_drew)); exact Kd.R_mono (Kd.R_far (p := ⟨gb158, 1, none⟩) (Kd.R_far (p := ⟨gb158, 0, none⟩) (Kd.R_types HO_4.out BK158.out (by decide)) (fun _ hk => hk.2) (.string ((rd_T77 l0_1 x13_1).f0))) (fun _ hk => hk.2) (.slice A157_1 ((rd_T77 l0_1 x13_1).f1).length c157_1)) (fun _ hk => trivial))); (case aS => exact (below_size (by repeat (first | (with_reducible first | exact HB.out | apply below_alloc | apply pw_below_drewN | apply below_drew1 | refine below_set ?_ GE156.out | refine below_set ?_ GE158.out) | exact HB.out)))); (case aL => have := LMc7.out; omega); intro v160 w11 ho hb hg hat; rw [← Ny159.out] at ho; have n0_ := Aside0.mk (blk_grown (g := gb156) (o := .cells #[.string a0_0, .slice (some ad157) l0_1.length c0_1, .slice A0_2 l0_2.length c0_2] 30 (0, 0)) (by (with_reducible repeat (first | refine blk_drewN ?_ _ | refine blk_drew ?_ | refine blk_alloc ?_ _)); refine blk_far ?_ NB156_158.out _; (with_reducible repeat (first | refine blk_drewN ?_ _ | refine blk_drew ?_ | refine blk_alloc ?_ _)); refine blk_far ?_ NB156_158.out _; (with_reducible repeat (first | refine blk_drewN ?_ _ | refine blk_drew ?_ | refine blk_alloc ?_ _)); exact BK156.out) hg (Kd.R_ne HO_4.out BK156.out (by decide))); have n1_ := Aside0.mk (blk_grown (g := gb158) (o := .cells #[.string ((rd_T77 l0_1 x13_1).f0), .slice A157_1 ((rd_T77 l0_1 x13_1).f1).length c157_1] 77 (0, 0)) (by (with_reducible repeat (first | refine blk_drewN ?_ _ | refine blk_drew ?_ | refine blk_alloc ?_ _)); refine blk_put (cs := #[.string ((rd_T77 l0_1 x13_1).f0), .slice none 0 0]) ?_ 1 _ rfl; (with_reducible repeat (first | refine blk_drewN ?_ _ | refine blk_drew ?_ | refine blk_alloc ?_ _)); refine blk_put (cs := #[.string (⟨#[]⟩ : ByteArray), .slice none 0 0]) ?_ 0 _ rfl; (with_reducible repeat (first | refine blk_drewN ?_ _ | refine blk_drew ?_ | refine blk_alloc ?_ _)); exact BK158.out) hg (Kd.R_ne HO_4.out BK158.out (by decide))); have n2_ := Aside0.mk (hb); have n3_ := Aside0.mk (ho); clear BK156; clear BK158; clear HB; clear HO_4; have BK156 := n0_; have BK158 := n1_; have HB := n2_; have HO161 := n3_; clear n0_ n1_ n2_ n3_; clear ho hb hg hat))
              go_roundg k1
              case measure => have := HK1.out; omega
              case rel => exact ⟨(y159), (wrap64 (x13_1 + 1)), (by first | rfl | (simp; done) | (simp [*]; done)), H', ⟨by have := HK1.out; omega⟩, ⟨by (with_reducible repeat (first | apply Kd.R_alloc | apply Kd.R_drewN | apply Kd.R_drew)); exact HO161.out⟩, ⟨by (with_reducible repeat (first | refine blk_drewN ?_ _ | refine blk_drew ?_ | refine blk_alloc ?_ _)); exact BK156.out⟩, ⟨by repeat (first | (with_reducible first | exact HB.out | apply below_alloc | apply pw_below_drewN | apply below_drew1 | refine below_set ?_ GE156.out | refine below_set ?_ GE158.out) | exact HB.out)⟩⟩
            · rw [if_neg c7] at H
              exact absurd H (by simp)
          · rw [if_neg c6] at H
            exact absurd H (by simp)
        · rw [if_neg c5] at H
          exact absurd H (by simp)
      · rw [if_neg c4] at H
        have c4b0 : decide (x13_1 < (l0_1.length : Int)) = false := decide_eq_false c4
        clear c4
        have H' := Aside0.mk H
        clear H
        have hcz12_0 : wr.cell? ⟨gb156, 0, none⟩ = some (.string a0_0) := (blk_cell BK156.out 0).trans rfl
        have hcz12_1 : wr.cell? ⟨gb156, 1, none⟩ = some (.slice A0_1 l0_1.length c0_1) := (blk_cell BK156.out 1).trans rfl
        have hcz12_2 : wr.cell? ⟨gb156, 2, none⟩ = some (.slice A0_2 l0_2.length c0_2) := (blk_cell BK156.out 2).trans rfl
        have hfz12_0 := blk_frozen BK156.out 0
        have hfz12_1 := blk_frozen BK156.out 1
        have hfz12_2 := blk_frozen BK156.out 2
        go_wp2
        go_loopg [5, 26] k1 (fun kq v5 v26 w' => ∃ (x5_2 : List ByteArray) (x26_2 : Int), v26 = .int .i64 x26_2 ∧ Aside0 (tree_names.l1 kq x4_1 x5_2 l0_2 (l0_2.length : Int) x26_2 = some (r1, r2)) ∧ Aside0 (kq ≤ k1) ∧ Aside0 (Kd.R Kd.string 9 w' w.heap.size (fun k_ => some k_ ≠ (v5 : Value).ownBlock) u4 x4_1) ∧ Aside0 (Kd.R Kd.string 9 w' w.heap.size (fun k_ => some k_ ≠ (u4 : Value).ownBlock) v5 x5_2) ∧ Aside0 (w'.heap[gb156]? = some (.cells #[.string a0_0, (.slice A0_1 l0_1.length c0_1), (.slice A0_2 l0_2.length c0_2)] 30 (0, 0))) ∧ Aside0 (Below w.heap.size w w'))
        case atStart => exact ⟨(([] : List ByteArray)), (0), (by first | rfl | (simp; done) | (simp [*]; done)), H', ⟨Nat.le_refl _⟩, ⟨by (with_reducible repeat (first | apply Kd.R_alloc | apply Kd.R_drewN | apply Kd.R_drew)); exact Kd.R_mono HO_4.out (fun _ hk => (by simp [Value.ownBlock]))⟩, ⟨by first | exact Kd.R_nil _ _ _ _ _ | exact Kd.N_nil _ _ _ _ _ | exact Kd.V_nil _ _ _ _ _ | exact Kd.Q_nil _ _ _ _ _ | exact Kd.S_nil _ _ _ _ _⟩, ⟨by (with_reducible repeat (first | refine blk_drewN ?_ _ | refine blk_drew ?_ | refine blk_alloc ?_ _)); exact BK156.out⟩, ⟨by repeat (first | (with_reducible first | exact HB.out | apply below_alloc | apply pw_below_drewN | apply below_drew1 | refine below_set ?_ GE156.out) | exact HB.out)⟩⟩
        case round =>
          clear H'
          try clear c1
          try clear p1
          try clear q1
          try clear hx1
          try clear p2
          try clear c4
          try clear c4b0
          try clear c5
          try clear c5b0
          try clear c6
          try clear c6b0
          try clear p6
          try clear c7
          try clear c9
          try clear hcz10_0
          try clear hcz10_1
          try clear hcz12_0
          try clear hcz12_1
          try clear hcz12_2
          try clear hcz3_0
          try clear hcz3_1
          try clear hcz3_2
          try clear hfz10_0
          try clear hfz10_1
          try clear hfz12_0
          try clear hfz12_1
          try clear hfz12_2
          try clear hfz3_0
          try clear hfz3_1
          try clear hfz3_2
          try clear hx157_0
          try clear hx157_1
          try clear p157
          try clear p2
          try clear q157
          obtain ⟨x5_2, x26_2, rfl, HA, HK2, HO_4, HO_5, BK156, HB⟩ := hrel
          cases gk with
          | zero => exact absurd HA.out (by simp [tree_names.l1])
          | succ k2 =>
            have H := HA.out
            clear HA
            simp only [tree_names.l1] at H
            by_cases c13 : x26_2 < (l0_2.length : Int)
            · rw [if_pos c13] at H
              have c13b0 : decide (x26_2 < (l0_2.length : Int)) = true := decide_eq_true c13
              clear c13
              by_cases c14 : 0 ≤ x26_2
              · rw [if_pos c14] at H
                have c14b0 : decide (0 ≤ x26_2) = true := decide_eq_true c14
                clear c14
                by_cases c15 : x26_2 < (l0_2.length : Int)
                · rw [if_pos c15] at H
                  have c15b0 : decide (x26_2 < (l0_2.length : Int)) = true := decide_eq_true c15
                  clear c15
                  by_cases c16 : x5_2.length < 8796093022208
                  · rw [if_pos c16] at H
                    have LMc16 := Aside0.mk c16
                    clear c16
                    obtain ⟨y164, hy164⟩ : ∃ y_ : List ByteArray, y_ = (x5_2 ++ [(rd_T30 l0_2 x26_2).f0]) := ⟨_, rfl⟩
                    replace H : (tree_names.l1 k2 x4_1 y164 l0_2 (l0_2.length : Int) (wrap64 (x26_2 + 1))) = some (r1, r2) := by first | (rw [hy164]; with_reducible exact H) | (have H2_ := (Option.bind_some _ _).symm.trans H; rw [hy164]; with_reducible exact H2_) | (have H2_ := (Option.bind_some _ _).symm.trans H; with_reducible exact H2_) | with_reducible exact H | (rw [hy164]; exact H) | exact H
                    have Ny164 := Aside0.mk hy164
                    clear hy164
                    have H' := Aside0.mk H
                    clear H
                    have p162 : 0 ≤ (x26_2 : Int) := of_decide_eq_true (by first | (with_reducible assumption) | assumption)
                    have q162 : x26_2 < (l0_2.length : Int) := of_decide_eq_true (by first | (with_reducible assumption) | assumption)
                    obtain ⟨ad162, A162_1, c162_1, A162_2, c162_2, e162, hx162_0, hx162_1, hx162_2, hl162_1, hi162_1, hl162_2, hi162_2⟩ := at_T30 HR0_2.out x26_2 p162 q162
                    cases e162
                    replace hx162_0 := (HB.out.cell (World.block_lt_of_cell? w _ hx162_0)).trans hx162_0
                    replace hx162_1 := (HB.out.cell (World.block_lt_of_cell? w _ hx162_1)).trans hx162_1
                    replace hx162_2 := (HB.out.cell (World.block_lt_of_cell? w _ hx162_2)).trans hx162_2
                    have HR162_1 := Aside0.mk hi162_1
                    have HC162_1 := Aside0.mk hl162_1
                    clear hi162_1 hl162_1
                    have HR162_2 := Aside0.mk hi162_2
                    have HC162_2 := Aside0.mk hl162_2
                    clear hi162_2 hl162_2
                    replace p162 := eq_true p162
                    replace q162 := eq_true q162
                    go_wp2_with (first | ((with_reducible refine gate_dst (N := 9) rfl ?_); refine box_event ?hg (N := 9) ?hd (cs := #[.string (⟨#[]⟩ : ByteArray), .slice none 0 0, .slice none 0 0]) (t := 30) ?hr ?_; (case hd => rfl); (case hg => rfl); (case hr => first | (go_simp; done) | (go_simp; rfl)); intro gb163 hg w17 hbox hb; have n0_ := Aside0.mk (Kd.R_below (by (with_reducible repeat (first | apply Kd.R_alloc | apply Kd.R_drewN | apply Kd.R_drew)); exact HO_4.out) hb); have n1_ := Aside0.mk (Kd.R_below (by (with_reducible repeat (first | apply Kd.R_alloc | apply Kd.R_drewN | apply Kd.R_drew)); exact HO_5.out) hb); have n2_ := Aside0.mk (blk_below (g := gb156) (o := .cells #[.string a0_0, .slice A0_1 l0_1.length c0_1, .slice (some ad162) l0_2.length c0_2] 30 (0, 0)) (by (with_reducible repeat (first | refine blk_drewN ?_ _ | refine blk_drew ?_ | refine blk_alloc ?_ _)); exact BK156.out) hb); have n3_ := Aside0.mk (below_step (by repeat (first | (with_reducible first | exact HB.out | apply below_alloc | apply pw_below_drewN | apply below_drew1 | refine below_set ?_ GE156.out) | exact HB.out)) hb); have n4_ := Aside0.mk (hbox); have n5_ := Aside0.mk ((by rw [hg]; exact (below_size (by repeat (first | (with_reducible first | exact HB.out | apply below_alloc | apply pw_below_drewN | apply below_drew1 | refine below_set ?_ GE156.out) | exact HB.out))) : w.heap.size ≤ gb163)); have n6_ := Aside0.mk ((by rw [hg]; exact (below_size (by repeat (first | (with_reducible first | exact HB.out | apply below_alloc | apply pw_below_drewN | apply below_drew1 | refine below_set ?_ GE156.out) | exact HB.out))) : w.heap.size ≤ gb163)); have n7_ := Aside0.mk ((by rw [hg]; exact Nat.ne_of_lt (blk_lt (g := gb156) (o := .cells #[.string a0_0, .slice A0_1 l0_1.length c0_1, .slice (some ad162) l0_2.length c0_2] 30 (0, 0)) (by (with_reducible repeat (first | refine blk_drewN ?_ _ | refine blk_drew ?_ | refine blk_alloc ?_ _)); exact BK156.out)) : gb156 ≠ gb163)); have n8_ := Aside0.mk ((by rw [hg]; exact Nat.ne_of_gt (blk_lt (g := gb156) (o := .cells #[.string a0_0, .slice A0_1 l0_1.length c0_1, .slice (some ad162) l0_2.length c0_2] 30 (0, 0)) (by (with_reducible repeat (first | refine blk_drewN ?_ _ | refine blk_drew ?_ | refine blk_alloc ?_ _)); exact BK156.out)) : gb163 ≠ gb156)); clear HO_4; clear HO_5; clear BK156; clear HB; have HO_4 := n0_; have HO_5 := n1_; have BK156 := n2_; have HB := n3_; have BK163 := n4_; have GW163 := n5_; have GE163 := n6_; have NB156_163 := n7_; have NB163_156 := n8_; clear n0_ n1_ n2_ n3_ n4_ n5_ n6_ n7_ n8_; clear hb hbox hg; have hnb18 := NB163_156.out; have hnc18 := NB156_163.out; have hcz19_0 : w17.cell? ⟨gb163, 0, none⟩ = some (.string (⟨#[]⟩ : ByteArray)) := (blk_cell BK163.out 0).trans rfl; have hcz19_1 : w17.cell? ⟨gb163, 1, none⟩ = some (.slice none 0 0) := (blk_cell BK163.out 1).trans rfl; have hcz19_2 : w17.cell? ⟨gb163, 2, none⟩ = some (.slice none 0 0) := (blk_cell BK163.out 2).trans rfl; have hfz19_0 := blk_frozen BK163.out 0; have hfz19_1 := blk_frozen BK163.out 1; have hfz19_2 := blk_frozen BK163.out 2) | ((with_reducible refine gate_builtin (b := .append) (xs := #[.tmp 30, .tmp 33]) rfl ?_); at_builtin; refine Kd.R_append Kd.string (w0 := w) w.heap.size rfl (.tmp 30) (.tmp 33) 123 9 (.string ⟨#[]⟩) 16 rfl Try.underlying123 info9 rfl (by decide) (by omega) u5 x5_2 ((rd_T30 l0_2 x26_2).f0) [.string ((rd_T30 l0_2 x26_2).f0)] (fun k_ => some k_ ≠ (u4 : Value).ownBlock) (fun _ => False) rfl (by first | (go_simp; done) | (go_simp; rfl)) ?aP (fun _ hk => hk.elim) ?aF ?aO ?aB ?aS ?aL ?_; (case aP => exact rfl); (case aB => exact (by repeat (first | (with_reducible first | exact HB.out | apply below_alloc | apply pw_below_drewN | apply below_drew1 | refine below_set ?_ GE156.out | refine below_set ?_ GE163.out) | exact HB.out))); (case aF => exact (fun k_ hk => Kd.fresh' (Kd.R_lt (by (with_reducible repeat (first | apply Kd.R_alloc | apply Kd.R_drewN | apply Kd.R_drew)); exact (Kd.R_mono (Kd.R_far (p := ⟨gb163, 2, none⟩) (Kd.R_far (p := ⟨gb163, 1, none⟩) (Kd.R_far (p := ⟨gb163, 0, none⟩) (Kd.R_types HO_4.out BK163.out (by decide)) (fun _ hk => hk.2) (.string ((rd_T30 l0_2 x26_2).f0))) (fun _ hk => hk.2) (.slice A162_1 ((rd_T30 l0_2 x26_2).f1).length c162_1)) (fun _ hk => hk.2) (.slice A162_2 ((rd_T30 l0_2 x26_2).f2).length c162_2)) (fun _ h_ => h_.1)))) k_ hk)); (case aO => exact (by (with_reducible repeat (first | apply Kd.R_alloc | apply Kd.R_drewN | apply Kd.R_drew)); exact Kd.R_mono (Kd.R_far (p := ⟨gb163, 2, none⟩) (Kd.R_far (p := ⟨gb163, 1, none⟩) (Kd.R_far (p := ⟨gb163, 0, none⟩) (Kd.R_types HO_5.out BK163.out (by decide)) (fun _ hk => hk.2) (.string ((rd_T30 l0_2 x26_2).f0))) (fun _ hk => hk.2) (.slice A162_1 ((rd_T30 l0_2 x26_2).f1).length c162_1)) (fun _ hk => hk.2) (.slice A162_2 ((rd_T30 l0_2 x26_2).f2).length c162_2)) (fun _ hk => hk.1))); (case aS => exact (below_size (by repeat (first | (with_reducible first | exact HB.out | apply below_alloc | apply pw_below_drewN | apply below_drew1 | refine below_set ?_ GE156.out | refine below_set ?_ GE163.out) | exact HB.out)))); (case aL => have := LMc16.out; omega); intro v165 w20 ho hb hg hat; rw [← Ny164.out] at ho; have n0_ := Aside0.mk (Kd.R_after (ok := (fun _ => True)) (by (with_reducible repeat (first | apply Kd.R_alloc | apply Kd.R_drewN | apply Kd.R_drew)); exact Kd.R_mono (Kd.R_far (p := ⟨gb163, 2, none⟩) (Kd.R_far (p := ⟨gb163, 1, none⟩) (Kd.R_far (p := ⟨gb163, 0, none⟩) (Kd.R_types HO_4.out BK163.out (by decide)) (fun _ hk => hk.2) (.string ((rd_T30 l0_2 x26_2).f0))) (fun _ hk => hk.2) (.slice A162_1 ((rd_T30 l0_2 x26_2).f1).length c162_1)) (fun _ hk => hk.2) (.slice A162_2 ((rd_T30 l0_2 x26_2).f2).length c162_2)) (fun _ hk => ⟨trivial, hk.1⟩)) hg hat); have n1_ := Aside0.mk (blk_grown (g := gb156) (o := .cells #[.string a0_0, .slice A0_1 l0_1.length c0_1, .slice (some ad162) l0_2.length c0_2] 30 (0, 0)) (by (with_reducible repeat (first | refine blk_drewN ?_ _ | refine blk_drew ?_ | refine blk_alloc ?_ _)); refine blk_far ?_ NB156_163.out _; (with_reducible repeat (first | refine blk_drewN ?_ _ | refine blk_drew ?_ | refine blk_alloc ?_ _)); refine blk_far ?_ NB156_163.out _; (with_reducible repeat (first | refine blk_drewN ?_ _ | refine blk_drew ?_ | refine blk_alloc ?_ _)); refine blk_far ?_ NB156_163.out _; (with_reducible repeat (first | refine blk_drewN ?_ _ | refine blk_drew ?_ | refine blk_alloc ?_ _)); exact BK156.out) hg (Kd.R_ne HO_5.out BK156.out (by decide))); have n2_ := Aside0.mk (blk_grown (g := gb163) (o := .cells #[.string ((rd_T30 l0_2 x26_2).f0), .slice A162_1 ((rd_T30 l0_2 x26_2).f1).length c162_1, .slice A162_2 ((rd_T30 l0_2 x26_2).f2).length c162_2] 30 (0, 0)) (by (with_reducible repeat (first | refine blk_drewN ?_ _ | refine blk_drew ?_ | refine blk_alloc ?_ _)); refine blk_put (cs := #[.string ((rd_T30 l0_2 x26_2).f0), .slice A162_1 ((rd_T30 l0_2 x26_2).f1).length c162_1, .slice none 0 0]) ?_ 2 _ rfl; (with_reducible repeat (first | refine blk_drewN ?_ _ | refine blk_drew ?_ | refine blk_alloc ?_ _)); refine blk_put (cs := #[.string ((rd_T30 l0_2 x26_2).f0), .slice none 0 0, .slice none 0 0]) ?_ 1 _ rfl; (with_reducible repeat (first | refine blk_drewN ?_ _ | refine blk_drew ?_ | refine blk_alloc ?_ _)); refine blk_put (cs := #[.string (⟨#[]⟩ : ByteArray), .slice none 0 0, .slice none 0 0]) ?_ 0 _ rfl; (with_reducible repeat (first | refine blk_drewN ?_ _ | refine blk_drew ?_ | refine blk_alloc ?_ _)); exact BK163.out) hg (Kd.R_ne HO_5.out BK163.out (by decide))); have n3_ := Aside0.mk (hb); have n4_ := Aside0.mk (ho); clear HO_4; clear BK156; clear BK163; clear HB; clear HO_5; have HO_4 := n0_; have BK156 := n1_; have BK163 := n2_; have HB := n3_; have HO166 := n4_; clear n0_ n1_ n2_ n3_ n4_; clear ho hb hg hat))
                    go_roundg k2
                    case measure => have := HK1.out; have := HK2.out; omega
                    case rel => exact ⟨(y164), (wrap64 (x26_2 + 1)), (by first | rfl | (simp; done) | (simp [*]; done)), H', ⟨by have := HK1.out; have := HK2.out; omega⟩, ⟨by (with_reducible repeat (first | apply Kd.R_alloc | apply Kd.R_drewN | apply Kd.R_drew)); exact Kd.R_mono HO_4.out (fun _ hk => hk.2)⟩, ⟨by (with_reducible repeat (first | apply Kd.R_alloc | apply Kd.R_drewN | apply Kd.R_drew)); exact HO166.out⟩, ⟨by (with_reducible repeat (first | refine blk_drewN ?_ _ | refine blk_drew ?_ | refine blk_alloc ?_ _)); exact BK156.out⟩, ⟨by repeat (first | (with_reducible first | exact HB.out | apply below_alloc | apply pw_below_drewN | apply below_drew1 | refine below_set ?_ GE156.out | refine below_set ?_ GE163.out) | exact HB.out)⟩⟩
                  · rw [if_neg c16] at H
                    exact absurd H (by simp)
                · rw [if_neg c15] at H
                  exact absurd H (by simp)
              · rw [if_neg c14] at H
                exact absurd H (by simp)
            · rw [if_neg c13] at H
              have c13b0 : decide (x26_2 < (l0_2.length : Int)) = false := decide_eq_false c13
              clear c13
              simp only [Option.some.injEq, Prod.mk.injEq] at H
              obtain ⟨rfl, rfl⟩ := H
              go_wp2
              go_ret2
              exact ⟨_, _, by first | rfl | (simp [errW_none, errW_some] <;> rfl) | (simp [*, errW_none, errW_some] <;> rfl), by (with_reducible repeat (first | apply Kd.R_alloc | apply Kd.R_drewN | apply Kd.R_drew)); exact HO_4.out, by (with_reducible repeat (first | apply Kd.R_alloc | apply Kd.R_drewN | apply Kd.R_drew)); exact HO_5.out, by repeat (first | (with_reducible first | exact HB.out | apply below_alloc | apply pw_below_drewN | apply below_drew1 | refine below_set ?_ GE156.out) | exact HB.out)⟩
end Go.Proofs.Yteejaaeglfpcmab.PC

namespace Go.Proofs.Yteejaaeglfpcmab.PC
open Go.RowKit Go.Proofs.YteejaaeglfpcmabW.PrintWords Go.Proofs.YteejaaeglfpcmabW.PrintLast Go.Proofs.YteejaaeglfpcmabW.PrintMore
attribute [local go_sem] max2_int min2_int max_two min_two max_three min_three max_four min_four   -- for this text's walks alone
set_option linter.unusedVariables false
set_option linter.unusedSimpArgs false
def txts (xs : List ByteArray) : List (List UInt8) := xs.map (·.data.toList)
def dupB (xs : List ByteArray) : Bool := decide ((Lib.compact ((txts xs).mergeSort fun x y => decide (x ≤ y))).length < xs.length)
theorem txts_len (xs : List ByteArray) : (txts xs).length = xs.length := by simp [txts]
theorem reps_strings {w : World} {base : Nat} {ok : Nat → Prop} {xs : List ByteArray} {cs : List Value} (h : Reps (Kd.string.M w base ok) 1 xs cs) : cs = (txts xs).map encStr := by
  apply List.ext_getElem?
  intro j
  by_cases hj : j < xs.length
  · have h2 := h.2 j xs[j] (List.getElem?_eq_getElem hj)
    have h1 := h.1
    have hl : j < cs.length := by omega
    have h3 : (cs.drop (j * 1)).take 1 = [.string xs[j]] := h2
    rw [Nat.mul_one, List.drop_eq_getElem_cons hl] at h3
    simp only [List.take_succ_cons, List.take_zero, List.cons.injEq, and_true] at h3
    rw [List.getElem?_eq_getElem hl, h3]
    simp [txts, hj]
  · have h1 := h.1
    rw [List.getElem?_eq_none (by omega), List.getElem?_eq_none (by simp [txts]; omega)]
set_option maxRecDepth 100000 in
theorem twice_calls (v : Value) (xs : List ByteArray) (W : World) (base : Nat) (ok : Nat → Prop) (hR : Kd.R Kd.string 9 W base ok v xs) (hl : xs.length < 4611686018427387904) :
    Calls Try.prog 81 #[v] W fun e w' => e = .returned (.bool (dupB xs)) ∧ W.grownBy w' v.ownBlock := by
  obtain ⟨_, inner, ho, hr⟩ := hR
  have hi := reps_strings hr
  subst hi
  clear hr
  rcases ho.2 with ⟨rfl, h0⟩ | ⟨g, cap, cur, rfl, hg, hb, h1, h2, h3, h4⟩
  · have hx : xs = [] := List.eq_nil_of_length_eq_zero h0
    subst hx
    have q1 := fun W => Try.slices_Sort_string_none none 0 W
    have q2 := fun W => Try.slices_Compact_string_empty none 0 W
    clear h0 ho
    have hd : dupB [] = false := by decide
    rw [hd]
    go_enter Try.func81, Try.ntmps81
    go_wp2_with (first | (go_at_call 93; refine (q1 _).mono ?_; rintro e w' ⟨rfl, rfl⟩) | (go_at_call 94; refine (q2 _).mono ?_; rintro e w' ⟨rfl, rfl⟩))
    go_ret
    exact ⟨rfl, World.grownBy.refl _ _⟩
  · have hlt : g < W.heap.size := (Array.getElem?_eq_some_iff.1 hb).1
    have q1 := Try.slices_Sort_string g 0 cap (txts xs) W (holds_of_block (by exact hb) (by rw [txts_len]; rw [show Kd.string.sz = 1 from rfl, Nat.mul_one] at h4; exact h4)) hlt (by rw [txts_len]; exact hl)
    rw [txts_len] at q1
    clear ho
    obtain ⟨ss, hss⟩ : ∃ ss, ss = (txts xs).mergeSort fun x y => decide (x ≤ y) := ⟨_, rfl⟩
    have hsl : ss.length = xs.length := by rw [hss, List.length_mergeSort, txts_len]
    have hd : dupB xs = decide ((Lib.compact ss).length < xs.length) := by rw [hss]; rfl
    have q2 : ∀ os m, Calls Try.prog 94 #[.slice (some ⟨g, 0, none⟩) xs.length cap] ((Sort.grow (Sort.putRow encStr (Sort.ahead W m) g 0 ss.toArray) os)) fun e w' => e = .returned (.slice (some ⟨g, 0, none⟩) (Lib.compact ss).length cap) ∧ W.grownBy w' (some g) := by
      intro os m
      have hb2 := Go.heap_sorted (os := os) (n := m) ss.toArray (show W.heap[g]? = some (.cells cur 9 (0, 0)) from hb)
      have q := Try.slices_Compact_string g 0 cap ss (Sort.grow (Sort.putRow encStr (Sort.ahead W m) g 0 ss.toArray) os) (holds_of_block hb2 (take_putCells cur ss (by rw [hsl, h3, show Kd.string.sz = 1 from rfl]; omega))) (by rw [hsl]; omega) (by rw [hsl]; exact h1)
      rw [hsl] at q
      refine q.mono ?_
      rintro e w' ⟨rfl, k, rfl⟩
      refine ⟨rfl, ?_⟩
      have g1 : W.grownBy (Sort.grow (Sort.putRow encStr (Sort.ahead W m) g 0 ss.toArray) os) (some g) := grownBy_sorted (w := W) ss.toArray
      have g2 := grownBy_sorted (w := Sort.grow (Sort.putRow encStr (Sort.ahead W m) g 0 ss.toArray) os) (g := g) (n := k) (os := #[]) (Lib.compact ss ++ List.replicate (xs.length - (Lib.compact ss).length) []).toArray
      rw [Sort.grow_empty] at g2
      exact World.grownBy.trans g1 g2
    rw [hd]
    have hg0 := hss
    rw [← hss] at q1
    clear hss hg0 hd hsl hb h2 h3 h4 hg h1
    go_enter Try.func81, Try.ntmps81
    go_wp2_with (first | (go_at_call 93; refine q1.mono ?_; rintro e w' ⟨rfl, m, os, rfl⟩) | (go_at_call 94; refine (q2 os m).mono ?_; rintro e w' ⟨rfl, hgr⟩))
    go_ret
    exact ⟨rfl, hgr⟩
def badIx (k : Nat) : List ByteArray → Nat → Option Int
  | [], _ => some (-1)
  | s :: r, i => (name_Prop.f k s).bind fun b => if b = true then badIx k r (i + 1) else some (i : Int)
set_option maxRecDepth 100000 in
theorem bad_lit (k : Nat) (s : ByteArray) (b : Bool) (w : World) (h : name_Prop.f k s = some b) : Calls Try.prog 79 #[.string s] w fun e w' => e = .returned (.bool (!b)) ∧ Drawn0 w w' := by
  have q := fun W => name_Prop.calls k s b W h
  clear h
  go_enter Try.func79, Try.ntmps79
  go_wp2_with (go_at_call 80; refine (q _).mono ?_; rintro e w' ⟨rfl, ⟨nd, rfl⟩⟩)
  go_ret
  exact ⟨rfl, ⟨_, rfl⟩⟩
theorem str_cell {w : World} {A : Option Addr} {xs : List ByteArray} (h : Kd.C Kd.string w A xs.length xs) (i : Nat) (hi : i < xs.length) : ∃ ad, A = some ad ∧ w.cell? (ad.add i) = some (.string (xs.getD i ⟨#[]⟩)) := by
  obtain ⟨ad, c, e, hc, hk, hcell⟩ := ReadsRow.get_ h ⟨#[]⟩ (i : Int) (Int.natCast_nonneg i) (by omega)
  have hk' : c = [.string (xs.getD (i : Int).toNat ⟨#[]⟩)] := hk
  subst hk'
  have := hcell 0 _ rfl
  simp only [Int.toNat_natCast, show Kd.string.sz = 1 from rfl, Nat.add_zero, Nat.mul_one] at this
  exact ⟨ad, e, this⟩
set_option maxRecDepth 100000 in
set_option maxHeartbeats 2000000 in
theorem bad_index (k : Nat) (xs : List ByteArray) (A : Option Addr) (c : Nat) (r : Int) (w : World) (hr : Kd.C Kd.string w A xs.length xs) (h : badIx k xs 0 = some r) :
    Calls Try.prog 92 #[.slice A xs.length c, .func (.func 79) #[] #[]] w fun e w' => e = .returned (.int .i64 r) ∧ Drawn0 w w' := by
  have hm : xs.length ≤ 9223372036854775807 := hr.2.1
  have HR := Aside0.mk hr
  have HM := Aside0.mk hm
  have H0 := Aside0.mk h
  clear hr hm h
  go_enter Try.func92, Try.ntmps92
  go_wp2
  go_loopg [8] (xs.length + 1) (fun kq v8 w' => ∃ i : Nat, v8 = .int .i64 (i : Int) ∧ Aside0 (i + kq = xs.length + 1) ∧ Aside0 (badIx k (xs.drop i) i = some r) ∧ Aside0 (Drawn0 w w'))
  case atStart => exact ⟨0, rfl, ⟨by omega⟩, ⟨by rw [List.drop_zero]; exact H0.out⟩, ⟨⟨0, rfl⟩⟩⟩
  case round =>
    obtain ⟨i, rfl, HI, HX, HD⟩ := hrel
    obtain ⟨⟨n0, rfl⟩⟩ := HD
    by_cases ci : (i : Int) < (xs.length : Int)
    · have cib : decide ((i : Int) < (xs.length : Int)) = true := decide_eq_true ci
      have cil : i < xs.length := by omega
      obtain ⟨ad, e1, hx0⟩ := str_cell HR.out i cil
      subst e1
      have hk : badIx k (xs.drop i) i = (name_Prop.f k (xs.getD i ⟨#[]⟩)).bind fun b => if b = true then badIx k (xs.drop (i + 1)) (i + 1) else some (i : Int) := by
        rw [List.drop_eq_getElem_cons cil]
        simp only [badIx, List.getD_eq_getElem?_getD, List.getElem?_eq_getElem cil, Option.getD_some]
      have hb := HX.out
      rw [hk] at hb
      obtain ⟨b, hb0, hb1⟩ := Option.bind_eq_some_iff.mp hb
      obtain ⟨s, hs⟩ : ∃ s, s = xs.getD i ⟨#[]⟩ := ⟨_, rfl⟩
      rw [← hs] at hb0 hx0
      have q := fun W => bad_lit k s b W hb0
      clear hk hb hb0 HX hs
      cases gk with
      | zero => have := HI.out; omega
      | succ k1 =>
        cases b with
        | false =>
          have hb2 : (i : Int) = r := by rw [if_neg (by decide)] at hb1; exact Option.some.inj hb1
          subst hb2
          clear hb1
          go_wp2_with (go_at_call 79; refine (q _).mono ?_; rintro e w2 ⟨rfl, ⟨nd, rfl⟩⟩)
          go_ret
          exact ⟨rfl, by repeat (first | exact ⟨0, rfl⟩ | exact Drawn0.refl _ | apply Drawn0.step)⟩
        | true =>
          rw [if_pos rfl] at hb1
          have HX := Aside0.mk hb1
          have hw := i64_w ((i : Int) + 1)
          have hw2 : Go.RowKit.wrap64 ((i : Int) + 1) = ((i + 1 : Nat) : Int) := by have := HM.out; unfold Go.RowKit.wrap64; omega
          clear hb1
          go_wp2_with (go_at_call 79; refine (q _).mono ?_; rintro e w2 ⟨rfl, ⟨nd, rfl⟩⟩)
          go_roundg k1
          case measure => omega
          case rel => exact ⟨i + 1, by first | rfl | (simp; done) | (simp [*]; done), ⟨by have := HI.out; omega⟩, HX, ⟨⟨_, rfl⟩⟩⟩
    · have cib : decide ((i : Int) < (xs.length : Int)) = false := decide_eq_false ci
      have hX := HX.out
      rw [List.drop_of_length_le (by omega)] at hX
      obtain rfl := Option.some.inj hX
      clear HX hX
      go_wp2
      go_ret
      exact ⟨rfl, ⟨_, rfl⟩⟩
set_option maxRecDepth 100000 in
theorem bad_has (k : Nat) (xs : List ByteArray) (A : Option Addr) (c : Nat) (r : Int) (w : World) (hr : Kd.C Kd.string w A xs.length xs) (h : badIx k xs 0 = some r) :
    Calls Try.prog 78 #[.slice A xs.length c, .func (.func 79) #[] #[]] w fun e w' => e = .returned (.bool (decide (0 ≤ r))) ∧ Drawn0 w w' := by
  have q := fun n => bad_index k xs A c r (w.drewN n) (Kd.C_drewN hr n) h
  clear hr h
  go_enter Try.func78, Try.ntmps78
  go_wp2_with (go_at_call 92; refine (q 0).mono ?_; rintro e w2 ⟨rfl, ⟨nd, rfl⟩⟩)
  go_ret
  exact ⟨by first | rfl | (simp; done), ⟨_, rfl⟩⟩
theorem bad_has_v (k : Nat) (v : Value) (xs : List ByteArray) (w : World) (base : Nat) (ok : Nat → Prop) (r : Int) (hr : Kd.R Kd.string 9 w base ok v xs) (h : badIx k xs 0 = some r) :
    Calls Try.prog 78 #[v, .func (.func 79) #[] #[]] w fun e w' => e = .returned (.bool (decide (0 ≤ r))) ∧ Drawn0 w w' := by
  obtain ⟨A, c, rfl, _, hC⟩ := Kd.R_reads hr
  exact bad_has k xs A c r w hC h
theorem own_from {w : World} {base : Nat} {ok : Nat → Prop} {v : Value} {xs : List ByteArray} (hr : Kd.R Kd.string 9 w base ok v xs) : ∀ k, v.ownBlock = some k → base ≤ k := fun k hk => own_base hr.2.choose_spec.1 k hk
theorem below_grown_own {W1 W w' : World} {row : Option Nat} (h : Below W1.heap.size W1 W) (hg : W.grownBy w' row) (hr : ∀ k, row = some k → W1.heap.size ≤ k) : Below W1.heap.size W1 w' := h.grown hg h.size hr
theorem w_succ {i n : Nat} (h : i < n) (hn : n ≤ 9223372036854775807) : Go.RowKit.wrap64 ((i : Int) + 1) = ((i + 1 : Nat) : Int) := by unfold Go.RowKit.wrap64; omega
theorem w_two : Go.RowKit.wrap64 ((1 : Int) + 1) = 2 := by unfold Go.RowKit.wrap64; omega
def tree_check.kids (F : ByteArray → List S77 → List S30 → Option Int) : List S30 → Option Int
  | [] => some 0
  | x :: r => (F x.f0 x.f1 x.f2).bind fun e => if e = 0 then tree_check.kids F r else some e
def tree_check.node (k : Nat) (nm : ByteArray) (ps : List S77) (ks : List S30) (d : Int) : Option Int :=
  (tree_names.f k nm ps ks).bind fun lm => if d > 16 then some 6 else if d < 1 then none else (name_Node.f k nm).bind fun b =>
    if d = 1 ∧ nm.toList ≠ [] then some 5 else if d > 1 ∧ b = false then some 5 else (badIx k lm.1 0).bind fun i => if 0 ≤ i then some 5 else
      if lm.1.length < 4611686018427387904 ∧ lm.2.length < 4611686018427387904 then (if dupB lm.1 = true then some 9 else if dupB lm.2 = true then some 9 else some 0) else none
def tree_check.f : Nat → ByteArray → List S77 → List S30 → Int → Option Int
  | 0, _, _, _, _ => none
  | k + 1, nm, ps, ks, d => (tree_check.node k nm ps ks d).bind fun e => if e = 0 then tree_check.kids (fun x y z => tree_check.f k x y z (wrap64 (d + 1))) ks else some e
attribute [local irreducible] Go.Calls in
set_option maxRecDepth 100000 in
set_option maxHeartbeats 1000000 in
theorem tree_check.calls (k : Nat) : ∀ (a0_0 : ByteArray) (A0_1 : Option Addr) (c0_1 : Nat) (l0_1 : List (S77)) (A0_2 : Option Addr) (c0_2 : Nat) (l0_2 : List (S30)) (a1 : Int) (r : Int) (w : World) (hr0_1 : Kd.C k77 w A0_1 l0_1.length l0_1) (hc0_1 : l0_1.length ≤ c0_1) (hr0_2 : Kd.C k30 w A0_2 l0_2.length l0_2) (hc0_2 : l0_2.length ≤ c0_2) (h : tree_check.f k a0_0 l0_1 l0_2 a1 = some r),
    Calls Try.prog 55 #[.agg #[.string a0_0, .slice A0_1 l0_1.length c0_1, .slice A0_2 l0_2.length c0_2], .int .i64 a1] w fun e w' => e = .returned (.int .i64 r) ∧ Below w.heap.size w w' := by
  induction k with
  | zero => intro a0_0 A0_1 c0_1 l0_1 A0_2 c0_2 l0_2 a1 r w hr0_1 hc0_1 hr0_2 hc0_2 h; cases h
  | succ k ih =>
  intro a0_0 A0_1 c0_1 l0_1 A0_2 c0_2 l0_2 a1 r w hr0_1 hc0_1 hr0_2 hc0_2 h
  have hu30 := Try.underlying30
  have HR2 := Aside0.mk hr0_2
  have H0 : (tree_check.node k a0_0 l0_1 l0_2 a1).bind (fun e => if e = 0 then tree_check.kids (fun x y z => tree_check.f k x y z (wrap64 (a1 + 1))) l0_2 else some e) = some r := h
  clear h
  obtain ⟨e0, hn, H0⟩ := Option.bind_eq_some_iff.mp H0
  unfold tree_check.node at hn
  obtain ⟨⟨lm1, lm2⟩, hnames, hn⟩ := Option.bind_eq_some_iff.mp hn
  simp only at hn
  have hbk := Aside0.mk (blk_new w (.cells #[.string a0_0, .slice A0_1 l0_1.length c0_1, .slice A0_2 l0_2.length c0_2] 30 (0, 0)))
  obtain ⟨W1, hW1⟩ : ∃ W1, W1 = w.alloc (.cells #[.string a0_0, .slice A0_1 l0_1.length c0_1, .slice A0_2 l0_2.length c0_2] 30) := ⟨_, rfl⟩
  have hs1 : W1.heap.size = w.heap.size + 1 := by rw [hW1]; exact Array.size_push ..
  have hb1 := Aside0.mk (show Below w.heap.size w W1 by rw [hW1]; exact below_alloc (Below.refl _ _) _)
  have qn := tree_names.calls k a0_0 A0_1 c0_1 l0_1 A0_2 c0_2 l0_2 lm1 lm2 W1 (Kd.C_below hr0_1 hb1.out) hc0_1 (Kd.C_below hr0_2 hb1.out) hc0_2 hnames
  have hs1' := Aside0.mk hs1
  have hbk1 := Aside0.mk (show W1.heap[w.heap.size]? = some (.cells #[.string a0_0, .slice A0_1 l0_1.length c0_1, .slice A0_2 l0_2.length c0_2] 30 (0, 0)) by rw [hW1]; exact hbk.out)
  have HW1 := Aside0.mk hW1
  rw [hW1] at qn
  clear hW1
  have hm2 : l0_2.length ≤ 9223372036854775807 := hr0_2.2.1
  have HM := Aside0.mk hm2
  clear hr0_1 hr0_2 hnames hbk hs1 hm2
  by_cases d16 : a1 > 16
  · rw [if_pos d16] at hn
    obtain rfl := Option.some.inj hn
    obtain rfl := Option.some.inj H0
    have d16b : decide (a1 > 16) = true := decide_eq_true d16
    have d16c : decide (16 < a1) = true := decide_eq_true d16
    clear hn d16
    go_enter Try.func55, Try.ntmps55
    go_wp2_with (go_at_call 77; refine (qn).mono ?_; rintro e w' ⟨v0, v1, rfl, h0, h1, hb⟩; rw [← HW1.out] at h0 h1 hb; have hk := blk_below hbk1.out hb; have HB := Aside0.mk hb; have R0 := Aside0.mk h0; have R1 := Aside0.mk h1; clear h0 h1 hb; have hc0 : w'.cell? ⟨w.heap.size, 0, none⟩ = some (.string a0_0) := (blk_cell hk 0).trans rfl; have hc2 : w'.cell? ⟨w.heap.size, 2, none⟩ = some (.slice A0_2 l0_2.length c0_2) := (blk_cell hk 2).trans rfl; have hz0 := blk_frozen hk 0; have hz2 := blk_frozen hk 2; clear hk)
    go_ret
    exact ⟨by first | rfl | (simp; done), below_step hb1.out (by repeat (first | exact HB.out | apply below_alloc | apply pw_below_drewN | apply below_drew1))⟩
  rw [if_neg d16] at hn
  have d16b : decide (a1 > 16) = false := decide_eq_false d16
  have d16c : decide (16 < a1) = false := decide_eq_false d16
  by_cases dl : a1 < 1
  · rw [if_pos dl] at hn
    cases hn
  rw [if_neg dl] at hn
  obtain ⟨b, hnode, hn⟩ := Option.bind_eq_some_iff.mp hn
  have qnode := fun W => name_Node.calls k a0_0 b W hnode
  clear hnode
  by_cases d1 : a1 = 1
  · subst d1
    by_cases hz : a0_0.toList = ([] : List UInt8)
    · have hz0 : (a0_0.toList == ([] : List UInt8)) = true := beq_iff_eq.mpr hz
      have hz1 : (a0_0.toList != ([] : List UInt8)) = false := bne_eq_false_iff_eq.mpr hz
      rw [if_neg (fun h => h.2 hz), if_neg (by omega)] at hn
      clear d16 dl hz
      obtain ⟨i0, hbad0, hn⟩ := Option.bind_eq_some_iff.mp hn
      have hbad := Aside0.mk hbad0
      clear hbad0
      by_cases ci0 : 0 ≤ i0
      · rw [if_pos ci0] at hn
        obtain rfl := Option.some.inj hn
        obtain rfl := Option.some.inj H0
        have ci0b : decide (0 ≤ i0) = true := decide_eq_true ci0
        clear hn ci0
        go_enter Try.func55, Try.ntmps55
        go_wp2_with (first | (go_at_call 77; refine (qn).mono ?_; rintro e w' ⟨v0, v1, rfl, h0, h1, hb⟩; rw [← HW1.out] at h0 h1 hb; have hk := blk_below hbk1.out hb; have HB := Aside0.mk hb; have R0 := Aside0.mk h0; have R1 := Aside0.mk h1; clear h0 h1 hb; have hc0 : w'.cell? ⟨w.heap.size, 0, none⟩ = some (.string a0_0) := (blk_cell hk 0).trans rfl; have hc2 : w'.cell? ⟨w.heap.size, 2, none⟩ = some (.slice A0_2 l0_2.length c0_2) := (blk_cell hk 2).trans rfl; have hz0 := blk_frozen hk 0; have hz2 := blk_frozen hk 2; clear hk) | (go_at_call 40; refine (qnode _).mono ?_; rintro e w' ⟨rfl, ⟨nd, rfl⟩⟩) | (go_at_call 78; refine (bad_has_v k v0 lm1 _ W1.heap.size (fun k_ => some k_ ≠ v1.ownBlock) i0 (by (with_reducible repeat (first | apply Kd.R_alloc | apply Kd.R_drewN | apply Kd.R_drew)); exact R0.out) hbad.out).mono ?_; rintro e w' ⟨rfl, ⟨nd2, rfl⟩⟩))
        go_ret
        exact ⟨by first | rfl | (simp; done), below_step hb1.out (by repeat (first | exact HB.out | apply below_alloc | apply pw_below_drewN | apply below_drew1))⟩
      rw [if_neg ci0] at hn
      have ci0b : decide (0 ≤ i0) = false := decide_eq_false ci0
      clear ci0
      by_cases hlen : ¬ (lm1.length < 4611686018427387904 ∧ lm2.length < 4611686018427387904)
      · rw [if_neg hlen] at hn
        cases hn
      replace hlen := Decidable.not_not.mp hlen
      rw [if_pos hlen] at hn
      have HL := Aside0.mk hlen
      clear hlen
      by_cases u1 : dupB lm1 = true
      · rw [if_pos u1] at hn
        obtain rfl := Option.some.inj hn
        obtain rfl := Option.some.inj H0
        clear hn
        go_enter Try.func55, Try.ntmps55
        go_wp2_with (first | (go_at_call 77; refine (qn).mono ?_; rintro e w' ⟨v0, v1, rfl, h0, h1, hb⟩; rw [← HW1.out] at h0 h1 hb; have hk := blk_below hbk1.out hb; have HB := Aside0.mk hb; have R0 := Aside0.mk h0; have R1 := Aside0.mk h1; clear h0 h1 hb; have hc0 : w'.cell? ⟨w.heap.size, 0, none⟩ = some (.string a0_0) := (blk_cell hk 0).trans rfl; have hc2 : w'.cell? ⟨w.heap.size, 2, none⟩ = some (.slice A0_2 l0_2.length c0_2) := (blk_cell hk 2).trans rfl; have hz0 := blk_frozen hk 0; have hz2 := blk_frozen hk 2; clear hk; have qt0 := fun n => twice_calls v0 lm1 (w'.drewN n) W1.heap.size (fun k_ => some k_ ≠ v1.ownBlock) (Kd.R_drewN R0.out n) HL.out.1; have qu0 := twice_calls v0 lm1 w' W1.heap.size (fun k_ => some k_ ≠ v1.ownBlock) R0.out HL.out.1) | (go_at_call 40; refine (qnode _).mono ?_; rintro e w' ⟨rfl, ⟨nd, rfl⟩⟩) | (go_at_call 78; refine (bad_has_v k v0 lm1 _ W1.heap.size (fun k_ => some k_ ≠ v1.ownBlock) i0 (by (with_reducible repeat (first | apply Kd.R_alloc | apply Kd.R_drewN | apply Kd.R_drew)); exact R0.out) hbad.out).mono ?_; rintro e w' ⟨rfl, ⟨nd2, rfl⟩⟩) | (go_at_call 81; (first | (refine (qt0 _).mono ?_) | (refine qu0.mono ?_)); rintro e w2 ⟨rfl, hg2⟩; have nr_ := Aside0.mk (Kd.R_grown (ok := fun k_ => some k_ ≠ v0.ownBlock) (by (with_reducible repeat (first | apply Kd.R_alloc | apply Kd.R_drewN | apply Kd.R_drew)); exact R1.out) hg2 (fun _ h => h)); have nb_ := Aside0.mk (below_grown_own (W1 := W1) (by repeat (first | exact HB.out | apply below_alloc | apply pw_below_drewN | apply below_drew1)) hg2 (own_from R0.out)); have hk_ := blk_below hbk1.out nb_.out; have hc2_2 : w2.cell? ⟨w.heap.size, 2, none⟩ = some (.slice A0_2 l0_2.length c0_2) := (blk_cell hk_ 2).trans rfl; have hz2_2 := blk_frozen hk_ 2; clear HB hk_; have HB := nb_; clear nb_ hg2; clear R1; have R1 := nr_; clear nr_; have qt1 := fun n => twice_calls v1 lm2 (w2.drewN n) W1.heap.size (fun k_ => some k_ ≠ v0.ownBlock) (Kd.R_drewN R1.out n) HL.out.2; have qu1 := twice_calls v1 lm2 w2 W1.heap.size (fun k_ => some k_ ≠ v0.ownBlock) R1.out HL.out.2) | (go_at_call 81; (first | (refine (qt1 _).mono ?_) | (refine qu1.mono ?_)); rintro e w3 ⟨rfl, hg3⟩; have nb_ := Aside0.mk (below_grown_own (W1 := W1) (by repeat (first | exact HB.out | apply below_alloc | apply pw_below_drewN | apply below_drew1)) hg3 (own_from R1.out)); have hk_ := blk_below hbk1.out nb_.out; have hc2_3 : w3.cell? ⟨w.heap.size, 2, none⟩ = some (.slice A0_2 l0_2.length c0_2) := (blk_cell hk_ 2).trans rfl; have hz2_3 := blk_frozen hk_ 2; clear HB hk_; have HB := nb_; clear nb_ hg3))
        go_ret
        exact ⟨by first | rfl | (simp; done), below_step hb1.out (by repeat (first | exact HB.out | apply below_alloc | apply pw_below_drewN | apply below_drew1))⟩
      rw [if_neg u1] at hn
      replace u1 := Bool.eq_false_iff.mpr u1
      by_cases u2 : dupB lm2 = true
      · rw [if_pos u2] at hn
        obtain rfl := Option.some.inj hn
        obtain rfl := Option.some.inj H0
        clear hn
        go_enter Try.func55, Try.ntmps55
        go_wp2_with (first | (go_at_call 77; refine (qn).mono ?_; rintro e w' ⟨v0, v1, rfl, h0, h1, hb⟩; rw [← HW1.out] at h0 h1 hb; have hk := blk_below hbk1.out hb; have HB := Aside0.mk hb; have R0 := Aside0.mk h0; have R1 := Aside0.mk h1; clear h0 h1 hb; have hc0 : w'.cell? ⟨w.heap.size, 0, none⟩ = some (.string a0_0) := (blk_cell hk 0).trans rfl; have hc2 : w'.cell? ⟨w.heap.size, 2, none⟩ = some (.slice A0_2 l0_2.length c0_2) := (blk_cell hk 2).trans rfl; have hz0 := blk_frozen hk 0; have hz2 := blk_frozen hk 2; clear hk; have qt0 := fun n => twice_calls v0 lm1 (w'.drewN n) W1.heap.size (fun k_ => some k_ ≠ v1.ownBlock) (Kd.R_drewN R0.out n) HL.out.1; have qu0 := twice_calls v0 lm1 w' W1.heap.size (fun k_ => some k_ ≠ v1.ownBlock) R0.out HL.out.1) | (go_at_call 40; refine (qnode _).mono ?_; rintro e w' ⟨rfl, ⟨nd, rfl⟩⟩) | (go_at_call 78; refine (bad_has_v k v0 lm1 _ W1.heap.size (fun k_ => some k_ ≠ v1.ownBlock) i0 (by (with_reducible repeat (first | apply Kd.R_alloc | apply Kd.R_drewN | apply Kd.R_drew)); exact R0.out) hbad.out).mono ?_; rintro e w' ⟨rfl, ⟨nd2, rfl⟩⟩) | (go_at_call 81; (first | (refine (qt0 _).mono ?_) | (refine qu0.mono ?_)); rintro e w2 ⟨rfl, hg2⟩; have nr_ := Aside0.mk (Kd.R_grown (ok := fun k_ => some k_ ≠ v0.ownBlock) (by (with_reducible repeat (first | apply Kd.R_alloc | apply Kd.R_drewN | apply Kd.R_drew)); exact R1.out) hg2 (fun _ h => h)); have nb_ := Aside0.mk (below_grown_own (W1 := W1) (by repeat (first | exact HB.out | apply below_alloc | apply pw_below_drewN | apply below_drew1)) hg2 (own_from R0.out)); have hk_ := blk_below hbk1.out nb_.out; have hc2_2 : w2.cell? ⟨w.heap.size, 2, none⟩ = some (.slice A0_2 l0_2.length c0_2) := (blk_cell hk_ 2).trans rfl; have hz2_2 := blk_frozen hk_ 2; clear HB hk_; have HB := nb_; clear nb_ hg2; clear R1; have R1 := nr_; clear nr_; have qt1 := fun n => twice_calls v1 lm2 (w2.drewN n) W1.heap.size (fun k_ => some k_ ≠ v0.ownBlock) (Kd.R_drewN R1.out n) HL.out.2; have qu1 := twice_calls v1 lm2 w2 W1.heap.size (fun k_ => some k_ ≠ v0.ownBlock) R1.out HL.out.2) | (go_at_call 81; (first | (refine (qt1 _).mono ?_) | (refine qu1.mono ?_)); rintro e w3 ⟨rfl, hg3⟩; have nb_ := Aside0.mk (below_grown_own (W1 := W1) (by repeat (first | exact HB.out | apply below_alloc | apply pw_below_drewN | apply below_drew1)) hg3 (own_from R1.out)); have hk_ := blk_below hbk1.out nb_.out; have hc2_3 : w3.cell? ⟨w.heap.size, 2, none⟩ = some (.slice A0_2 l0_2.length c0_2) := (blk_cell hk_ 2).trans rfl; have hz2_3 := blk_frozen hk_ 2; clear HB hk_; have HB := nb_; clear nb_ hg3))
        go_ret
        exact ⟨by first | rfl | (simp; done), below_step hb1.out (by repeat (first | exact HB.out | apply below_alloc | apply pw_below_drewN | apply below_drew1))⟩
      rw [if_neg u2] at hn
      replace u2 := Bool.eq_false_iff.mpr u2
      obtain rfl := Option.some.inj hn
      rw [if_pos rfl] at H0
      rw [w_two] at H0
      have HK := Aside0.mk H0
      clear H0 hn
      go_enter Try.func55, Try.ntmps55
      go_wp2_with (first | (go_at_call 77; refine (qn).mono ?_; rintro e w' ⟨v0, v1, rfl, h0, h1, hb⟩; rw [← HW1.out] at h0 h1 hb; have hk := blk_below hbk1.out hb; have HB := Aside0.mk hb; have R0 := Aside0.mk h0; have R1 := Aside0.mk h1; clear h0 h1 hb; have hc0 : w'.cell? ⟨w.heap.size, 0, none⟩ = some (.string a0_0) := (blk_cell hk 0).trans rfl; have hc2 : w'.cell? ⟨w.heap.size, 2, none⟩ = some (.slice A0_2 l0_2.length c0_2) := (blk_cell hk 2).trans rfl; have hz0 := blk_frozen hk 0; have hz2 := blk_frozen hk 2; clear hk; have qt0 := fun n => twice_calls v0 lm1 (w'.drewN n) W1.heap.size (fun k_ => some k_ ≠ v1.ownBlock) (Kd.R_drewN R0.out n) HL.out.1; have qu0 := twice_calls v0 lm1 w' W1.heap.size (fun k_ => some k_ ≠ v1.ownBlock) R0.out HL.out.1) | (go_at_call 40; refine (qnode _).mono ?_; rintro e w' ⟨rfl, ⟨nd, rfl⟩⟩) | (go_at_call 78; refine (bad_has_v k v0 lm1 _ W1.heap.size (fun k_ => some k_ ≠ v1.ownBlock) i0 (by (with_reducible repeat (first | apply Kd.R_alloc | apply Kd.R_drewN | apply Kd.R_drew)); exact R0.out) hbad.out).mono ?_; rintro e w' ⟨rfl, ⟨nd2, rfl⟩⟩) | (go_at_call 81; (first | (refine (qt0 _).mono ?_) | (refine qu0.mono ?_)); rintro e w2 ⟨rfl, hg2⟩; have nr_ := Aside0.mk (Kd.R_grown (ok := fun k_ => some k_ ≠ v0.ownBlock) (by (with_reducible repeat (first | apply Kd.R_alloc | apply Kd.R_drewN | apply Kd.R_drew)); exact R1.out) hg2 (fun _ h => h)); have nb_ := Aside0.mk (below_grown_own (W1 := W1) (by repeat (first | exact HB.out | apply below_alloc | apply pw_below_drewN | apply below_drew1)) hg2 (own_from R0.out)); have hk_ := blk_below hbk1.out nb_.out; have hc2_2 : w2.cell? ⟨w.heap.size, 2, none⟩ = some (.slice A0_2 l0_2.length c0_2) := (blk_cell hk_ 2).trans rfl; have hz2_2 := blk_frozen hk_ 2; clear HB hk_; have HB := nb_; clear nb_ hg2; clear R1; have R1 := nr_; clear nr_; have qt1 := fun n => twice_calls v1 lm2 (w2.drewN n) W1.heap.size (fun k_ => some k_ ≠ v0.ownBlock) (Kd.R_drewN R1.out n) HL.out.2; have qu1 := twice_calls v1 lm2 w2 W1.heap.size (fun k_ => some k_ ≠ v0.ownBlock) R1.out HL.out.2) | (go_at_call 81; (first | (refine (qt1 _).mono ?_) | (refine qu1.mono ?_)); rintro e w3 ⟨rfl, hg3⟩; have nb_ := Aside0.mk (below_grown_own (W1 := W1) (by repeat (first | exact HB.out | apply below_alloc | apply pw_below_drewN | apply below_drew1)) hg3 (own_from R1.out)); have hk_ := blk_below hbk1.out nb_.out; have hc2_3 : w3.cell? ⟨w.heap.size, 2, none⟩ = some (.slice A0_2 l0_2.length c0_2) := (blk_cell hk_ 2).trans rfl; have hz2_3 := blk_frozen hk_ 2; clear HB hk_; have HB := nb_; clear nb_ hg3))
      go_loopg [47] (l0_2.length + 1) (fun kq v47 w' => ∃ i : Nat, v47 = .int .i64 (i : Int) ∧ Aside0 (i + kq = l0_2.length + 1) ∧ Aside0 (tree_check.kids (fun x y z => tree_check.f k x y z 2) (l0_2.drop i) = some r) ∧ Aside0 (Below W1.heap.size W1 w'))
      case atStart => exact ⟨0, rfl, ⟨by omega⟩, ⟨by rw [List.drop_zero]; exact HK.out⟩, HB⟩
      case round =>
        clear hc0 hc2 hz0 hz2 hc2_2 hz2_2 hc2_3 hz2_3 u1 u2 qt0 qu0 qt1 qu1
        obtain ⟨i, rfl, HI, HX, HBr⟩ := hrel
        by_cases ci : (i : Int) < (l0_2.length : Int)
        · have cib : decide ((i : Int) < (l0_2.length : Int)) = true := decide_eq_true ci
          have cil : i < l0_2.length := by omega
          obtain ⟨ad, A1, c1, A2, c2, e1, hx0, hx1, hx2, hl1, hC1, hl2, hC2⟩ := at_T30 HR2.out (i : Int) (Int.natCast_nonneg i) ci
          subst e1
          simp only [Int.toNat_natCast] at hx0 hx1 hx2
          have HBw := Aside0.mk (below_step hb1.out HBr.out)
          replace hx0 := (HBw.out.cell (World.block_lt_of_cell? w _ hx0)).trans hx0
          replace hx1 := (HBw.out.cell (World.block_lt_of_cell? w _ hx1)).trans hx1
          replace hx2 := (HBw.out.cell (World.block_lt_of_cell? w _ hx2)).trans hx2
          have hX := HX.out
          rw [List.drop_eq_getElem_cons cil] at hX
          have hxe : l0_2[i] = rd_T30 l0_2 (i : Int) := by simp only [rd_T30, Int.toNat_natCast, List.getD_eq_getElem?_getD, List.getElem?_eq_getElem cil, Option.getD_some]
          rw [hxe] at hX
          obtain ⟨x, hx⟩ : ∃ x, x = rd_T30 l0_2 (i : Int) := ⟨_, rfl⟩
          rw [← hx] at hX hx0 hx1 hx2 hl1 hC1 hl2 hC2
          clear hx hxe HX
          obtain ⟨e1, hF, hX⟩ := Option.bind_eq_some_iff.mp hX
          have qk := fun W (hW : Below w.heap.size w W) => ih x.f0 A1 c1 x.f1 A2 c2 x.f2 2 e1 W (Kd.C_below hC1 hW) hl1 (Kd.C_below hC2 hW) hl2 hF
          have hwd := True.intro
          have hw := i64_w ((i : Int) + 1)
          have hw2 := w_succ cil HM.out
          clear hF hC1 hC2
          cases gk with
          | zero => exact absurd HI.out (by clear hwd hw hw2; omega)
          | succ k1 =>
            by_cases h0 : e1 = 0
            · rw [if_pos h0] at hX
              have HX := Aside0.mk hX
              have h0b : (e1 == 0) = true := beq_iff_eq.mpr h0
              have h0c : (e1 != 0) = false := bne_eq_false_iff_eq.mpr h0
              clear hX h0
              go_wp2_with (go_at_call 55; refine (qk _ ?hW).mono ?_; (case hW => repeat (first | exact HBw.out | apply below_alloc | apply pw_below_drewN | apply below_drew1)); rintro e w4 ⟨rfl, hb4⟩; have HB4 := Aside0.mk hb4; clear hb4)
              go_roundg k1
              case measure => clear hwd hw hw2; omega
              case rel => exact ⟨i + 1, by first | rfl | (simp; done) | (simp [*]; done), ⟨by clear hwd hw hw2; have := HI.out; omega⟩, HX, ⟨(by repeat (first | exact below_step (by repeat (first | exact HBr.out | apply below_alloc | apply pw_below_drewN | apply below_drew1)) HB4.out | apply below_drew1 | apply pw_below_drewN))⟩⟩
            · rw [if_neg h0] at hX
              obtain rfl := Option.some.inj hX
              have h0b : (e1 == 0) = false := beq_eq_false_iff_ne.mpr h0
              have h0c : (e1 != 0) = true := bne_iff_ne.mpr h0
              clear hX h0
              go_wp2_with (go_at_call 55; refine (qk _ ?hW).mono ?_; (case hW => repeat (first | exact HBw.out | apply below_alloc | apply pw_below_drewN | apply below_drew1)); rintro e w4 ⟨rfl, hb4⟩; have HB4 := Aside0.mk hb4; clear hb4)
              go_ret
              exact ⟨by first | rfl | (simp; done), below_step hb1.out (by repeat (first | exact below_step (by repeat (first | exact HBr.out | apply below_alloc | apply pw_below_drewN | apply below_drew1)) HB4.out | apply below_drew1 | apply pw_below_drewN))⟩
        · have cib : decide ((i : Int) < (l0_2.length : Int)) = false := decide_eq_false ci
          have hX := HX.out
          rw [List.drop_of_length_le (by omega)] at hX
          obtain rfl := Option.some.inj hX
          clear HX hX
          go_wp2
          go_ret
          exact ⟨rfl, below_step hb1.out (by repeat (first | exact HBr.out | apply below_drew1 | apply pw_below_drewN))⟩
    · have hz0 : (a0_0.toList == ([] : List UInt8)) = false := beq_eq_false_iff_ne.mpr hz
      have hz1 : (a0_0.toList != ([] : List UInt8)) = true := bne_iff_ne.mpr hz
      rw [if_pos ⟨rfl, hz⟩] at hn
      obtain rfl := Option.some.inj hn
      obtain rfl := Option.some.inj H0
      clear hn hz d16 dl
      go_enter Try.func55, Try.ntmps55
      go_wp2_with (first | (go_at_call 77; refine (qn).mono ?_; rintro e w' ⟨v0, v1, rfl, h0, h1, hb⟩; rw [← HW1.out] at h0 h1 hb; have hk := blk_below hbk1.out hb; have HB := Aside0.mk hb; have R0 := Aside0.mk h0; have R1 := Aside0.mk h1; clear h0 h1 hb; have hc0 : w'.cell? ⟨w.heap.size, 0, none⟩ = some (.string a0_0) := (blk_cell hk 0).trans rfl; have hc2 : w'.cell? ⟨w.heap.size, 2, none⟩ = some (.slice A0_2 l0_2.length c0_2) := (blk_cell hk 2).trans rfl; have hz0 := blk_frozen hk 0; have hz2 := blk_frozen hk 2; clear hk) | (go_at_call 40; refine (qnode _).mono ?_; rintro e w' ⟨rfl, ⟨nd, rfl⟩⟩))
      go_ret
      exact ⟨by first | rfl | (simp; done), below_step hb1.out (by repeat (first | exact HB.out | apply below_alloc | apply pw_below_drewN | apply below_drew1))⟩
  · have d1b : decide (a1 = 1) = false := decide_eq_false d1
    have d1c : decide (a1 > 1) = true := decide_eq_true (by omega)
    have d1d : decide (1 < a1) = true := decide_eq_true (by omega)
    have d1e : (a1 == 1) = false := beq_eq_false_iff_ne.mpr d1
    rw [if_neg (fun h => d1 h.1)] at hn
    cases b with
    | false =>
      rw [if_pos ⟨by omega, rfl⟩] at hn
      obtain rfl := Option.some.inj hn
      obtain rfl := Option.some.inj H0
      clear hn d16 dl d1
      go_enter Try.func55, Try.ntmps55
      go_wp2_with (first | (go_at_call 77; refine (qn).mono ?_; rintro e w' ⟨v0, v1, rfl, h0, h1, hb⟩; rw [← HW1.out] at h0 h1 hb; have hk := blk_below hbk1.out hb; have HB := Aside0.mk hb; have R0 := Aside0.mk h0; have R1 := Aside0.mk h1; clear h0 h1 hb; have hc0 : w'.cell? ⟨w.heap.size, 0, none⟩ = some (.string a0_0) := (blk_cell hk 0).trans rfl; have hc2 : w'.cell? ⟨w.heap.size, 2, none⟩ = some (.slice A0_2 l0_2.length c0_2) := (blk_cell hk 2).trans rfl; have hz0 := blk_frozen hk 0; have hz2 := blk_frozen hk 2; clear hk) | (go_at_call 40; refine (qnode _).mono ?_; rintro e w' ⟨rfl, ⟨nd, rfl⟩⟩))
      go_ret
      exact ⟨by first | rfl | (simp; done), below_step hb1.out (by repeat (first | exact HB.out | apply below_alloc | apply pw_below_drewN | apply below_drew1))⟩
    | true =>
      rw [if_neg (fun h => Bool.noConfusion h.2)] at hn
      clear d16 dl d1
      obtain ⟨i0, hbad0, hn⟩ := Option.bind_eq_some_iff.mp hn
      have hbad := Aside0.mk hbad0
      clear hbad0
      by_cases ci0 : 0 ≤ i0
      · rw [if_pos ci0] at hn
        obtain rfl := Option.some.inj hn
        obtain rfl := Option.some.inj H0
        have ci0b : decide (0 ≤ i0) = true := decide_eq_true ci0
        clear hn ci0
        go_enter Try.func55, Try.ntmps55
        go_wp2_with (first | (go_at_call 77; refine (qn).mono ?_; rintro e w' ⟨v0, v1, rfl, h0, h1, hb⟩; rw [← HW1.out] at h0 h1 hb; have hk := blk_below hbk1.out hb; have HB := Aside0.mk hb; have R0 := Aside0.mk h0; have R1 := Aside0.mk h1; clear h0 h1 hb; have hc0 : w'.cell? ⟨w.heap.size, 0, none⟩ = some (.string a0_0) := (blk_cell hk 0).trans rfl; have hc2 : w'.cell? ⟨w.heap.size, 2, none⟩ = some (.slice A0_2 l0_2.length c0_2) := (blk_cell hk 2).trans rfl; have hz0 := blk_frozen hk 0; have hz2 := blk_frozen hk 2; clear hk) | (go_at_call 40; refine (qnode _).mono ?_; rintro e w' ⟨rfl, ⟨nd, rfl⟩⟩) | (go_at_call 78; refine (bad_has_v k v0 lm1 _ W1.heap.size (fun k_ => some k_ ≠ v1.ownBlock) i0 (by (with_reducible repeat (first | apply Kd.R_alloc | apply Kd.R_drewN | apply Kd.R_drew)); exact R0.out) hbad.out).mono ?_; rintro e w' ⟨rfl, ⟨nd2, rfl⟩⟩))
        go_ret
        exact ⟨by first | rfl | (simp; done), below_step hb1.out (by repeat (first | exact HB.out | apply below_alloc | apply pw_below_drewN | apply below_drew1))⟩
      rw [if_neg ci0] at hn
      have ci0b : decide (0 ≤ i0) = false := decide_eq_false ci0
      clear ci0
      by_cases hlen : ¬ (lm1.length < 4611686018427387904 ∧ lm2.length < 4611686018427387904)
      · rw [if_neg hlen] at hn
        cases hn
      replace hlen := Decidable.not_not.mp hlen
      rw [if_pos hlen] at hn
      have HL := Aside0.mk hlen
      clear hlen
      by_cases u1 : dupB lm1 = true
      · rw [if_pos u1] at hn
        obtain rfl := Option.some.inj hn
        obtain rfl := Option.some.inj H0
        clear hn
        go_enter Try.func55, Try.ntmps55
        go_wp2_with (first | (go_at_call 77; refine (qn).mono ?_; rintro e w' ⟨v0, v1, rfl, h0, h1, hb⟩; rw [← HW1.out] at h0 h1 hb; have hk := blk_below hbk1.out hb; have HB := Aside0.mk hb; have R0 := Aside0.mk h0; have R1 := Aside0.mk h1; clear h0 h1 hb; have hc0 : w'.cell? ⟨w.heap.size, 0, none⟩ = some (.string a0_0) := (blk_cell hk 0).trans rfl; have hc2 : w'.cell? ⟨w.heap.size, 2, none⟩ = some (.slice A0_2 l0_2.length c0_2) := (blk_cell hk 2).trans rfl; have hz0 := blk_frozen hk 0; have hz2 := blk_frozen hk 2; clear hk; have qt0 := fun n => twice_calls v0 lm1 (w'.drewN n) W1.heap.size (fun k_ => some k_ ≠ v1.ownBlock) (Kd.R_drewN R0.out n) HL.out.1; have qu0 := twice_calls v0 lm1 w' W1.heap.size (fun k_ => some k_ ≠ v1.ownBlock) R0.out HL.out.1) | (go_at_call 40; refine (qnode _).mono ?_; rintro e w' ⟨rfl, ⟨nd, rfl⟩⟩) | (go_at_call 78; refine (bad_has_v k v0 lm1 _ W1.heap.size (fun k_ => some k_ ≠ v1.ownBlock) i0 (by (with_reducible repeat (first | apply Kd.R_alloc | apply Kd.R_drewN | apply Kd.R_drew)); exact R0.out) hbad.out).mono ?_; rintro e w' ⟨rfl, ⟨nd2, rfl⟩⟩) | (go_at_call 81; (first | (refine (qt0 _).mono ?_) | (refine qu0.mono ?_)); rintro e w2 ⟨rfl, hg2⟩; have nr_ := Aside0.mk (Kd.R_grown (ok := fun k_ => some k_ ≠ v0.ownBlock) (by (with_reducible repeat (first | apply Kd.R_alloc | apply Kd.R_drewN | apply Kd.R_drew)); exact R1.out) hg2 (fun _ h => h)); have nb_ := Aside0.mk (below_grown_own (W1 := W1) (by repeat (first | exact HB.out | apply below_alloc | apply pw_below_drewN | apply below_drew1)) hg2 (own_from R0.out)); have hk_ := blk_below hbk1.out nb_.out; have hc2_2 : w2.cell? ⟨w.heap.size, 2, none⟩ = some (.slice A0_2 l0_2.length c0_2) := (blk_cell hk_ 2).trans rfl; have hz2_2 := blk_frozen hk_ 2; clear HB hk_; have HB := nb_; clear nb_ hg2; clear R1; have R1 := nr_; clear nr_; have qt1 := fun n => twice_calls v1 lm2 (w2.drewN n) W1.heap.size (fun k_ => some k_ ≠ v0.ownBlock) (Kd.R_drewN R1.out n) HL.out.2; have qu1 := twice_calls v1 lm2 w2 W1.heap.size (fun k_ => some k_ ≠ v0.ownBlock) R1.out HL.out.2) | (go_at_call 81; (first | (refine (qt1 _).mono ?_) | (refine qu1.mono ?_)); rintro e w3 ⟨rfl, hg3⟩; have nb_ := Aside0.mk (below_grown_own (W1 := W1) (by repeat (first | exact HB.out | apply below_alloc | apply pw_below_drewN | apply below_drew1)) hg3 (own_from R1.out)); have hk_ := blk_below hbk1.out nb_.out; have hc2_3 : w3.cell? ⟨w.heap.size, 2, none⟩ = some (.slice A0_2 l0_2.length c0_2) := (blk_cell hk_ 2).trans rfl; have hz2_3 := blk_frozen hk_ 2; clear HB hk_; have HB := nb_; clear nb_ hg3))
        go_ret
        exact ⟨by first | rfl | (simp; done), below_step hb1.out (by repeat (first | exact HB.out | apply below_alloc | apply pw_below_drewN | apply below_drew1))⟩
      rw [if_neg u1] at hn
      replace u1 := Bool.eq_false_iff.mpr u1
      by_cases u2 : dupB lm2 = true
      · rw [if_pos u2] at hn
        obtain rfl := Option.some.inj hn
        obtain rfl := Option.some.inj H0
        clear hn
        go_enter Try.func55, Try.ntmps55
        go_wp2_with (first | (go_at_call 77; refine (qn).mono ?_; rintro e w' ⟨v0, v1, rfl, h0, h1, hb⟩; rw [← HW1.out] at h0 h1 hb; have hk := blk_below hbk1.out hb; have HB := Aside0.mk hb; have R0 := Aside0.mk h0; have R1 := Aside0.mk h1; clear h0 h1 hb; have hc0 : w'.cell? ⟨w.heap.size, 0, none⟩ = some (.string a0_0) := (blk_cell hk 0).trans rfl; have hc2 : w'.cell? ⟨w.heap.size, 2, none⟩ = some (.slice A0_2 l0_2.length c0_2) := (blk_cell hk 2).trans rfl; have hz0 := blk_frozen hk 0; have hz2 := blk_frozen hk 2; clear hk; have qt0 := fun n => twice_calls v0 lm1 (w'.drewN n) W1.heap.size (fun k_ => some k_ ≠ v1.ownBlock) (Kd.R_drewN R0.out n) HL.out.1; have qu0 := twice_calls v0 lm1 w' W1.heap.size (fun k_ => some k_ ≠ v1.ownBlock) R0.out HL.out.1) | (go_at_call 40; refine (qnode _).mono ?_; rintro e w' ⟨rfl, ⟨nd, rfl⟩⟩) | (go_at_call 78; refine (bad_has_v k v0 lm1 _ W1.heap.size (fun k_ => some k_ ≠ v1.ownBlock) i0 (by (with_reducible repeat (first | apply Kd.R_alloc | apply Kd.R_drewN | apply Kd.R_drew)); exact R0.out) hbad.out).mono ?_; rintro e w' ⟨rfl, ⟨nd2, rfl⟩⟩) | (go_at_call 81; (first | (refine (qt0 _).mono ?_) | (refine qu0.mono ?_)); rintro e w2 ⟨rfl, hg2⟩; have nr_ := Aside0.mk (Kd.R_grown (ok := fun k_ => some k_ ≠ v0.ownBlock) (by (with_reducible repeat (first | apply Kd.R_alloc | apply Kd.R_drewN | apply Kd.R_drew)); exact R1.out) hg2 (fun _ h => h)); have nb_ := Aside0.mk (below_grown_own (W1 := W1) (by repeat (first | exact HB.out | apply below_alloc | apply pw_below_drewN | apply below_drew1)) hg2 (own_from R0.out)); have hk_ := blk_below hbk1.out nb_.out; have hc2_2 : w2.cell? ⟨w.heap.size, 2, none⟩ = some (.slice A0_2 l0_2.length c0_2) := (blk_cell hk_ 2).trans rfl; have hz2_2 := blk_frozen hk_ 2; clear HB hk_; have HB := nb_; clear nb_ hg2; clear R1; have R1 := nr_; clear nr_; have qt1 := fun n => twice_calls v1 lm2 (w2.drewN n) W1.heap.size (fun k_ => some k_ ≠ v0.ownBlock) (Kd.R_drewN R1.out n) HL.out.2; have qu1 := twice_calls v1 lm2 w2 W1.heap.size (fun k_ => some k_ ≠ v0.ownBlock) R1.out HL.out.2) | (go_at_call 81; (first | (refine (qt1 _).mono ?_) | (refine qu1.mono ?_)); rintro e w3 ⟨rfl, hg3⟩; have nb_ := Aside0.mk (below_grown_own (W1 := W1) (by repeat (first | exact HB.out | apply below_alloc | apply pw_below_drewN | apply below_drew1)) hg3 (own_from R1.out)); have hk_ := blk_below hbk1.out nb_.out; have hc2_3 : w3.cell? ⟨w.heap.size, 2, none⟩ = some (.slice A0_2 l0_2.length c0_2) := (blk_cell hk_ 2).trans rfl; have hz2_3 := blk_frozen hk_ 2; clear HB hk_; have HB := nb_; clear nb_ hg3))
        go_ret
        exact ⟨by first | rfl | (simp; done), below_step hb1.out (by repeat (first | exact HB.out | apply below_alloc | apply pw_below_drewN | apply below_drew1))⟩
      rw [if_neg u2] at hn
      replace u2 := Bool.eq_false_iff.mpr u2
      obtain rfl := Option.some.inj hn
      rw [if_pos rfl] at H0
      have HK := Aside0.mk H0
      clear H0 hn
      go_enter Try.func55, Try.ntmps55
      go_wp2_with (first | (go_at_call 77; refine (qn).mono ?_; rintro e w' ⟨v0, v1, rfl, h0, h1, hb⟩; rw [← HW1.out] at h0 h1 hb; have hk := blk_below hbk1.out hb; have HB := Aside0.mk hb; have R0 := Aside0.mk h0; have R1 := Aside0.mk h1; clear h0 h1 hb; have hc0 : w'.cell? ⟨w.heap.size, 0, none⟩ = some (.string a0_0) := (blk_cell hk 0).trans rfl; have hc2 : w'.cell? ⟨w.heap.size, 2, none⟩ = some (.slice A0_2 l0_2.length c0_2) := (blk_cell hk 2).trans rfl; have hz0 := blk_frozen hk 0; have hz2 := blk_frozen hk 2; clear hk; have qt0 := fun n => twice_calls v0 lm1 (w'.drewN n) W1.heap.size (fun k_ => some k_ ≠ v1.ownBlock) (Kd.R_drewN R0.out n) HL.out.1; have qu0 := twice_calls v0 lm1 w' W1.heap.size (fun k_ => some k_ ≠ v1.ownBlock) R0.out HL.out.1) | (go_at_call 40; refine (qnode _).mono ?_; rintro e w' ⟨rfl, ⟨nd, rfl⟩⟩) | (go_at_call 78; refine (bad_has_v k v0 lm1 _ W1.heap.size (fun k_ => some k_ ≠ v1.ownBlock) i0 (by (with_reducible repeat (first | apply Kd.R_alloc | apply Kd.R_drewN | apply Kd.R_drew)); exact R0.out) hbad.out).mono ?_; rintro e w' ⟨rfl, ⟨nd2, rfl⟩⟩) | (go_at_call 81; (first | (refine (qt0 _).mono ?_) | (refine qu0.mono ?_)); rintro e w2 ⟨rfl, hg2⟩; have nr_ := Aside0.mk (Kd.R_grown (ok := fun k_ => some k_ ≠ v0.ownBlock) (by (with_reducible repeat (first | apply Kd.R_alloc | apply Kd.R_drewN | apply Kd.R_drew)); exact R1.out) hg2 (fun _ h => h)); have nb_ := Aside0.mk (below_grown_own (W1 := W1) (by repeat (first | exact HB.out | apply below_alloc | apply pw_below_drewN | apply below_drew1)) hg2 (own_from R0.out)); have hk_ := blk_below hbk1.out nb_.out; have hc2_2 : w2.cell? ⟨w.heap.size, 2, none⟩ = some (.slice A0_2 l0_2.length c0_2) := (blk_cell hk_ 2).trans rfl; have hz2_2 := blk_frozen hk_ 2; clear HB hk_; have HB := nb_; clear nb_ hg2; clear R1; have R1 := nr_; clear nr_; have qt1 := fun n => twice_calls v1 lm2 (w2.drewN n) W1.heap.size (fun k_ => some k_ ≠ v0.ownBlock) (Kd.R_drewN R1.out n) HL.out.2; have qu1 := twice_calls v1 lm2 w2 W1.heap.size (fun k_ => some k_ ≠ v0.ownBlock) R1.out HL.out.2) | (go_at_call 81; (first | (refine (qt1 _).mono ?_) | (refine qu1.mono ?_)); rintro e w3 ⟨rfl, hg3⟩; have nb_ := Aside0.mk (below_grown_own (W1 := W1) (by repeat (first | exact HB.out | apply below_alloc | apply pw_below_drewN | apply below_drew1)) hg3 (own_from R1.out)); have hk_ := blk_below hbk1.out nb_.out; have hc2_3 : w3.cell? ⟨w.heap.size, 2, none⟩ = some (.slice A0_2 l0_2.length c0_2) := (blk_cell hk_ 2).trans rfl; have hz2_3 := blk_frozen hk_ 2; clear HB hk_; have HB := nb_; clear nb_ hg3))
      go_loopg [47] (l0_2.length + 1) (fun kq v47 w' => ∃ i : Nat, v47 = .int .i64 (i : Int) ∧ Aside0 (i + kq = l0_2.length + 1) ∧ Aside0 (tree_check.kids (fun x y z => tree_check.f k x y z (wrap64 (a1 + 1))) (l0_2.drop i) = some r) ∧ Aside0 (Below W1.heap.size W1 w'))
      case atStart => exact ⟨0, rfl, ⟨by omega⟩, ⟨by rw [List.drop_zero]; exact HK.out⟩, HB⟩
      case round =>
        clear hc0 hc2 hz0 hz2 hc2_2 hz2_2 hc2_3 hz2_3 u1 u2 qt0 qu0 qt1 qu1
        obtain ⟨i, rfl, HI, HX, HBr⟩ := hrel
        by_cases ci : (i : Int) < (l0_2.length : Int)
        · have cib : decide ((i : Int) < (l0_2.length : Int)) = true := decide_eq_true ci
          have cil : i < l0_2.length := by omega
          obtain ⟨ad, A1, c1, A2, c2, e1, hx0, hx1, hx2, hl1, hC1, hl2, hC2⟩ := at_T30 HR2.out (i : Int) (Int.natCast_nonneg i) ci
          subst e1
          simp only [Int.toNat_natCast] at hx0 hx1 hx2
          have HBw := Aside0.mk (below_step hb1.out HBr.out)
          replace hx0 := (HBw.out.cell (World.block_lt_of_cell? w _ hx0)).trans hx0
          replace hx1 := (HBw.out.cell (World.block_lt_of_cell? w _ hx1)).trans hx1
          replace hx2 := (HBw.out.cell (World.block_lt_of_cell? w _ hx2)).trans hx2
          have hX := HX.out
          rw [List.drop_eq_getElem_cons cil] at hX
          have hxe : l0_2[i] = rd_T30 l0_2 (i : Int) := by simp only [rd_T30, Int.toNat_natCast, List.getD_eq_getElem?_getD, List.getElem?_eq_getElem cil, Option.getD_some]
          rw [hxe] at hX
          obtain ⟨x, hx⟩ : ∃ x, x = rd_T30 l0_2 (i : Int) := ⟨_, rfl⟩
          rw [← hx] at hX hx0 hx1 hx2 hl1 hC1 hl2 hC2
          clear hx hxe HX
          obtain ⟨e1, hF, hX⟩ := Option.bind_eq_some_iff.mp hX
          have qk := fun W (hW : Below w.heap.size w W) => ih x.f0 A1 c1 x.f1 A2 c2 x.f2 (wrap64 (a1 + 1)) e1 W (Kd.C_below hC1 hW) hl1 (Kd.C_below hC2 hW) hl2 hF
          have hwd := i64_w (a1 + 1)
          have hw := i64_w ((i : Int) + 1)
          have hw2 := w_succ cil HM.out
          clear hF hC1 hC2
          cases gk with
          | zero => exact absurd HI.out (by clear hwd hw hw2; omega)
          | succ k1 =>
            by_cases h0 : e1 = 0
            · rw [if_pos h0] at hX
              have HX := Aside0.mk hX
              have h0b : (e1 == 0) = true := beq_iff_eq.mpr h0
              have h0c : (e1 != 0) = false := bne_eq_false_iff_eq.mpr h0
              clear hX h0
              go_wp2_with (go_at_call 55; refine (qk _ ?hW).mono ?_; (case hW => repeat (first | exact HBw.out | apply below_alloc | apply pw_below_drewN | apply below_drew1)); rintro e w4 ⟨rfl, hb4⟩; have HB4 := Aside0.mk hb4; clear hb4)
              go_roundg k1
              case measure => clear hwd hw hw2; omega
              case rel => exact ⟨i + 1, by first | rfl | (simp; done) | (simp [*]; done), ⟨by clear hwd hw hw2; have := HI.out; omega⟩, HX, ⟨(by repeat (first | exact below_step (by repeat (first | exact HBr.out | apply below_alloc | apply pw_below_drewN | apply below_drew1)) HB4.out | apply below_drew1 | apply pw_below_drewN))⟩⟩
            · rw [if_neg h0] at hX
              obtain rfl := Option.some.inj hX
              have h0b : (e1 == 0) = false := beq_eq_false_iff_ne.mpr h0
              have h0c : (e1 != 0) = true := bne_iff_ne.mpr h0
              clear hX h0
              go_wp2_with (go_at_call 55; refine (qk _ ?hW).mono ?_; (case hW => repeat (first | exact HBw.out | apply below_alloc | apply pw_below_drewN | apply below_drew1)); rintro e w4 ⟨rfl, hb4⟩; have HB4 := Aside0.mk hb4; clear hb4)
              go_ret
              exact ⟨by first | rfl | (simp; done), below_step hb1.out (by repeat (first | exact below_step (by repeat (first | exact HBr.out | apply below_alloc | apply pw_below_drewN | apply below_drew1)) HB4.out | apply below_drew1 | apply pw_below_drewN))⟩
        · have cib : decide ((i : Int) < (l0_2.length : Int)) = false := decide_eq_false ci
          have hX := HX.out
          rw [List.drop_of_length_le (by omega)] at hX
          obtain rfl := Option.some.inj hX
          clear HX hX
          go_wp2
          go_ret
          exact ⟨rfl, below_step hb1.out (by repeat (first | exact HBr.out | apply below_drew1 | apply pw_below_drewN))⟩
end Go.Proofs.Yteejaaeglfpcmab.PC

namespace Go.Proofs.Yteejaaeglfpcmab.PC
open Go.RowKit Go.Proofs.YteejaaeglfpcmabW.PrintWords Go.Proofs.YteejaaeglfpcmabW.PrintLast Go.Proofs.YteejaaeglfpcmabW.PrintMore
attribute [local go_sem] max2_int min2_int max_two min_two max_three min_three max_four min_four   -- for this text's walks alone
set_option linter.unusedVariables false
set_option linter.unusedSimpArgs false
theorem eqA94 (d : Nat) (w : World) (x0 y0 : Int) (x1 y1 : Int) :
    (Op.equalIn (d + 2) 94 (.agg #[.int .u64 x0, .int .u64 x1]) (.agg #[.int .u64 y0, .int .u64 y1])).run Try.prog w = .ok (x0 == y0 && (x1 == y1)) w := by
  refine eqA_of Try.underlying94 (by kernel_rfl) ?_
  refine eqf_cons (by rfl) (by go_simp; rfl) (by go_simp; rfl) (by go_simp) ?_
  exact eqf_last (by rfl) (by go_simp; rfl) (by go_simp; rfl) (by go_simp)
end Go.Proofs.Yteejaaeglfpcmab.PC

namespace Go.Proofs.Yteejaaeglfpcmab.PC
open Go.RowKit Go.Proofs.YteejaaeglfpcmabW.PrintWords Go.Proofs.YteejaaeglfpcmabW.PrintLast Go.Proofs.YteejaaeglfpcmabW.PrintMore
attribute [local go_sem] max2_int min2_int max_two min_two max_three min_three max_four min_four   -- for this text's walks alone
set_option linter.unusedVariables false
set_option linter.unusedSimpArgs false
attribute [local go_sem high] eqA94
def api_Reserve_82.l0 : Nat → List (S94) → Int → Int → Int → Int → Option (Int)
  | 0, _, _, _, _, _ => none
  | k + 1, x0, x7, x8, x302000, x302001 => if x8 < x7 then (if 0 ≤ x8 then (if x8 < (x0.length : Int) then (if (x302000 == ((rd_T94 x0 x8).f0) && (x302001 == ((rd_T94 x0 x8).f1))) = true then (some x8) else (api_Reserve_82.l0 k x0 x7 (wrap64 (x8 + 1)) x302000 x302001)) else (none)) else (none)) else (some (-1))
def api_Reserve_82.f (k : Nat) (l0 : List (S94)) (a1_0 : Int) (a1_1 : Int) : Option (Int) := api_Reserve_82.l0 k l0 (l0.length : Int) 0 a1_0 a1_1
set_option maxHeartbeats 8000000 in
set_option maxRecDepth 100000 in
theorem api_Reserve_82.calls (k : Nat) (A0 : Option Addr) (c0 : Nat) (l0 : List (S94)) (a1_0 : Int) (a1_1 : Int) (r : Int) (w : World) (hr0 : Kd.C k94 w A0 l0.length l0) (hc0 : l0.length ≤ c0) (h : api_Reserve_82.f k l0 a1_0 a1_1 = some r) :
    Calls Try.prog 82 #[.slice A0 l0.length c0, .agg #[.int .u64 a1_0, .int .u64 a1_1]] w fun e w' => e = .returned (.int .i64 r) ∧ Below w.heap.size w w' := by
  have hu94 := Try.underlying94
  have HR0 := Aside0.mk hr0
  have HC0 := Aside0.mk hc0
  clear hr0 hc0
  have HB := Aside0.mk (Below.refl w.heap.size w)
  have H : (api_Reserve_82.l0 k l0 (l0.length : Int) 0 a1_0 a1_1) = some r := h
  clear h
  have H' := Aside0.mk H
  clear H
  go_enter Try.func82, Try.ntmps82
  go_wp2_with (first | ((with_reducible refine gate_dst (N := 3) rfl ?_); refine box_event ?hg (N := 3) ?hd (cs := #[.int .u64 a1_0, .int .u64 a1_1]) (t := 94) ?hr ?_; (case hd => rfl); (case hg => rfl); (case hr => first | (go_simp; done) | (go_simp; rfl)); intro gb301 hg w3 hbox hb; have n0_ := Aside0.mk (below_step (by repeat (first | (with_reducible first | exact HB.out | apply below_alloc | apply pw_below_drewN | apply below_drew1) | exact HB.out)) hb); have n1_ := Aside0.mk (hbox); have n2_ := Aside0.mk ((by rw [hg]; exact (below_size (by repeat (first | (with_reducible first | exact HB.out | apply below_alloc | apply pw_below_drewN | apply below_drew1) | exact HB.out))) : w.heap.size ≤ gb301)); have n3_ := Aside0.mk ((by rw [hg]; exact (below_size (by repeat (first | (with_reducible first | exact HB.out | apply below_alloc | apply pw_below_drewN | apply below_drew1) | exact HB.out))) : w.heap.size ≤ gb301)); clear HB; have HB := n0_; have BK301 := n1_; have GW301 := n2_; have GE301 := n3_; clear n0_ n1_ n2_ n3_; clear hb hbox hg))
  repeat (go_quiet (first | ((with_reducible refine gate_dst (N := 3) rfl ?_); refine box_event ?hg (N := 3) ?hd (cs := #[.int .u64 a1_0, .int .u64 a1_1]) (t := 94) ?hr ?_; (case hd => rfl); (case hg => rfl); (case hr => first | (go_simp; done) | (go_simp; rfl)); intro gb301 hg w3 hbox hb; have n0_ := Aside0.mk (below_step (by repeat (first | (with_reducible first | exact HB.out | apply below_alloc | apply pw_below_drewN | apply below_drew1) | exact HB.out)) hb); have n1_ := Aside0.mk (hbox); have n2_ := Aside0.mk ((by rw [hg]; exact (below_size (by repeat (first | (with_reducible first | exact HB.out | apply below_alloc | apply pw_below_drewN | apply below_drew1) | exact HB.out))) : w.heap.size ≤ gb301)); have n3_ := Aside0.mk ((by rw [hg]; exact (below_size (by repeat (first | (with_reducible first | exact HB.out | apply below_alloc | apply pw_below_drewN | apply below_drew1) | exact HB.out))) : w.heap.size ≤ gb301)); clear HB; have HB := n0_; have BK301 := n1_; have GW301 := n2_; have GE301 := n3_; clear n0_ n1_ n2_ n3_; clear hb hbox hg)); try go_wp2_with (first | ((with_reducible refine gate_dst (N := 3) rfl ?_); refine box_event ?hg (N := 3) ?hd (cs := #[.int .u64 a1_0, .int .u64 a1_1]) (t := 94) ?hr ?_; (case hd => rfl); (case hg => rfl); (case hr => first | (go_simp; done) | (go_simp; rfl)); intro gb301 hg w3 hbox hb; have n0_ := Aside0.mk (below_step (by repeat (first | (with_reducible first | exact HB.out | apply below_alloc | apply pw_below_drewN | apply below_drew1) | exact HB.out)) hb); have n1_ := Aside0.mk (hbox); have n2_ := Aside0.mk ((by rw [hg]; exact (below_size (by repeat (first | (with_reducible first | exact HB.out | apply below_alloc | apply pw_below_drewN | apply below_drew1) | exact HB.out))) : w.heap.size ≤ gb301)); have n3_ := Aside0.mk ((by rw [hg]; exact (below_size (by repeat (first | (with_reducible first | exact HB.out | apply below_alloc | apply pw_below_drewN | apply below_drew1) | exact HB.out))) : w.heap.size ≤ gb301)); clear HB; have HB := n0_; have BK301 := n1_; have GW301 := n2_; have GE301 := n3_; clear n0_ n1_ n2_ n3_; clear hb hbox hg)))
  go_loopg [8] k (fun kq v8 w' => ∃ (x8_1 : Int), v8 = .int .i64 x8_1 ∧ Aside0 (api_Reserve_82.l0 kq l0 (l0.length : Int) x8_1 a1_0 a1_1 = some r) ∧ Aside0 (kq ≤ k) ∧ Aside0 (w'.heap[gb301]? = some (.cells #[.int .u64 a1_0, .int .u64 a1_1] 94 (0, 0))) ∧ Aside0 (Below w.heap.size w w'))
  case atStart => exact ⟨(0), (by first | rfl | (simp; done) | (simp [*]; done)), H', ⟨Nat.le_refl _⟩, ⟨by (with_reducible repeat (first | refine blk_drewN ?_ _ | refine blk_drew ?_ | refine blk_alloc ?_ _)); exact BK301.out⟩, ⟨by repeat (first | (with_reducible first | exact HB.out | apply below_alloc | apply pw_below_drewN | apply below_drew1 | refine below_set ?_ GE301.out) | exact HB.out)⟩⟩
  case round =>
    clear H'
    try clear p2
    obtain ⟨x8_1, rfl, HA, HK1, BK301, HB⟩ := hrel
    cases gk with
    | zero => exact absurd HA.out (by simp [api_Reserve_82.l0])
    | succ k1 =>
      have H := HA.out
      clear HA
      simp only [api_Reserve_82.l0] at H
      by_cases c4 : x8_1 < (l0.length : Int)
      · rw [if_pos c4] at H
        have c4b0 : decide (x8_1 < (l0.length : Int)) = true := decide_eq_true c4
        clear c4
        by_cases c5 : 0 ≤ x8_1
        · rw [if_pos c5] at H
          have c5b0 : decide (0 ≤ x8_1) = true := decide_eq_true c5
          clear c5
          by_cases c6 : x8_1 < (l0.length : Int)
          · rw [if_pos c6] at H
            have c6b0 : decide (x8_1 < (l0.length : Int)) = true := decide_eq_true c6
            clear c6
            by_cases c7 : (a1_0 == ((rd_T94 l0 x8_1).f0) && (a1_1 == ((rd_T94 l0 x8_1).f1))) = true
            · rw [if_pos c7] at H
              have c7b0 : (a1_0 == ((rd_T94 l0 x8_1).f0) && (a1_1 == ((rd_T94 l0 x8_1).f1))) = true := c7
              (try (have c7b1 : decide (a1_0 = ((rd_T94 l0 x8_1).f0) && (a1_1 == ((rd_T94 l0 x8_1).f1))) = true := by simpa using c7))
              (try (have c7b2 : (a1_0 == ((rd_T94 l0 x8_1).f0) && (a1_1 == ((rd_T94 l0 x8_1).f1))) = true := by simpa using c7))
              clear c7
              obtain rfl := Option.some.inj H
              have hcz8_0 : wr.cell? ⟨gb301, 0, none⟩ = some (.int .u64 a1_0) := (blk_cell BK301.out 0).trans rfl
              have hcz8_1 : wr.cell? ⟨gb301, 1, none⟩ = some (.int .u64 a1_1) := (blk_cell BK301.out 1).trans rfl
              have hfz8_0 := blk_frozen BK301.out 0
              have hfz8_1 := blk_frozen BK301.out 1
              have p302 : 0 ≤ (x8_1 : Int) := of_decide_eq_true (by first | (with_reducible assumption) | assumption)
              have q302 : x8_1 < (l0.length : Int) := of_decide_eq_true (by first | (with_reducible assumption) | assumption)
              obtain ⟨ad302, e302, hx302_0, hx302_1⟩ := at_T94 HR0.out x8_1 p302 q302
              cases e302
              replace hx302_0 := (HB.out.cell (World.block_lt_of_cell? w _ hx302_0)).trans hx302_0
              replace hx302_1 := (HB.out.cell (World.block_lt_of_cell? w _ hx302_1)).trans hx302_1
              replace p302 := eq_true p302
              replace q302 := eq_true q302
              go_wp2
              repeat (go_quiet (fail); try go_wp2)
              go_ret
              exact ⟨by first | rfl | (simp [errW_none, errW_some] <;> rfl) | (simp [*, errW_none, errW_some] <;> rfl), by repeat (first | (with_reducible first | exact HB.out | apply below_alloc | apply pw_below_drewN | apply below_drew1 | refine below_set ?_ GE301.out) | exact HB.out)⟩
            · rw [if_neg c7] at H
              have c7b0 : (a1_0 == ((rd_T94 l0 x8_1).f0) && (a1_1 == ((rd_T94 l0 x8_1).f1))) = false := by simpa using c7
              (try (have c7b1 : decide (a1_0 = ((rd_T94 l0 x8_1).f0) && (a1_1 == ((rd_T94 l0 x8_1).f1))) = false := by simpa using c7))
              (try (have c7b2 : (a1_0 == ((rd_T94 l0 x8_1).f0) && (a1_1 == ((rd_T94 l0 x8_1).f1))) = false := by simpa using c7))
              (try (have c7b3 : ¬ (a1_0 = ((rd_T94 l0 x8_1).f0) && (a1_1 == ((rd_T94 l0 x8_1).f1))) := by simpa using c7))
              clear c7
              have H' := Aside0.mk H
              clear H
              have hcz9_0 : wr.cell? ⟨gb301, 0, none⟩ = some (.int .u64 a1_0) := (blk_cell BK301.out 0).trans rfl
              have hcz9_1 : wr.cell? ⟨gb301, 1, none⟩ = some (.int .u64 a1_1) := (blk_cell BK301.out 1).trans rfl
              have hfz9_0 := blk_frozen BK301.out 0
              have hfz9_1 := blk_frozen BK301.out 1
              have p302 : 0 ≤ (x8_1 : Int) := of_decide_eq_true (by first | (with_reducible assumption) | assumption)
              have q302 : x8_1 < (l0.length : Int) := of_decide_eq_true (by first | (with_reducible assumption) | assumption)
              obtain ⟨ad302, e302, hx302_0, hx302_1⟩ := at_T94 HR0.out x8_1 p302 q302
              cases e302
              replace hx302_0 := (HB.out.cell (World.block_lt_of_cell? w _ hx302_0)).trans hx302_0
              replace hx302_1 := (HB.out.cell (World.block_lt_of_cell? w _ hx302_1)).trans hx302_1
              replace p302 := eq_true p302
              replace q302 := eq_true q302
              go_wp2
              repeat (go_quiet (fail); try go_wp2)
              go_roundg k1
              case measure => have := HK1.out; omega
              case rel => exact ⟨(wrap64 (x8_1 + 1)), (by first | rfl | (simp; done) | (simp [*]; done)), H', ⟨by have := HK1.out; omega⟩, ⟨by (with_reducible repeat (first | refine blk_drewN ?_ _ | refine blk_drew ?_ | refine blk_alloc ?_ _)); exact BK301.out⟩, ⟨by repeat (first | (with_reducible first | exact HB.out | apply below_alloc | apply pw_below_drewN | apply below_drew1 | refine below_set ?_ GE301.out) | exact HB.out)⟩⟩
          · rw [if_neg c6] at H
            exact absurd H (by simp)
        · rw [if_neg c5] at H
          exact absurd H (by simp)
      · rw [if_neg c4] at H
        have c4b0 : decide (x8_1 < (l0.length : Int)) = false := decide_eq_false c4
        clear c4
        obtain rfl := Option.some.inj H
        go_wp2
        repeat (go_quiet (fail); try go_wp2)
        go_ret
        exact ⟨by first | rfl | (simp [errW_none, errW_some] <;> rfl) | (simp [*, errW_none, errW_some] <;> rfl), by repeat (first | (with_reducible first | exact HB.out | apply below_alloc | apply pw_below_drewN | apply below_drew1 | refine below_set ?_ GE301.out) | exact HB.out)⟩
end Go.Proofs.Yteejaaeglfpcmab.PC

namespace Go.Proofs.Yteejaaeglfpcmab.PC
open Go.RowKit Go.Proofs.YteejaaeglfpcmabW.PrintWords Go.Proofs.YteejaaeglfpcmabW.PrintLast Go.Proofs.YteejaaeglfpcmabW.PrintMore
attribute [local go_sem] max2_int min2_int max_two min_two max_three min_three max_four min_four   -- for this text's walks alone
set_option linter.unusedVariables false
set_option linter.unusedSimpArgs false
def api_Reserve_56.f (k : Nat) (l0 : List (S94)) (a1_0 : Int) (a1_1 : Int) : Option (Bool) := (api_Reserve_82.f k l0 a1_0 a1_1).bind fun t304 => (some (decide (t304 ≥ 0)))
set_option maxHeartbeats 8000000 in
set_option maxRecDepth 100000 in
theorem api_Reserve_56.calls (k : Nat) (A0 : Option Addr) (c0 : Nat) (l0 : List (S94)) (a1_0 : Int) (a1_1 : Int) (r : Bool) (w : World) (hr0 : Kd.C k94 w A0 l0.length l0) (hc0 : l0.length ≤ c0) (h : api_Reserve_56.f k l0 a1_0 a1_1 = some r) :
    Calls Try.prog 56 #[.slice A0 l0.length c0, .agg #[.int .u64 a1_0, .int .u64 a1_1]] w fun e w' => e = .returned (.bool r) ∧ Below w.heap.size w w' := by
  have hu94 := Try.underlying94
  have HR0 := Aside0.mk hr0
  have HC0 := Aside0.mk hc0
  clear hr0 hc0
  have HB := Aside0.mk (Below.refl w.heap.size w)
  have H : ((api_Reserve_82.f k l0 a1_0 a1_1).bind fun t304 => (some (decide (t304 ≥ 0)))) = some r := h
  clear h
  replace H := Option.bind_eq_some_iff.mp H
  obtain ⟨t304, A30, H⟩ := H
  replace H : (some (decide (t304 ≥ 0))) = some r := H
  have A3 := Aside0.mk A30
  clear A30
  obtain rfl := Option.some.inj H
  go_enter Try.func56, Try.ntmps56
  go_wp2_with (first | ((with_reducible refine gate_dst (N := 3) rfl ?_); refine box_event ?hg (N := 3) ?hd (cs := #[.int .u64 a1_0, .int .u64 a1_1]) (t := 94) ?hr ?_; (case hd => rfl); (case hg => rfl); (case hr => first | (go_simp; done) | (go_simp; rfl)); intro gb303 hg w4 hbox hb; have n0_ := Aside0.mk (below_step (by repeat (first | (with_reducible first | exact HB.out | apply below_alloc | apply pw_below_drewN | apply below_drew1) | exact HB.out)) hb); have n1_ := Aside0.mk (hbox); have n2_ := Aside0.mk ((by rw [hg]; exact (below_size (by repeat (first | (with_reducible first | exact HB.out | apply below_alloc | apply pw_below_drewN | apply below_drew1) | exact HB.out))) : w.heap.size ≤ gb303)); have n3_ := Aside0.mk ((by rw [hg]; exact (below_size (by repeat (first | (with_reducible first | exact HB.out | apply below_alloc | apply pw_below_drewN | apply below_drew1) | exact HB.out))) : w.heap.size ≤ gb303)); clear HB; have HB := n0_; have BK303 := n1_; have GW303 := n2_; have GE303 := n3_; clear n0_ n1_ n2_ n3_; clear hb hbox hg; have hcz5_0 : w4.cell? ⟨gb303, 0, none⟩ = some (.int .u64 a1_0) := (blk_cell BK303.out 0).trans rfl; have hcz5_1 : w4.cell? ⟨gb303, 1, none⟩ = some (.int .u64 a1_1) := (blk_cell BK303.out 1).trans rfl; have hfz5_0 := blk_frozen BK303.out 0; have hfz5_1 := blk_frozen BK303.out 1) | ((with_reducible refine gate_callee (f := 82) rfl ?_); refine goesL_ (some 7) rfl rfl Try.func82 (by kernel_rfl) rfl #[.slice A0 l0.length c0, .agg #[.int .u64 a1_0, .int .u64 a1_1]] rfl (by (try simp only [List.map_toArray, List.map_cons, List.map_nil]); first | done | rfl | (simp only [List.length_drop, List.length_take]; rfl)) ?_; (with_reducible refine (api_Reserve_82.calls k _ _ l0 a1_0 a1_1 t304 _ ?side1 ?side2 A3.out).mono ?_); (case side1 => repeat (first | exact (Kd.C_below HR0.out HB.out) | (with_reducible refine Kd.C_alloc ?_ _) | (with_reducible refine Kd.C_drewN ?_ _) | (with_reducible refine Kd.C_drew ?_))); (case side2 => exact HC0.out); rintro e w6 ⟨rfl, hb⟩; refine ⟨_, rfl, ?_⟩; have n0_ := Aside0.mk (blk_below (g := gb303) (o := .cells #[.int .u64 a1_0, .int .u64 a1_1] 94 (0, 0)) (by (with_reducible repeat (first | refine blk_drewN ?_ _ | refine blk_drew ?_ | refine blk_alloc ?_ _)); exact BK303.out) hb); have n1_ := Aside0.mk (below_step (by repeat (first | (with_reducible first | exact HB.out | apply below_alloc | apply pw_below_drewN | apply below_drew1 | refine below_set ?_ GE303.out) | exact HB.out)) hb); clear BK303; clear HB; have BK303 := n0_; have HB := n1_; clear n0_ n1_; (try clear hb); (try clear hb2); (try clear hk); (try clear hi)))
  go_ret
  exact ⟨by first | rfl | (simp [errW_none, errW_some] <;> rfl) | (simp [*, errW_none, errW_some] <;> rfl), by repeat (first | (with_reducible first | exact HB.out | apply below_alloc | apply pw_below_drewN | apply below_drew1 | refine below_set ?_ GE303.out) | exact HB.out)⟩
end Go.Proofs.Yteejaaeglfpcmab.PC

namespace Go.Proofs.Yteejaaeglfpcmab.PC
open Go.RowKit Go.Proofs.YteejaaeglfpcmabW.PrintWords Go.Proofs.YteejaaeglfpcmabW.PrintLast Go.Proofs.YteejaaeglfpcmabW.PrintMore
attribute [local go_sem] max2_int min2_int max_two min_two max_three min_three max_four min_four   -- for this text's walks alone
set_option linter.unusedVariables false
set_option linter.unusedSimpArgs false
def tree_Check.f (k : Nat) (a0_0 : Int) (l0_1 : List (S94)) (a0_2 : ByteArray) (l0_3 : List (S77)) (l0_4 : List (S30)) : Option (Int) := (tree_check.f k a0_2 l0_3 l0_4 1).bind fun t306 => (if t306 = 0 then ((tree_Count.f k a0_2 l0_3 l0_4).bind fun bt307 => (if bt307.1 > 4096 then (some 7) else (if bt307.2 > 8192 then (some 7) else (if (l0_1.length : Int) > 64 then (some 7) else ((api_Reserve_56.f k l0_1 0 0).bind fun t309 => (if t309 = true then (some 7) else (some 0))))))) else (some t306))
set_option maxHeartbeats 8000000 in
set_option maxRecDepth 100000 in
theorem tree_Check.calls (k : Nat) (a0_0 : Int) (A0_1 : Option Addr) (c0_1 : Nat) (l0_1 : List (S94)) (a0_2 : ByteArray) (A0_3 : Option Addr) (c0_3 : Nat) (l0_3 : List (S77)) (A0_4 : Option Addr) (c0_4 : Nat) (l0_4 : List (S30)) (r : Int) (w : World) (hr0_1 : Kd.C k94 w A0_1 l0_1.length l0_1) (hc0_1 : l0_1.length ≤ c0_1) (hr0_3 : Kd.C k77 w A0_3 l0_3.length l0_3) (hc0_3 : l0_3.length ≤ c0_3) (hr0_4 : Kd.C k30 w A0_4 l0_4.length l0_4) (hc0_4 : l0_4.length ≤ c0_4) (h : tree_Check.f k a0_0 l0_1 a0_2 l0_3 l0_4 = some r) :
    Calls Try.prog 27 #[.agg #[.int .u32 a0_0, .slice A0_1 l0_1.length c0_1, .string a0_2, .slice A0_3 l0_3.length c0_3, .slice A0_4 l0_4.length c0_4]] w fun e w' => e = .returned (.int .i64 r) ∧ Below w.heap.size w w' := by
  have hu35 := Try.underlying35
  have hu30 := Try.underlying30
  have hu94 := Try.underlying94
  have HR0_1 := Aside0.mk hr0_1
  have HC0_1 := Aside0.mk hc0_1
  clear hr0_1 hc0_1
  have HR0_3 := Aside0.mk hr0_3
  have HC0_3 := Aside0.mk hc0_3
  clear hr0_3 hc0_3
  have HR0_4 := Aside0.mk hr0_4
  have HC0_4 := Aside0.mk hc0_4
  clear hr0_4 hc0_4
  have HB := Aside0.mk (Below.refl w.heap.size w)
  have H : ((tree_check.f k a0_2 l0_3 l0_4 1).bind fun t306 => (if t306 = 0 then ((tree_Count.f k a0_2 l0_3 l0_4).bind fun bt307 => (if bt307.1 > 4096 then (some 7) else (if bt307.2 > 8192 then (some 7) else (if (l0_1.length : Int) > 64 then (some 7) else ((api_Reserve_56.f k l0_1 0 0).bind fun t309 => (if t309 = true then (some 7) else (some 0))))))) else (some t306))) = some r := h
  clear h
  replace H := Option.bind_eq_some_iff.mp H
  obtain ⟨t306, A20, H⟩ := H
  replace H : (if t306 = 0 then ((tree_Count.f k a0_2 l0_3 l0_4).bind fun bt307 => (if bt307.1 > 4096 then (some 7) else (if bt307.2 > 8192 then (some 7) else (if (l0_1.length : Int) > 64 then (some 7) else ((api_Reserve_56.f k l0_1 0 0).bind fun t309 => (if t309 = true then (some 7) else (some 0))))))) else (some t306)) = some r := H
  have A2 := Aside0.mk A20
  clear A20
  by_cases c3 : t306 = 0
  · rw [if_pos c3] at H
    have c3b0 : (t306 == 0) = true := beq_iff_eq.mpr c3
    have c3b1 : (t306 != 0) = false := bne_eq_false_iff_eq.mpr c3
    clear c3
    replace H := Option.bind_eq_some_iff.mp H
    obtain ⟨⟨t307, t308⟩, A40, H⟩ := H
    replace H : (if t307 > 4096 then (some 7) else (if t308 > 8192 then (some 7) else (if (l0_1.length : Int) > 64 then (some 7) else ((api_Reserve_56.f k l0_1 0 0).bind fun t309 => (if t309 = true then (some 7) else (some 0)))))) = some r := H
    have A4 := Aside0.mk A40
    clear A40
    by_cases c5 : t307 > 4096
    · rw [if_pos c5] at H
      have c5b0 : decide (4096 < t307) = true := decide_eq_true c5
      clear c5
      obtain rfl := Option.some.inj H
      go_enter Try.func27, Try.ntmps27
      go_wp2_with (first | ((with_reducible refine gate_dst (N := 1) rfl ?_); (try (refine gate_guard (by rfl) ?_; dsimp only)); refine box_event ?hg (N := 1) ?hd (cs := #[.int .u32 a0_0, .slice A0_1 l0_1.length c0_1, .string a0_2, .slice A0_3 l0_3.length c0_3, .slice A0_4 l0_4.length c0_4]) (t := 35) ?hr ?_; (case hd => rfl); (case hg => rfl); (case hr => first | (go_simp; done) | (go_simp; rfl)); intro gb305 hg w6 hbox hb; have n0_ := Aside0.mk (below_step (by repeat (first | (with_reducible first | exact HB.out | apply below_alloc | apply pw_below_drewN | apply below_drew1) | exact HB.out)) hb); have n1_ := Aside0.mk (hbox); have n2_ := Aside0.mk ((by rw [hg]; exact (below_size (by repeat (first | (with_reducible first | exact HB.out | apply below_alloc | apply pw_below_drewN | apply below_drew1) | exact HB.out))) : w.heap.size ≤ gb305)); have n3_ := Aside0.mk ((by rw [hg]; exact (below_size (by repeat (first | (with_reducible first | exact HB.out | apply below_alloc | apply pw_below_drewN | apply below_drew1) | exact HB.out))) : w.heap.size ≤ gb305)); clear HB; have HB := n0_; have BK305 := n1_; have GW305 := n2_; have GE305 := n3_; clear n0_ n1_ n2_ n3_; clear hb hbox hg; have hcz7_0 : w6.cell? ⟨gb305, 0, none⟩ = some (.int .u32 a0_0) := (blk_cell BK305.out 0).trans rfl; have hcz7_1 : w6.cell? ⟨gb305, 1, none⟩ = some (.slice A0_1 l0_1.length c0_1) := (blk_cell BK305.out 1).trans rfl; have hcz7_2 : w6.cell? ⟨gb305, 2, none⟩ = some (.string a0_2) := (blk_cell BK305.out 2).trans rfl; have hcz7_3 : w6.cell? ⟨gb305, 3, none⟩ = some (.slice A0_3 l0_3.length c0_3) := (blk_cell BK305.out 3).trans rfl; have hcz7_4 : w6.cell? ⟨gb305, 4, none⟩ = some (.slice A0_4 l0_4.length c0_4) := (blk_cell BK305.out 4).trans rfl; have hfz7_0 := blk_frozen BK305.out 0; have hfz7_1 := blk_frozen BK305.out 1; have hfz7_2 := blk_frozen BK305.out 2; have hfz7_3 := blk_frozen BK305.out 3; have hfz7_4 := blk_frozen BK305.out 4) | ((with_reducible refine gate_callee (f := 55) rfl ?_); refine goesL_ (some 8) rfl rfl Try.func55 (by kernel_rfl) rfl #[.agg #[.string a0_2, .slice A0_3 l0_3.length c0_3, .slice A0_4 l0_4.length c0_4], .int .i64 1] rfl (by (try simp only [List.map_toArray, List.map_cons, List.map_nil]); first | done | rfl | (simp only [List.length_drop, List.length_take]; rfl)) ?_; (with_reducible refine (tree_check.calls k a0_2 _ _ l0_3 _ _ l0_4 1 t306 _ ?side1 ?side2 ?side3 ?side4 A2.out).mono ?_); (case side1 => repeat (first | exact (Kd.C_below HR0_3.out HB.out) | (with_reducible refine Kd.C_alloc ?_ _) | (with_reducible refine Kd.C_drewN ?_ _) | (with_reducible refine Kd.C_drew ?_))); (case side2 => exact HC0_3.out); (case side3 => repeat (first | exact (Kd.C_below HR0_4.out HB.out) | (with_reducible refine Kd.C_alloc ?_ _) | (with_reducible refine Kd.C_drewN ?_ _) | (with_reducible refine Kd.C_drew ?_))); (case side4 => exact HC0_4.out); rintro e w8 ⟨rfl, hb⟩; refine ⟨_, rfl, ?_⟩; have n0_ := Aside0.mk (blk_below (g := gb305) (o := .cells #[.int .u32 a0_0, .slice A0_1 l0_1.length c0_1, .string a0_2, .slice A0_3 l0_3.length c0_3, .slice A0_4 l0_4.length c0_4] 35 (0, 0)) (by (with_reducible repeat (first | refine blk_drewN ?_ _ | refine blk_drew ?_ | refine blk_alloc ?_ _)); exact BK305.out) hb); have n1_ := Aside0.mk (below_step (by repeat (first | (with_reducible first | exact HB.out | apply below_alloc | apply pw_below_drewN | apply below_drew1 | refine below_set ?_ GE305.out) | exact HB.out)) hb); clear BK305; clear HB; have BK305 := n0_; have HB := n1_; clear n0_ n1_; (try clear hb); (try clear hb2); (try clear hk); (try clear hi); have hcz9_0 : w8.cell? ⟨gb305, 0, none⟩ = some (.int .u32 a0_0) := (blk_cell BK305.out 0).trans rfl; have hcz9_1 : w8.cell? ⟨gb305, 1, none⟩ = some (.slice A0_1 l0_1.length c0_1) := (blk_cell BK305.out 1).trans rfl; have hcz9_2 : w8.cell? ⟨gb305, 2, none⟩ = some (.string a0_2) := (blk_cell BK305.out 2).trans rfl; have hcz9_3 : w8.cell? ⟨gb305, 3, none⟩ = some (.slice A0_3 l0_3.length c0_3) := (blk_cell BK305.out 3).trans rfl; have hcz9_4 : w8.cell? ⟨gb305, 4, none⟩ = some (.slice A0_4 l0_4.length c0_4) := (blk_cell BK305.out 4).trans rfl; have hfz9_0 := blk_frozen BK305.out 0; have hfz9_1 := blk_frozen BK305.out 1; have hfz9_2 := blk_frozen BK305.out 2; have hfz9_3 := blk_frozen BK305.out 3; have hfz9_4 := blk_frozen BK305.out 4) | ((with_reducible refine gate_callee (f := 29) rfl ?_); refine goesL_ (some 15) rfl rfl Try.func29 (by kernel_rfl) rfl #[.agg #[.string a0_2, .slice A0_3 l0_3.length c0_3, .slice A0_4 l0_4.length c0_4]] rfl (by (try simp only [List.map_toArray, List.map_cons, List.map_nil]); first | done | rfl | (simp only [List.length_drop, List.length_take]; rfl)) ?_; (with_reducible refine (tree_Count.calls k a0_2 _ _ l0_3 _ _ l0_4 t307 t308 _ ?side1 ?side2 ?side3 ?side4 A4.out).mono ?_); (case side1 => repeat (first | exact (Kd.C_below HR0_3.out HB.out) | (with_reducible refine Kd.C_alloc ?_ _) | (with_reducible refine Kd.C_drewN ?_ _) | (with_reducible refine Kd.C_drew ?_))); (case side2 => exact HC0_3.out); (case side3 => repeat (first | exact (Kd.C_below HR0_4.out HB.out) | (with_reducible refine Kd.C_alloc ?_ _) | (with_reducible refine Kd.C_drewN ?_ _) | (with_reducible refine Kd.C_drew ?_))); (case side4 => exact HC0_4.out); rintro e w10 ⟨rfl, hb⟩; refine ⟨_, rfl, ?_⟩; have n0_ := Aside0.mk (blk_below (g := gb305) (o := .cells #[.int .u32 a0_0, .slice A0_1 l0_1.length c0_1, .string a0_2, .slice A0_3 l0_3.length c0_3, .slice A0_4 l0_4.length c0_4] 35 (0, 0)) (by (with_reducible repeat (first | refine blk_drewN ?_ _ | refine blk_drew ?_ | refine blk_alloc ?_ _)); exact BK305.out) hb); have n1_ := Aside0.mk (below_step (by repeat (first | (with_reducible first | exact HB.out | apply below_alloc | apply pw_below_drewN | apply below_drew1 | refine below_set ?_ GE305.out) | exact HB.out)) hb); clear BK305; clear HB; have BK305 := n0_; have HB := n1_; clear n0_ n1_; (try clear hb); (try clear hb2); (try clear hk); (try clear hi)))
      go_ret
      exact ⟨by first | rfl | (simp [errW_none, errW_some] <;> rfl) | (simp [*, errW_none, errW_some] <;> rfl), by repeat (first | (with_reducible first | exact HB.out | apply below_alloc | apply pw_below_drewN | apply below_drew1 | refine below_set ?_ GE305.out) | exact HB.out)⟩
    · rw [if_neg c5] at H
      have c5b0 : decide (4096 < t307) = false := decide_eq_false c5
      clear c5
      by_cases c11 : t308 > 8192
      · rw [if_pos c11] at H
        have c11b0 : decide (8192 < t308) = true := decide_eq_true c11
        clear c11
        obtain rfl := Option.some.inj H
        go_enter Try.func27, Try.ntmps27
        go_wp2_with (first | ((with_reducible refine gate_dst (N := 1) rfl ?_); (try (refine gate_guard (by rfl) ?_; dsimp only)); refine box_event ?hg (N := 1) ?hd (cs := #[.int .u32 a0_0, .slice A0_1 l0_1.length c0_1, .string a0_2, .slice A0_3 l0_3.length c0_3, .slice A0_4 l0_4.length c0_4]) (t := 35) ?hr ?_; (case hd => rfl); (case hg => rfl); (case hr => first | (go_simp; done) | (go_simp; rfl)); intro gb305 hg w12 hbox hb; have n0_ := Aside0.mk (below_step (by repeat (first | (with_reducible first | exact HB.out | apply below_alloc | apply pw_below_drewN | apply below_drew1) | exact HB.out)) hb); have n1_ := Aside0.mk (hbox); have n2_ := Aside0.mk ((by rw [hg]; exact (below_size (by repeat (first | (with_reducible first | exact HB.out | apply below_alloc | apply pw_below_drewN | apply below_drew1) | exact HB.out))) : w.heap.size ≤ gb305)); have n3_ := Aside0.mk ((by rw [hg]; exact (below_size (by repeat (first | (with_reducible first | exact HB.out | apply below_alloc | apply pw_below_drewN | apply below_drew1) | exact HB.out))) : w.heap.size ≤ gb305)); clear HB; have HB := n0_; have BK305 := n1_; have GW305 := n2_; have GE305 := n3_; clear n0_ n1_ n2_ n3_; clear hb hbox hg; have hcz13_0 : w12.cell? ⟨gb305, 0, none⟩ = some (.int .u32 a0_0) := (blk_cell BK305.out 0).trans rfl; have hcz13_1 : w12.cell? ⟨gb305, 1, none⟩ = some (.slice A0_1 l0_1.length c0_1) := (blk_cell BK305.out 1).trans rfl; have hcz13_2 : w12.cell? ⟨gb305, 2, none⟩ = some (.string a0_2) := (blk_cell BK305.out 2).trans rfl; have hcz13_3 : w12.cell? ⟨gb305, 3, none⟩ = some (.slice A0_3 l0_3.length c0_3) := (blk_cell BK305.out 3).trans rfl; have hcz13_4 : w12.cell? ⟨gb305, 4, none⟩ = some (.slice A0_4 l0_4.length c0_4) := (blk_cell BK305.out 4).trans rfl; have hfz13_0 := blk_frozen BK305.out 0; have hfz13_1 := blk_frozen BK305.out 1; have hfz13_2 := blk_frozen BK305.out 2; have hfz13_3 := blk_frozen BK305.out 3; have hfz13_4 := blk_frozen BK305.out 4) | ((with_reducible refine gate_callee (f := 55) rfl ?_); refine goesL_ (some 8) rfl rfl Try.func55 (by kernel_rfl) rfl #[.agg #[.string a0_2, .slice A0_3 l0_3.length c0_3, .slice A0_4 l0_4.length c0_4], .int .i64 1] rfl (by (try simp only [List.map_toArray, List.map_cons, List.map_nil]); first | done | rfl | (simp only [List.length_drop, List.length_take]; rfl)) ?_; (with_reducible refine (tree_check.calls k a0_2 _ _ l0_3 _ _ l0_4 1 t306 _ ?side1 ?side2 ?side3 ?side4 A2.out).mono ?_); (case side1 => repeat (first | exact (Kd.C_below HR0_3.out HB.out) | (with_reducible refine Kd.C_alloc ?_ _) | (with_reducible refine Kd.C_drewN ?_ _) | (with_reducible refine Kd.C_drew ?_))); (case side2 => exact HC0_3.out); (case side3 => repeat (first | exact (Kd.C_below HR0_4.out HB.out) | (with_reducible refine Kd.C_alloc ?_ _) | (with_reducible refine Kd.C_drewN ?_ _) | (with_reducible refine Kd.C_drew ?_))); (case side4 => exact HC0_4.out); rintro e w14 ⟨rfl, hb⟩; refine ⟨_, rfl, ?_⟩; have n0_ := Aside0.mk (blk_below (g := gb305) (o := .cells #[.int .u32 a0_0, .slice A0_1 l0_1.length c0_1, .string a0_2, .slice A0_3 l0_3.length c0_3, .slice A0_4 l0_4.length c0_4] 35 (0, 0)) (by (with_reducible repeat (first | refine blk_drewN ?_ _ | refine blk_drew ?_ | refine blk_alloc ?_ _)); exact BK305.out) hb); have n1_ := Aside0.mk (below_step (by repeat (first | (with_reducible first | exact HB.out | apply below_alloc | apply pw_below_drewN | apply below_drew1 | refine below_set ?_ GE305.out) | exact HB.out)) hb); clear BK305; clear HB; have BK305 := n0_; have HB := n1_; clear n0_ n1_; (try clear hb); (try clear hb2); (try clear hk); (try clear hi); have hcz15_0 : w14.cell? ⟨gb305, 0, none⟩ = some (.int .u32 a0_0) := (blk_cell BK305.out 0).trans rfl; have hcz15_1 : w14.cell? ⟨gb305, 1, none⟩ = some (.slice A0_1 l0_1.length c0_1) := (blk_cell BK305.out 1).trans rfl; have hcz15_2 : w14.cell? ⟨gb305, 2, none⟩ = some (.string a0_2) := (blk_cell BK305.out 2).trans rfl; have hcz15_3 : w14.cell? ⟨gb305, 3, none⟩ = some (.slice A0_3 l0_3.length c0_3) := (blk_cell BK305.out 3).trans rfl; have hcz15_4 : w14.cell? ⟨gb305, 4, none⟩ = some (.slice A0_4 l0_4.length c0_4) := (blk_cell BK305.out 4).trans rfl; have hfz15_0 := blk_frozen BK305.out 0; have hfz15_1 := blk_frozen BK305.out 1; have hfz15_2 := blk_frozen BK305.out 2; have hfz15_3 := blk_frozen BK305.out 3; have hfz15_4 := blk_frozen BK305.out 4) | ((with_reducible refine gate_callee (f := 29) rfl ?_); refine goesL_ (some 15) rfl rfl Try.func29 (by kernel_rfl) rfl #[.agg #[.string a0_2, .slice A0_3 l0_3.length c0_3, .slice A0_4 l0_4.length c0_4]] rfl (by (try simp only [List.map_toArray, List.map_cons, List.map_nil]); first | done | rfl | (simp only [List.length_drop, List.length_take]; rfl)) ?_; (with_reducible refine (tree_Count.calls k a0_2 _ _ l0_3 _ _ l0_4 t307 t308 _ ?side1 ?side2 ?side3 ?side4 A4.out).mono ?_); (case side1 => repeat (first | exact (Kd.C_below HR0_3.out HB.out) | (with_reducible refine Kd.C_alloc ?_ _) | (with_reducible refine Kd.C_drewN ?_ _) | (with_reducible refine Kd.C_drew ?_))); (case side2 => exact HC0_3.out); (case side3 => repeat (first | exact (Kd.C_below HR0_4.out HB.out) | (with_reducible refine Kd.C_alloc ?_ _) | (with_reducible refine Kd.C_drewN ?_ _) | (with_reducible refine Kd.C_drew ?_))); (case side4 => exact HC0_4.out); rintro e w16 ⟨rfl, hb⟩; refine ⟨_, rfl, ?_⟩; have n0_ := Aside0.mk (blk_below (g := gb305) (o := .cells #[.int .u32 a0_0, .slice A0_1 l0_1.length c0_1, .string a0_2, .slice A0_3 l0_3.length c0_3, .slice A0_4 l0_4.length c0_4] 35 (0, 0)) (by (with_reducible repeat (first | refine blk_drewN ?_ _ | refine blk_drew ?_ | refine blk_alloc ?_ _)); exact BK305.out) hb); have n1_ := Aside0.mk (below_step (by repeat (first | (with_reducible first | exact HB.out | apply below_alloc | apply pw_below_drewN | apply below_drew1 | refine below_set ?_ GE305.out) | exact HB.out)) hb); clear BK305; clear HB; have BK305 := n0_; have HB := n1_; clear n0_ n1_; (try clear hb); (try clear hb2); (try clear hk); (try clear hi)))
        go_ret
        exact ⟨by first | rfl | (simp [errW_none, errW_some] <;> rfl) | (simp [*, errW_none, errW_some] <;> rfl), by repeat (first | (with_reducible first | exact HB.out | apply below_alloc | apply pw_below_drewN | apply below_drew1 | refine below_set ?_ GE305.out) | exact HB.out)⟩
      · rw [if_neg c11] at H
        have c11b0 : decide (8192 < t308) = false := decide_eq_false c11
        clear c11
        by_cases c17 : (l0_1.length : Int) > 64
        · rw [if_pos c17] at H
          have c17b0 : decide (64 < (l0_1.length : Int)) = true := decide_eq_true c17
          have c17b1 : decide (64 < l0_1.length) = true := decide_eq_true (by omega)
          clear c17
          obtain rfl := Option.some.inj H
          go_enter Try.func27, Try.ntmps27
          go_wp2_with (first | ((with_reducible refine gate_dst (N := 1) rfl ?_); (try (refine gate_guard (by rfl) ?_; dsimp only)); refine box_event ?hg (N := 1) ?hd (cs := #[.int .u32 a0_0, .slice A0_1 l0_1.length c0_1, .string a0_2, .slice A0_3 l0_3.length c0_3, .slice A0_4 l0_4.length c0_4]) (t := 35) ?hr ?_; (case hd => rfl); (case hg => rfl); (case hr => first | (go_simp; done) | (go_simp; rfl)); intro gb305 hg w18 hbox hb; have n0_ := Aside0.mk (below_step (by repeat (first | (with_reducible first | exact HB.out | apply below_alloc | apply pw_below_drewN | apply below_drew1) | exact HB.out)) hb); have n1_ := Aside0.mk (hbox); have n2_ := Aside0.mk ((by rw [hg]; exact (below_size (by repeat (first | (with_reducible first | exact HB.out | apply below_alloc | apply pw_below_drewN | apply below_drew1) | exact HB.out))) : w.heap.size ≤ gb305)); have n3_ := Aside0.mk ((by rw [hg]; exact (below_size (by repeat (first | (with_reducible first | exact HB.out | apply below_alloc | apply pw_below_drewN | apply below_drew1) | exact HB.out))) : w.heap.size ≤ gb305)); clear HB; have HB := n0_; have BK305 := n1_; have GW305 := n2_; have GE305 := n3_; clear n0_ n1_ n2_ n3_; clear hb hbox hg; have hcz19_0 : w18.cell? ⟨gb305, 0, none⟩ = some (.int .u32 a0_0) := (blk_cell BK305.out 0).trans rfl; have hcz19_1 : w18.cell? ⟨gb305, 1, none⟩ = some (.slice A0_1 l0_1.length c0_1) := (blk_cell BK305.out 1).trans rfl; have hcz19_2 : w18.cell? ⟨gb305, 2, none⟩ = some (.string a0_2) := (blk_cell BK305.out 2).trans rfl; have hcz19_3 : w18.cell? ⟨gb305, 3, none⟩ = some (.slice A0_3 l0_3.length c0_3) := (blk_cell BK305.out 3).trans rfl; have hcz19_4 : w18.cell? ⟨gb305, 4, none⟩ = some (.slice A0_4 l0_4.length c0_4) := (blk_cell BK305.out 4).trans rfl; have hfz19_0 := blk_frozen BK305.out 0; have hfz19_1 := blk_frozen BK305.out 1; have hfz19_2 := blk_frozen BK305.out 2; have hfz19_3 := blk_frozen BK305.out 3; have hfz19_4 := blk_frozen BK305.out 4) | ((with_reducible refine gate_callee (f := 55) rfl ?_); refine goesL_ (some 8) rfl rfl Try.func55 (by kernel_rfl) rfl #[.agg #[.string a0_2, .slice A0_3 l0_3.length c0_3, .slice A0_4 l0_4.length c0_4], .int .i64 1] rfl (by (try simp only [List.map_toArray, List.map_cons, List.map_nil]); first | done | rfl | (simp only [List.length_drop, List.length_take]; rfl)) ?_; (with_reducible refine (tree_check.calls k a0_2 _ _ l0_3 _ _ l0_4 1 t306 _ ?side1 ?side2 ?side3 ?side4 A2.out).mono ?_); (case side1 => repeat (first | exact (Kd.C_below HR0_3.out HB.out) | (with_reducible refine Kd.C_alloc ?_ _) | (with_reducible refine Kd.C_drewN ?_ _) | (with_reducible refine Kd.C_drew ?_))); (case side2 => exact HC0_3.out); (case side3 => repeat (first | exact (Kd.C_below HR0_4.out HB.out) | (with_reducible refine Kd.C_alloc ?_ _) | (with_reducible refine Kd.C_drewN ?_ _) | (with_reducible refine Kd.C_drew ?_))); (case side4 => exact HC0_4.out); rintro e w20 ⟨rfl, hb⟩; refine ⟨_, rfl, ?_⟩; have n0_ := Aside0.mk (blk_below (g := gb305) (o := .cells #[.int .u32 a0_0, .slice A0_1 l0_1.length c0_1, .string a0_2, .slice A0_3 l0_3.length c0_3, .slice A0_4 l0_4.length c0_4] 35 (0, 0)) (by (with_reducible repeat (first | refine blk_drewN ?_ _ | refine blk_drew ?_ | refine blk_alloc ?_ _)); exact BK305.out) hb); have n1_ := Aside0.mk (below_step (by repeat (first | (with_reducible first | exact HB.out | apply below_alloc | apply pw_below_drewN | apply below_drew1 | refine below_set ?_ GE305.out) | exact HB.out)) hb); clear BK305; clear HB; have BK305 := n0_; have HB := n1_; clear n0_ n1_; (try clear hb); (try clear hb2); (try clear hk); (try clear hi); have hcz21_0 : w20.cell? ⟨gb305, 0, none⟩ = some (.int .u32 a0_0) := (blk_cell BK305.out 0).trans rfl; have hcz21_1 : w20.cell? ⟨gb305, 1, none⟩ = some (.slice A0_1 l0_1.length c0_1) := (blk_cell BK305.out 1).trans rfl; have hcz21_2 : w20.cell? ⟨gb305, 2, none⟩ = some (.string a0_2) := (blk_cell BK305.out 2).trans rfl; have hcz21_3 : w20.cell? ⟨gb305, 3, none⟩ = some (.slice A0_3 l0_3.length c0_3) := (blk_cell BK305.out 3).trans rfl; have hcz21_4 : w20.cell? ⟨gb305, 4, none⟩ = some (.slice A0_4 l0_4.length c0_4) := (blk_cell BK305.out 4).trans rfl; have hfz21_0 := blk_frozen BK305.out 0; have hfz21_1 := blk_frozen BK305.out 1; have hfz21_2 := blk_frozen BK305.out 2; have hfz21_3 := blk_frozen BK305.out 3; have hfz21_4 := blk_frozen BK305.out 4) | ((with_reducible refine gate_callee (f := 29) rfl ?_); refine goesL_ (some 15) rfl rfl Try.func29 (by kernel_rfl) rfl #[.agg #[.string a0_2, .slice A0_3 l0_3.length c0_3, .slice A0_4 l0_4.length c0_4]] rfl (by (try simp only [List.map_toArray, List.map_cons, List.map_nil]); first | done | rfl | (simp only [List.length_drop, List.length_take]; rfl)) ?_; (with_reducible refine (tree_Count.calls k a0_2 _ _ l0_3 _ _ l0_4 t307 t308 _ ?side1 ?side2 ?side3 ?side4 A4.out).mono ?_); (case side1 => repeat (first | exact (Kd.C_below HR0_3.out HB.out) | (with_reducible refine Kd.C_alloc ?_ _) | (with_reducible refine Kd.C_drewN ?_ _) | (with_reducible refine Kd.C_drew ?_))); (case side2 => exact HC0_3.out); (case side3 => repeat (first | exact (Kd.C_below HR0_4.out HB.out) | (with_reducible refine Kd.C_alloc ?_ _) | (with_reducible refine Kd.C_drewN ?_ _) | (with_reducible refine Kd.C_drew ?_))); (case side4 => exact HC0_4.out); rintro e w22 ⟨rfl, hb⟩; refine ⟨_, rfl, ?_⟩; have n0_ := Aside0.mk (blk_below (g := gb305) (o := .cells #[.int .u32 a0_0, .slice A0_1 l0_1.length c0_1, .string a0_2, .slice A0_3 l0_3.length c0_3, .slice A0_4 l0_4.length c0_4] 35 (0, 0)) (by (with_reducible repeat (first | refine blk_drewN ?_ _ | refine blk_drew ?_ | refine blk_alloc ?_ _)); exact BK305.out) hb); have n1_ := Aside0.mk (below_step (by repeat (first | (with_reducible first | exact HB.out | apply below_alloc | apply pw_below_drewN | apply below_drew1 | refine below_set ?_ GE305.out) | exact HB.out)) hb); clear BK305; clear HB; have BK305 := n0_; have HB := n1_; clear n0_ n1_; (try clear hb); (try clear hb2); (try clear hk); (try clear hi); have hcz23_0 : w22.cell? ⟨gb305, 0, none⟩ = some (.int .u32 a0_0) := (blk_cell BK305.out 0).trans rfl; have hcz23_1 : w22.cell? ⟨gb305, 1, none⟩ = some (.slice A0_1 l0_1.length c0_1) := (blk_cell BK305.out 1).trans rfl; have hcz23_2 : w22.cell? ⟨gb305, 2, none⟩ = some (.string a0_2) := (blk_cell BK305.out 2).trans rfl; have hcz23_3 : w22.cell? ⟨gb305, 3, none⟩ = some (.slice A0_3 l0_3.length c0_3) := (blk_cell BK305.out 3).trans rfl; have hcz23_4 : w22.cell? ⟨gb305, 4, none⟩ = some (.slice A0_4 l0_4.length c0_4) := (blk_cell BK305.out 4).trans rfl; have hfz23_0 := blk_frozen BK305.out 0; have hfz23_1 := blk_frozen BK305.out 1; have hfz23_2 := blk_frozen BK305.out 2; have hfz23_3 := blk_frozen BK305.out 3; have hfz23_4 := blk_frozen BK305.out 4))
          go_ret
          exact ⟨by first | rfl | (simp [errW_none, errW_some] <;> rfl) | (simp [*, errW_none, errW_some] <;> rfl), by repeat (first | (with_reducible first | exact HB.out | apply below_alloc | apply pw_below_drewN | apply below_drew1 | refine below_set ?_ GE305.out) | exact HB.out)⟩
        · rw [if_neg c17] at H
          have c17b0 : decide (64 < (l0_1.length : Int)) = false := decide_eq_false c17
          have c17b1 : decide (64 < l0_1.length) = false := decide_eq_false (by omega)
          clear c17
          replace H := Option.bind_eq_some_iff.mp H
          obtain ⟨t309, A240, H⟩ := H
          replace H : (if t309 = true then (some 7) else (some 0)) = some r := H
          have A24 := Aside0.mk A240
          clear A240
          by_cases c25 : t309 = true
          · subst c25
            have H1 : (some 7) = some r := by rw [if_pos rfl] at H; exact H
            clear H
            have H := H1
            clear H1
            obtain rfl := Option.some.inj H
            go_enter Try.func27, Try.ntmps27
            go_wp2_with (first | ((with_reducible refine gate_dst (N := 1) rfl ?_); (try (refine gate_guard (by rfl) ?_; dsimp only)); refine box_event ?hg (N := 1) ?hd (cs := #[.int .u32 a0_0, .slice A0_1 l0_1.length c0_1, .string a0_2, .slice A0_3 l0_3.length c0_3, .slice A0_4 l0_4.length c0_4]) (t := 35) ?hr ?_; (case hd => rfl); (case hg => rfl); (case hr => first | (go_simp; done) | (go_simp; rfl)); intro gb305 hg w26 hbox hb; have n0_ := Aside0.mk (below_step (by repeat (first | (with_reducible first | exact HB.out | apply below_alloc | apply pw_below_drewN | apply below_drew1) | exact HB.out)) hb); have n1_ := Aside0.mk (hbox); have n2_ := Aside0.mk ((by rw [hg]; exact (below_size (by repeat (first | (with_reducible first | exact HB.out | apply below_alloc | apply pw_below_drewN | apply below_drew1) | exact HB.out))) : w.heap.size ≤ gb305)); have n3_ := Aside0.mk ((by rw [hg]; exact (below_size (by repeat (first | (with_reducible first | exact HB.out | apply below_alloc | apply pw_below_drewN | apply below_drew1) | exact HB.out))) : w.heap.size ≤ gb305)); clear HB; have HB := n0_; have BK305 := n1_; have GW305 := n2_; have GE305 := n3_; clear n0_ n1_ n2_ n3_; clear hb hbox hg; have hcz27_0 : w26.cell? ⟨gb305, 0, none⟩ = some (.int .u32 a0_0) := (blk_cell BK305.out 0).trans rfl; have hcz27_1 : w26.cell? ⟨gb305, 1, none⟩ = some (.slice A0_1 l0_1.length c0_1) := (blk_cell BK305.out 1).trans rfl; have hcz27_2 : w26.cell? ⟨gb305, 2, none⟩ = some (.string a0_2) := (blk_cell BK305.out 2).trans rfl; have hcz27_3 : w26.cell? ⟨gb305, 3, none⟩ = some (.slice A0_3 l0_3.length c0_3) := (blk_cell BK305.out 3).trans rfl; have hcz27_4 : w26.cell? ⟨gb305, 4, none⟩ = some (.slice A0_4 l0_4.length c0_4) := (blk_cell BK305.out 4).trans rfl; have hfz27_0 := blk_frozen BK305.out 0; have hfz27_1 := blk_frozen BK305.out 1; have hfz27_2 := blk_frozen BK305.out 2; have hfz27_3 := blk_frozen BK305.out 3; have hfz27_4 := blk_frozen BK305.out 4) | ((with_reducible refine gate_callee (f := 55) rfl ?_); refine goesL_ (some 8) rfl rfl Try.func55 (by kernel_rfl) rfl #[.agg #[.string a0_2, .slice A0_3 l0_3.length c0_3, .slice A0_4 l0_4.length c0_4], .int .i64 1] rfl (by (try simp only [List.map_toArray, List.map_cons, List.map_nil]); first | done | rfl | (simp only [List.length_drop, List.length_take]; rfl)) ?_; (with_reducible refine (tree_check.calls k a0_2 _ _ l0_3 _ _ l0_4 1 t306 _ ?side1 ?side2 ?side3 ?side4 A2.out).mono ?_); (case side1 => repeat (first | exact (Kd.C_below HR0_3.out HB.out) | (with_reducible refine Kd.C_alloc ?_ _) | (with_reducible refine Kd.C_drewN ?_ _) | (with_reducible refine Kd.C_drew ?_))); (case side2 => exact HC0_3.out); (case side3 => repeat (first | exact (Kd.C_below HR0_4.out HB.out) | (with_reducible refine Kd.C_alloc ?_ _) | (with_reducible refine Kd.C_drewN ?_ _) | (with_reducible refine Kd.C_drew ?_))); (case side4 => exact HC0_4.out); rintro e w28 ⟨rfl, hb⟩; refine ⟨_, rfl, ?_⟩; have n0_ := Aside0.mk (blk_below (g := gb305) (o := .cells #[.int .u32 a0_0, .slice A0_1 l0_1.length c0_1, .string a0_2, .slice A0_3 l0_3.length c0_3, .slice A0_4 l0_4.length c0_4] 35 (0, 0)) (by (with_reducible repeat (first | refine blk_drewN ?_ _ | refine blk_drew ?_ | refine blk_alloc ?_ _)); exact BK305.out) hb); have n1_ := Aside0.mk (below_step (by repeat (first | (with_reducible first | exact HB.out | apply below_alloc | apply pw_below_drewN | apply below_drew1 | refine below_set ?_ GE305.out) | exact HB.out)) hb); clear BK305; clear HB; have BK305 := n0_; have HB := n1_; clear n0_ n1_; (try clear hb); (try clear hb2); (try clear hk); (try clear hi); have hcz29_0 : w28.cell? ⟨gb305, 0, none⟩ = some (.int .u32 a0_0) := (blk_cell BK305.out 0).trans rfl; have hcz29_1 : w28.cell? ⟨gb305, 1, none⟩ = some (.slice A0_1 l0_1.length c0_1) := (blk_cell BK305.out 1).trans rfl; have hcz29_2 : w28.cell? ⟨gb305, 2, none⟩ = some (.string a0_2) := (blk_cell BK305.out 2).trans rfl; have hcz29_3 : w28.cell? ⟨gb305, 3, none⟩ = some (.slice A0_3 l0_3.length c0_3) := (blk_cell BK305.out 3).trans rfl; have hcz29_4 : w28.cell? ⟨gb305, 4, none⟩ = some (.slice A0_4 l0_4.length c0_4) := (blk_cell BK305.out 4).trans rfl; have hfz29_0 := blk_frozen BK305.out 0; have hfz29_1 := blk_frozen BK305.out 1; have hfz29_2 := blk_frozen BK305.out 2; have hfz29_3 := blk_frozen BK305.out 3; have hfz29_4 := blk_frozen BK305.out 4) | ((with_reducible refine gate_callee (f := 29) rfl ?_); refine goesL_ (some 15) rfl rfl Try.func29 (by kernel_rfl) rfl #[.agg #[.string a0_2, .slice A0_3 l0_3.length c0_3, .slice A0_4 l0_4.length c0_4]] rfl (by (try simp only [List.map_toArray, List.map_cons, List.map_nil]); first | done | rfl | (simp only [List.length_drop, List.length_take]; rfl)) ?_; (with_reducible refine (tree_Count.calls k a0_2 _ _ l0_3 _ _ l0_4 t307 t308 _ ?side1 ?side2 ?side3 ?side4 A4.out).mono ?_); (case side1 => repeat (first | exact (Kd.C_below HR0_3.out HB.out) | (with_reducible refine Kd.C_alloc ?_ _) | (with_reducible refine Kd.C_drewN ?_ _) | (with_reducible refine Kd.C_drew ?_))); (case side2 => exact HC0_3.out); (case side3 => repeat (first | exact (Kd.C_below HR0_4.out HB.out) | (with_reducible refine Kd.C_alloc ?_ _) | (with_reducible refine Kd.C_drewN ?_ _) | (with_reducible refine Kd.C_drew ?_))); (case side4 => exact HC0_4.out); rintro e w30 ⟨rfl, hb⟩; refine ⟨_, rfl, ?_⟩; have n0_ := Aside0.mk (blk_below (g := gb305) (o := .cells #[.int .u32 a0_0, .slice A0_1 l0_1.length c0_1, .string a0_2, .slice A0_3 l0_3.length c0_3, .slice A0_4 l0_4.length c0_4] 35 (0, 0)) (by (with_reducible repeat (first | refine blk_drewN ?_ _ | refine blk_drew ?_ | refine blk_alloc ?_ _)); exact BK305.out) hb); have n1_ := Aside0.mk (below_step (by repeat (first | (with_reducible first | exact HB.out | apply below_alloc | apply pw_below_drewN | apply below_drew1 | refine below_set ?_ GE305.out) | exact HB.out)) hb); clear BK305; clear HB; have BK305 := n0_; have HB := n1_; clear n0_ n1_; (try clear hb); (try clear hb2); (try clear hk); (try clear hi); have hcz31_0 : w30.cell? ⟨gb305, 0, none⟩ = some (.int .u32 a0_0) := (blk_cell BK305.out 0).trans rfl; have hcz31_1 : w30.cell? ⟨gb305, 1, none⟩ = some (.slice A0_1 l0_1.length c0_1) := (blk_cell BK305.out 1).trans rfl; have hcz31_2 : w30.cell? ⟨gb305, 2, none⟩ = some (.string a0_2) := (blk_cell BK305.out 2).trans rfl; have hcz31_3 : w30.cell? ⟨gb305, 3, none⟩ = some (.slice A0_3 l0_3.length c0_3) := (blk_cell BK305.out 3).trans rfl; have hcz31_4 : w30.cell? ⟨gb305, 4, none⟩ = some (.slice A0_4 l0_4.length c0_4) := (blk_cell BK305.out 4).trans rfl; have hfz31_0 := blk_frozen BK305.out 0; have hfz31_1 := blk_frozen BK305.out 1; have hfz31_2 := blk_frozen BK305.out 2; have hfz31_3 := blk_frozen BK305.out 3; have hfz31_4 := blk_frozen BK305.out 4) | (go_at_call 56; (with_reducible refine (api_Reserve_56.calls k _ _ l0_1 0 0 true _ ?side1 ?side2 A24.out).mono ?_); (case side1 => repeat (first | exact (Kd.C_below HR0_1.out HB.out) | (with_reducible refine Kd.C_alloc ?_ _) | (with_reducible refine Kd.C_drewN ?_ _) | (with_reducible refine Kd.C_drew ?_))); (case side2 => exact HC0_1.out); rintro e w32 ⟨rfl, hb⟩; have n0_ := Aside0.mk (blk_below (g := gb305) (o := .cells #[.int .u32 a0_0, .slice A0_1 l0_1.length c0_1, .string a0_2, .slice A0_3 l0_3.length c0_3, .slice A0_4 l0_4.length c0_4] 35 (0, 0)) (by (with_reducible repeat (first | refine blk_drewN ?_ _ | refine blk_drew ?_ | refine blk_alloc ?_ _)); exact BK305.out) hb); have n1_ := Aside0.mk (below_step (by repeat (first | (with_reducible first | exact HB.out | apply below_alloc | apply pw_below_drewN | apply below_drew1 | refine below_set ?_ GE305.out) | exact HB.out)) hb); clear BK305; clear HB; have BK305 := n0_; have HB := n1_; clear n0_ n1_; (try clear hb); (try clear hb2); (try clear hk); (try clear hi)))
            go_ret
            exact ⟨by first | rfl | (simp [errW_none, errW_some] <;> rfl) | (simp [*, errW_none, errW_some] <;> rfl), by repeat (first | (with_reducible first | exact HB.out | apply below_alloc | apply pw_below_drewN | apply below_drew1 | refine below_set ?_ GE305.out) | exact HB.out)⟩
          · replace c25 := Bool.eq_false_iff.mpr c25
            subst c25
            have H1 : (some 0) = some r := by rw [if_neg (show ¬ (false = true) by decide)] at H; exact H
            clear H
            have H := H1
            clear H1
            obtain rfl := Option.some.inj H
            go_enter Try.func27, Try.ntmps27
            go_wp2_with (first | ((with_reducible refine gate_dst (N := 1) rfl ?_); (try (refine gate_guard (by rfl) ?_; dsimp only)); refine box_event ?hg (N := 1) ?hd (cs := #[.int .u32 a0_0, .slice A0_1 l0_1.length c0_1, .string a0_2, .slice A0_3 l0_3.length c0_3, .slice A0_4 l0_4.length c0_4]) (t := 35) ?hr ?_; (case hd => rfl); (case hg => rfl); (case hr => first | (go_simp; done) | (go_simp; rfl)); intro gb305 hg w33 hbox hb; have n0_ := Aside0.mk (below_step (by repeat (first | (with_reducible first | exact HB.out | apply below_alloc | apply pw_below_drewN | apply below_drew1) | exact HB.out)) hb); have n1_ := Aside0.mk (hbox); have n2_ := Aside0.mk ((by rw [hg]; exact (below_size (by repeat (first | (with_reducible first | exact HB.out | apply below_alloc | apply pw_below_drewN | apply below_drew1) | exact HB.out))) : w.heap.size ≤ gb305)); have n3_ := Aside0.mk ((by rw [hg]; exact (below_size (by repeat (first | (with_reducible first | exact HB.out | apply below_alloc | apply pw_below_drewN | apply below_drew1) | exact HB.out))) : w.heap.size ≤ gb305)); clear HB; have HB := n0_; have BK305 := n1_; have GW305 := n2_; have GE305 := n3_; clear n0_ n1_ n2_ n3_; clear hb hbox hg; have hcz34_0 : w33.cell? ⟨gb305, 0, none⟩ = some (.int .u32 a0_0) := (blk_cell BK305.out 0).trans rfl; have hcz34_1 : w33.cell? ⟨gb305, 1, none⟩ = some (.slice A0_1 l0_1.length c0_1) := (blk_cell BK305.out 1).trans rfl; have hcz34_2 : w33.cell? ⟨gb305, 2, none⟩ = some (.string a0_2) := (blk_cell BK305.out 2).trans rfl; have hcz34_3 : w33.cell? ⟨gb305, 3, none⟩ = some (.slice A0_3 l0_3.length c0_3) := (blk_cell BK305.out 3).trans rfl; have hcz34_4 : w33.cell? ⟨gb305, 4, none⟩ = some (.slice A0_4 l0_4.length c0_4) := (blk_cell BK305.out 4).trans rfl; have hfz34_0 := blk_frozen BK305.out 0; have hfz34_1 := blk_frozen BK305.out 1; have hfz34_2 := blk_frozen BK305.out 2; have hfz34_3 := blk_frozen BK305.out 3; have hfz34_4 := blk_frozen BK305.out 4) | ((with_reducible refine gate_callee (f := 55) rfl ?_); refine goesL_ (some 8) rfl rfl Try.func55 (by kernel_rfl) rfl #[.agg #[.string a0_2, .slice A0_3 l0_3.length c0_3, .slice A0_4 l0_4.length c0_4], .int .i64 1] rfl (by (try simp only [List.map_toArray, List.map_cons, List.map_nil]); first | done | rfl | (simp only [List.length_drop, List.length_take]; rfl)) ?_; (with_reducible refine (tree_check.calls k a0_2 _ _ l0_3 _ _ l0_4 1 t306 _ ?side1 ?side2 ?side3 ?side4 A2.out).mono ?_); (case side1 => repeat (first | exact (Kd.C_below HR0_3.out HB.out) | (with_reducible refine Kd.C_alloc ?_ _) | (with_reducible refine Kd.C_drewN ?_ _) | (with_reducible refine Kd.C_drew ?_))); (case side2 => exact HC0_3.out); (case side3 => repeat (first | exact (Kd.C_below HR0_4.out HB.out) | (with_reducible refine Kd.C_alloc ?_ _) | (with_reducible refine Kd.C_drewN ?_ _) | (with_reducible refine Kd.C_drew ?_))); (case side4 => exact HC0_4.out); rintro e w35 ⟨rfl, hb⟩; refine ⟨_, rfl, ?_⟩; have n0_ := Aside0.mk (blk_below (g := gb305) (o := .cells #[.int .u32 a0_0, .slice A0_1 l0_1.length c0_1, .string a0_2, .slice A0_3 l0_3.length c0_3, .slice A0_4 l0_4.length c0_4] 35 (0, 0)) (by (with_reducible repeat (first | refine blk_drewN ?_ _ | refine blk_drew ?_ | refine blk_alloc ?_ _)); exact BK305.out) hb); have n1_ := Aside0.mk (below_step (by repeat (first | (with_reducible first | exact HB.out | apply below_alloc | apply pw_below_drewN | apply below_drew1 | refine below_set ?_ GE305.out) | exact HB.out)) hb); clear BK305; clear HB; have BK305 := n0_; have HB := n1_; clear n0_ n1_; (try clear hb); (try clear hb2); (try clear hk); (try clear hi); have hcz36_0 : w35.cell? ⟨gb305, 0, none⟩ = some (.int .u32 a0_0) := (blk_cell BK305.out 0).trans rfl; have hcz36_1 : w35.cell? ⟨gb305, 1, none⟩ = some (.slice A0_1 l0_1.length c0_1) := (blk_cell BK305.out 1).trans rfl; have hcz36_2 : w35.cell? ⟨gb305, 2, none⟩ = some (.string a0_2) := (blk_cell BK305.out 2).trans rfl; have hcz36_3 : w35.cell? ⟨gb305, 3, none⟩ = some (.slice A0_3 l0_3.length c0_3) := (blk_cell BK305.out 3).trans rfl; have hcz36_4 : w35.cell? ⟨gb305, 4, none⟩ = some (.slice A0_4 l0_4.length c0_4) := (blk_cell BK305.out 4).trans rfl; have hfz36_0 := blk_frozen BK305.out 0; have hfz36_1 := blk_frozen BK305.out 1; have hfz36_2 := blk_frozen BK305.out 2; have hfz36_3 := blk_frozen BK305.out 3; have hfz36_4 := blk_frozen BK305.out 4) | ((with_reducible refine gate_callee (f := 29) rfl ?_); refine goesL_ (some 15) rfl rfl Try.func29 (by kernel_rfl) rfl #[.agg #[.string a0_2, .slice A0_3 l0_3.length c0_3, .slice A0_4 l0_4.length c0_4]] rfl (by (try simp only [List.map_toArray, List.map_cons, List.map_nil]); first | done | rfl | (simp only [List.length_drop, List.length_take]; rfl)) ?_; (with_reducible refine (tree_Count.calls k a0_2 _ _ l0_3 _ _ l0_4 t307 t308 _ ?side1 ?side2 ?side3 ?side4 A4.out).mono ?_); (case side1 => repeat (first | exact (Kd.C_below HR0_3.out HB.out) | (with_reducible refine Kd.C_alloc ?_ _) | (with_reducible refine Kd.C_drewN ?_ _) | (with_reducible refine Kd.C_drew ?_))); (case side2 => exact HC0_3.out); (case side3 => repeat (first | exact (Kd.C_below HR0_4.out HB.out) | (with_reducible refine Kd.C_alloc ?_ _) | (with_reducible refine Kd.C_drewN ?_ _) | (with_reducible refine Kd.C_drew ?_))); (case side4 => exact HC0_4.out); rintro e w37 ⟨rfl, hb⟩; refine ⟨_, rfl, ?_⟩; have n0_ := Aside0.mk (blk_below (g := gb305) (o := .cells #[.int .u32 a0_0, .slice A0_1 l0_1.length c0_1, .string a0_2, .slice A0_3 l0_3.length c0_3, .slice A0_4 l0_4.length c0_4] 35 (0, 0)) (by (with_reducible repeat (first | refine blk_drewN ?_ _ | refine blk_drew ?_ | refine blk_alloc ?_ _)); exact BK305.out) hb); have n1_ := Aside0.mk (below_step (by repeat (first | (with_reducible first | exact HB.out | apply below_alloc | apply pw_below_drewN | apply below_drew1 | refine below_set ?_ GE305.out) | exact HB.out)) hb); clear BK305; clear HB; have BK305 := n0_; have HB := n1_; clear n0_ n1_; (try clear hb); (try clear hb2); (try clear hk); (try clear hi); have hcz38_0 : w37.cell? ⟨gb305, 0, none⟩ = some (.int .u32 a0_0) := (blk_cell BK305.out 0).trans rfl; have hcz38_1 : w37.cell? ⟨gb305, 1, none⟩ = some (.slice A0_1 l0_1.length c0_1) := (blk_cell BK305.out 1).trans rfl; have hcz38_2 : w37.cell? ⟨gb305, 2, none⟩ = some (.string a0_2) := (blk_cell BK305.out 2).trans rfl; have hcz38_3 : w37.cell? ⟨gb305, 3, none⟩ = some (.slice A0_3 l0_3.length c0_3) := (blk_cell BK305.out 3).trans rfl; have hcz38_4 : w37.cell? ⟨gb305, 4, none⟩ = some (.slice A0_4 l0_4.length c0_4) := (blk_cell BK305.out 4).trans rfl; have hfz38_0 := blk_frozen BK305.out 0; have hfz38_1 := blk_frozen BK305.out 1; have hfz38_2 := blk_frozen BK305.out 2; have hfz38_3 := blk_frozen BK305.out 3; have hfz38_4 := blk_frozen BK305.out 4) | (go_at_call 56; (with_reducible refine (api_Reserve_56.calls k _ _ l0_1 0 0 false _ ?side1 ?side2 A24.out).mono ?_); (case side1 => repeat (first | exact (Kd.C_below HR0_1.out HB.out) | (with_reducible refine Kd.C_alloc ?_ _) | (with_reducible refine Kd.C_drewN ?_ _) | (with_reducible refine Kd.C_drew ?_))); (case side2 => exact HC0_1.out); rintro e w39 ⟨rfl, hb⟩; have n0_ := Aside0.mk (blk_below (g := gb305) (o := .cells #[.int .u32 a0_0, .slice A0_1 l0_1.length c0_1, .string a0_2, .slice A0_3 l0_3.length c0_3, .slice A0_4 l0_4.length c0_4] 35 (0, 0)) (by (with_reducible repeat (first | refine blk_drewN ?_ _ | refine blk_drew ?_ | refine blk_alloc ?_ _)); exact BK305.out) hb); have n1_ := Aside0.mk (below_step (by repeat (first | (with_reducible first | exact HB.out | apply below_alloc | apply pw_below_drewN | apply below_drew1 | refine below_set ?_ GE305.out) | exact HB.out)) hb); clear BK305; clear HB; have BK305 := n0_; have HB := n1_; clear n0_ n1_; (try clear hb); (try clear hb2); (try clear hk); (try clear hi)))
            go_ret
            exact ⟨by first | rfl | (simp [errW_none, errW_some] <;> rfl) | (simp [*, errW_none, errW_some] <;> rfl), by repeat (first | (with_reducible first | exact HB.out | apply below_alloc | apply pw_below_drewN | apply below_drew1 | refine below_set ?_ GE305.out) | exact HB.out)⟩
  · rw [if_neg c3] at H
    have c3b0 : (t306 == 0) = false := beq_eq_false_iff_ne.mpr c3
    have c3b1 : (t306 != 0) = true := bne_iff_ne.mpr c3
    obtain rfl := Option.some.inj H
    go_enter Try.func27, Try.ntmps27
    go_wp2_with (first | ((with_reducible refine gate_dst (N := 1) rfl ?_); (try (refine gate_guard (by rfl) ?_; dsimp only)); refine box_event ?hg (N := 1) ?hd (cs := #[.int .u32 a0_0, .slice A0_1 l0_1.length c0_1, .string a0_2, .slice A0_3 l0_3.length c0_3, .slice A0_4 l0_4.length c0_4]) (t := 35) ?hr ?_; (case hd => rfl); (case hg => rfl); (case hr => first | (go_simp; done) | (go_simp; rfl)); intro gb305 hg w40 hbox hb; have n0_ := Aside0.mk (below_step (by repeat (first | (with_reducible first | exact HB.out | apply below_alloc | apply pw_below_drewN | apply below_drew1) | exact HB.out)) hb); have n1_ := Aside0.mk (hbox); have n2_ := Aside0.mk ((by rw [hg]; exact (below_size (by repeat (first | (with_reducible first | exact HB.out | apply below_alloc | apply pw_below_drewN | apply below_drew1) | exact HB.out))) : w.heap.size ≤ gb305)); have n3_ := Aside0.mk ((by rw [hg]; exact (below_size (by repeat (first | (with_reducible first | exact HB.out | apply below_alloc | apply pw_below_drewN | apply below_drew1) | exact HB.out))) : w.heap.size ≤ gb305)); clear HB; have HB := n0_; have BK305 := n1_; have GW305 := n2_; have GE305 := n3_; clear n0_ n1_ n2_ n3_; clear hb hbox hg; have hcz41_0 : w40.cell? ⟨gb305, 0, none⟩ = some (.int .u32 a0_0) := (blk_cell BK305.out 0).trans rfl; have hcz41_1 : w40.cell? ⟨gb305, 1, none⟩ = some (.slice A0_1 l0_1.length c0_1) := (blk_cell BK305.out 1).trans rfl; have hcz41_2 : w40.cell? ⟨gb305, 2, none⟩ = some (.string a0_2) := (blk_cell BK305.out 2).trans rfl; have hcz41_3 : w40.cell? ⟨gb305, 3, none⟩ = some (.slice A0_3 l0_3.length c0_3) := (blk_cell BK305.out 3).trans rfl; have hcz41_4 : w40.cell? ⟨gb305, 4, none⟩ = some (.slice A0_4 l0_4.length c0_4) := (blk_cell BK305.out 4).trans rfl; have hfz41_0 := blk_frozen BK305.out 0; have hfz41_1 := blk_frozen BK305.out 1; have hfz41_2 := blk_frozen BK305.out 2; have hfz41_3 := blk_frozen BK305.out 3; have hfz41_4 := blk_frozen BK305.out 4) | ((with_reducible refine gate_callee (f := 55) rfl ?_); refine goesL_ (some 8) rfl rfl Try.func55 (by kernel_rfl) rfl #[.agg #[.string a0_2, .slice A0_3 l0_3.length c0_3, .slice A0_4 l0_4.length c0_4], .int .i64 1] rfl (by (try simp only [List.map_toArray, List.map_cons, List.map_nil]); first | done | rfl | (simp only [List.length_drop, List.length_take]; rfl)) ?_; (with_reducible refine (tree_check.calls k a0_2 _ _ l0_3 _ _ l0_4 1 t306 _ ?side1 ?side2 ?side3 ?side4 A2.out).mono ?_); (case side1 => repeat (first | exact (Kd.C_below HR0_3.out HB.out) | (with_reducible refine Kd.C_alloc ?_ _) | (with_reducible refine Kd.C_drewN ?_ _) | (with_reducible refine Kd.C_drew ?_))); (case side2 => exact HC0_3.out); (case side3 => repeat (first | exact (Kd.C_below HR0_4.out HB.out) | (with_reducible refine Kd.C_alloc ?_ _) | (with_reducible refine Kd.C_drewN ?_ _) | (with_reducible refine Kd.C_drew ?_))); (case side4 => exact HC0_4.out); rintro e w42 ⟨rfl, hb⟩; refine ⟨_, rfl, ?_⟩; have n0_ := Aside0.mk (blk_below (g := gb305) (o := .cells #[.int .u32 a0_0, .slice A0_1 l0_1.length c0_1, .string a0_2, .slice A0_3 l0_3.length c0_3, .slice A0_4 l0_4.length c0_4] 35 (0, 0)) (by (with_reducible repeat (first | refine blk_drewN ?_ _ | refine blk_drew ?_ | refine blk_alloc ?_ _)); exact BK305.out) hb); have n1_ := Aside0.mk (below_step (by repeat (first | (with_reducible first | exact HB.out | apply below_alloc | apply pw_below_drewN | apply below_drew1 | refine below_set ?_ GE305.out) | exact HB.out)) hb); clear BK305; clear HB; have BK305 := n0_; have HB := n1_; clear n0_ n1_; (try clear hb); (try clear hb2); (try clear hk); (try clear hi)))
    go_ret
    exact ⟨by first | rfl | (simp [errW_none, errW_some] <;> rfl) | (simp [*, errW_none, errW_some] <;> rfl), by repeat (first | (with_reducible first | exact HB.out | apply below_alloc | apply pw_below_drewN | apply below_drew1 | refine below_set ?_ GE305.out) | exact HB.out)⟩
end Go.Proofs.Yteejaaeglfpcmab.PC

namespace Go.Proofs.Yteejaaeglfpcmab.PC
open Go.RowKit Go.Proofs.YteejaaeglfpcmabW.PrintWords Go.Proofs.YteejaaeglfpcmabW.PrintLast Go.Proofs.YteejaaeglfpcmabW.PrintMore
attribute [local go_sem] max2_int min2_int max_two min_two max_three min_three max_four min_four   -- for this text's walks alone
set_option linter.unusedVariables false
set_option linter.unusedSimpArgs false
set_option maxRecDepth 100000 in
theorem same_none (w : World) : Calls Try.prog 63 #[.slice none 0 0, .slice none 0 0, .func (.func 64) #[] #[]] w fun e w' => e = .returned (.bool true) ∧ Drawn0 w w' := by
  go_enter Try.func63, Try.ntmps63
  go_wp2
  go_loopg [17] 0 (fun kq v17 w' => v17 = .int .i64 0 ∧ Drawn0 w w')
  case atStart => exact ⟨rfl, Drawn0.refl _⟩
  case round =>
    obtain ⟨rfl, hd⟩ := hrel
    go_wp2
    go_ret
    exact ⟨rfl, by repeat (first | exact hd | apply Drawn0.step)⟩
set_option maxRecDepth 100000 in
theorem same_none2 (w : World) : Calls Try.prog 66 #[.slice none 0 0, .slice none 0 0, .func (.func 38) #[] #[]] w fun e w' => e = .returned (.bool true) ∧ Drawn0 w w' := by
  go_enter Try.func66, Try.ntmps66
  go_wp2
  go_loopg [17] 0 (fun kq v17 w' => v17 = .int .i64 0 ∧ Drawn0 w w')
  case atStart => exact ⟨rfl, Drawn0.refl _⟩
  case round =>
    obtain ⟨rfl, hd⟩ := hrel
    go_wp2
    go_ret
    exact ⟨rfl, by repeat (first | exact hd | apply Drawn0.step)⟩
set_option maxRecDepth 100000 in
theorem samenode_none (w : World) : Calls Try.prog 38 #[.agg #[.string ⟨#[]⟩, .slice none 0 0, .slice none 0 0], .agg #[.string ⟨#[]⟩, .slice none 0 0, .slice none 0 0]] w fun e w' => e = .returned (.bool true) ∧ Below w.heap.size w w' := by
  have hu30 := Try.underlying30
  go_enter Try.func38, Try.ntmps38
  go_wp2_with (first | (go_at_call 63; refine (same_none _).mono ?_; rintro e w' ⟨rfl, ⟨nd, rfl⟩⟩) | (go_at_call 66; refine (same_none2 _).mono ?_; rintro e w' ⟨rfl, ⟨nd, rfl⟩⟩))
  go_ret
  exact ⟨rfl, by repeat (first | exact Below.refl _ _ | apply below_alloc | apply pw_below_drewN | apply below_drew1)⟩
set_option maxRecDepth 100000 in
theorem check_a (w : World) : Calls Try.prog 55 #[.agg #[.string ⟨#[97]⟩, .slice none 0 0, .slice none 0 0], .int .i64 1] w fun e w' => e = .returned (.int .i64 5) ∧ Below w.heap.size w w' := by
  have hu30 := Try.underlying30
  have q := fun W => tree_names.calls 4 ⟨#[97]⟩ none 0 [] none 0 [] [] [] W (Kd.C_nil _ _) (Nat.le_refl 0) (Kd.C_nil _ _) (Nat.le_refl 0) (by rfl)
  go_enter Try.func55, Try.ntmps55
  have hbk := Aside0.mk (blk_new w (.cells #[.string ⟨#[97]⟩, .slice none 0 0, .slice none 0 0] 30 (0, 0)))
  go_wp2_with (go_at_call 77; refine (q _).mono ?_; rintro e w' ⟨v0, v1, rfl, h0, h1, hb⟩; have hk := blk_below hbk.out hb; have HBB := Aside0.mk hb; clear h0 h1 hb; have hc0 : w'.cell? ⟨w.heap.size, 0, none⟩ = some (.string ⟨#[97]⟩) := (blk_cell hk 0).trans rfl; have hz0 := blk_frozen hk 0; clear hk)
  go_ret
  exact ⟨rfl, below_step (below_alloc (Below.refl _ _) _) HBB.out⟩
set_option maxRecDepth 100000 in
theorem Check_a (w : World) : Calls Try.prog 27 #[.agg #[.int .u32 0, .slice none 0 0, .string ⟨#[97]⟩, .slice none 0 0, .slice none 0 0]] w fun e w' => e = .returned (.int .i64 5) ∧ Below w.heap.size w w' := by
  have hu30 := Try.underlying30
  have hu35 := Try.underlying35
  have q := fun W => check_a W
  go_enter Try.func27, Try.ntmps27
  go_wp2_with (go_at_call 55; refine (q _).mono ?_; rintro e w' ⟨rfl, hb⟩; have HBB := Aside0.mk hb; clear hb)
  go_ret
  exact ⟨rfl, below_step (below_alloc (Below.refl _ _) _) HBB.out⟩
def arboretlaw03_awake.f : Option Bool := some true
set_option maxRecDepth 100000 in
theorem arboretlaw03_awake.calls (r : Bool) (w : World) (h : arboretlaw03_awake.f = some r) : Calls Try.prog 26 #[] w fun e w' => e = .returned (.bool r) ∧ Below w.heap.size w w' := by
  obtain rfl := Option.some.inj h
  have hu30 := Try.underlying30
  have hu35 := Try.underlying35
  have q := fun W => Check_a W
  have q2 := fun W => samenode_none W
  go_enter Try.func26, Try.ntmps26
  go_wp2_with (first | (go_at_call 27; refine (q _).mono ?_; rintro e w' ⟨rfl, hb⟩; have HB1 := Aside0.mk hb; clear hb) | (go_at_call 38; refine (q2 _).mono ?_; rintro e w'' ⟨rfl, hb⟩; have HB2 := Aside0.mk hb; clear hb))
  go_ret
  exact ⟨rfl, below_step HB1.out HB2.out⟩
end Go.Proofs.Yteejaaeglfpcmab.PC

namespace Go.Proofs.Yteejaaeglfpcmab.PC
open Go.RowKit Go.Proofs.YteejaaeglfpcmabW.PrintWords Go.Proofs.YteejaaeglfpcmabW.PrintLast Go.Proofs.YteejaaeglfpcmabW.PrintMore
attribute [local go_sem] max2_int min2_int max_two min_two max_three min_three max_four min_four   -- for this text's walks alone
set_option linter.unusedVariables false
set_option linter.unusedSimpArgs false
def arboretlaw03_TreeDeep.l0 : Nat → Int → Int → Int → ByteArray → List (S30) → Option (Bool)
  | 0, _, _, _, _, _ => none
  | k + 1, x0, x10, x11, x320000, x320002 => if x11 < x10 then (arboretlaw03_TreeDeep.l0 k x0 x10 (wrap64 (x11 + 1)) (⟨#[97]⟩ : ByteArray) (([(⟨x320000, ([] : List (S77)), x320002⟩ : S30)] : List (S30)))) else ((tree_Check.f k 0 ([] : List (S94)) (⟨#[]⟩ : ByteArray) ([] : List (S77)) x320002).bind fun t323 => (if ((t323 == 0) == (decide ((wrap64 ((wrap64 (Int.tmod x0 24)) + 1)) ≤ 16))) = true then (if t323 = 0 then (some true) else (some (t323 == 6))) else (some false)))
def arboretlaw03_TreeDeep.f (k : Nat) (a0 : Int) : Option (Bool) := (arboretlaw03_awake.f).bind fun t318 => (if t318 = true then (arboretlaw03_TreeDeep.l0 k a0 (wrap64 (Int.tmod a0 24)) 0 (⟨#[97]⟩ : ByteArray) ([] : List (S30))) else (some false))
set_option maxHeartbeats 8000000 in
set_option maxRecDepth 100000 in
theorem arboretlaw03_TreeDeep.calls (k : Nat) (a0 : Int) (r : Bool) (w : World) (h : arboretlaw03_TreeDeep.f k a0 = some r) :
    Calls Try.prog 9 #[.int .u8 a0] w fun e w' => e = .returned (.bool r) ∧ Below w.heap.size w w' := by
  have hu30 := Try.underlying30
  have hu35 := Try.underlying35
  have HB := Aside0.mk (Below.refl w.heap.size w)
  have H : ((arboretlaw03_awake.f).bind fun t318 => (if t318 = true then (arboretlaw03_TreeDeep.l0 k a0 (wrap64 (Int.tmod a0 24)) 0 (⟨#[97]⟩ : ByteArray) ([] : List (S30))) else (some false))) = some r := h
  clear h
  replace H := Option.bind_eq_some_iff.mp H
  obtain ⟨t318, A20, H⟩ := H
  replace H : (if t318 = true then (arboretlaw03_TreeDeep.l0 k a0 (wrap64 (Int.tmod a0 24)) 0 (⟨#[97]⟩ : ByteArray) ([] : List (S30))) else (some false)) = some r := H
  have A2 := Aside0.mk A20
  clear A20
  by_cases c3 : t318 = true
  · subst c3
    have H1 : (arboretlaw03_TreeDeep.l0 k a0 (wrap64 (Int.tmod a0 24)) 0 (⟨#[97]⟩ : ByteArray) ([] : List (S30))) = some r := by rw [if_pos rfl] at H; exact H
    clear H
    have H := H1
    clear H1
    have H' := Aside0.mk H
    clear H
    go_enter Try.func9, Try.ntmps9
    go_wp2_with (first | ((with_reducible refine gate_callee (f := 26) rfl ?_); refine goesL_ (some 5) rfl rfl Try.func26 (by kernel_rfl) rfl #[] rfl (by (try simp only [List.map_toArray, List.map_cons, List.map_nil]); first | done | rfl | (simp only [List.length_drop, List.length_take]; rfl)) ?_; (with_reducible refine (arboretlaw03_awake.calls  true _ A2.out).mono ?_); rintro e w4 ⟨rfl, hb⟩; refine ⟨_, rfl, ?_⟩; have n0_ := Aside0.mk (below_step (by repeat (first | (with_reducible first | exact HB.out | apply below_alloc | apply pw_below_drewN | apply below_drew1) | exact HB.out)) hb); clear HB; have HB := n0_; clear n0_; (try clear hb); (try clear hb2); (try clear hk); (try clear hi)) | ((with_reducible refine gate_dst (N := 3) rfl ?_); refine box_event ?hg (N := 3) ?hd (cs := #[.string (⟨#[]⟩ : ByteArray), .slice none 0 0, .slice none 0 0]) (t := 30) ?hr ?_; (case hd => rfl); (case hg => rfl); (case hr => first | (go_simp; done) | (go_simp; rfl)); intro gb319 hg w5 hbox hb; have n0_ := Aside0.mk (below_step (by repeat (first | (with_reducible first | exact HB.out | apply below_alloc | apply pw_below_drewN | apply below_drew1) | exact HB.out)) hb); have n1_ := Aside0.mk (hbox); have n2_ := Aside0.mk ((by rw [hg]; exact (below_size (by repeat (first | (with_reducible first | exact HB.out | apply below_alloc | apply pw_below_drewN | apply below_drew1) | exact HB.out))) : w.heap.size ≤ gb319)); have n3_ := Aside0.mk ((by rw [hg]; exact (below_size (by repeat (first | (with_reducible first | exact HB.out | apply below_alloc | apply pw_below_drewN | apply below_drew1) | exact HB.out))) : w.heap.size ≤ gb319)); clear HB; have HB := n0_; have BK319 := n1_; have GW319 := n2_; have GE319 := n3_; clear n0_ n1_ n2_ n3_; clear hb hbox hg; have hcz6_0 : w5.cell? ⟨gb319, 0, none⟩ = some (.string (⟨#[]⟩ : ByteArray)) := (blk_cell BK319.out 0).trans rfl; have hcz6_1 : w5.cell? ⟨gb319, 1, none⟩ = some (.slice none 0 0) := (blk_cell BK319.out 1).trans rfl; have hcz6_2 : w5.cell? ⟨gb319, 2, none⟩ = some (.slice none 0 0) := (blk_cell BK319.out 2).trans rfl; have hfz6_0 := blk_frozen BK319.out 0; have hfz6_1 := blk_frozen BK319.out 1; have hfz6_2 := blk_frozen BK319.out 2))
    go_loopg [11] k (fun kq v11 w' => ∃ (x11_1 : Int) (x320000_1 : ByteArray) (x320002_1 : List (S30)) (u320002 : Value), v11 = .int .i64 x11_1 ∧ Aside0 (arboretlaw03_TreeDeep.l0 kq a0 (wrap64 (Int.tmod a0 24)) x11_1 x320000_1 x320002_1 = some r) ∧ Aside0 (kq ≤ k) ∧ Aside0 (Kd.N k30 30 w' w.heap.size (fun k_ => k_ ≠ gb319) u320002 x320002_1) ∧ Aside0 (w'.heap[gb319]? = some (.cells #[.string x320000_1, (.slice none 0 0), u320002] 30 (0, 0))) ∧ Aside0 (Below w.heap.size w w'))
    case atStart => exact ⟨(0), ((⟨#[97]⟩ : ByteArray)), (([] : List (S30))), (.slice none 0 0), (by first | rfl | (simp; done) | (simp [*]; done)), H', ⟨Nat.le_refl _⟩, ⟨by first | exact Kd.R_nil _ _ _ _ _ | exact Kd.N_nil _ _ _ _ _ | exact Kd.V_nil _ _ _ _ _ | exact Kd.Q_nil _ _ _ _ _ | exact Kd.S_nil _ _ _ _ _⟩, ⟨by (with_reducible repeat (first | refine blk_drewN ?_ _ | refine blk_drew ?_ | refine blk_alloc ?_ _)); refine blk_put (cs := #[.string (⟨#[97]⟩ : ByteArray), .slice none 0 0, .slice none 0 0]) ?_ 2 _ rfl; (with_reducible repeat (first | refine blk_drewN ?_ _ | refine blk_drew ?_ | refine blk_alloc ?_ _)); refine blk_put (cs := #[.string (⟨#[97]⟩ : ByteArray), .slice none 0 0, .slice none 0 0]) ?_ 1 _ rfl; (with_reducible repeat (first | refine blk_drewN ?_ _ | refine blk_drew ?_ | refine blk_alloc ?_ _)); refine blk_put (cs := #[.string (⟨#[]⟩ : ByteArray), .slice none 0 0, .slice none 0 0]) ?_ 0 _ rfl; (with_reducible repeat (first | refine blk_drewN ?_ _ | refine blk_drew ?_ | refine blk_alloc ?_ _)); exact BK319.out⟩, ⟨by repeat (first | (with_reducible first | exact HB.out | apply below_alloc | apply pw_below_drewN | apply below_drew1 | refine below_set ?_ GE319.out) | exact HB.out)⟩⟩
    case round =>
      clear H'
      try clear c2
      try clear p2
      try clear c3
      try clear p6
      try clear hcz6_0
      try clear hcz6_1
      try clear hcz6_2
      try clear hfz6_0
      try clear hfz6_1
      try clear hfz6_2
      obtain ⟨x11_1, x320000_1, x320002_1, u320002, rfl, HA, HK1, HO_320002, BK319, HB⟩ := hrel
      cases gk with
      | zero => exact absurd HA.out (by simp [arboretlaw03_TreeDeep.l0])
      | succ k1 =>
        have H := HA.out
        clear HA
        simp only [arboretlaw03_TreeDeep.l0] at H
        by_cases c7 : x11_1 < (wrap64 (Int.tmod a0 24))
        · rw [if_pos c7] at H
          have c7b0 : decide (x11_1 < (wrap64 (Int.tmod a0 24))) = true := decide_eq_true c7
          clear c7
          obtain ⟨y320, hy320⟩ : ∃ y_ : List (S30), y_ = (([(⟨x320000_1, ([] : List (S77)), x320002_1⟩ : S30)] : List (S30))) := ⟨_, rfl⟩
          replace H : (arboretlaw03_TreeDeep.l0 k1 a0 (wrap64 (Int.tmod a0 24)) (wrap64 (x11_1 + 1)) (⟨#[97]⟩ : ByteArray) y320) = some r := by first | (rw [hy320]; with_reducible exact H) | (have H2_ := (Option.bind_some _ _).symm.trans H; rw [hy320]; with_reducible exact H2_) | (have H2_ := (Option.bind_some _ _).symm.trans H; with_reducible exact H2_) | with_reducible exact H | (rw [hy320]; exact H) | exact H
          have Ny320 := Aside0.mk hy320
          clear hy320
          have H' := Aside0.mk H
          clear H
          have hcz8_0 : wr.cell? ⟨gb319, 0, none⟩ = some (.string x320000_1) := (blk_cell BK319.out 0).trans rfl
          have hcz8_1 : wr.cell? ⟨gb319, 1, none⟩ = some (.slice none 0 0) := (blk_cell BK319.out 1).trans rfl
          have hcz8_2 : wr.cell? ⟨gb319, 2, none⟩ = some (u320002) := (blk_cell BK319.out 2).trans rfl
          have hfz8_0 := blk_frozen BK319.out 0
          have hfz8_1 := blk_frozen BK319.out 1
          have hfz8_2 := blk_frozen BK319.out 2
          obtain ⟨Ao9, co9, eo9⟩ := Kd.N_slice HO_320002.out
          subst eo9
          go_wp2_with (first | ((with_reducible refine gate_dst (N := 14) rfl ?_); refine Kd.N_lit k30 _ 30 ?hg (N' := 14) ?hd (xs := ([(⟨x320000_1, ([] : List (S77)), x320002_1⟩ : S30)] : List (S30))) (inner := [.string x320000_1, .slice none 0 0, .slice Ao9 x320002_1.length co9]) (ok := (fun k_ => k_ ≠ gb319)) (okp := (fun k_ => k_ ≠ gb319)) ?hr ?hp (fun _ hk => hk) ((show ∀ k_, wr.heap.size ≤ k_ → (fun k_ => k_ ≠ gb319) k_ from fun k_ hk => Kd.freshB (g := gb319) (o := .cells #[.string x320000_1, .slice none 0 0, .slice Ao9 x320002_1.length co9] 30 (0, 0)) (by (with_reducible repeat (first | refine blk_drewN ?_ _ | refine blk_drew ?_ | refine blk_alloc ?_ _)); exact BK319.out) k_ hk) _ (Nat.le_refl _)) (Below.refl _ _) (Nat.le_refl _) (by simp) ?_; (case hd => rfl); (case hg => rfl); (case hr => first | (go_simp; done) | (go_simp; rfl)); (case hp => exact (Reps.c3 (show Kd.FK k30 _ _ (⟨x320000_1, ([] : List (S77)), x320002_1⟩ : S30) [.string x320000_1, .slice none 0 0, .slice Ao9 x320002_1.length co9] from (k30_mkF _ _ (⟨x320000_1, ([] : List (S77)), x320002_1⟩ : S30) (Nat.le_refl _) (Kd.F_nil _ _ _) (Kd.N_reads' (Kd.N_mono (ok' := (fun k_ => k_ ≠ gb319)) (HO_320002.out) (fun k_ hk => hk))).2.1 (Kd.N_F (Kd.N_mono (ok' := (fun k_ => k_ ≠ gb319)) (HO_320002.out) (fun k_ hk => hk))))) (Reps.none _ _))); intro v321 w10 ho11 hb hg_ hnew_; clear hg_ hnew_; (first | rw [← Ny320.out] at ho11 | (simp only [Int.reduceToNat] at ho11; rw [← Ny320.out] at ho11)); have n0_ := Aside0.mk (Kd.N_lower ho11 (below_size (by repeat (first | (with_reducible first | exact HB.out | apply below_alloc | apply pw_below_drewN | apply below_drew1 | refine below_set ?_ GE319.out) | exact HB.out)))); have n1_ := Aside0.mk (blk_below (g := gb319) (o := .cells #[.string x320000_1, .slice none 0 0, .slice Ao9 x320002_1.length co9] 30 (0, 0)) (by (with_reducible repeat (first | refine blk_drewN ?_ _ | refine blk_drew ?_ | refine blk_alloc ?_ _)); exact BK319.out) hb); have n2_ := Aside0.mk (below_step (by repeat (first | (with_reducible first | exact HB.out | apply below_alloc | apply pw_below_drewN | apply below_drew1 | refine below_set ?_ GE319.out) | exact HB.out)) hb); clear BK319; clear HB; clear HO_320002; have HO322 := n0_; have BK319 := n1_; have HB := n2_; clear n0_ n1_ n2_; clear hb ho11; obtain ⟨Ao12, co12, eo12⟩ := Kd.N_slice HO322.out; subst eo12; have hcz13_0 : w10.cell? ⟨gb319, 0, none⟩ = some (.string x320000_1) := (blk_cell BK319.out 0).trans rfl; have hcz13_1 : w10.cell? ⟨gb319, 1, none⟩ = some (.slice none 0 0) := (blk_cell BK319.out 1).trans rfl; have hcz13_2 : w10.cell? ⟨gb319, 2, none⟩ = some (.slice Ao9 x320002_1.length co9) := (blk_cell BK319.out 2).trans rfl; have hfz13_0 := blk_frozen BK319.out 0; have hfz13_1 := blk_frozen BK319.out 1; have hfz13_2 := blk_frozen BK319.out 2))
          go_roundg k1
          case measure => have := HK1.out; omega
          case rel => exact ⟨(wrap64 (x11_1 + 1)), ((⟨#[97]⟩ : ByteArray)), (y320), (.slice Ao12 y320.length co12), (by first | rfl | (simp; done) | (simp [*]; done)), H', ⟨by have := HK1.out; omega⟩, ⟨by (with_reducible repeat (first | apply Kd.N_alloc | apply Kd.N_drewN | apply Kd.N_drew)); exact Kd.N_mono (Kd.N_far (p := ⟨gb319, 2, none⟩) (Kd.N_far (p := ⟨gb319, 1, none⟩) (Kd.N_far (p := ⟨gb319, 0, none⟩) (Kd.N_mono HO322.out (fun k_ hk => (⟨hk, hk⟩ : _ ∧ k_ ≠ gb319))) (fun _ hk => hk.2) (.string (⟨#[97]⟩ : ByteArray))) (fun _ hk => hk.2) (.slice none 0 0)) (fun _ hk => hk.2) (.slice Ao12 y320.length co12)) (fun _ hk => hk.1)⟩, ⟨by (with_reducible repeat (first | refine blk_drewN ?_ _ | refine blk_drew ?_ | refine blk_alloc ?_ _)); refine blk_put (cs := #[.string (⟨#[97]⟩ : ByteArray), .slice none 0 0, .slice Ao9 x320002_1.length co9]) ?_ 2 _ rfl; (with_reducible repeat (first | refine blk_drewN ?_ _ | refine blk_drew ?_ | refine blk_alloc ?_ _)); refine blk_put (cs := #[.string (⟨#[97]⟩ : ByteArray), .slice none 0 0, .slice Ao9 x320002_1.length co9]) ?_ 1 _ rfl; (with_reducible repeat (first | refine blk_drewN ?_ _ | refine blk_drew ?_ | refine blk_alloc ?_ _)); refine blk_put (cs := #[.string x320000_1, .slice none 0 0, .slice Ao9 x320002_1.length co9]) ?_ 0 _ rfl; (with_reducible repeat (first | refine blk_drewN ?_ _ | refine blk_drew ?_ | refine blk_alloc ?_ _)); exact BK319.out⟩, ⟨by repeat (first | (with_reducible first | exact HB.out | apply below_alloc | apply pw_below_drewN | apply below_drew1 | refine below_set ?_ GE319.out) | exact HB.out)⟩⟩
        · rw [if_neg c7] at H
          have c7b0 : decide (x11_1 < (wrap64 (Int.tmod a0 24))) = false := decide_eq_false c7
          clear c7
          replace H := Option.bind_eq_some_iff.mp H
          obtain ⟨t323, A140, H⟩ := H
          replace H : (if ((t323 == 0) == (decide ((wrap64 ((wrap64 (Int.tmod a0 24)) + 1)) ≤ 16))) = true then (if t323 = 0 then (some true) else (some (t323 == 6))) else (some false)) = some r := H
          have A14 := Aside0.mk A140
          clear A140
          by_cases c15 : ((t323 == 0) == (decide ((wrap64 ((wrap64 (Int.tmod a0 24)) + 1)) ≤ 16))) = true
          · rw [if_pos c15] at H
            have c15b0 : ((t323 == 0) == (decide ((wrap64 ((wrap64 (Int.tmod a0 24)) + 1)) ≤ 16))) = true := c15
            (try (have c15b1 : decide ((t323 == 0) = (decide ((wrap64 ((wrap64 (Int.tmod a0 24)) + 1)) ≤ 16))) = true := by simpa using c15))
            (try (have c15b2 : ((t323 == 0) == (decide ((wrap64 ((wrap64 (Int.tmod a0 24)) + 1)) ≤ 16))) = true := by simpa using c15))
            clear c15
            by_cases c16 : t323 = 0
            · rw [if_pos c16] at H
              have c16b0 : (t323 == 0) = true := beq_iff_eq.mpr c16
              have ce_c16 : (decide ((wrap64 ((wrap64 (Int.tmod a0 24)) + 1)) ≤ 16)) = true := (by have z_ := c15b0; rw [c16b0] at z_; exact (beq_iff_eq.mp z_).symm); clear c15b0; try clear c15b1; try clear c15b2
              have c16b1 : (t323 != 0) = false := bne_eq_false_iff_eq.mpr c16
              clear c16
              obtain rfl := Option.some.inj H
              have hcz17_0 : wr.cell? ⟨gb319, 0, none⟩ = some (.string x320000_1) := (blk_cell BK319.out 0).trans rfl
              have hcz17_1 : wr.cell? ⟨gb319, 1, none⟩ = some (.slice none 0 0) := (blk_cell BK319.out 1).trans rfl
              have hcz17_2 : wr.cell? ⟨gb319, 2, none⟩ = some (u320002) := (blk_cell BK319.out 2).trans rfl
              have hfz17_0 := blk_frozen BK319.out 0
              have hfz17_1 := blk_frozen BK319.out 1
              have hfz17_2 := blk_frozen BK319.out 2
              obtain ⟨Ao18, co18, eo18⟩ := Kd.N_slice HO_320002.out
              subst eo18
              go_wp2_with (first | ((with_reducible refine gate_callee (f := 27) rfl ?_); refine goesL_ (some 20) rfl rfl Try.func27 (by kernel_rfl) rfl #[.agg #[.int .u32 0, .slice none 0 0, .string (⟨#[]⟩ : ByteArray), .slice none 0 0, .slice Ao18 x320002_1.length co18]] rfl (by (try simp only [List.map_toArray, List.map_cons, List.map_nil]); first | done | rfl | (simp only [List.length_drop, List.length_take]; rfl)) ?_; (refine (tree_Check.calls k1 0 _ _ ([] : List (S94)) (⟨#[]⟩ : ByteArray) _ _ ([] : List (S77)) _ _ x320002_1 t323 _ ?side1 ?side2 ?side3 ?side4 ?side5 ?side6 A14.out).mono ?_); (case side1 => exact Kd.C_nil _ _); (case side2 => exact Nat.le_refl _); (case side3 => exact Kd.C_nil _ _); (case side4 => exact Nat.le_refl _); (case side5 => refine (Kd.N_reads' (e := 30) (base := w.heap.size) (ok := fun k_ => k_ ≠ gb319) (n := x320002_1.length) (c := co18) ?_).2.2; exact (by (with_reducible repeat (first | apply Kd.N_alloc | apply Kd.N_drewN | apply Kd.N_drew)); exact (Kd.N_mono (Kd.N_far (p := ⟨gb319, 0, none⟩) (Kd.N_mono HO_320002.out (fun k_ hk => (⟨hk, hk⟩ : _ ∧ k_ ≠ gb319))) (fun _ hk => hk.2) (.string (⟨#[]⟩ : ByteArray))) (fun _ h_ => h_.1)))); (case side6 => exact (Kd.N_reads' HO_320002.out).2.1); rintro e w19 ⟨rfl, hb⟩; refine ⟨_, rfl, ?_⟩; have n0_ := Aside0.mk (Kd.N_below (by (with_reducible repeat (first | apply Kd.N_alloc | apply Kd.N_drewN | apply Kd.N_drew)); exact (Kd.N_mono (Kd.N_far (p := ⟨gb319, 0, none⟩) (Kd.N_mono HO_320002.out (fun k_ hk => (⟨hk, hk⟩ : _ ∧ k_ ≠ gb319))) (fun _ hk => hk.2) (.string (⟨#[]⟩ : ByteArray))) (fun _ h_ => h_.1))) hb); have n1_ := Aside0.mk (blk_below (g := gb319) (o := .cells #[.string (⟨#[]⟩ : ByteArray), .slice none 0 0, .slice Ao18 x320002_1.length co18] 30 (0, 0)) (by (with_reducible repeat (first | refine blk_drewN ?_ _ | refine blk_drew ?_ | refine blk_alloc ?_ _)); refine blk_put (cs := #[.string x320000_1, .slice none 0 0, .slice Ao18 x320002_1.length co18]) ?_ 0 _ rfl; (with_reducible repeat (first | refine blk_drewN ?_ _ | refine blk_drew ?_ | refine blk_alloc ?_ _)); exact BK319.out) hb); have n2_ := Aside0.mk (below_step (by repeat (first | (with_reducible first | exact HB.out | apply below_alloc | apply pw_below_drewN | apply below_drew1 | refine below_set ?_ GE319.out) | exact HB.out)) hb); clear HO_320002; clear BK319; clear HB; have HO_320002 := n0_; have BK319 := n1_; have HB := n2_; clear n0_ n1_ n2_; (try clear hb); (try clear hb2); (try clear hk); (try clear hi)))
              go_ret
              exact ⟨by first | rfl | (simp [errW_none, errW_some] <;> rfl) | (simp [*, errW_none, errW_some] <;> rfl), by repeat (first | (with_reducible first | exact HB.out | apply below_alloc | apply pw_below_drewN | apply below_drew1 | refine below_set ?_ GE319.out) | exact HB.out)⟩
            · rw [if_neg c16] at H
              have c16b0 : (t323 == 0) = false := beq_eq_false_iff_ne.mpr c16
              have ce_c16 : (decide ((wrap64 ((wrap64 (Int.tmod a0 24)) + 1)) ≤ 16)) = false := (by have z_ := c15b0; rw [c16b0] at z_; exact (beq_iff_eq.mp z_).symm); clear c15b0; try clear c15b1; try clear c15b2
              have c16b1 : (t323 != 0) = true := bne_iff_ne.mpr c16
              obtain rfl := Option.some.inj H
              have hcz20_0 : wr.cell? ⟨gb319, 0, none⟩ = some (.string x320000_1) := (blk_cell BK319.out 0).trans rfl
              have hcz20_1 : wr.cell? ⟨gb319, 1, none⟩ = some (.slice none 0 0) := (blk_cell BK319.out 1).trans rfl
              have hcz20_2 : wr.cell? ⟨gb319, 2, none⟩ = some (u320002) := (blk_cell BK319.out 2).trans rfl
              have hfz20_0 := blk_frozen BK319.out 0
              have hfz20_1 := blk_frozen BK319.out 1
              have hfz20_2 := blk_frozen BK319.out 2
              obtain ⟨Ao21, co21, eo21⟩ := Kd.N_slice HO_320002.out
              subst eo21
              go_wp2_with (first | ((with_reducible refine gate_callee (f := 27) rfl ?_); refine goesL_ (some 20) rfl rfl Try.func27 (by kernel_rfl) rfl #[.agg #[.int .u32 0, .slice none 0 0, .string (⟨#[]⟩ : ByteArray), .slice none 0 0, .slice Ao21 x320002_1.length co21]] rfl (by (try simp only [List.map_toArray, List.map_cons, List.map_nil]); first | done | rfl | (simp only [List.length_drop, List.length_take]; rfl)) ?_; (refine (tree_Check.calls k1 0 _ _ ([] : List (S94)) (⟨#[]⟩ : ByteArray) _ _ ([] : List (S77)) _ _ x320002_1 t323 _ ?side1 ?side2 ?side3 ?side4 ?side5 ?side6 A14.out).mono ?_); (case side1 => exact Kd.C_nil _ _); (case side2 => exact Nat.le_refl _); (case side3 => exact Kd.C_nil _ _); (case side4 => exact Nat.le_refl _); (case side5 => refine (Kd.N_reads' (e := 30) (base := w.heap.size) (ok := fun k_ => k_ ≠ gb319) (n := x320002_1.length) (c := co21) ?_).2.2; exact (by (with_reducible repeat (first | apply Kd.N_alloc | apply Kd.N_drewN | apply Kd.N_drew)); exact (Kd.N_mono (Kd.N_far (p := ⟨gb319, 0, none⟩) (Kd.N_mono HO_320002.out (fun k_ hk => (⟨hk, hk⟩ : _ ∧ k_ ≠ gb319))) (fun _ hk => hk.2) (.string (⟨#[]⟩ : ByteArray))) (fun _ h_ => h_.1)))); (case side6 => exact (Kd.N_reads' HO_320002.out).2.1); rintro e w22 ⟨rfl, hb⟩; refine ⟨_, rfl, ?_⟩; have n0_ := Aside0.mk (Kd.N_below (by (with_reducible repeat (first | apply Kd.N_alloc | apply Kd.N_drewN | apply Kd.N_drew)); exact (Kd.N_mono (Kd.N_far (p := ⟨gb319, 0, none⟩) (Kd.N_mono HO_320002.out (fun k_ hk => (⟨hk, hk⟩ : _ ∧ k_ ≠ gb319))) (fun _ hk => hk.2) (.string (⟨#[]⟩ : ByteArray))) (fun _ h_ => h_.1))) hb); have n1_ := Aside0.mk (blk_below (g := gb319) (o := .cells #[.string (⟨#[]⟩ : ByteArray), .slice none 0 0, .slice Ao21 x320002_1.length co21] 30 (0, 0)) (by (with_reducible repeat (first | refine blk_drewN ?_ _ | refine blk_drew ?_ | refine blk_alloc ?_ _)); refine blk_put (cs := #[.string x320000_1, .slice none 0 0, .slice Ao21 x320002_1.length co21]) ?_ 0 _ rfl; (with_reducible repeat (first | refine blk_drewN ?_ _ | refine blk_drew ?_ | refine blk_alloc ?_ _)); exact BK319.out) hb); have n2_ := Aside0.mk (below_step (by repeat (first | (with_reducible first | exact HB.out | apply below_alloc | apply pw_below_drewN | apply below_drew1 | refine below_set ?_ GE319.out) | exact HB.out)) hb); clear HO_320002; clear BK319; clear HB; have HO_320002 := n0_; have BK319 := n1_; have HB := n2_; clear n0_ n1_ n2_; (try clear hb); (try clear hb2); (try clear hk); (try clear hi)))
              go_ret
              exact ⟨by first | rfl | (simp [errW_none, errW_some] <;> rfl) | (simp [*, errW_none, errW_some] <;> rfl), by repeat (first | (with_reducible first | exact HB.out | apply below_alloc | apply pw_below_drewN | apply below_drew1 | refine below_set ?_ GE319.out) | exact HB.out)⟩
          · rw [if_neg c15] at H
            have c15b0 : ((t323 == 0) == (decide ((wrap64 ((wrap64 (Int.tmod a0 24)) + 1)) ≤ 16))) = false := by simpa using c15
            (try (have c15b1 : decide ((t323 == 0) = (decide ((wrap64 ((wrap64 (Int.tmod a0 24)) + 1)) ≤ 16))) = false := by simpa using c15))
            (try (have c15b2 : ((t323 == 0) == (decide ((wrap64 ((wrap64 (Int.tmod a0 24)) + 1)) ≤ 16))) = false := by simpa using c15))
            (try (have c15b3 : ¬ ((t323 == 0) = (decide ((wrap64 ((wrap64 (Int.tmod a0 24)) + 1)) ≤ 16))) := by simpa using c15))
            clear c15
            obtain rfl := Option.some.inj H
            have hcz23_0 : wr.cell? ⟨gb319, 0, none⟩ = some (.string x320000_1) := (blk_cell BK319.out 0).trans rfl
            have hcz23_1 : wr.cell? ⟨gb319, 1, none⟩ = some (.slice none 0 0) := (blk_cell BK319.out 1).trans rfl
            have hcz23_2 : wr.cell? ⟨gb319, 2, none⟩ = some (u320002) := (blk_cell BK319.out 2).trans rfl
            have hfz23_0 := blk_frozen BK319.out 0
            have hfz23_1 := blk_frozen BK319.out 1
            have hfz23_2 := blk_frozen BK319.out 2
            obtain ⟨Ao24, co24, eo24⟩ := Kd.N_slice HO_320002.out
            subst eo24
            go_wp2_with (first | ((with_reducible refine gate_callee (f := 27) rfl ?_); refine goesL_ (some 20) rfl rfl Try.func27 (by kernel_rfl) rfl #[.agg #[.int .u32 0, .slice none 0 0, .string (⟨#[]⟩ : ByteArray), .slice none 0 0, .slice Ao24 x320002_1.length co24]] rfl (by (try simp only [List.map_toArray, List.map_cons, List.map_nil]); first | done | rfl | (simp only [List.length_drop, List.length_take]; rfl)) ?_; (refine (tree_Check.calls k1 0 _ _ ([] : List (S94)) (⟨#[]⟩ : ByteArray) _ _ ([] : List (S77)) _ _ x320002_1 t323 _ ?side1 ?side2 ?side3 ?side4 ?side5 ?side6 A14.out).mono ?_); (case side1 => exact Kd.C_nil _ _); (case side2 => exact Nat.le_refl _); (case side3 => exact Kd.C_nil _ _); (case side4 => exact Nat.le_refl _); (case side5 => refine (Kd.N_reads' (e := 30) (base := w.heap.size) (ok := fun k_ => k_ ≠ gb319) (n := x320002_1.length) (c := co24) ?_).2.2; exact (by (with_reducible repeat (first | apply Kd.N_alloc | apply Kd.N_drewN | apply Kd.N_drew)); exact (Kd.N_mono (Kd.N_far (p := ⟨gb319, 0, none⟩) (Kd.N_mono HO_320002.out (fun k_ hk => (⟨hk, hk⟩ : _ ∧ k_ ≠ gb319))) (fun _ hk => hk.2) (.string (⟨#[]⟩ : ByteArray))) (fun _ h_ => h_.1)))); (case side6 => exact (Kd.N_reads' HO_320002.out).2.1); rintro e w25 ⟨rfl, hb⟩; refine ⟨_, rfl, ?_⟩; have n0_ := Aside0.mk (Kd.N_below (by (with_reducible repeat (first | apply Kd.N_alloc | apply Kd.N_drewN | apply Kd.N_drew)); exact (Kd.N_mono (Kd.N_far (p := ⟨gb319, 0, none⟩) (Kd.N_mono HO_320002.out (fun k_ hk => (⟨hk, hk⟩ : _ ∧ k_ ≠ gb319))) (fun _ hk => hk.2) (.string (⟨#[]⟩ : ByteArray))) (fun _ h_ => h_.1))) hb); have n1_ := Aside0.mk (blk_below (g := gb319) (o := .cells #[.string (⟨#[]⟩ : ByteArray), .slice none 0 0, .slice Ao24 x320002_1.length co24] 30 (0, 0)) (by (with_reducible repeat (first | refine blk_drewN ?_ _ | refine blk_drew ?_ | refine blk_alloc ?_ _)); refine blk_put (cs := #[.string x320000_1, .slice none 0 0, .slice Ao24 x320002_1.length co24]) ?_ 0 _ rfl; (with_reducible repeat (first | refine blk_drewN ?_ _ | refine blk_drew ?_ | refine blk_alloc ?_ _)); exact BK319.out) hb); have n2_ := Aside0.mk (below_step (by repeat (first | (with_reducible first | exact HB.out | apply below_alloc | apply pw_below_drewN | apply below_drew1 | refine below_set ?_ GE319.out) | exact HB.out)) hb); clear HO_320002; clear BK319; clear HB; have HO_320002 := n0_; have BK319 := n1_; have HB := n2_; clear n0_ n1_ n2_; (try clear hb); (try clear hb2); (try clear hk); (try clear hi)))
            go_ret
            exact ⟨by first | rfl | (simp [errW_none, errW_some] <;> rfl) | (simp [*, errW_none, errW_some] <;> rfl), by repeat (first | (with_reducible first | exact HB.out | apply below_alloc | apply pw_below_drewN | apply below_drew1 | refine below_set ?_ GE319.out) | exact HB.out)⟩
  · replace c3 := Bool.eq_false_iff.mpr c3
    subst c3
    have H1 : (some false) = some r := by rw [if_neg (show ¬ (false = true) by decide)] at H; exact H
    clear H
    have H := H1
    clear H1
    obtain rfl := Option.some.inj H
    go_enter Try.func9, Try.ntmps9
    go_wp2_with (first | ((with_reducible refine gate_callee (f := 26) rfl ?_); refine goesL_ (some 5) rfl rfl Try.func26 (by kernel_rfl) rfl #[] rfl (by (try simp only [List.map_toArray, List.map_cons, List.map_nil]); first | done | rfl | (simp only [List.length_drop, List.length_take]; rfl)) ?_; (with_reducible refine (arboretlaw03_awake.calls  false _ A2.out).mono ?_); rintro e w26 ⟨rfl, hb⟩; refine ⟨_, rfl, ?_⟩; have n0_ := Aside0.mk (below_step (by repeat (first | (with_reducible first | exact HB.out | apply below_alloc | apply pw_below_drewN | apply below_drew1) | exact HB.out)) hb); clear HB; have HB := n0_; clear n0_; (try clear hb); (try clear hb2); (try clear hk); (try clear hi)))
    go_ret
    exact ⟨by first | rfl | (simp [errW_none, errW_some] <;> rfl) | (simp [*, errW_none, errW_some] <;> rfl), by repeat (first | (with_reducible first | exact HB.out | apply below_alloc | apply pw_below_drewN | apply below_drew1) | exact HB.out)⟩
end Go.Proofs.Yteejaaeglfpcmab.PC

set_option linter.unusedVariables false
namespace Go.Proofs.Yteejaaeglfpcmab.Rdr
open Go.RowKit Go.Proofs.YteejaaeglfpcmabW.PrintWords Go.ChangeShapes Go.WideShapes
section
variable {P : Program} {W : World} {n : Nat}
def wfI (k : IntKind) (x : Int) : Prop := (Lit.int k x).wf = true
end
theorem bound {H : Type} {l : List (DataW H)} (hk : Rows.uptoSmall H l = true) : Rows.uptoBulkAll l ≤ 1048576 := of_decide_eq_true hk
end Go.Proofs.Yteejaaeglfpcmab.Rdr

namespace Go.Proofs.Yteejaaeglfpcmab.PC
end Go.Proofs.Yteejaaeglfpcmab.PC

namespace Go.Proofs.Yteejaaeglfpcmab.PC
open Go.RowKit Go.Proofs.Yteejaaeglfpcmab.Rdr Go.Proofs.YteejaaeglfpcmabW.PrintWords Go.Proofs.YteejaaeglfpcmabW.PrintLast Go.Proofs.YteejaaeglfpcmabW.PrintMore
def arboretlaw03_TreeDeep.Pure : Prop := ∀ (x0 : Int), (fun _ => 1) x0 ≤ 1048576 → (wfI .u8) x0 → ∃ k, arboretlaw03_TreeDeep.f k x0 = some true
end Go.Proofs.Yteejaaeglfpcmab.PC

set_option linter.unusedVariables false
set_option linter.unusedSimpArgs false
namespace Go.Proofs.Yteejaaeglfpcmab.Aid
open Go.RowKit Go.Proofs.YteejaaeglfpcmabW.PrintWords
section
variable {α β : Type} {r : α}
theorem Ev.pos {c : Prop} [Decidable c] {A B : Nat → Option α} (h : c) (hA : Ev A r) : Ev (fun k => if c then A k else B k) r := by
  simp only [if_pos h]
  exact hA
theorem Ev.neg {c : Prop} [Decidable c] {A B : Nat → Option α} (h : ¬ c) (hB : Ev B r) : Ev (fun k => if c then A k else B k) r := by
  simp only [if_neg h]
  exact hB
theorem Ev.succ {g : Nat → Option α} (h : Ev (fun k => g (k + 1)) r) : Ev g r := Ev.step (fun _ => rfl) h
theorem Ev.some (r : α) : Ev (fun _ => some r) r := ⟨0, fun _ _ => rfl⟩
theorem Ev.fix {g : Option α} (h : g = Option.some r) : Ev (fun _ => g) r := ⟨0, fun _ _ => h⟩
theorem Ev.then {g : Nat → Option α} {f : Nat → α → Option β} {a : α} {b : β} (h : Ev g a) (k : Ev (fun n => f n a) b) : Ev (fun n => (g n).bind (f n)) b := Ev.bind h k
theorem Ev.out {g : Nat → Option α} (h : Ev g r) : ∃ k, g k = Option.some r := Ev.rounds h
end
theorem w64 {x : Int} (h0 : -9223372036854775808 ≤ x) (h1 : x ≤ 9223372036854775807) : wrap64 x = x := by unfold wrap64; omega
theorem wf_u8 {x : Int} : (Lit.int .u8 x).wf = true ↔ 0 ≤ x ∧ x ≤ 255 := by simp [Lit.wf, IntKind.min, IntKind.max, IntKind.signed, IntKind.bits]
theorem getD_at {α : Type} {l : List α} {d : α} {i : Nat} (h : i < l.length) : l.getD i d = l[i] := by simp [List.getD_eq_getElem?_getD, List.getElem?_eq_getElem h]
theorem drop_at {α : Type} {l : List α} {d : α} {i : Nat} (h : i < l.length) : l.drop i = l.getD i d :: l.drop (i + 1) := by rw [getD_at h]; exact List.drop_eq_getElem_cons h
theorem loop {α β : Type} (l : List α) (F : List α → β) (g : Nat → Int → Option β)
    (hend : Ev (fun k => g k (l.length : Int)) (F []))
    (hstep : ∀ i : Nat, (h : i < l.length) → Ev (fun k => g k ((i + 1 : Nat) : Int)) (F (l.drop (i + 1))) → Ev (fun k => g k (i : Int)) (F (l[i] :: l.drop (i + 1)))) :
    ∀ i : Nat, i ≤ l.length → Ev (fun k => g k (i : Int)) (F (l.drop i)) := by
  have key : ∀ (d i : Nat), i + d = l.length → Ev (fun k => g k (i : Int)) (F (l.drop i)) := by
    intro d
    induction d with
    | zero =>
      intro i hi
      have : i = l.length := by omega
      subst this
      rw [List.drop_length]
      exact hend
    | succ d ih =>
      intro i hi
      have h : i < l.length := by omega
      rw [List.drop_eq_getElem_cons h]
      exact hstep i h (ih (i + 1) (by omega))
  intro i hi
  exact key (l.length - i) i (by omega)
end Go.Proofs.Yteejaaeglfpcmab.Aid

namespace Go.Proofs.Yteejaaeglfpcmab.PC
open Go.RowKit Go.Proofs.YteejaaeglfpcmabW.PrintWords Go.Proofs.YteejaaeglfpcmabW.PrintLast Go.Proofs.YteejaaeglfpcmabW.PrintMore
attribute [local go_sem] max2_int min2_int max_two min_two max_three min_three max_four min_four   -- for this text's walks alone
set_option linter.unusedVariables false
set_option linter.unusedSimpArgs false
mutual
def arboretlaw03_size.l0 : Nat → Int → Int → Int → Int → ByteArray → List (S77) → List (S30) → Option (Int)
  | 0, _, _, _, _, _, _, _ => none
  | k + 1, x1, x5, x14, x15, x108000, x108001, x108002 => if x15 < x14 then (if 0 ≤ x15 then (if x15 < (x108001.length : Int) then (arboretlaw03_size.l0 k x1 (wrap64 ((wrap64 ((wrap64 (x5 + 1)) + (((rd_T77 x108001 x15).f0).size : Int))) + (((rd_T77 x108001 x15).f1).length : Int))) x14 (wrap64 (x15 + 1)) x108000 x108001 x108002) else (none)) else (none)) else (arboretlaw03_size.l1 k x1 x5 (x108002.length : Int) 0 x108000 x108001 x108002)
def arboretlaw03_size.l1 : Nat → Int → Int → Int → Int → ByteArray → List (S77) → List (S30) → Option (Int)
  | 0, _, _, _, _, _, _, _ => none
  | k + 1, x1, x5, x39, x40, x108000, x108001, x108002 => if x40 < x39 then (if x1 > 20 then (some 1048576) else (if x5 > 100000 then (some 1048576) else (if 0 ≤ x40 then (if x40 < (x108002.length : Int) then ((arboretlaw03_size.f k ((rd_T30 x108002 x40).f0) ((rd_T30 x108002 x40).f1) ((rd_T30 x108002 x40).f2) (wrap64 (x1 + 1))).bind fun t111 => (arboretlaw03_size.l1 k x1 (wrap64 (x5 + t111)) x39 (wrap64 (x40 + 1)) x108000 x108001 x108002)) else (none)) else (none)))) else (some x5)
def arboretlaw03_size.f : Nat → ByteArray → List (S77) → List (S30) → Int → Option (Int)
  | 0, _, _, _, _ => none
  | k + 1, a0_0, l0_1, l0_2, a1 => arboretlaw03_size.l0 k a1 (wrap64 (1 + (a0_0.size : Int))) (l0_1.length : Int) 0 a0_0 l0_1 l0_2
end
end Go.Proofs.Yteejaaeglfpcmab.PC

namespace Go.Proofs.Yteejaaeglfpcmab.PC
open Go.RowKit Go.Proofs.YteejaaeglfpcmabW.PrintWords Go.Proofs.YteejaaeglfpcmabW.PrintLast Go.Proofs.YteejaaeglfpcmabW.PrintMore
attribute [local go_sem] max2_int min2_int max_two min_two max_three min_three max_four min_four   -- for this text's walks alone
set_option linter.unusedVariables false
set_option linter.unusedSimpArgs false
def arboretlaw03_Few.f (k : Nat) (a0_0 : Int) (l0_1 : List (S94)) (a0_2 : ByteArray) (l0_3 : List (S77)) (l0_4 : List (S30)) : Option (Bool) := (arboretlaw03_size.f k a0_2 l0_3 l0_4 0).bind fun t113 => (if t113 ≤ 100000 then (some (decide ((l0_1.length : Int) ≤ 200))) else (some false))
end Go.Proofs.Yteejaaeglfpcmab.PC

set_option linter.unusedVariables false
set_option linter.unusedSimpArgs false
namespace Go.Proofs.Yteejaaeglfpcmab.PC
open Go.RowKit Go.Proofs.Yteejaaeglfpcmab.Rdr Go.Proofs.Yteejaaeglfpcmab.Aid Go.Proofs.YteejaaeglfpcmabW.PrintWords
theorem rdN (xs : List S30) (i : Nat) : rd_T30 xs (i : Int) = xs.getD i z30 := by simp [rd_T30]
theorem rdP (xs : List S77) (i : Nat) : rd_T77 xs (i : Int) = xs.getD i z77 := by simp [rd_T77]
theorem step64 {i n : Nat} (h : i < n) (hn : n ≤ 1048576) : wrap64 ((i : Int) + 1) = ((i + 1 : Nat) : Int) := by unfold wrap64; omega
end Go.Proofs.Yteejaaeglfpcmab.PC

namespace Go.Proofs.Yteejaaeglfpcmab.PC
open Go.RowKit Go.Proofs.YteejaaeglfpcmabW.PrintWords Go.Proofs.YteejaaeglfpcmabW.PrintLast Go.Proofs.YteejaaeglfpcmabW.PrintMore
attribute [local go_sem] max2_int min2_int max_two min_two max_three min_three max_four min_four   -- for this text's walks alone
set_option linter.unusedVariables false
set_option linter.unusedSimpArgs false
def arboretref01_Cut.l0 : Nat → ByteArray → Int → Int → Option (Int)
  | 0, _, _, _ => none
  | k + 1, x0, x5, x6 => if x6 < x5 then (if 0 ≤ x6 then (if x6 < (x0.size : Int) then (if (bt x0 x6) = 64 then (some x6) else (arboretref01_Cut.l0 k x0 x5 (wrap64 (x6 + 1)))) else (none)) else (none)) else (some (-1))
def arboretref01_Cut.f (k : Nat) (a0 : ByteArray) : Option (Int) := arboretref01_Cut.l0 k a0 (a0.size : Int) 0
end Go.Proofs.Yteejaaeglfpcmab.PC

namespace Go.Proofs.Yteejaaeglfpcmab.PC
open Go.RowKit Go.Proofs.YteejaaeglfpcmabW.PrintWords Go.Proofs.YteejaaeglfpcmabW.PrintLast Go.Proofs.YteejaaeglfpcmabW.PrintMore
attribute [local go_sem] max2_int min2_int max_two min_two max_three min_three max_four min_four   -- for this text's walks alone
set_option linter.unusedVariables false
set_option linter.unusedSimpArgs false
def arboretref01_stands.f (a0 : Int) : Option (Bool) := if a0 ≥ 48 then (if a0 ≤ 57 then (some true) else (if a0 ≥ 97 then (if a0 ≤ 122 then (some true) else (if a0 ≥ 65 then (if a0 ≤ 90 then (some true) else (if a0 = 44 then (some true) else (if a0 = 46 then (some true) else (if a0 = 95 then (some true) else (if a0 = 43 then (some true) else (some (a0 == 45))))))) else (if a0 = 44 then (some true) else (if a0 = 46 then (some true) else (if a0 = 95 then (some true) else (if a0 = 43 then (some true) else (some (a0 == 45)))))))) else (if a0 ≥ 65 then (if a0 ≤ 90 then (some true) else (if a0 = 44 then (some true) else (if a0 = 46 then (some true) else (if a0 = 95 then (some true) else (if a0 = 43 then (some true) else (some (a0 == 45))))))) else (if a0 = 44 then (some true) else (if a0 = 46 then (some true) else (if a0 = 95 then (some true) else (if a0 = 43 then (some true) else (some (a0 == 45))))))))) else (if a0 ≥ 97 then (if a0 ≤ 122 then (some true) else (if a0 ≥ 65 then (if a0 ≤ 90 then (some true) else (if a0 = 44 then (some true) else (if a0 = 46 then (some true) else (if a0 = 95 then (some true) else (if a0 = 43 then (some true) else (some (a0 == 45))))))) else (if a0 = 44 then (some true) else (if a0 = 46 then (some true) else (if a0 = 95 then (some true) else (if a0 = 43 then (some true) else (some (a0 == 45)))))))) else (if a0 ≥ 65 then (if a0 ≤ 90 then (some true) else (if a0 = 44 then (some true) else (if a0 = 46 then (some true) else (if a0 = 95 then (some true) else (if a0 = 43 then (some true) else (some (a0 == 45))))))) else (if a0 = 44 then (some true) else (if a0 = 46 then (some true) else (if a0 = 95 then (some true) else (if a0 = 43 then (some true) else (some (a0 == 45))))))))
end Go.Proofs.Yteejaaeglfpcmab.PC

set_option linter.unusedVariables false
set_option linter.unusedSimpArgs false
namespace Go.Proofs.Yteejaaeglfpcmab.PC
open Go.RowKit Go.Proofs.Yteejaaeglfpcmab.Aid Go.Proofs.YteejaaeglfpcmabW.PrintWords
def letterB (c : Int) : Bool := (decide (97 ≤ c) && decide (c ≤ 122)) || (decide (65 ≤ c) && decide (c ≤ 90))
def plainB (c : Int) : Bool := letterB c || (decide (48 ≤ c) && decide (c ≤ 57)) || c == 44 || c == 46 || c == 95 || c == 43 || c == 45
def okB (more : ByteArray) (c : Int) : Bool := plainB c || decide (0 ≤ Lib.indexByte more.data.toList c.toNat.toUInt8)
theorem byte_all {p : Int → Prop} (h : ∀ n : Fin 256, p (n.val : Int)) {c : Int} (h0 : 0 ≤ c) (h1 : c ≤ 255) : p c := by
  have := h ⟨c.toNat, by omega⟩
  simp only at this
  rwa [Int.toNat_of_nonneg h0] at this
theorem plain_f {c : Int} (h0 : 0 ≤ c) (h1 : c ≤ 255) : name_plain.f c = some (plainB c) := byte_all (p := fun c => name_plain.f c = some (plainB c)) (by decide +kernel) h0 h1
theorem letter_f {c : Int} (h0 : 0 ≤ c) (h1 : c ≤ 255) : name_letter.f c = some (letterB c) := byte_all (p := fun c => name_letter.f c = some (letterB c)) (by decide +kernel) h0 h1
theorem ok_none {c : Int} (h0 : 0 ≤ c) (h1 : c ≤ 255) : okB ⟨#[]⟩ c = plainB c := byte_all (p := fun c => okB ⟨#[]⟩ c = plainB c) (by decide +kernel) h0 h1
theorem bytesOf_range (s : ByteArray) : ∀ b ∈ bytesOf s, 0 ≤ b ∧ b ≤ 255 := by
  intro b hb
  simp only [bytesOf, List.mem_map] at hb
  obtain ⟨u, _, rfl⟩ := hb
  have := u.toNat_lt
  omega
theorem bytesOf_at (s : ByteArray) (i : Nat) (h : i < (bytesOf s).length) : bt s (i : Int) = (bytesOf s)[i] := by
  rw [← rd_bytesOf]
  simp [rd, List.getD_eq_getElem?_getD, List.getElem?_eq_getElem h]
def allB (more : ByteArray) (l : List Int) : Bool := l.all (okB more) && (decide (1 ≤ l.length) && decide (l.length ≤ 31))
theorem all_ev (s more : ByteArray) (hs : s.size ≤ 140737488351232) : Ev (fun k => name_all.f k s more) (allB more (bytesOf s)) := by
  have hn : (bytesOf s).length = s.size := bytesOf_length s
  have main := loop (bytesOf s) (fun l => l.all (okB more) && (decide (1 ≤ s.size) && decide (s.size ≤ 31))) (fun k i => name_all.l0 k s more (s.size : Int) i) ?_ ?_ 0 (Nat.zero_le _)
  · have e : allB more (bytesOf s) = (((bytesOf s).drop 0).all (okB more) && (decide (1 ≤ s.size) && decide (s.size ≤ 31))) := by
      unfold allB
      rw [List.drop_zero, hn]
    rw [e]
    exact main
  · rw [hn]
    refine Ev.succ ⟨0, fun k _ => ?_⟩
    simp only [name_all.l0]
    rw [if_neg (by omega)]
    by_cases h : (s.size : Int) ≥ 1
    · rw [if_pos h]
      have h1 : 1 ≤ s.size := by omega
      simp [h1, Int.ofNat_le]
      omega
    · rw [if_neg h]
      have h1 : ¬ 1 ≤ s.size := by omega
      simp [h1]
  · intro i h ih
    obtain ⟨b0, b1⟩ := bytesOf_range s _ (List.getElem_mem h)
    refine Ev.succ ?_
    have hw : wrap64 ((i : Int) + 1) = ((i + 1 : Nat) : Int) := by rw [w64 (by omega) (by omega)]; omega
    simp only [name_all.l0, bytesOf_at s i h, plain_f b0 b1, hw, Option.bind_some, List.all_cons]
    refine Ev.pos (by omega) (Ev.pos (Int.natCast_nonneg i) (Ev.pos (by omega) ?_))
    cases hp : plainB (bytesOf s)[i] with
    | true =>
      have ho : okB more (bytesOf s)[i] = true := by unfold okB; rw [hp]; rfl
      rw [ho, Bool.true_and]
      exact Ev.pos rfl ih
    | false =>
      refine Ev.neg (by decide) ?_
      simp only [strings_IndexByte.f, Option.bind_some]
      by_cases hx : Lib.indexByte more.data.toList (bytesOf s)[i].toNat.toUInt8 < 0
      · have ho : okB more (bytesOf s)[i] = false := by unfold okB; rw [hp, decide_eq_false (by omega)]; rfl
        rw [ho]
        exact Ev.pos hx (Ev.some _)
      · have ho : okB more (bytesOf s)[i] = true := by unfold okB; rw [hp, decide_eq_true (by omega)]; rfl
        rw [ho, Bool.true_and]
        exact Ev.neg hx ih
def idx (c : Int) : List Int → Int
  | [] => -1
  | a :: l => if a = c then 0 else if idx c l = -1 then -1 else idx c l + 1
theorem idx_lib (c : UInt8) : ∀ l : List UInt8, Lib.indexByte l c = idx (c.toNat : Int) (l.map fun b => (b.toNat : Int))
  | [] => rfl
  | a :: l => by
    have ih := idx_lib c l
    simp only [Lib.indexByte, idx, List.map_cons, ih]
    by_cases h : a = c
    · simp [h]
    · have h2 : ¬ ((a.toNat : Int) = (c.toNat : Int)) := by
        intro e
        exact h (UInt8.toNat_inj.mp (by omega))
      simp [h, h2]
theorem idx_range (c : Int) : ∀ l : List Int, idx c l = -1 ∨ (0 ≤ idx c l ∧ idx c l < l.length)
  | [] => .inl rfl
  | a :: l => by
    have ih := idx_range c l
    simp only [idx, List.length_cons]
    by_cases h : a = c
    · rw [if_pos h]; right; omega
    · rw [if_neg h]
      by_cases h1 : idx c l = -1
      · rw [if_pos h1]; left; rfl
      · rw [if_neg h1]; right; omega
theorem index_f (s : ByteArray) (u : UInt8) : stringslite_Index.f s ⟨#[u]⟩ = some (idx (u.toNat : Int) (bytesOf s)) := by
  unfold stringslite_Index.f
  simp only
  rw [idx_lib]
  rfl
def cutB (s : ByteArray) : ByteArray × ByteArray × Bool := if idx 64 (bytesOf s) = -1 then (s, ⟨#[]⟩, false) else (s.extract 0 (idx 64 (bytesOf s)).toNat, s.extract ((idx 64 (bytesOf s)).toNat + 1) s.size, true)
theorem cut_f (s : ByteArray) (hs : s.size ≤ 140737488351232) : strings_Cut.f s ⟨#[64]⟩ = some (cutB s) := by
  have hr := idx_range 64 (bytesOf s)
  rw [bytesOf_length] at hr
  have e : stringslite_Cut.f s ⟨#[64]⟩ = some (cutB s) := by
    unfold stringslite_Cut.f cutB
    rw [index_f]
    have e64 : ((64 : UInt8).toNat : Int) = 64 := rfl
    rw [e64]
    simp only [Option.bind_some]
    obtain ⟨j, hj⟩ : ∃ j, j = idx 64 (bytesOf s) := ⟨_, rfl⟩
    rw [← hj] at hr ⊢
    have h1 : (((⟨#[64]⟩ : ByteArray).size : Nat) : Int) = 1 := rfl
    rw [h1]
    by_cases h : j = -1
    · rw [if_pos h, if_neg (by omega)]
    · have hw : wrap64 (j + 1) = j + 1 := w64 (by omega) (by omega)
      rw [if_neg h, hw, if_pos (by omega), if_pos (by omega), if_pos (by omega), if_pos (by omega), if_pos (by omega)]
      have e1 : (j + 1).toNat = j.toNat + 1 := by omega
      rw [e1]
  unfold strings_Cut.f
  rw [e]
  rfl
end Go.Proofs.Yteejaaeglfpcmab.PC

namespace Go.Proofs.Yteejaaeglfpcmab.PC
open Go.RowKit Go.Proofs.YteejaaeglfpcmabW.PrintWords Go.Proofs.YteejaaeglfpcmabW.PrintLast Go.Proofs.YteejaaeglfpcmabW.PrintMore
attribute [local go_sem] max2_int min2_int max_two min_two max_three min_three max_four min_four   -- for this text's walks alone
set_option linter.unusedVariables false
set_option linter.unusedSimpArgs false
mutual
def arboretref01_Node.j0 : Nat → ByteArray → Int → ByteArray → Option (Bool)
  | 0, _, _, _ => none
  | k + 1, x0, x3, x4 => arboretref01_Node.l0 k x0 x3 x4 (x0.size : Int) 0
def arboretref01_Node.l0 : Nat → ByteArray → Int → ByteArray → Int → Int → Option (Bool)
  | 0, _, _, _, _, _ => none
  | k + 1, x0, x3, x4, x29, x30 => if x30 < x29 then (if x30 = x3 then (arboretref01_Node.l0 k x0 x3 x4 x29 (wrap64 (x30 + 1))) else (if 0 ≤ x30 then (if x30 < (x0.size : Int) then ((arboretref01_stands.f (bt x0 x30)).bind fun t119 => (if t119 = true then (arboretref01_Node.l0 k x0 x3 x4 x29 (wrap64 (x30 + 1))) else (some false))) else (none)) else (none))) else (if (x4.size : Int) ≥ 1 then (if (x4.size : Int) ≤ 31 then (if 0 < (x4.size : Int) then (if (bt x4 0) = 95 then (some true) else (if (bt x4 0) ≥ 97 then (if (bt x4 0) ≤ 122 then (some true) else (if (bt x4 0) ≥ 65 then (some (decide ((bt x4 0) ≤ 90))) else (some false))) else (if (bt x4 0) ≥ 65 then (some (decide ((bt x4 0) ≤ 90))) else (some false)))) else (none)) else (some false)) else (some false))
end
def arboretref01_Node.f (k : Nat) (a0 : ByteArray) : Option (Bool) := (arboretref01_Cut.f k a0).bind fun t118 => (if t118 ≥ 0 then (if 0 ≤ t118 then (if t118 ≤ (a0.size : Int) then (if (wrap64 ((wrap64 ((a0.size : Int) - t118)) - 1)) < 1 then (some false) else (if (wrap64 ((wrap64 ((a0.size : Int) - t118)) - 1)) > 31 then (some false) else (arboretref01_Node.j0 k a0 t118 (a0.extract 0 (t118 : Int).toNat)))) else (none)) else (none)) else (arboretref01_Node.j0 k a0 t118 a0))
end Go.Proofs.Yteejaaeglfpcmab.PC

namespace Go.Proofs.Yteejaaeglfpcmab.PC
open Go.RowKit Go.Proofs.YteejaaeglfpcmabW.PrintWords Go.Proofs.YteejaaeglfpcmabW.PrintLast Go.Proofs.YteejaaeglfpcmabW.PrintMore
attribute [local go_sem] max2_int min2_int max_two min_two max_three min_three max_four min_four   -- for this text's walks alone
set_option linter.unusedVariables false
set_option linter.unusedSimpArgs false
def arboretref01_Prop.l0 : Nat → ByteArray → Int → Int → Option (Bool)
  | 0, _, _, _ => none
  | k + 1, x0, x5, x6 => if x6 < x5 then (if 0 ≤ x6 then (if x6 < (x0.size : Int) then ((arboretref01_stands.f (bt x0 x6)).bind fun t120 => (if t120 = true then (arboretref01_Prop.l0 k x0 x5 (wrap64 (x6 + 1))) else (if (bt x0 x6) = 63 then (arboretref01_Prop.l0 k x0 x5 (wrap64 (x6 + 1))) else (if (bt x0 x6) = 35 then (arboretref01_Prop.l0 k x0 x5 (wrap64 (x6 + 1))) else (some false))))) else (none)) else (none)) else (if (x0.size : Int) ≥ 1 then (some (decide ((x0.size : Int) ≤ 31))) else (some false))
def arboretref01_Prop.f (k : Nat) (a0 : ByteArray) : Option (Bool) := arboretref01_Prop.l0 k a0 (a0.size : Int) 0
end Go.Proofs.Yteejaaeglfpcmab.PC

set_option linter.unusedVariables false
set_option linter.unusedSimpArgs false
namespace Go.Proofs.Yteejaaeglfpcmab.PC
open Go.RowKit Go.Proofs.Yteejaaeglfpcmab.Aid Go.Proofs.YteejaaeglfpcmabW.PrintWords
def firstB (c : Int) : Bool := letterB c || c == 95
def unitB (l : List Int) : Bool := l.all plainB && (decide (1 ≤ l.length) && decide (l.length ≤ 31))
def baseB (l : List Int) : Bool := unitB l && firstB (l.getD 0 0)
def nodeB (s : ByteArray) : Bool := baseB (bytesOf (cutB s).1) && (!(cutB s).2.2 || unitB (bytesOf (cutB s).2.1))
end Go.Proofs.Yteejaaeglfpcmab.PC

set_option linter.unusedVariables false
set_option linter.unusedSimpArgs false
namespace Go.Proofs.Yteejaaeglfpcmab.PC
open Go.RowKit Go.Proofs.Yteejaaeglfpcmab.Aid Go.Proofs.YteejaaeglfpcmabW.PrintWords
theorem all_none (s : ByteArray) : allB ⟨#[]⟩ (bytesOf s) = unitB (bytesOf s) := by
  unfold allB unitB
  congr 1
  rw [Bool.eq_iff_iff, List.all_eq_true, List.all_eq_true]
  constructor
  · intro h x hx
    obtain ⟨h0, h1⟩ := bytesOf_range s x hx
    rw [← ok_none h0 h1]
    exact h x hx
  · intro h x hx
    obtain ⟨h0, h1⟩ := bytesOf_range s x hx
    rw [ok_none h0 h1]
    exact h x hx
theorem cutB_size (s : ByteArray) : (cutB s).1.size ≤ s.size ∧ (cutB s).2.1.size ≤ s.size := by
  unfold cutB
  split
  · exact ⟨Nat.le_refl _, Nat.zero_le _⟩
  · simp only [ByteArray.size_extract]
    omega
theorem node_ev (s : ByteArray) (hs : s.size ≤ 140737488351232) : Ev (fun k => name_Node.f k s) (nodeB s) := by
  have hz := cutB_size s
  unfold name_Node.f
  refine Ev.then (Ev.fix (cut_f s hs)) ?_
  have h1 := all_ev (cutB s).1 ⟨#[]⟩ (by omega)
  have h2 := all_ev (cutB s).2.1 ⟨#[]⟩ (by omega)
  rw [all_none] at h1 h2
  refine Ev.then h1 ?_
  have hl : (bytesOf (cutB s).1).length = (cutB s).1.size := bytesOf_length _
  unfold nodeB baseB
  cases hb : unitB (bytesOf (cutB s).1) with
  | false => exact Ev.neg (by decide) (Ev.some _)
  | true =>
    have hp : 0 < (bytesOf (cutB s).1).length := by
      unfold unitB at hb
      simp only [Bool.and_eq_true, decide_eq_true_eq] at hb
      omega
    refine Ev.pos rfl (Ev.pos (by omega) ?_)
    have e0 : bt (cutB s).1 0 = (bytesOf (cutB s).1).getD 0 0 := by
      rw [getD_at hp]
      exact bytesOf_at (cutB s).1 0 hp
    obtain ⟨b0, b1⟩ := bytesOf_range (cutB s).1 _ (List.getElem_mem hp)
    rw [← getD_at (d := 0) hp] at b0 b1
    rw [e0]
    refine Ev.then (Ev.fix (letter_f b0 b1)) ?_
    unfold firstB
    have tail : Ev (fun k => if (cutB s).2.2 = true then ((name_all.f k (cutB s).2.1 (⟨#[]⟩ : ByteArray)).bind fun t214 => (some t214)) else (some true)) (!(cutB s).2.2 || unitB (bytesOf (cutB s).2.1)) := by
      cases (cutB s).2.2 with
      | false => exact Ev.neg (by decide) (Ev.some _)
      | true => exact Ev.pos rfl (Ev.then h2 (Ev.some _))
    cases hc : letterB ((bytesOf (cutB s).1).getD 0 0) with
    | true =>
      simp only [Bool.true_or, Bool.and_true, Bool.true_and, if_true]
      exact tail
    | false =>
      refine Ev.neg (by decide) ?_
      by_cases h95 : (bytesOf (cutB s).1).getD 0 0 = 95
      · rw [h95]
        exact Ev.pos rfl tail
      · have : ((bytesOf (cutB s).1).getD 0 0 == 95) = false := by simpa using h95
        rw [this]
        exact Ev.neg h95 (Ev.some _)
end Go.Proofs.Yteejaaeglfpcmab.PC
