/- PathBack: texts of this session's, and what the kit's print laid for this seat, as far as the law's row uses them (Shelf, PPx0, PPx_bytes_Clone, PPx_tree_CloneNode, PPx_path_Get, PPx_path_Path, PPx_arboretlaw06_awake, PPx_arboretlaw03_size). -/
import Derived.Shelf.Utf8.RuneCount
import Derived.Shelf.Strings.Search1
import Derived.Shelf.Strings.Search2
import Derived.Shelf.Strings.Search3
import Derived.Shelf.Strings.Cut
import Derived.Shelf.Strings.Count
import Derived.Shelf.LaysM
import Derived.Shelf.Strings.Shaped
import Derived.Shelf.Strings.Prefix
import Derived.Shelf.Strings.Split
import Derived.Shelf.Strings.SplitShaped
import Derived.Shelf.Unicode.Decode
import Derived.Shelf.Strings.RuneCount
import Derived.Shelf.Strings.Explode
import Derived.Shelf.Unicode.DecodeSlow
import Derived.Shelf.Unicode.DecodeAny
import Derived.Ground.Names2Prog
import Derived.Shelf.Slices.Clone
import Derived.Shelf.Bytes.SlIndexAt
import Derived.Ground.SlgnProg
import Derived.Shelf.SlicesE.Clone
import Derived.Shelf.Bytes.IndexByte
import Derived.Test.YtkopmkinlanhoaaDoorProg
import Derived.WalkSpells
import Derived.Test.YtkopmkinlanhoaaDoorZPathBack0
set_option linter.unusedVariables false
set_option linter.unusedSimpArgs false
namespace Go.Proofs
open Go.Shelf
def Tryd.lays219_ren : Go.Shelf.Ren := ⟨fun | 219 => 37 | 217 => 46 | 225 => 47 | 224 => 48 | 267 => 49 | 266 => 54 | 314 => 55 | n => n, fun | 9 => 9 | 3 => 3 | 4 => 4 | 5 => 5 | 46 => 85 | 146 => 88 | 51 => 22 | n => n, fun | 1 => 0 | n => n⟩
theorem Tryd.lays219 : Go.Proofs.Lays.n219 Tryd.prog Tryd.lays219_ren := {
  mixed := by kernel_rfl
  f217 := Tryd.func46.trans (congrArg some (by kernel_rfl))
  f219 := Tryd.func37.trans (congrArg some (by kernel_rfl))
  f224 := Tryd.func48.trans (congrArg some (by kernel_rfl))
  f225 := Tryd.func47.trans (congrArg some (by kernel_rfl))
  f266 := Tryd.func54.trans (congrArg some (by kernel_rfl))
  f267 := Tryd.func49.trans (congrArg some (by kernel_rfl))
  f314 := Tryd.func55.trans (congrArg some (by kernel_rfl))
  t3 := Tryd.underlying3
  a3 := Tryd.isAgg3
  z3 := Tryd.sizeOf3
  v3 := Tryd.zeroValue3
  t4 := Tryd.underlying4
  a4 := Tryd.isAgg4
  z4 := Tryd.sizeOf4
  v4 := Tryd.zeroValue4
  t5 := Tryd.underlying5
  a5 := Tryd.isAgg5
  z5 := Tryd.sizeOf5
  v5 := Tryd.zeroValue5
  t9 := Tryd.underlying9
  a9 := Tryd.isAgg9
  z9 := Tryd.sizeOf9
  v9 := Tryd.zeroValue9
  t46 := Tryd.underlying85
  a46 := Tryd.isAgg85
  z46 := Tryd.sizeOf85
  v46 := Tryd.zeroValue85
  t51 := Tryd.underlying22
  a51 := Tryd.isAgg22
  z51 := Tryd.sizeOf22
  v51 := Tryd.zeroValue22
  t146 := Tryd.underlying88
  a146 := Tryd.isAgg88
  z146 := Tryd.sizeOf88
  v146 := Tryd.zeroValue88
  g1 := by kernel_rfl }
open Go.RowKit Go.Lib in
theorem Tryd.stringslite_Index_one (s : ByteArray) (c : UInt8) (w : World) :
    Calls Tryd.prog 37 #[.string s, .string ⟨#[c]⟩] w fun e w' => e = .returned (.int .i64 (Lib.indexByte s.data.toList c)) ∧ w' = w := Any.stringslite_Index_one Tryd.lays219 s c w
def Tryd.lays143_ren : Go.Shelf.Ren := ⟨fun | 143 => 45 | 219 => 37 | 217 => 46 | 225 => 47 | 224 => 48 | 267 => 49 | 266 => 54 | 314 => 55 | n => n, fun | 9 => 9 | 3 => 3 | 4 => 4 | 5 => 5 | 46 => 85 | 146 => 88 | 51 => 22 | n => n, fun | 1 => 0 | n => n⟩
theorem Tryd.lays143 : Go.Proofs.Lays.n143 Tryd.prog Tryd.lays143_ren := {
  mixed := by kernel_rfl
  f143 := Tryd.func45.trans (congrArg some (by kernel_rfl))
  f217 := Tryd.func46.trans (congrArg some (by kernel_rfl))
  f219 := Tryd.func37.trans (congrArg some (by kernel_rfl))
  f224 := Tryd.func48.trans (congrArg some (by kernel_rfl))
  f225 := Tryd.func47.trans (congrArg some (by kernel_rfl))
  f266 := Tryd.func54.trans (congrArg some (by kernel_rfl))
  f267 := Tryd.func49.trans (congrArg some (by kernel_rfl))
  f314 := Tryd.func55.trans (congrArg some (by kernel_rfl))
  t3 := Tryd.underlying3
  a3 := Tryd.isAgg3
  z3 := Tryd.sizeOf3
  v3 := Tryd.zeroValue3
  t4 := Tryd.underlying4
  a4 := Tryd.isAgg4
  z4 := Tryd.sizeOf4
  v4 := Tryd.zeroValue4
  t5 := Tryd.underlying5
  a5 := Tryd.isAgg5
  z5 := Tryd.sizeOf5
  v5 := Tryd.zeroValue5
  t9 := Tryd.underlying9
  a9 := Tryd.isAgg9
  z9 := Tryd.sizeOf9
  v9 := Tryd.zeroValue9
  t46 := Tryd.underlying85
  a46 := Tryd.isAgg85
  z46 := Tryd.sizeOf85
  v46 := Tryd.zeroValue85
  t51 := Tryd.underlying22
  a51 := Tryd.isAgg22
  z51 := Tryd.sizeOf22
  v51 := Tryd.zeroValue22
  t146 := Tryd.underlying88
  a146 := Tryd.isAgg88
  z146 := Tryd.sizeOf88
  v146 := Tryd.zeroValue88
  g1 := by kernel_rfl }
open Go.RowKit Go.Lib in
theorem Tryd.strings_Index_one (s : ByteArray) (c : UInt8) (w : World) :
    Calls Tryd.prog 45 #[.string s, .string ⟨#[c]⟩] w fun e w' => e = .returned (.int .i64 (Lib.indexByte s.data.toList c)) ∧ w' = w := Any.strings_Index_one Tryd.lays143 s c w
def Tryd.lays138_ren : Go.Shelf.Ren := ⟨fun | 138 => 44 | 195 => 51 | 218 => 53 | 143 => 45 | 219 => 37 | 217 => 46 | 225 => 47 | 224 => 48 | 267 => 49 | 266 => 54 | 314 => 55 | n => n, fun | 9 => 9 | 3 => 3 | 4 => 4 | 5 => 5 | 0 => 0 | 46 => 85 | 146 => 88 | 51 => 22 | n => n, fun | 1 => 0 | n => n⟩
theorem Tryd.lays138 : Go.Proofs.Lays.n138 Tryd.prog Tryd.lays138_ren := {
  mixed := by kernel_rfl
  f138 := Tryd.func44.trans (congrArg some (by kernel_rfl))
  f143 := Tryd.func45.trans (congrArg some (by kernel_rfl))
  f195 := Tryd.func51.trans (congrArg some (by kernel_rfl))
  f217 := Tryd.func46.trans (congrArg some (by kernel_rfl))
  f218 := Tryd.func53.trans (congrArg some (by kernel_rfl))
  f219 := Tryd.func37.trans (congrArg some (by kernel_rfl))
  f224 := Tryd.func48.trans (congrArg some (by kernel_rfl))
  f225 := Tryd.func47.trans (congrArg some (by kernel_rfl))
  f266 := Tryd.func54.trans (congrArg some (by kernel_rfl))
  f267 := Tryd.func49.trans (congrArg some (by kernel_rfl))
  f314 := Tryd.func55.trans (congrArg some (by kernel_rfl))
  t0 := Tryd.underlying0
  a0 := Tryd.isAgg0
  z0 := Tryd.sizeOf0
  v0 := Tryd.zeroValue0
  t3 := Tryd.underlying3
  a3 := Tryd.isAgg3
  z3 := Tryd.sizeOf3
  v3 := Tryd.zeroValue3
  t4 := Tryd.underlying4
  a4 := Tryd.isAgg4
  z4 := Tryd.sizeOf4
  v4 := Tryd.zeroValue4
  t5 := Tryd.underlying5
  a5 := Tryd.isAgg5
  z5 := Tryd.sizeOf5
  v5 := Tryd.zeroValue5
  t9 := Tryd.underlying9
  a9 := Tryd.isAgg9
  z9 := Tryd.sizeOf9
  v9 := Tryd.zeroValue9
  t46 := Tryd.underlying85
  a46 := Tryd.isAgg85
  z46 := Tryd.sizeOf85
  v46 := Tryd.zeroValue85
  t51 := Tryd.underlying22
  a51 := Tryd.isAgg22
  z51 := Tryd.sizeOf22
  v51 := Tryd.zeroValue22
  t146 := Tryd.underlying88
  a146 := Tryd.isAgg88
  z146 := Tryd.sizeOf88
  v146 := Tryd.zeroValue88
  g1 := by kernel_rfl }
open Go.RowKit Go.Lib in
theorem Tryd.strings_Count_one (s : ByteArray) (c : UInt8) (w : World) :
    Calls Tryd.prog 44 #[.string s, .string ⟨#[c]⟩] w fun e w' => e = .returned (.int .i64 (Lib.countByte s.data.toList c)) ∧ w' = w := Any.strings_Count_one Tryd.lays138 s c w
def Tryd.lays221_ren : Go.Shelf.Ren := ⟨fun | 221 => 31 | 268 => 43 | 138 => 44 | 143 => 45 | 195 => 51 | 197 => 52 | 218 => 53 | 219 => 37 | 260 => 56 | 217 => 46 | 225 => 47 | 224 => 48 | 267 => 49 | 266 => 54 | 314 => 55 | n => n, fun | 9 => 9 | 3 => 3 | 31 => 56 | 4 => 4 | 0 => 0 | 105 => 86 | 21 => 21 | 5 => 5 | 46 => 85 | 119 => 90 | 139 => 93 | 138 => 92 | 146 => 88 | 51 => 22 | n => n, fun | 1 => 0 | 3 => 1 | 4 => 2 | n => n⟩
theorem Tryd.lays221 : Go.Proofs.Lays.n221 Tryd.prog Tryd.lays221_ren := {
  mixed := by kernel_rfl
  f138 := Tryd.func44.trans (congrArg some (by kernel_rfl))
  f143 := Tryd.func45.trans (congrArg some (by kernel_rfl))
  f195 := Tryd.func51.trans (congrArg some (by kernel_rfl))
  f197 := Tryd.func52.trans (congrArg some (by kernel_rfl))
  f217 := Tryd.func46.trans (congrArg some (by kernel_rfl))
  f218 := Tryd.func53.trans (congrArg some (by kernel_rfl))
  f219 := Tryd.func37.trans (congrArg some (by kernel_rfl))
  f221 := Tryd.func31.trans (congrArg some (by kernel_rfl))
  f224 := Tryd.func48.trans (congrArg some (by kernel_rfl))
  f225 := Tryd.func47.trans (congrArg some (by kernel_rfl))
  f260 := Tryd.func56.trans (congrArg some (by kernel_rfl))
  f266 := Tryd.func54.trans (congrArg some (by kernel_rfl))
  f267 := Tryd.func49.trans (congrArg some (by kernel_rfl))
  f268 := Tryd.func43.trans (congrArg some (by kernel_rfl))
  f314 := Tryd.func55.trans (congrArg some (by kernel_rfl))
  t0 := Tryd.underlying0
  a0 := Tryd.isAgg0
  z0 := Tryd.sizeOf0
  v0 := Tryd.zeroValue0
  t3 := Tryd.underlying3
  a3 := Tryd.isAgg3
  z3 := Tryd.sizeOf3
  v3 := Tryd.zeroValue3
  t4 := Tryd.underlying4
  a4 := Tryd.isAgg4
  z4 := Tryd.sizeOf4
  v4 := Tryd.zeroValue4
  t5 := Tryd.underlying5
  a5 := Tryd.isAgg5
  z5 := Tryd.sizeOf5
  v5 := Tryd.zeroValue5
  t9 := Tryd.underlying9
  a9 := Tryd.isAgg9
  z9 := Tryd.sizeOf9
  v9 := Tryd.zeroValue9
  t21 := Tryd.underlying21
  a21 := Tryd.isAgg21
  z21 := Tryd.sizeOf21
  v21 := Tryd.zeroValue21
  t31 := Tryd.underlying56
  a31 := Tryd.isAgg56
  z31 := Tryd.sizeOf56
  v31 := Tryd.zeroValue56
  t46 := Tryd.underlying85
  a46 := Tryd.isAgg85
  z46 := Tryd.sizeOf85
  v46 := Tryd.zeroValue85
  t51 := Tryd.underlying22
  a51 := Tryd.isAgg22
  z51 := Tryd.sizeOf22
  v51 := Tryd.zeroValue22
  t105 := Tryd.underlying86
  a105 := Tryd.isAgg86
  z105 := Tryd.sizeOf86
  v105 := Tryd.zeroValue86
  t119 := Tryd.underlying90
  a119 := Tryd.isAgg90
  z119 := Tryd.sizeOf90
  t138 := Tryd.underlying92
  a138 := Tryd.isAgg92
  z138 := Tryd.sizeOf92
  v138 := Tryd.zeroValue92
  t139 := Tryd.underlying93
  a139 := Tryd.isAgg93
  z139 := Tryd.sizeOf93
  v139 := Tryd.zeroValue93
  t146 := Tryd.underlying88
  a146 := Tryd.isAgg88
  z146 := Tryd.sizeOf88
  v146 := Tryd.zeroValue88
  g1 := by kernel_rfl
  g3 := by kernel_rfl
  g4 := by kernel_rfl }
def Tryd.lays187_ren : Go.Shelf.Ren := ⟨fun | 187 => 40 | 255 => 50 | n => n, fun | 37 => 60 | 5 => 5 | 3 => 3 | n => n, fun | n => n⟩
theorem Tryd.lays187 : Go.Proofs.Lays.n187 Tryd.prog Tryd.lays187_ren := {
  mixed := by kernel_rfl
  f187 := Tryd.func40.trans (congrArg some (by kernel_rfl))
  f255 := Tryd.func50.trans (congrArg some (by kernel_rfl))
  t3 := Tryd.underlying3
  a3 := Tryd.isAgg3
  z3 := Tryd.sizeOf3
  v3 := Tryd.zeroValue3
  t5 := Tryd.underlying5
  a5 := Tryd.isAgg5
  z5 := Tryd.sizeOf5
  v5 := Tryd.zeroValue5
  t37 := Tryd.underlying60
  a37 := Tryd.isAgg60
  z37 := Tryd.sizeOf60
  v37 := Tryd.zeroValue60 }
theorem Tryd.bytes_IndexByte (b o n c : Nat) (xs : List Int) (cv : Int) (w : World) (hx : xs.length = n) (hc : ∀ i, i < n → w.cell? ⟨b, o + i, none⟩ = some (.int .u8 (xs.getD i 0))) :
    Calls Tryd.prog 40 #[.slice (some ⟨b, o, none⟩) n c, .int .u8 cv] w fun e w' => e = .returned (.int .i64 (Lib.indexByte (Lib.bytesOf xs) cv.toNat.toUInt8)) ∧ w' = w := Any.bytes_IndexByte Tryd.lays187 b o n c xs cv w hx hc
end Go.Proofs

namespace Go.Proofs.YtkopmkinlanhoaaDoor.PP
open Go.RowKit Go.Proofs.YtkopmkinlanhoaaDoorW.PrintWords Go.Proofs.YtkopmkinlanhoaaDoorW.PrintLast Go.Proofs.YtkopmkinlanhoaaDoorW.PrintMore
attribute [local go_sem] max2_int min2_int max_two min_two max_three min_three max_four min_four   -- for this text's walks alone
set_option linter.unusedVariables false
set_option linter.unusedSimpArgs false
def errW : Option Int → Value
  | none => .nilIface
  | some c => .iface 0 (.int .i64 c)
theorem errW_none : errW none = .nilIface := rfl
theorem errW_some (c : Int) : errW (some c) = .iface 0 (.int .i64 c) := rfl
theorem info3 : (Tryd.prog.info? 3).map (fun i => (i.zero, i.size, i.bytes)) = some (some (.int .i64 0), 1, 8) := by kernel_rfl
theorem info5 : (Tryd.prog.info? 5).map (fun i => (i.zero, i.size, i.bytes)) = some (some (.int .u8 0), 1, 1) := by kernel_rfl
theorem info27 : (Tryd.prog.info? 27).map (fun i => (i.zero, i.size, i.bytes)) = some (some (.agg #[(.string ⟨#[]⟩), (.slice none 0 0), (.slice none 0 0)]), 3, 64) := by kernel_rfl
theorem info38 : (Tryd.prog.info? 38).map (fun i => (i.zero, i.size, i.bytes)) = some (some (.slice none 0 0), 1, 24) := by kernel_rfl
theorem info62 : (Tryd.prog.info? 62).map (fun i => (i.zero, i.size, i.bytes)) = some (some (.agg #[(.string ⟨#[]⟩), (.slice none 0 0)]), 2, 40) := by kernel_rfl
structure S48 where
  f0 : Int
  f1 : Int
def z48 : S48 := ⟨(0 : Int), (0 : Int)⟩
def k48 : Kd S48 := Kd.iso (Kd.pair (Kd.int .u64) (Kd.int .u64)) (fun x : S48 => (x.f0, x.f1))
theorem k48_open {w : World} {x : S48} {cs : List Value} (h : k48.K w x cs) : cs = [.int .u64 x.f0, .int .u64 x.f1] := by
  obtain ⟨_, _, rfl, rfl, rfl⟩ := h
  exact rfl
def rd_T48 (xs : List S48) (i : Int) : S48 := xs.getD i.toNat z48
theorem at_T48 {w : World} {A : Option Addr} {n : Nat} {xs : List S48} (h : Kd.C k48 w A n xs) (i : Int) (h0 : 0 ≤ i) (h1 : i < n) : ∃ ad , A = some ad ∧ w.cell? (ad.add (i.toNat * 2)) = some (.int .u64 (rd_T48 xs i).f0) ∧ w.cell? ⟨(ad.add (i.toNat * 2)).block, (ad.add (i.toNat * 2)).off + 1, none⟩ = some (.int .u64 (rd_T48 xs i).f1) := by
  obtain ⟨ad, c, e, _, hK, hc0⟩ := Kd.C_get h z48 i h0 h1
  have hc : ∀ j u, c[j]? = some u → w.cell? (ad.add (i.toNat * 2 + j)) = some u := hc0
  obtain rfl := k48_open hK
  exact ⟨ad, e, hc 0 _ rfl, by rw [← add_field _ _ 1 (by omega)]; exact hc 1 _ rfl⟩
structure S62 where
  f0 : ByteArray
  f1 : (List Int)
def z62 : S62 := ⟨(⟨#[]⟩ : ByteArray), ([] : List Int)⟩
def k62 : Kd S62 := Kd.iso (Kd.pair Kd.string (Kd.slice 5 (Kd.int .u8))) (fun x : S62 => (x.f0, x.f1))
theorem k62_heap : Kd.Heap k62 := Kd.heap_iso _ (Kd.heap_pair Kd.heap_string (Kd.heap_slice 5 (Kd.heap_int .u8)))
theorem k62_open {w : World} {x : S62} {cs : List Value} (h : k62.K w x cs) : ∃ A1 c1, cs = [.string x.f0, .slice A1 x.f1.length c1] ∧ x.f1.length ≤ c1 ∧ (Kd.int .u8).C w A1 x.f1.length x.f1 := by
  obtain ⟨_, _, rfl, rfl, ⟨A1, c1, rfl, l1, g1⟩⟩ := h
  exact ⟨A1, c1, rfl, l1, g1⟩
theorem k62_mkM (w : World) (base : Nat) (ok : Nat → Prop) (x : S62) {v1 : Value} (g1 : (Kd.int .u8).R 5 w base ok v1 x.f1) : k62.M w base ok x [.string x.f0, v1] := ⟨[.string x.f0], [v1], rfl, rfl, ⟨v1, rfl, g1⟩⟩
def rd_T62 (xs : List S62) (i : Int) : S62 := xs.getD i.toNat z62
theorem at_T62 {w : World} {A : Option Addr} {n : Nat} {xs : List S62} (h : Kd.C k62 w A n xs) (i : Int) (h0 : 0 ≤ i) (h1 : i < n) : ∃ ad A1 c1, A = some ad ∧ w.cell? (ad.add (i.toNat * 2)) = some (.string (rd_T62 xs i).f0) ∧ w.cell? ⟨(ad.add (i.toNat * 2)).block, (ad.add (i.toNat * 2)).off + 1, none⟩ = some (.slice A1 (rd_T62 xs i).f1.length c1) ∧ (rd_T62 xs i).f1.length ≤ c1 ∧ (Kd.int .u8).C w A1 (rd_T62 xs i).f1.length (rd_T62 xs i).f1 := by
  obtain ⟨ad, c, e, _, hK, hc0⟩ := Kd.C_get h z62 i h0 h1
  have hc : ∀ j u, c[j]? = some u → w.cell? (ad.add (i.toNat * 2 + j)) = some u := hc0
  obtain ⟨A1, c1, rfl, l1, g1⟩ := k62_open hK
  exact ⟨ad, A1, c1, e, hc 0 _ rfl, by rw [← add_field _ _ 1 (by omega)]; exact hc 1 _ rfl, l1, g1⟩
structure S27 where
  f0 : ByteArray
  f1 : (List S62)
  f2 : (List S27)
def z27 : S27 := ⟨(⟨#[]⟩ : ByteArray), ([] : List S62), ([] : List S27)⟩
def F27 (d : Kd S27) : Kd S27 := Kd.iso (Kd.pair Kd.string (Kd.pair (Kd.slice 62 k62) (Kd.slice 27 d))) (fun x : S27 => (x.f0, x.f1, x.f2))
theorem mono27 : Kd.Mono F27 := Kd.mono_iso _ (Kd.mono_pair (Kd.mono_const _) (Kd.mono_pair (Kd.mono_const _) (Kd.mono_slice 27 Kd.mono_id)))
theorem sub27 : Kd.Sub F27 [5, 27, 62] := Kd.sub_iso _ (Kd.sub_pair (Kd.sub_const _ (by decide)) (Kd.sub_pair (Kd.sub_const _ (by decide)) (Kd.sub_slice 27 (by decide) Kd.sub_id)))
theorem sz27 : ∀ n, (Kd.upto F27 3 [5, 27, 62] n).sz = 3 := Kd.upto_sz (fun _ => rfl)
def k27 : Kd S27 := Kd.fix F27 3 [5, 27, 62] sz27 (Kd.upto_E sub27)
theorem k27_heap : Kd.Heap k27 := Kd.heap_fix (fun _ h_ => Kd.heap_iso _ (Kd.heap_pair Kd.heap_string (Kd.heap_pair (Kd.heap_slice 62 k62_heap) (Kd.heap_slice 27 h_))))
theorem k27_open {w : World} {x : S27} {cs : List Value} (h : k27.K w x cs) : ∃ A1 c1 A2 c2, cs = [.string x.f0, .slice A1 x.f1.length c1, .slice A2 x.f2.length c2] ∧ x.f1.length ≤ c1 ∧ k62.C w A1 x.f1.length x.f1 ∧ x.f2.length ≤ c2 ∧ k27.C w A2 x.f2.length x.f2 := by
  obtain ⟨n, h⟩ := h
  cases n with
  | zero => exact h.elim
  | succ n =>
    obtain ⟨_, _, rfl, rfl, ⟨_, _, rfl, ⟨A1, c1, rfl, l1, g1⟩, ⟨A2, c2, rfl, l2, g2⟩⟩⟩ := h
    exact ⟨A1, c1, A2, c2, rfl, l1, g1, l2, Kd.fix_C g2⟩
theorem k27_mk (w : World) (x : S27) {A1 : Option Addr} {c1 : Nat} (l1 : x.f1.length ≤ c1) (g1 : k62.C w A1 x.f1.length x.f1) {A2 : Option Addr} {c2 : Nat} (l2 : x.f2.length ≤ c2) (g2 : k27.C w A2 x.f2.length x.f2) : k27.K w x [.string x.f0, .slice A1 x.f1.length c1, .slice A2 x.f2.length c2] := by
  obtain ⟨n2, q2⟩ := Kd.fix_C_back mono27 g2
  have r2 := Kd.upto_C_le mono27 sz27 (show n2 ≤ n2 by omega) q2
  exact ⟨n2 + 1, ⟨[.string x.f0], [.slice A1 x.f1.length c1, .slice A2 x.f2.length c2], rfl, rfl, ⟨[.slice A1 x.f1.length c1], [.slice A2 x.f2.length c2], rfl, ⟨A1, c1, rfl, l1, g1⟩, ⟨A2, c2, rfl, l2, r2⟩⟩⟩⟩
theorem k27_mkM (w : World) (base : Nat) (ok : Nat → Prop) (x : S27) {v1 : Value} (g1 : k62.R 62 w base ok v1 x.f1) {v2 : Value} (g2 : k27.R 27 w base ok v2 x.f2) : k27.M w base ok x [.string x.f0, v1, v2] := by
  obtain ⟨n2, q2⟩ := Kd.fix_R_back mono27 g2
  have r2 := Kd.upto_R_le mono27 sz27 (show n2 ≤ n2 by omega) q2
  exact ⟨n2 + 1, ⟨[.string x.f0], [v1, v2], rfl, rfl, ⟨[v1], [v2], rfl, ⟨v1, rfl, g1⟩, ⟨v2, rfl, r2⟩⟩⟩⟩
theorem k27_openF {W : World} {ok : Nat → Prop} {x : S27} {cs : List Value} (h : Kd.FK k27 W ok x cs) : ∃ A1 c1 A2 c2, cs = [.string x.f0, .slice A1 x.f1.length c1, .slice A2 x.f2.length c2] ∧ x.f1.length ≤ c1 ∧ Kd.F k62 W ok A1 x.f1.length x.f1 ∧ x.f2.length ≤ c2 ∧ Kd.F k27 W ok A2 x.f2.length x.f2 := by
  obtain ⟨A1, c1, A2, c2, rfl, l1, _, l2, _⟩ := k27_open (Kd.FK_now h)
  exact ⟨A1, c1, A2, c2, rfl, l1, (fun W' hW => by obtain ⟨A1_, c1_, A2_, c2_, he, l1_, g1_, l2_, g2_⟩ := k27_open (h W' hW); injection (Option.some.inj (show some (Value.slice A1 x.f1.length c1) = some (Value.slice A1_ x.f1.length c1_) from congrArg (fun l => l[1]?) he)) with ha_ _ _; rw [ha_]; exact g1_), l2, (fun W' hW => by obtain ⟨A1_, c1_, A2_, c2_, he, l1_, g1_, l2_, g2_⟩ := k27_open (h W' hW); injection (Option.some.inj (show some (Value.slice A2 x.f2.length c2) = some (Value.slice A2_ x.f2.length c2_) from congrArg (fun l => l[2]?) he)) with ha_ _ _; rw [ha_]; exact g2_)⟩
def rd_T27 (xs : List S27) (i : Int) : S27 := xs.getD i.toNat z27
theorem at_T27 {w : World} {A : Option Addr} {n : Nat} {xs : List S27} (h : Kd.C k27 w A n xs) (i : Int) (h0 : 0 ≤ i) (h1 : i < n) : ∃ ad A1 c1 A2 c2, A = some ad ∧ w.cell? (ad.add (i.toNat * 3)) = some (.string (rd_T27 xs i).f0) ∧ w.cell? ⟨(ad.add (i.toNat * 3)).block, (ad.add (i.toNat * 3)).off + 1, none⟩ = some (.slice A1 (rd_T27 xs i).f1.length c1) ∧ w.cell? ⟨(ad.add (i.toNat * 3)).block, (ad.add (i.toNat * 3)).off + 2, none⟩ = some (.slice A2 (rd_T27 xs i).f2.length c2) ∧ (rd_T27 xs i).f1.length ≤ c1 ∧ k62.C w A1 (rd_T27 xs i).f1.length (rd_T27 xs i).f1 ∧ (rd_T27 xs i).f2.length ≤ c2 ∧ k27.C w A2 (rd_T27 xs i).f2.length (rd_T27 xs i).f2 := by
  obtain ⟨ad, c, e, _, hK, hc0⟩ := Kd.C_get h z27 i h0 h1
  have hc : ∀ j u, c[j]? = some u → w.cell? (ad.add (i.toNat * 3 + j)) = some u := hc0
  obtain ⟨A1, c1, A2, c2, rfl, l1, g1, l2, g2⟩ := k27_open hK
  exact ⟨ad, A1, c1, A2, c2, e, hc 0 _ rfl, by rw [← add_field _ _ 1 (by omega)]; exact hc 1 _ rfl, by rw [← add_field _ _ 2 (by omega)]; exact hc 2 _ rfl, l1, g1, l2, g2⟩
structure S29 where
  f0 : Int
  f1 : (List S48)
  f2 : S27
def k29 : Kd S29 := Kd.iso (Kd.pair (Kd.int .u32) (Kd.pair (Kd.slice 48 k48) k27)) (fun x : S29 => (x.f0, x.f1, x.f2))
theorem k29_open {w : World} {x : S29} {cs : List Value} (h : k29.K w x cs) : ∃ A1 c1 A3 c3 A4 c4, cs = [.int .u32 x.f0, .slice A1 x.f1.length c1, .string x.f2.f0, .slice A3 x.f2.f1.length c3, .slice A4 x.f2.f2.length c4] ∧ x.f1.length ≤ c1 ∧ k48.C w A1 x.f1.length x.f1 ∧ x.f2.f1.length ≤ c3 ∧ k62.C w A3 x.f2.f1.length x.f2.f1 ∧ x.f2.f2.length ≤ c4 ∧ k27.C w A4 x.f2.f2.length x.f2.f2 := by
  obtain ⟨_, _, rfl, rfl, ⟨_, _, rfl, ⟨A1, c1, rfl, l1, g1⟩, s2⟩⟩ := h
  obtain ⟨A3, c3, A4, c4, rfl, l3, g3, l4, g4⟩ := k27_open s2
  exact ⟨A1, c1, A3, c3, A4, c4, rfl, l1, g1, l3, g3, l4, g4⟩
def rd_L12 (xs : List (List Int)) (i : Int) : (List Int) := xs.getD i.toNat ([] : List Int)
theorem at_L12 {w : World} {A : Option Addr} {n : Nat} {xs : List (List Int)} (h : Kd.C (Kd.slice 3 (Kd.int .i64)) w A n xs) (i : Int) (h0 : 0 ≤ i) (h1 : i < n) : ∃ ad A0 c0, A = some ad ∧ w.cell? (ad.add i.toNat) = some (.slice A0 (rd_L12 xs i).length c0) ∧ (rd_L12 xs i).length ≤ c0 ∧ (Kd.int .i64).C w A0 (rd_L12 xs i).length (rd_L12 xs i) := by
  obtain ⟨ad, c, e, _, hK, hc0⟩ := Kd.C_get h ([] : List Int) i h0 h1
  have hc : ∀ j u, c[j]? = some u → w.cell? (ad.add (i.toNat * 1 + j)) = some u := hc0
  obtain ⟨A0, c0, rfl, l0, g0⟩ := hK
  exact ⟨ad, A0, c0, e, by have hq := hc 0 _ rfl; rwa [Nat.mul_one, Nat.add_zero] at hq, l0, g0⟩
end Go.Proofs.YtkopmkinlanhoaaDoor.PP

namespace Go.Proofs.YtkopmkinlanhoaaDoor.PP
open Go.RowKit Go.Proofs.YtkopmkinlanhoaaDoorW.PrintWords Go.Proofs.YtkopmkinlanhoaaDoorW.PrintLast Go.Proofs.YtkopmkinlanhoaaDoorW.PrintMore
attribute [local go_sem] max2_int min2_int max_two min_two max_three min_three max_four min_four   -- for this text's walks alone
set_option linter.unusedVariables false
set_option linter.unusedSimpArgs false
def bytes_Clone.f (l0 : List Int) : Option (List Int) := if l0.length < 140737488355328 then (some l0) else (none)
set_option maxRecDepth 100000 in
theorem bytes_Clone.calls (A0 : Option Addr) (c0 : Nat) (l0 : List Int) (r : List Int) (w : World) (hr0 : Kd.C (Kd.int .u8) w A0 l0.length l0) (hc0 : l0.length ≤ c0) (h : bytes_Clone.f l0 = some r) :
    Calls Tryd.prog 36 #[.slice A0 l0.length c0] w fun e w' => ∃ v0_ : Value, e = .returned (v0_) ∧ Kd.R (Kd.int .u8) 5 w' w.heap.size (fun _ => True) v0_ r ∧ Below w.heap.size w w' := by
  unfold bytes_Clone.f at h
  by_cases c3 : l0.length < 140737488355328
  · rw [if_pos c3] at h
    injection h with h
    subst h
    have HR0 := Aside0.mk hr0
    have HC0 := Aside0.mk hc0
    clear hr0 hc0
    have HB := Aside0.mk (Below.refl w.heap.size w)
    have LMc3 := Aside0.mk c3
    clear c3
    cases A0 with
    | none =>
      have hn : l0 = [] := by
        cases l0 with
        | nil => rfl
        | cons x r =>
          obtain ⟨ad, he, _⟩ := HR0.out.2.2 (by simp)
          cases he
      subst hn
      have q := fun w' : World => Lib.run_eql_slice_nil (P := Tryd.prog) w' 60 5 none ([] : List Int).length c0 0 0 Tryd.underlying60
      simp only [Option.isNone_none, List.length_nil] at q
      go_enter Tryd.func36, Tryd.ntmps36
      go_wp2
      go_ret
      exact ⟨_, rfl, Kd.R_nil _ _ _ _ _, Below.refl _ _⟩
    | some x0 =>
      have q := fun w' : World => Lib.run_eql_slice_nil (P := Tryd.prog) w' 60 5 (some x0) l0.length c0 0 0 Tryd.underlying60
      simp only [Option.isNone_some] at q
      obtain ⟨y5, hy5⟩ : ∃ y_ : List Int, y_ = [] := ⟨_, rfl⟩
      have Ny5 := Aside0.mk hy5
      clear hy5
      obtain ⟨y7, hy7⟩ : ∃ y_ : List Int, y_ = y5 ++ l0 := ⟨_, rfl⟩
      have Ny7 := Aside0.mk hy7
      clear hy7
      go_enter Tryd.func36, Tryd.ntmps36
      go_wp2_with (first | ((with_reducible refine gate_dst (N := 5) rfl ?_); refine Kd.R_lit (Kd.int .u8) _ 5 ?hg (N := 5) ?hd (xs := ([] : List Int)) (inner := []) (ok := fun _ => True) (okp := fun _ => True) ?hr ?hp (fun _ hk => hk) trivial (Below.refl _ _) (Nat.le_refl _) (by simp) ?_; (case hd => rfl); (case hg => rfl); (case hr => first | (go_simp; done) | (go_simp; rfl)); (case hp => exact (Reps.none _ _)); intro v5 w5 ho6 hb hg_ hnew_; clear hg_ hnew_; rw [← Ny5.out] at ho6; have n0_ := Aside0.mk (Kd.R_lower (base' := w.heap.size) ho6 (below_size (by repeat (first | (with_reducible first | exact HB.out | apply below_alloc | apply pw_below_drewN | apply below_drew1) | exact HB.out)))); have n2_ := Aside0.mk (below_step (by repeat (first | (with_reducible first | exact HB.out | apply below_alloc | apply pw_below_drewN | apply below_drew1) | exact HB.out)) hb); clear HB; have HO5 := n0_; have HB := n2_; clear n0_ n2_; clear hb ho6) | ((with_reducible refine gate_builtin (b := .append) (xs := #[.tmp 5, .tmp 6]) rfl ?_); at_builtin; refine Kd.R_append_rows (Kd.int .u8) (w0 := w) w.heap.size rfl (.tmp 5) (.tmp 6) 60 5 (.int .u8 0) 1 rfl Tryd.underlying60 info5 rfl (by decide) (by omega) v5 y5 l0 _ _ _ (fun _ => True) (fun _ => False) rfl rfl ?aO ?aR (fun _ _ h => h) (fun _ h => h.elim) (fun _ _ => trivial) ?aB ?aS ?aL ?_; (case aR => repeat (first | exact (Kd.C_below HR0.out HB.out) | (with_reducible refine Kd.C_alloc ?_ _) | (with_reducible refine Kd.C_drewN ?_ _) | (with_reducible refine Kd.C_drew ?_))); (case aB => exact (by repeat (first | (with_reducible first | exact HB.out | apply below_alloc | apply pw_below_drewN | apply below_drew1) | exact HB.out))); (case aO => exact (by (with_reducible repeat (first | apply Kd.R_alloc | apply Kd.R_drewN | apply Kd.R_drew)); exact HO5.out)); (case aS => exact (below_size (by repeat (first | (with_reducible first | exact HB.out | apply below_alloc | apply pw_below_drewN | apply below_drew1) | exact HB.out)))); (case aL => have := LMc3.out; rw [Ny5.out]; simp; omega); intro v7 w7 ho hb hg hat; rw [← Ny7.out] at ho; have n1_ := Aside0.mk (hb); have n2_ := Aside0.mk (ho); clear HB; clear HO5; have HB := n1_; have HO7 := n2_; clear n1_ n2_; clear ho hb hg hat))
      go_ret
      exact ⟨_, rfl, by have e7 : y7 = l0 := (by rw [Ny7.out, Ny5.out]; rfl); rw [← e7]; (with_reducible repeat (first | apply Kd.R_alloc | apply Kd.R_drewN | apply Kd.R_drew)); exact HO7.out, by repeat (first | (with_reducible first | exact HB.out | apply below_alloc | apply pw_below_drewN | apply below_drew1) | exact HB.out)⟩
  · rw [if_neg c3] at h
    cases h
end Go.Proofs.YtkopmkinlanhoaaDoor.PP

namespace Go.Proofs.YtkopmkinlanhoaaDoor.PP
open Go.RowKit Go.Proofs.YtkopmkinlanhoaaDoorW.PrintWords Go.Proofs.YtkopmkinlanhoaaDoorW.PrintLast Go.Proofs.YtkopmkinlanhoaaDoorW.PrintMore
attribute [local go_sem] max2_int min2_int max_two min_two max_three min_three max_four min_four   -- for this text's walks alone
set_option linter.unusedVariables false
set_option linter.unusedSimpArgs false
mutual
def tree_CloneNode.l0 : Nat → List (S62) → Int → Int → ByteArray → List (S62) → List (S27) → ByteArray → List (S62) → Option (ByteArray × (List (S62)) × (List (S27)))
  | 0, _, _, _, _, _, _, _, _ => none
  | k + 1, x12, x13, x14, x102000, x102001, x102002, x104000, x104001 => if x14 < x13 then (if 0 ≤ x14 then (if x14 < (x12.length : Int) then ((bytes_Clone.f ((rd_T62 x12 x14).f1)).bind fun t106 => (if x104001.length < 3518437208883 then (tree_CloneNode.l0 k x12 x13 (wrap64 (x14 + 1)) x102000 x102001 x102002 x104000 (x104001 ++ [(⟨(rd_T62 x12 x14).f0, t106⟩ : S62)])) else (none))) else (none)) else (none)) else (tree_CloneNode.l1 k x102002 (x102002.length : Int) 0 x104000 x104001 ([] : List (S27)))
def tree_CloneNode.l1 : Nat → List (S27) → Int → Int → ByteArray → List (S62) → List (S27) → Option (ByteArray × (List (S62)) × (List (S27)))
  | 0, _, _, _, _, _, _ => none
  | k + 1, x31, x32, x33, x104000, x104001, x104002 => if x33 < x32 then (if 0 ≤ x33 then (if x33 < (x31.length : Int) then ((tree_CloneNode.f k ((rd_T27 x31 x33).f0) ((rd_T27 x31 x33).f1) ((rd_T27 x31 x33).f2)).bind fun bt114 => (if x104002.length < 2199023255552 then (tree_CloneNode.l1 k x31 x32 (wrap64 (x33 + 1)) x104000 x104001 (x104002 ++ [(⟨bt114.1, bt114.2.1, bt114.2.2⟩ : S27)])) else (none))) else (none)) else (none)) else (some (x104000, x104001, x104002))
def tree_CloneNode.f : Nat → ByteArray → List (S62) → List (S27) → Option (ByteArray × (List (S62)) × (List (S27)))
  | 0, _, _, _ => none
  | k + 1, a0_0, l0_1, l0_2 => tree_CloneNode.l0 k l0_1 (l0_1.length : Int) 0 a0_0 l0_1 l0_2 a0_0 ([] : List (S62))
end
theorem tree_CloneNode.mono_l : ∀ k, (∀ y0 y1 y2, LeO (tree_CloneNode.f k y0 y1 y2) (tree_CloneNode.f (k + 1) y0 y1 y2)) ∧ (∀ y0 y1 y2 y3 y4 y5 y6 y7, LeO (tree_CloneNode.l0 k y0 y1 y2 y3 y4 y5 y6 y7) (tree_CloneNode.l0 (k + 1) y0 y1 y2 y3 y4 y5 y6 y7)) ∧ (∀ y0 y1 y2 y3 y4 y5, LeO (tree_CloneNode.l1 k y0 y1 y2 y3 y4 y5) (tree_CloneNode.l1 (k + 1) y0 y1 y2 y3 y4 y5))
  | 0 => ⟨fun _ _ _ r h => by simp [tree_CloneNode.f] at h, fun _ _ _ _ _ _ _ _ r h => by simp [tree_CloneNode.l0] at h, fun _ _ _ _ _ _ r h => by simp [tree_CloneNode.l1] at h⟩
  | k + 1 => by
    obtain ⟨ih0, ih1, ih2⟩ := tree_CloneNode.mono_l k
    refine ⟨?_, ?_, ?_⟩
    · intro y0 y1 y2
      unfold tree_CloneNode.f
      repeat' first
      | (with_reducible exact ih0 _ _ _)
      | (with_reducible exact ih1 _ _ _ _ _ _ _ _)
      | (with_reducible exact ih2 _ _ _ _ _ _)
      | (with_reducible exact LeO.refl _)
      | (with_reducible exact LeO.none _)
      | (with_reducible refine LeO.ite ?_ ?_)
      | (with_reducible refine LeO.bind ?_ (fun _ => ?_))
      | exact ih0 _ _ _
      | exact ih1 _ _ _ _ _ _ _ _
      | exact ih2 _ _ _ _ _ _
      | exact LeO.none _
      | refine LeO.ite ?_ ?_
      | refine LeO.bind ?_ (fun _ => ?_)
    · intro y0 y1 y2 y3 y4 y5 y6 y7
      unfold tree_CloneNode.l0
      repeat' first
      | (with_reducible exact ih0 _ _ _)
      | (with_reducible exact ih1 _ _ _ _ _ _ _ _)
      | (with_reducible exact ih2 _ _ _ _ _ _)
      | (with_reducible exact LeO.refl _)
      | (with_reducible exact LeO.none _)
      | (with_reducible refine LeO.ite ?_ ?_)
      | (with_reducible refine LeO.bind ?_ (fun _ => ?_))
      | exact ih0 _ _ _
      | exact ih1 _ _ _ _ _ _ _ _
      | exact ih2 _ _ _ _ _ _
      | exact LeO.none _
      | refine LeO.ite ?_ ?_
      | refine LeO.bind ?_ (fun _ => ?_)
    · intro y0 y1 y2 y3 y4 y5
      unfold tree_CloneNode.l1
      repeat' first
      | (with_reducible exact ih0 _ _ _)
      | (with_reducible exact ih1 _ _ _ _ _ _ _ _)
      | (with_reducible exact ih2 _ _ _ _ _ _)
      | (with_reducible exact LeO.refl _)
      | (with_reducible exact LeO.none _)
      | (with_reducible refine LeO.ite ?_ ?_)
      | (with_reducible refine LeO.bind ?_ (fun _ => ?_))
      | exact ih0 _ _ _
      | exact ih1 _ _ _ _ _ _ _ _
      | exact ih2 _ _ _ _ _ _
      | exact LeO.none _
      | refine LeO.ite ?_ ?_
      | refine LeO.bind ?_ (fun _ => ?_)
theorem tree_CloneNode.mono : ∀ a0 a1 a2 k, LeO (tree_CloneNode.f k a0 a1 a2) (tree_CloneNode.f (k + 1) a0 a1 a2) := by
  intro a0 a1 a2 k
  obtain ⟨ih0, ih1, ih2⟩ := tree_CloneNode.mono_l k
  exact ih0 a0 a1 a2
def tree_CloneNode.T5 : Bool × List (List Nat × List Nat) := (true, [([], []), ([0], [0]), ([], []), ([2], [2]), ([], []), ([4], [4]), ([5], [5]), ([3, 6], [3, 6]), ([7], [7]), ([1, 8, 6], [1, 8]), ([0, 1, 2, 3, 4, 5, 6, 7, 8, 9], []), ([10, 9, 9, 0, 1, 2, 3, 4, 5, 6, 7, 8, 9], [9, 10])])
def tree_CloneNode.B5 : List Nat := [0, 1, 0, 4, 0, 16, 48, 124, 252, 511, 1023, 2047]
theorem tree_CloneNode.tab5 : rtab .any (opsOf Tryd.f24 5) = tree_CloneNode.T5 := by kernel_rfl
theorem tree_CloneNode.bits5 : waitsOk tree_CloneNode.T5.2 tree_CloneNode.B5 = true := by kernel_rfl
def tree_CloneNode.T10 : Bool × List (List Nat × List Nat) := (true, [([], []), ([0], [0]), ([], []), ([2], [2]), ([3], [3]), ([1, 4, 3], [1, 4]), ([0, 1, 2, 3, 4, 5], []), ([6, 5, 5, 0, 1, 2, 3, 4, 5], [5, 6])])
def tree_CloneNode.B10 : List Nat := [0, 1, 0, 4, 12, 31, 63, 127]
theorem tree_CloneNode.tab10 : rtab .any (opsOf Tryd.f24 10) = tree_CloneNode.T10 := by kernel_rfl
theorem tree_CloneNode.bits10 : waitsOk tree_CloneNode.T10.2 tree_CloneNode.B10 = true := by kernel_rfl
set_option maxHeartbeats 8000000 in
set_option maxRecDepth 100000 in
theorem tree_CloneNode.calls (k : Nat) : ∀ (a0_0 : ByteArray) (A0_1 : Option Addr) (c0_1 : Nat) (l0_1 : List (S62)) (A0_2 : Option Addr) (c0_2 : Nat) (l0_2 : List (S27)) (r1 : ByteArray) (r2 : List (S62)) (r3 : List (S27)) (w : World) (hr0_1 : Kd.C k62 w A0_1 l0_1.length l0_1) (hc0_1 : l0_1.length ≤ c0_1) (hr0_2 : Kd.C k27 w A0_2 l0_2.length l0_2) (hc0_2 : l0_2.length ≤ c0_2) (h : tree_CloneNode.f k a0_0 l0_1 l0_2 = some (r1, r2, r3)),
    Calls Tryd.prog 24 #[.agg #[.string a0_0, .slice A0_1 l0_1.length c0_1, .slice A0_2 l0_2.length c0_2]] w fun e w' => ∃ v1_ v2_ : Value, e = .returned (.agg #[.string r1, v1_, v2_]) ∧ Kd.S k62 62 w' w.heap.size (fun _ => True) v1_ r2 ∧ Kd.R k27 27 w' w.heap.size (fun k_ => some k_ ≠ (v1_ : Value).ownBlock) v2_ r3 ∧ Below w.heap.size w w' := by
  induction k using Nat.strongRecOn with
  | _ k ih =>
  intro a0_0 A0_1 c0_1 l0_1 A0_2 c0_2 l0_2 r1 r2 r3 w hr0_1 hc0_1 hr0_2 hc0_2 h
  cases k with
  | zero => exact absurd h (by simp [tree_CloneNode.f])
  | succ k =>
  simp only [tree_CloneNode.f] at h
  have hu27 := Tryd.underlying27
  have hu62 := Tryd.underlying62
  have HR0_1 := Aside0.mk hr0_1
  have HC0_1 := Aside0.mk hc0_1
  clear hr0_1 hc0_1
  have HR0_2 := Aside0.mk hr0_2
  have HC0_2 := Aside0.mk hc0_2
  clear hr0_2 hc0_2
  have HB := Aside0.mk (Below.refl w.heap.size w)
  have H : (tree_CloneNode.l0 k l0_1 (l0_1.length : Int) 0 a0_0 l0_1 l0_2 a0_0 ([] : List (S62))) = some (r1, r2, r3) := h
  clear h
  have H' := Aside0.mk H
  clear H
  go_enter Tryd.func24, Tryd.ntmps24
  go_wp2_with (first | ((with_reducible refine gate_dst (N := 1) rfl ?_); refine box_event ?hg (N := 1) ?hd (cs := #[.string a0_0, .slice A0_1 l0_1.length c0_1, .slice A0_2 l0_2.length c0_2]) (t := 27) ?hr ?_; (case hd => rfl); (case hg => rfl); (case hr => first | (go_simp; done) | (go_simp; rfl)); intro gb101 hg w2 hbox hb; have n0_ := Aside0.mk (below_step (by repeat (first | (with_reducible first | exact HB.out | apply below_alloc | apply pw_below_drewN | apply below_drew1) | exact HB.out)) hb); have n1_ := Aside0.mk (hbox); have n2_ := Aside0.mk ((by rw [hg]; exact (below_size (by repeat (first | (with_reducible first | exact HB.out | apply below_alloc | apply pw_below_drewN | apply below_drew1) | exact HB.out))) : w.heap.size ≤ gb101)); have n3_ := Aside0.mk ((by rw [hg]; exact (below_size (by repeat (first | (with_reducible first | exact HB.out | apply below_alloc | apply pw_below_drewN | apply below_drew1) | exact HB.out))) : w.heap.size ≤ gb101)); clear HB; have HB := n0_; have BK101 := n1_; have GW101 := n2_; have GE101 := n3_; clear n0_ n1_ n2_ n3_; clear hb hbox hg) | ((with_reducible refine gate_dst (N := 2) rfl ?_); refine box_event ?hg (N := 2) ?hd (cs := #[.string (⟨#[]⟩ : ByteArray), .slice none 0 0, .slice none 0 0]) (t := 27) ?hr ?_; (case hd => rfl); (case hg => rfl); (case hr => first | (go_simp; done) | (go_simp; rfl)); intro gb102 hg w3 hbox hb; have n0_ := Aside0.mk (blk_below (g := gb101) (o := .cells #[.string a0_0, .slice A0_1 l0_1.length c0_1, .slice A0_2 l0_2.length c0_2] 27 (0, 0)) (by (with_reducible repeat (first | refine blk_drewN ?_ _ | refine blk_drew ?_ | refine blk_alloc ?_ _)); exact BK101.out) hb); have n1_ := Aside0.mk (below_step (by repeat (first | (with_reducible first | exact HB.out | apply below_alloc | apply pw_below_drewN | apply below_drew1 | refine below_set ?_ GE101.out) | exact HB.out)) hb); have n2_ := Aside0.mk (hbox); have n3_ := Aside0.mk ((by rw [hg]; exact (below_size (by repeat (first | (with_reducible first | exact HB.out | apply below_alloc | apply pw_below_drewN | apply below_drew1 | refine below_set ?_ GE101.out) | exact HB.out))) : w.heap.size ≤ gb102)); have n4_ := Aside0.mk ((by rw [hg]; exact (below_size (by repeat (first | (with_reducible first | exact HB.out | apply below_alloc | apply pw_below_drewN | apply below_drew1 | refine below_set ?_ GE101.out) | exact HB.out))) : w.heap.size ≤ gb102)); have n5_ := Aside0.mk ((by rw [hg]; exact Nat.ne_of_lt (blk_lt (g := gb101) (o := .cells #[.string a0_0, .slice A0_1 l0_1.length c0_1, .slice A0_2 l0_2.length c0_2] 27 (0, 0)) (by (with_reducible repeat (first | refine blk_drewN ?_ _ | refine blk_drew ?_ | refine blk_alloc ?_ _)); exact BK101.out)) : gb101 ≠ gb102)); have n6_ := Aside0.mk ((by rw [hg]; exact Nat.ne_of_gt (blk_lt (g := gb101) (o := .cells #[.string a0_0, .slice A0_1 l0_1.length c0_1, .slice A0_2 l0_2.length c0_2] 27 (0, 0)) (by (with_reducible repeat (first | refine blk_drewN ?_ _ | refine blk_drew ?_ | refine blk_alloc ?_ _)); exact BK101.out)) : gb102 ≠ gb101)); clear BK101; clear HB; have BK101 := n0_; have HB := n1_; have BK102 := n2_; have GW102 := n3_; have GE102 := n4_; have NB101_102 := n5_; have NB102_101 := n6_; clear n0_ n1_ n2_ n3_ n4_ n5_ n6_; clear hb hbox hg; have hnb4 := NB101_102.out; have hnc4 := NB102_101.out; have hcz5_0 : w3.cell? ⟨gb101, 0, none⟩ = some (.string a0_0) := (blk_cell BK101.out 0).trans rfl; have hcz5_1 : w3.cell? ⟨gb101, 1, none⟩ = some (.slice A0_1 l0_1.length c0_1) := (blk_cell BK101.out 1).trans rfl; have hcz5_2 : w3.cell? ⟨gb101, 2, none⟩ = some (.slice A0_2 l0_2.length c0_2) := (blk_cell BK101.out 2).trans rfl; have hfz5_0 := blk_frozen BK101.out 0; have hfz5_1 := blk_frozen BK101.out 1; have hfz5_2 := blk_frozen BK101.out 2) | ((with_reducible refine gate_dst (N := 3) rfl ?_); refine box_event ?hg (N := 3) ?hd (cs := #[.string (⟨#[]⟩ : ByteArray), .slice none 0 0, .slice none 0 0]) (t := 27) ?hr ?_; (case hd => rfl); (case hg => rfl); (case hr => first | (go_simp; done) | (go_simp; rfl)); intro gb103 hg w6 hbox hb; have n0_ := Aside0.mk (blk_below (g := gb101) (o := .cells #[.string a0_0, .slice A0_1 l0_1.length c0_1, .slice A0_2 l0_2.length c0_2] 27 (0, 0)) (by (with_reducible repeat (first | refine blk_drewN ?_ _ | refine blk_drew ?_ | refine blk_alloc ?_ _)); exact BK101.out) hb); have n1_ := Aside0.mk (blk_below (g := gb102) (o := .cells #[.string (⟨#[]⟩ : ByteArray), .slice none 0 0, .slice none 0 0] 27 (0, 0)) (by (with_reducible repeat (first | refine blk_drewN ?_ _ | refine blk_drew ?_ | refine blk_alloc ?_ _)); exact BK102.out) hb); have n2_ := Aside0.mk (below_step (by repeat (first | (with_reducible first | exact HB.out | apply below_alloc | apply pw_below_drewN | apply below_drew1 | refine below_set ?_ GE101.out | refine below_set ?_ GE102.out) | exact HB.out)) hb); have n3_ := Aside0.mk (hbox); have n4_ := Aside0.mk ((by rw [hg]; exact (below_size (by repeat (first | (with_reducible first | exact HB.out | apply below_alloc | apply pw_below_drewN | apply below_drew1 | refine below_set ?_ GE101.out | refine below_set ?_ GE102.out) | exact HB.out))) : w.heap.size ≤ gb103)); have n5_ := Aside0.mk ((by rw [hg]; exact (below_size (by repeat (first | (with_reducible first | exact HB.out | apply below_alloc | apply pw_below_drewN | apply below_drew1 | refine below_set ?_ GE101.out | refine below_set ?_ GE102.out) | exact HB.out))) : w.heap.size ≤ gb103)); have n6_ := Aside0.mk ((by rw [hg]; exact Nat.ne_of_lt (blk_lt (g := gb101) (o := .cells #[.string a0_0, .slice A0_1 l0_1.length c0_1, .slice A0_2 l0_2.length c0_2] 27 (0, 0)) (by (with_reducible repeat (first | refine blk_drewN ?_ _ | refine blk_drew ?_ | refine blk_alloc ?_ _)); exact BK101.out)) : gb101 ≠ gb103)); have n7_ := Aside0.mk ((by rw [hg]; exact Nat.ne_of_gt (blk_lt (g := gb101) (o := .cells #[.string a0_0, .slice A0_1 l0_1.length c0_1, .slice A0_2 l0_2.length c0_2] 27 (0, 0)) (by (with_reducible repeat (first | refine blk_drewN ?_ _ | refine blk_drew ?_ | refine blk_alloc ?_ _)); exact BK101.out)) : gb103 ≠ gb101)); have n8_ := Aside0.mk ((by rw [hg]; exact Nat.ne_of_lt (blk_lt (g := gb102) (o := .cells #[.string (⟨#[]⟩ : ByteArray), .slice none 0 0, .slice none 0 0] 27 (0, 0)) (by (with_reducible repeat (first | refine blk_drewN ?_ _ | refine blk_drew ?_ | refine blk_alloc ?_ _)); exact BK102.out)) : gb102 ≠ gb103)); have n9_ := Aside0.mk ((by rw [hg]; exact Nat.ne_of_gt (blk_lt (g := gb102) (o := .cells #[.string (⟨#[]⟩ : ByteArray), .slice none 0 0, .slice none 0 0] 27 (0, 0)) (by (with_reducible repeat (first | refine blk_drewN ?_ _ | refine blk_drew ?_ | refine blk_alloc ?_ _)); exact BK102.out)) : gb103 ≠ gb102)); clear BK101; clear BK102; clear HB; have BK101 := n0_; have BK102 := n1_; have HB := n2_; have BK103 := n3_; have GW103 := n4_; have GE103 := n5_; have NB101_103 := n6_; have NB103_101 := n7_; have NB102_103 := n8_; have NB103_102 := n9_; clear n0_ n1_ n2_ n3_ n4_ n5_ n6_ n7_ n8_ n9_; clear hb hbox hg; have hnb7 := NB103_101.out; have hnc7 := NB101_103.out; have hnb8 := NB103_102.out; have hnc8 := NB102_103.out; have hcz9_0 : w6.cell? ⟨gb103, 0, none⟩ = some (.string (⟨#[]⟩ : ByteArray)) := (blk_cell BK103.out 0).trans rfl; have hcz9_1 : w6.cell? ⟨gb103, 1, none⟩ = some (.slice none 0 0) := (blk_cell BK103.out 1).trans rfl; have hcz9_2 : w6.cell? ⟨gb103, 2, none⟩ = some (.slice none 0 0) := (blk_cell BK103.out 2).trans rfl; have hfz9_0 := blk_frozen BK103.out 0; have hfz9_1 := blk_frozen BK103.out 1; have hfz9_2 := blk_frozen BK103.out 2; have hcz10_0 : w6.cell? ⟨gb101, 0, none⟩ = some (.string a0_0) := (blk_cell BK101.out 0).trans rfl; have hcz10_1 : w6.cell? ⟨gb101, 1, none⟩ = some (.slice A0_1 l0_1.length c0_1) := (blk_cell BK101.out 1).trans rfl; have hcz10_2 : w6.cell? ⟨gb101, 2, none⟩ = some (.slice A0_2 l0_2.length c0_2) := (blk_cell BK101.out 2).trans rfl; have hfz10_0 := blk_frozen BK101.out 0; have hfz10_1 := blk_frozen BK101.out 1; have hfz10_2 := blk_frozen BK101.out 2))
  go_loopg [14] k (fun kq v14 w' => ∃ (x14_1 : Int) (x104001_1 : List (S62)) (u104001 : Value), v14 = .int .i64 x14_1 ∧ Aside0 (tree_CloneNode.l0 kq l0_1 (l0_1.length : Int) x14_1 a0_0 l0_1 l0_2 a0_0 x104001_1 = some (r1, r2, r3)) ∧ Aside0 (kq ≤ k) ∧ Aside0 (Kd.S k62 62 w' w.heap.size (fun _ => True) u104001 x104001_1) ∧ Aside0 (w'.heap[gb101]? = some (.cells #[.string a0_0, (.slice A0_1 l0_1.length c0_1), (.slice A0_2 l0_2.length c0_2)] 27 (0, 0))) ∧ Aside0 (w'.heap[gb102]? = some (.cells #[.string (⟨#[]⟩ : ByteArray), (.slice none 0 0), (.slice none 0 0)] 27 (0, 0))) ∧ Aside0 (w'.heap[gb103]? = some (.cells #[.string a0_0, u104001, (.slice none 0 0)] 27 (0, 0))) ∧ Aside0 (Below w.heap.size w w'))
  case atStart => exact ⟨(0), (([] : List (S62))), (.slice none 0 0), (by first | rfl | (simp; done) | (simp [*]; done)), H', ⟨Nat.le_refl _⟩, ⟨by first | exact Kd.S_nil _ _ _ _ _ | exact Kd.N_nil _ _ _ _ _ | exact Kd.V_nil _ _ _ _ _ | exact Kd.Q_nil _ _ _ _ _ | exact Kd.R_nil _ _ _ _ _⟩, ⟨by (with_reducible repeat (first | refine blk_drewN ?_ _ | refine blk_drew ?_ | refine blk_alloc ?_ _)); refine blk_far ?_ NB101_103.out _; (with_reducible repeat (first | refine blk_drewN ?_ _ | refine blk_drew ?_ | refine blk_alloc ?_ _)); refine blk_far ?_ NB101_103.out _; (with_reducible repeat (first | refine blk_drewN ?_ _ | refine blk_drew ?_ | refine blk_alloc ?_ _)); refine blk_far ?_ NB101_103.out _; (with_reducible repeat (first | refine blk_drewN ?_ _ | refine blk_drew ?_ | refine blk_alloc ?_ _)); exact BK101.out⟩, ⟨by (with_reducible repeat (first | refine blk_drewN ?_ _ | refine blk_drew ?_ | refine blk_alloc ?_ _)); refine blk_far ?_ NB102_103.out _; (with_reducible repeat (first | refine blk_drewN ?_ _ | refine blk_drew ?_ | refine blk_alloc ?_ _)); refine blk_far ?_ NB102_103.out _; (with_reducible repeat (first | refine blk_drewN ?_ _ | refine blk_drew ?_ | refine blk_alloc ?_ _)); refine blk_far ?_ NB102_103.out _; (with_reducible repeat (first | refine blk_drewN ?_ _ | refine blk_drew ?_ | refine blk_alloc ?_ _)); exact BK102.out⟩, ⟨by (with_reducible repeat (first | refine blk_drewN ?_ _ | refine blk_drew ?_ | refine blk_alloc ?_ _)); refine blk_put (cs := #[.string a0_0, .slice none 0 0, .slice none 0 0]) ?_ 2 _ rfl; (with_reducible repeat (first | refine blk_drewN ?_ _ | refine blk_drew ?_ | refine blk_alloc ?_ _)); refine blk_put (cs := #[.string a0_0, .slice none 0 0, .slice none 0 0]) ?_ 1 _ rfl; (with_reducible repeat (first | refine blk_drewN ?_ _ | refine blk_drew ?_ | refine blk_alloc ?_ _)); refine blk_put (cs := #[.string (⟨#[]⟩ : ByteArray), .slice none 0 0, .slice none 0 0]) ?_ 0 _ rfl; (with_reducible repeat (first | refine blk_drewN ?_ _ | refine blk_drew ?_ | refine blk_alloc ?_ _)); exact BK103.out⟩, ⟨by repeat (first | (with_reducible first | exact HB.out | apply below_alloc | apply pw_below_drewN | apply below_drew1 | refine below_set ?_ GE101.out | refine below_set ?_ GE102.out | refine below_set ?_ GE103.out) | exact HB.out)⟩⟩
  case round =>
    clear H'
    try clear c2
    try clear p2
    try clear c4
    try clear c7
    try clear c8
    try clear hcz10_0
    try clear hcz10_1
    try clear hcz10_2
    try clear hcz5_0
    try clear hcz5_1
    try clear hcz5_2
    try clear hcz9_0
    try clear hcz9_1
    try clear hcz9_2
    try clear hfz10_0
    try clear hfz10_1
    try clear hfz10_2
    try clear hfz5_0
    try clear hfz5_1
    try clear hfz5_2
    try clear hfz9_0
    try clear hfz9_1
    try clear hfz9_2
    obtain ⟨x14_1, x104001_1, u104001, rfl, HA, HK1, HO_104001, BK101, BK102, BK103, HB⟩ := hrel
    cases gk with
    | zero => exact absurd HA.out (by simp [tree_CloneNode.l0])
    | succ k1 =>
      have H := HA.out
      clear HA
      simp only [tree_CloneNode.l0] at H
      by_cases c11 : x14_1 < (l0_1.length : Int)
      · rw [if_pos c11] at H
        have c11b0 : decide (x14_1 < (l0_1.length : Int)) = true := decide_eq_true c11
        clear c11
        by_cases c12 : 0 ≤ x14_1
        · rw [if_pos c12] at H
          have c12b0 : decide (0 ≤ x14_1) = true := decide_eq_true c12
          clear c12
          by_cases c13 : x14_1 < (l0_1.length : Int)
          · rw [if_pos c13] at H
            have c13b0 : decide (x14_1 < (l0_1.length : Int)) = true := decide_eq_true c13
            clear c13
            replace H := Option.bind_eq_some_iff.mp H
            obtain ⟨t106, A140, H⟩ := H
            replace H : (if x104001_1.length < 3518437208883 then (tree_CloneNode.l0 k1 l0_1 (l0_1.length : Int) (wrap64 (x14_1 + 1)) a0_0 l0_1 l0_2 a0_0 (x104001_1 ++ [(⟨(rd_T62 l0_1 x14_1).f0, t106⟩ : S62)])) else (none)) = some (r1, r2, r3) := H
            have A14 := Aside0.mk A140
            clear A140
            by_cases c15 : x104001_1.length < 3518437208883
            · rw [if_pos c15] at H
              have LMc15 := Aside0.mk c15
              clear c15
              obtain ⟨y109, hy109⟩ : ∃ y_ : List (S62), y_ = (x104001_1 ++ [(⟨(rd_T62 l0_1 x14_1).f0, t106⟩ : S62)]) := ⟨_, rfl⟩
              replace H : (tree_CloneNode.l0 k1 l0_1 (l0_1.length : Int) (wrap64 (x14_1 + 1)) a0_0 l0_1 l0_2 a0_0 y109) = some (r1, r2, r3) := by first | (rw [hy109]; with_reducible exact H) | (have H2_ := (Option.bind_some _ _).symm.trans H; rw [hy109]; with_reducible exact H2_) | (have H2_ := (Option.bind_some _ _).symm.trans H; with_reducible exact H2_) | with_reducible exact H | (rw [hy109]; exact H) | exact H
              have Ny109 := Aside0.mk hy109
              clear hy109
              have H' := Aside0.mk H
              clear H
              have p104 : 0 ≤ (x14_1 : Int) := of_decide_eq_true (by first | (with_reducible assumption) | assumption)
              have q104 : x14_1 < (l0_1.length : Int) := of_decide_eq_true (by first | (with_reducible assumption) | assumption)
              obtain ⟨ad104, A104_1, c104_1, e104, hx104_0, hx104_1, hl104_1, hi104_1⟩ := at_T62 HR0_1.out x14_1 p104 q104
              cases e104
              replace hx104_0 := (HB.out.cell (World.block_lt_of_cell? w _ hx104_0)).trans hx104_0
              replace hx104_1 := (HB.out.cell (World.block_lt_of_cell? w _ hx104_1)).trans hx104_1
              have HR104_1 := Aside0.mk hi104_1
              have HC104_1 := Aside0.mk hl104_1
              clear hi104_1 hl104_1
              replace p104 := eq_true p104
              replace q104 := eq_true q104
              try go_wp2_with (first | ((with_reducible refine gate_dst (N := 5) rfl ?_); refine box_event ?hg (N := 5) ?hd (cs := #[.string (⟨#[]⟩ : ByteArray), .slice none 0 0]) (t := 62) ?hr ?_; (case hd => rfl); (case hg => rfl); (case hr => first | (go_simp; done) | (go_simp; rfl)); intro gb105 hg w16 hbox hb; have n0_ := Aside0.mk (Kd.S_below (Kd.S_elderB (by (with_reducible repeat (first | apply Kd.S_alloc | apply Kd.S_drewN | apply Kd.S_drew)); exact HO_104001.out) gb105 (Nat.le_of_eq hg.symm)) hb); have n1_ := Aside0.mk (blk_below (g := gb101) (o := .cells #[.string a0_0, .slice (some ad104) l0_1.length c0_1, .slice A0_2 l0_2.length c0_2] 27 (0, 0)) (by (with_reducible repeat (first | refine blk_drewN ?_ _ | refine blk_drew ?_ | refine blk_alloc ?_ _)); exact BK101.out) hb); have n2_ := Aside0.mk (blk_below (g := gb102) (o := .cells #[.string (⟨#[]⟩ : ByteArray), .slice none 0 0, .slice none 0 0] 27 (0, 0)) (by (with_reducible repeat (first | refine blk_drewN ?_ _ | refine blk_drew ?_ | refine blk_alloc ?_ _)); exact BK102.out) hb); have n3_ := Aside0.mk (blk_below (g := gb103) (o := .cells #[.string a0_0, u104001, .slice none 0 0] 27 (0, 0)) (by (with_reducible repeat (first | refine blk_drewN ?_ _ | refine blk_drew ?_ | refine blk_alloc ?_ _)); exact BK103.out) hb); have n4_ := Aside0.mk (below_step (by repeat (first | (with_reducible first | exact HB.out | apply below_alloc | apply pw_below_drewN | apply below_drew1 | refine below_set ?_ GE101.out | refine below_set ?_ GE102.out | refine below_set ?_ GE103.out) | exact HB.out)) hb); have n5_ := Aside0.mk (hbox); have n6_ := Aside0.mk ((by rw [hg]; exact (below_size (by repeat (first | (with_reducible first | exact HB.out | apply below_alloc | apply pw_below_drewN | apply below_drew1 | refine below_set ?_ GE101.out | refine below_set ?_ GE102.out | refine below_set ?_ GE103.out) | exact HB.out))) : w.heap.size ≤ gb105)); have n7_ := Aside0.mk ((by rw [hg]; exact (below_size (by repeat (first | (with_reducible first | exact HB.out | apply below_alloc | apply pw_below_drewN | apply below_drew1 | refine below_set ?_ GE101.out | refine below_set ?_ GE102.out | refine below_set ?_ GE103.out) | exact HB.out))) : w.heap.size ≤ gb105)); have n8_ := Aside0.mk ((by rw [hg]; exact Nat.ne_of_lt (blk_lt (g := gb101) (o := .cells #[.string a0_0, .slice (some ad104) l0_1.length c0_1, .slice A0_2 l0_2.length c0_2] 27 (0, 0)) (by (with_reducible repeat (first | refine blk_drewN ?_ _ | refine blk_drew ?_ | refine blk_alloc ?_ _)); exact BK101.out)) : gb101 ≠ gb105)); have n9_ := Aside0.mk ((by rw [hg]; exact Nat.ne_of_gt (blk_lt (g := gb101) (o := .cells #[.string a0_0, .slice (some ad104) l0_1.length c0_1, .slice A0_2 l0_2.length c0_2] 27 (0, 0)) (by (with_reducible repeat (first | refine blk_drewN ?_ _ | refine blk_drew ?_ | refine blk_alloc ?_ _)); exact BK101.out)) : gb105 ≠ gb101)); have n10_ := Aside0.mk ((by rw [hg]; exact Nat.ne_of_lt (blk_lt (g := gb102) (o := .cells #[.string (⟨#[]⟩ : ByteArray), .slice none 0 0, .slice none 0 0] 27 (0, 0)) (by (with_reducible repeat (first | refine blk_drewN ?_ _ | refine blk_drew ?_ | refine blk_alloc ?_ _)); exact BK102.out)) : gb102 ≠ gb105)); have n11_ := Aside0.mk ((by rw [hg]; exact Nat.ne_of_gt (blk_lt (g := gb102) (o := .cells #[.string (⟨#[]⟩ : ByteArray), .slice none 0 0, .slice none 0 0] 27 (0, 0)) (by (with_reducible repeat (first | refine blk_drewN ?_ _ | refine blk_drew ?_ | refine blk_alloc ?_ _)); exact BK102.out)) : gb105 ≠ gb102)); have n12_ := Aside0.mk ((by rw [hg]; exact Nat.ne_of_lt (blk_lt (g := gb103) (o := .cells #[.string a0_0, u104001, .slice none 0 0] 27 (0, 0)) (by (with_reducible repeat (first | refine blk_drewN ?_ _ | refine blk_drew ?_ | refine blk_alloc ?_ _)); exact BK103.out)) : gb103 ≠ gb105)); have n13_ := Aside0.mk ((by rw [hg]; exact Nat.ne_of_gt (blk_lt (g := gb103) (o := .cells #[.string a0_0, u104001, .slice none 0 0] 27 (0, 0)) (by (with_reducible repeat (first | refine blk_drewN ?_ _ | refine blk_drew ?_ | refine blk_alloc ?_ _)); exact BK103.out)) : gb105 ≠ gb103)); clear HO_104001; clear BK101; clear BK102; clear BK103; clear HB; have HO_104001 := n0_; have BK101 := n1_; have BK102 := n2_; have BK103 := n3_; have HB := n4_; have BK105 := n5_; have GW105 := n6_; have GE105 := n7_; have NB101_105 := n8_; have NB105_101 := n9_; have NB102_105 := n10_; have NB105_102 := n11_; have NB103_105 := n12_; have NB105_103 := n13_; clear n0_ n1_ n2_ n3_ n4_ n5_ n6_ n7_ n8_ n9_ n10_ n11_ n12_ n13_; clear hb hbox hg; have hnb17 := NB105_101.out; have hnc17 := NB101_105.out; have hnb18 := NB105_102.out; have hnc18 := NB102_105.out; have hnb19 := NB105_103.out; have hnc19 := NB103_105.out; have hcz20_0 : w16.cell? ⟨gb105, 0, none⟩ = some (.string (⟨#[]⟩ : ByteArray)) := (blk_cell BK105.out 0).trans rfl; have hcz20_1 : w16.cell? ⟨gb105, 1, none⟩ = some (.slice none 0 0) := (blk_cell BK105.out 1).trans rfl; have hfz20_0 := blk_frozen BK105.out 0; have hfz20_1 := blk_frozen BK105.out 1))
              have n0_ : Aside0 (Kd.S k62 62 ((w16.setCell ⟨gb105, 0, none⟩ (.string ((rd_T62 l0_1 x14_1).f0))).setCell ⟨gb105, 1, none⟩ (.slice A104_1 ((rd_T62 l0_1 x14_1).f1).length c104_1)) w.heap.size (fun k_ => k_ ≠ gb105) u104001 x104001_1) := ⟨by (with_reducible repeat (first | apply Kd.S_alloc | apply Kd.S_drewN | apply Kd.S_drew)); exact Kd.S_mono (Kd.S_far (p := ⟨gb105, 1, none⟩) (Kd.S_far (p := ⟨gb105, 0, none⟩) (Kd.S_mono HO_104001.out (fun k_ hk => (⟨hk, hk.2⟩ : _ ∧ k_ ≠ gb105))) (fun _ hk => hk.2) (.string ((rd_T62 l0_1 x14_1).f0))) (fun _ hk => hk.2) (.slice A104_1 ((rd_T62 l0_1 x14_1).f1).length c104_1)) (fun _ hk => hk.1.2)⟩
              have n1_ : Aside0 (((w16.setCell ⟨gb105, 0, none⟩ (.string ((rd_T62 l0_1 x14_1).f0))).setCell ⟨gb105, 1, none⟩ (.slice A104_1 ((rd_T62 l0_1 x14_1).f1).length c104_1)).heap[gb101]? = some (.cells #[.string a0_0, .slice (some ad104) l0_1.length c0_1, .slice A0_2 l0_2.length c0_2] 27 (0, 0))) := ⟨by (with_reducible repeat (first | refine blk_drewN ?_ _ | refine blk_drew ?_ | refine blk_alloc ?_ _)); refine blk_far ?_ NB101_105.out _; (with_reducible repeat (first | refine blk_drewN ?_ _ | refine blk_drew ?_ | refine blk_alloc ?_ _)); refine blk_far ?_ NB101_105.out _; (with_reducible repeat (first | refine blk_drewN ?_ _ | refine blk_drew ?_ | refine blk_alloc ?_ _)); exact BK101.out⟩
              have n2_ : Aside0 (((w16.setCell ⟨gb105, 0, none⟩ (.string ((rd_T62 l0_1 x14_1).f0))).setCell ⟨gb105, 1, none⟩ (.slice A104_1 ((rd_T62 l0_1 x14_1).f1).length c104_1)).heap[gb102]? = some (.cells #[.string (⟨#[]⟩ : ByteArray), .slice none 0 0, .slice none 0 0] 27 (0, 0))) := ⟨by (with_reducible repeat (first | refine blk_drewN ?_ _ | refine blk_drew ?_ | refine blk_alloc ?_ _)); refine blk_far ?_ NB102_105.out _; (with_reducible repeat (first | refine blk_drewN ?_ _ | refine blk_drew ?_ | refine blk_alloc ?_ _)); refine blk_far ?_ NB102_105.out _; (with_reducible repeat (first | refine blk_drewN ?_ _ | refine blk_drew ?_ | refine blk_alloc ?_ _)); exact BK102.out⟩
              have n3_ : Aside0 (((w16.setCell ⟨gb105, 0, none⟩ (.string ((rd_T62 l0_1 x14_1).f0))).setCell ⟨gb105, 1, none⟩ (.slice A104_1 ((rd_T62 l0_1 x14_1).f1).length c104_1)).heap[gb103]? = some (.cells #[.string a0_0, u104001, .slice none 0 0] 27 (0, 0))) := ⟨by (with_reducible repeat (first | refine blk_drewN ?_ _ | refine blk_drew ?_ | refine blk_alloc ?_ _)); refine blk_far ?_ NB103_105.out _; (with_reducible repeat (first | refine blk_drewN ?_ _ | refine blk_drew ?_ | refine blk_alloc ?_ _)); refine blk_far ?_ NB103_105.out _; (with_reducible repeat (first | refine blk_drewN ?_ _ | refine blk_drew ?_ | refine blk_alloc ?_ _)); exact BK103.out⟩
              have n4_ : Aside0 (((w16.setCell ⟨gb105, 0, none⟩ (.string ((rd_T62 l0_1 x14_1).f0))).setCell ⟨gb105, 1, none⟩ (.slice A104_1 ((rd_T62 l0_1 x14_1).f1).length c104_1)).heap[gb105]? = some (.cells #[.string ((rd_T62 l0_1 x14_1).f0), .slice A104_1 ((rd_T62 l0_1 x14_1).f1).length c104_1] 62 (0, 0))) := ⟨by (with_reducible repeat (first | refine blk_drewN ?_ _ | refine blk_drew ?_ | refine blk_alloc ?_ _)); refine blk_put (cs := #[.string ((rd_T62 l0_1 x14_1).f0), .slice none 0 0]) ?_ 1 _ rfl; (with_reducible repeat (first | refine blk_drewN ?_ _ | refine blk_drew ?_ | refine blk_alloc ?_ _)); refine blk_put (cs := #[.string (⟨#[]⟩ : ByteArray), .slice none 0 0]) ?_ 0 _ rfl; (with_reducible repeat (first | refine blk_drewN ?_ _ | refine blk_drew ?_ | refine blk_alloc ?_ _)); exact BK105.out⟩
              have n5_ : Aside0 (Below w.heap.size w ((w16.setCell ⟨gb105, 0, none⟩ (.string ((rd_T62 l0_1 x14_1).f0))).setCell ⟨gb105, 1, none⟩ (.slice A104_1 ((rd_T62 l0_1 x14_1).f1).length c104_1))) := ⟨by repeat (first | (with_reducible first | exact HB.out | apply below_alloc | apply pw_below_drewN | apply below_drew1 | refine below_set ?_ GE101.out | refine below_set ?_ GE102.out | refine below_set ?_ GE103.out | refine below_set ?_ GE105.out) | exact HB.out)⟩
              (try clear HO_104001)
              (try clear BK101)
              (try clear BK102)
              (try clear BK103)
              (try clear BK105)
              (try clear HB)
              generalize ((w16.setCell ⟨gb105, 0, none⟩ (.string ((rd_T62 l0_1 x14_1).f0))).setCell ⟨gb105, 1, none⟩ (.slice A104_1 ((rd_T62 l0_1 x14_1).f1).length c104_1)) = w21 at n0_ n1_ n2_ n3_ n4_ n5_ ⊢
              have HO_104001 := n0_
              have BK101 := n1_
              have BK102 := n2_
              have BK103 := n3_
              have BK105 := n4_
              have HB := n5_
              clear n0_ n1_ n2_ n3_ n4_ n5_
              have n0_ := Aside0.mk (Kd.S_drew HO_104001.out)
              have n1_ := Aside0.mk (blk_drew BK101.out)
              have n2_ := Aside0.mk (blk_drew BK102.out)
              have n3_ := Aside0.mk (blk_drew BK103.out)
              have n4_ := Aside0.mk (blk_drew BK105.out)
              have n5_ := Aside0.mk (below_drew1 HB.out)
              clear HO_104001
              clear BK101
              clear BK102
              clear BK103
              clear BK105
              clear HB
              have HO_104001 := n0_
              have BK101 := n1_
              have BK102 := n2_
              have BK103 := n3_
              have BK105 := n4_
              have HB := n5_
              clear n0_ n1_ n2_ n3_ n4_ n5_
              refine start_ (n := 12) (S := fun w' => w'.cell? ⟨gb103, 0, none⟩ = some (.string a0_0) ∧ w'.cell? ⟨gb103, 1, none⟩ = some (u104001) ∧ w'.cell? ⟨gb103, 2, none⟩ = some (.slice none 0 0) ∧ w'.cell? ⟨gb105, 0, none⟩ = some (.string ((rd_T62 l0_1 x14_1).f0)) ∧ w'.cell? ⟨gb105, 1, none⟩ = some (.slice A104_1 ((rd_T62 l0_1 x14_1).f1).length c104_1)) (ds := [11]) #[false, false, false, false, false, false, false, false, false, false, false, false] (by kernel_rfl) rfl rfl ⟨(blk_cell BK103.out 0).trans rfl, (blk_cell BK103.out 1).trans rfl, (blk_cell BK103.out 2).trans rfl, (blk_cell BK105.out 0).trans rfl, (blk_cell BK105.out 1).trans rfl⟩ (fun hHeld => ?_); refine with_tabW tree_CloneNode.tab5 tree_CloneNode.bits5 (fun HT_ HW_ => ?_)
              generalize w21.drew = w22 at HO_104001 BK101 BK102 BK103 BK105 HB hHeld ⊢
              refine pure_ (i := 0) (N := some 18) (v := ?_) (a' := ?_) #[true, false, false, false, false, false, false, false, false, false, false, false] rfl rfl (any_of HT_.out (by kernel_rfl)) (fun _ _ _ h => h) (Or.inl ⟨by rfl, ?_⟩) ?_ ?_
              rotate_left
              · intro w'
                go_simp
                with_reducible rfl
              rotate_left
              · simp only [Act.put, List.setIfInBounds_toArray, List.set_cons_zero, List.set_cons_succ, i64_w, i32_w]
                rfl
              refine pure_ (i := 2) (N := some 20) (v := ?_) (a' := ?_) #[true, false, true, false, false, false, false, false, false, false, false, false] rfl rfl (any_of HT_.out (by kernel_rfl)) (fun _ _ _ h => h) (Or.inl ⟨by rfl, ?_⟩) ?_ ?_
              rotate_left
              · intro w'
                go_simp
                with_reducible rfl
              rotate_left
              · simp only [Act.put, List.setIfInBounds_toArray, List.set_cons_zero, List.set_cons_succ, i64_w, i32_w]
                rfl
              refine pure_ (i := 4) (N := some 22) (v := ?_) (a' := ?_) #[true, false, true, false, true, false, false, false, false, false, false, false] rfl rfl (any_of HT_.out (by kernel_rfl)) (fun _ _ _ h => h) (Or.inl ⟨by rfl, ?_⟩) ?_ ?_
              rotate_left
              · intro w'
                go_simp
                with_reducible rfl
              rotate_left
              · simp only [Act.put, List.setIfInBounds_toArray, List.set_cons_zero, List.set_cons_succ, i64_w, i32_w]
                rfl
              refine take_ (i := 1) (N := some 19) (v := ?_) (a' := ?_) #[true, true, true, false, true, false, false, false, false, false, false, false] rfl rfl (take_ofW HT_.out HW_.out (by kernel_rfl)) (fun _ _ _ h => h) (Or.inl ⟨by rfl, ?_⟩) hHeld ?_ ?_
              rotate_left
              · rintro w' ⟨s0, s1, s2, s3, s4⟩
                go_simp
                with_reducible rfl
              rotate_left
              · simp only [Act.put, List.setIfInBounds_toArray, List.set_cons_zero, List.set_cons_succ, i64_w, i32_w]
                rfl
              refine take_ (i := 3) (N := some 21) (v := ?_) (a' := ?_) #[true, true, true, true, true, false, false, false, false, false, false, false] rfl rfl (take_ofW HT_.out HW_.out (by kernel_rfl)) (fun _ _ _ h => h) (Or.inl ⟨by rfl, ?_⟩) hHeld ?_ ?_
              rotate_left
              · rintro w' ⟨s0, s1, s2, s3, s4⟩
                go_simp
                with_reducible rfl
              rotate_left
              · simp only [Act.put, List.setIfInBounds_toArray, List.set_cons_zero, List.set_cons_succ, i64_w, i32_w]
                rfl
              refine take_ (i := 5) (N := some 23) (v := ?_) (a' := ?_) #[true, true, true, true, true, true, false, false, false, false, false, false] rfl rfl (take_ofW HT_.out HW_.out (by kernel_rfl)) (fun _ _ _ h => h) (Or.inl ⟨by rfl, ?_⟩) hHeld ?_ ?_
              rotate_left
              · rintro w' ⟨s0, s1, s2, s3, s4⟩
                go_simp
                with_reducible rfl
              rotate_left
              · simp only [Act.put, List.setIfInBounds_toArray, List.set_cons_zero, List.set_cons_succ, i64_w, i32_w]
                rfl
              refine one_ (i := 6) (N := some 24) #[true, true, true, true, true, true, true, false, false, false, false, false] rfl rfl (one_of HT_.out (by kernel_rfl)) (by decide) (fun K hK => ?_)
              refine goes_ Tryd.func36 (by kernel_rfl) rfl #[.slice A104_1 ((rd_T62 l0_1 x14_1).f1).length c104_1] (by rfl) rfl rfl (by (try simp only [List.map_toArray, List.map_cons, List.map_nil]); first | done | rfl | (simp only [List.length_drop, List.length_take]; rfl)) ?_
              with_reducible refine (bytes_Clone.calls _ _ ((rd_T62 l0_1 x14_1).f1) t106 _ ?side1 ?side2 A14.out).mono ?_
              (case side1 => repeat (first | exact (Kd.C_below HR104_1.out HB.out) | (with_reducible refine Kd.C_alloc ?_ _) | (with_reducible refine Kd.C_drewN ?_ _) | (with_reducible refine Kd.C_drew ?_)))
              (case side2 => exact HC104_1.out)
              rintro e w23 ⟨v107, rfl, ho0, hb⟩
              refine ⟨_, rfl, ?_⟩
              have n0_ := Aside0.mk (Kd.S_elder' (by (with_reducible repeat (first | apply Kd.S_alloc | apply Kd.S_drewN | apply Kd.S_drew)); exact HO_104001.out) (Kd.R_base ho0) hb)
              have n1_ := Aside0.mk (Kd.R_lower ho0 (below_size (by repeat (first | (with_reducible first | exact HB.out | apply below_alloc | apply pw_below_drewN | apply below_drew1 | refine below_set ?_ GE101.out | refine below_set ?_ GE102.out | refine below_set ?_ GE103.out | refine below_set ?_ GE105.out) | exact HB.out))))
              have n2_ := Aside0.mk (blk_below (g := gb101) (o := .cells #[.string a0_0, .slice (some ad104) l0_1.length c0_1, .slice A0_2 l0_2.length c0_2] 27 (0, 0)) (by (with_reducible repeat (first | refine blk_drewN ?_ _ | refine blk_drew ?_ | refine blk_alloc ?_ _)); exact BK101.out) hb)
              have n3_ := Aside0.mk (blk_below (g := gb102) (o := .cells #[.string (⟨#[]⟩ : ByteArray), .slice none 0 0, .slice none 0 0] 27 (0, 0)) (by (with_reducible repeat (first | refine blk_drewN ?_ _ | refine blk_drew ?_ | refine blk_alloc ?_ _)); exact BK102.out) hb)
              have n4_ := Aside0.mk (blk_below (g := gb103) (o := .cells #[.string a0_0, u104001, .slice none 0 0] 27 (0, 0)) (by (with_reducible repeat (first | refine blk_drewN ?_ _ | refine blk_drew ?_ | refine blk_alloc ?_ _)); exact BK103.out) hb)
              have n5_ := Aside0.mk (blk_below (g := gb105) (o := .cells #[.string ((rd_T62 l0_1 x14_1).f0), .slice A104_1 ((rd_T62 l0_1 x14_1).f1).length c104_1] 62 (0, 0)) (by (with_reducible repeat (first | refine blk_drewN ?_ _ | refine blk_drew ?_ | refine blk_alloc ?_ _)); exact BK105.out) hb)
              have n6_ := Aside0.mk (below_step (by repeat (first | (with_reducible first | exact HB.out | apply below_alloc | apply pw_below_drewN | apply below_drew1 | refine below_set ?_ GE101.out | refine below_set ?_ GE102.out | refine below_set ?_ GE103.out | refine below_set ?_ GE105.out) | exact HB.out)) hb)
              clear HO_104001
              clear BK101
              clear BK102
              clear BK103
              clear BK105
              clear HB
              have HO_104001 := n0_
              have HO108 := n1_
              have BK101 := n2_
              have BK102 := n3_
              have BK103 := n4_
              have BK105 := n5_
              have HB := n6_
              clear n0_ n1_ n2_ n3_ n4_ n5_ n6_
              (try clear hb)
              (try clear hb2)
              (try clear hk)
              (try clear hi)
              (try clear ho0)
              obtain ⟨Ao24, co24, eo24⟩ := Kd.R_slice HO108.out
              (first | subst eo24 | (injection eo24 with f1_ f2_ f3_; have f4_ := f1_.symm; have f5_ := f3_.symm; clear f1_ f2_ f3_; subst f4_; subst f5_))
              refine hK.out _ _ ⟨(blk_cell BK103.out 0).trans rfl, (blk_cell BK103.out 1).trans rfl, (blk_cell BK103.out 2).trans rfl, (blk_cell BK105.out 0).trans rfl, (blk_cell BK105.out 1).trans rfl⟩ (fun hHeld => ?_)
              clear hK K
              refine norm_ (a' := ?_) ?_ ?_
              rotate_left
              · show Act.put _ (some 24) _ = _
                simp only [Act.put, List.setIfInBounds_toArray, List.set_cons_zero, List.set_cons_succ, i64_w, i32_w]
                rfl
              refine pure_ (i := 7) (N := some 25) (v := ?_) (a' := ?_) #[true, true, true, true, true, true, true, true, false, false, false, false] rfl rfl (any_of HT_.out (by kernel_rfl)) (fun _ _ _ h => h) (Or.inl ⟨by rfl, ?_⟩) ?_ ?_
              rotate_left
              · intro w'
                go_simp
                with_reducible rfl
              rotate_left
              · simp only [Act.put, List.setIfInBounds_toArray, List.set_cons_zero, List.set_cons_succ, i64_w, i32_w]
                rfl
              refine one_ (i := 8) (N := some 26) #[true, true, true, true, true, true, true, true, true, false, false, false] rfl rfl (one_of HT_.out (by kernel_rfl)) (by decide) (fun K hK => ?_)
              refine value_ (w1 := ?_) (v := ?_) (by rfl) rfl ?_ ?_
              rotate_left 2
              · go_simp
                constructor
                · rfl
                · rfl
              refine hK.out _ _ ⟨(blk_cell (blk_alloc BK103.out _) 0).trans rfl, (blk_cell (blk_alloc BK103.out _) 1).trans rfl, (blk_cell (blk_alloc BK103.out _) 2).trans rfl, (blk_cell (blk_alloc BK105.out _) 0).trans rfl, (blk_cell (blk_alloc BK105.out _) 1).trans rfl⟩ (fun hHeld => ?_)
              clear hK K
              refine norm_ (a' := ?_) ?_ ?_
              rotate_left
              · show Act.put _ (some 26) _ = _
                simp only [Act.put, List.setIfInBounds_toArray, List.set_cons_zero, List.set_cons_succ, i64_w, i32_w]
                rfl
              refine one_ (i := 9) (N := some 27) #[true, true, true, true, true, true, true, true, true, true, false, false] rfl rfl (one_of HT_.out (by kernel_rfl)) (by decide) (fun K hK => ?_)
              refine Kd.S_append_step k62 (w0 := w) w.heap.size (by rfl) (.tmp 19) (.tmp 26) 24 62 (.agg #[(.string ⟨#[]⟩), (.slice none 0 0)]) 40 rfl Tryd.underlying24 info62 rfl (by decide) (by omega) u104001 x104001_1 (⟨(rd_T62 l0_1 x14_1).f0, t106⟩ : S62) [.string ((rd_T62 l0_1 x14_1).f0), .slice Ao24 t106.length co24] (fun k_ => k_ ≠ gb105) (fun k_ => some k_ = (.slice Ao24 t106.length co24 : Value).ownBlock) rfl rfl ?aP (fun k_ hk_ => ((Kd.R_mono (ok' := fun k_ => ((fun k_ => k_ ≠ gb105)) k_ ∧ some k_ ≠ (u104001 : Value).ownBlock) (Kd.R_types (Kd.R_apart' (HO108.out) (Kd.S_typed HO_104001.out) (by decide)) BK105.out (by decide)) (fun k_ hk => ⟨hk.2, hk.1.2⟩))).1 k_ hk_.symm) ?aF ?aO ?aB ?aS ?aL ?_
              (case aP => exact k62_mkM _ _ _ (⟨(rd_T62 l0_1 x14_1).f0, t106⟩ : S62) (Kd.R_mono (Kd.R_tight rfl (Kd.R_mono (ok' := fun k_ => ((fun k_ => k_ ≠ gb105)) k_ ∧ some k_ ≠ (u104001 : Value).ownBlock) (Kd.R_types (Kd.R_apart' (HO108.out) (Kd.S_typed HO_104001.out) (by decide)) BK105.out (by decide)) (fun k_ hk => ⟨hk.2, hk.1.2⟩))) (fun _ h_ => h_)))
              (case aB => exact (by repeat (first | (with_reducible first | exact HB.out | apply below_alloc | apply pw_below_drewN | apply below_drew1 | refine below_set ?_ GE101.out | refine below_set ?_ GE102.out | refine below_set ?_ GE103.out | refine below_set ?_ GE105.out) | exact HB.out)))
              (case aF => exact (fun k_ hk => Kd.freshB (g := gb105) (o := .cells #[.string ((rd_T62 l0_1 x14_1).f0), .slice A104_1 ((rd_T62 l0_1 x14_1).f1).length c104_1] 62 (0, 0)) (by (with_reducible repeat (first | refine blk_drewN ?_ _ | refine blk_drew ?_ | refine blk_alloc ?_ _)); exact BK105.out) k_ hk))
              (case aO => exact (by (with_reducible repeat (first | apply Kd.S_alloc | apply Kd.S_drewN | apply Kd.S_drew)); exact Kd.S_mono HO_104001.out (fun k_ hk => ⟨hk.1, fun e_ => hk.2 e_⟩)))
              (case aS => exact (below_size (by repeat (first | (with_reducible first | exact HB.out | apply below_alloc | apply pw_below_drewN | apply below_drew1 | refine below_set ?_ GE101.out | refine below_set ?_ GE102.out | refine below_set ?_ GE103.out | refine below_set ?_ GE105.out) | exact HB.out))))
              (case aL => have := LMc15.out; omega)
              intro v110 w25 ho hb hg hat
              rw [← Ny109.out] at ho
              have n0_ := Aside0.mk (blk_grown (g := gb101) (o := .cells #[.string a0_0, .slice (some ad104) l0_1.length c0_1, .slice A0_2 l0_2.length c0_2] 27 (0, 0)) (by (with_reducible repeat (first | refine blk_drewN ?_ _ | refine blk_drew ?_ | refine blk_alloc ?_ _)); exact BK101.out) hg (Kd.S_ne HO_104001.out BK101.out (by decide)))
              have n1_ := Aside0.mk (blk_grown (g := gb102) (o := .cells #[.string (⟨#[]⟩ : ByteArray), .slice none 0 0, .slice none 0 0] 27 (0, 0)) (by (with_reducible repeat (first | refine blk_drewN ?_ _ | refine blk_drew ?_ | refine blk_alloc ?_ _)); exact BK102.out) hg (Kd.S_ne HO_104001.out BK102.out (by decide)))
              have n2_ := Aside0.mk (blk_grown (g := gb103) (o := .cells #[.string a0_0, u104001, .slice none 0 0] 27 (0, 0)) (by (with_reducible repeat (first | refine blk_drewN ?_ _ | refine blk_drew ?_ | refine blk_alloc ?_ _)); exact BK103.out) hg (Kd.S_ne HO_104001.out BK103.out (by decide)))
              have n3_ := Aside0.mk (blk_grown (g := gb105) (o := .cells #[.string ((rd_T62 l0_1 x14_1).f0), .slice A104_1 ((rd_T62 l0_1 x14_1).f1).length c104_1] 62 (0, 0)) (by (with_reducible repeat (first | refine blk_drewN ?_ _ | refine blk_drew ?_ | refine blk_alloc ?_ _)); exact BK105.out) hg (Kd.S_away HO_104001.out (fun _ hk => hk.1)))
              have n4_ := Aside0.mk (hb)
              have n5_ := Aside0.mk (ho)
              clear BK101
              clear BK102
              clear BK103
              clear BK105
              clear HB
              clear HO_104001
              clear HO108
              have BK101 := n0_
              have BK102 := n1_
              have BK103 := n2_
              have BK105 := n3_
              have HB := n4_
              have HO111 := n5_
              clear n0_ n1_ n2_ n3_ n4_ n5_
              clear ho hb hg hat
              obtain ⟨Ao26, co26, eo26⟩ := Kd.S_slice HO111.out
              (first | subst eo26 | (injection eo26 with f1_ f2_ f3_; have f4_ := f1_.symm; have f5_ := f3_.symm; clear f1_ f2_ f3_; subst f4_; subst f5_))
              refine hK.out _ _ ⟨(blk_cell BK103.out 0).trans rfl, (blk_cell BK103.out 1).trans rfl, (blk_cell BK103.out 2).trans rfl, (blk_cell BK105.out 0).trans rfl, (blk_cell BK105.out 1).trans rfl⟩ (fun hHeld => ?_)
              clear hK K
              refine norm_ (a' := ?_) ?_ ?_
              rotate_left
              · show Act.put _ (some 27) _ = _
                simp only [Act.put, List.setIfInBounds_toArray, List.set_cons_zero, List.set_cons_succ, i64_w, i32_w]
                rfl
              refine pure_ (i := 10) (N := some 28) (v := ?_) (a' := ?_) #[true, true, true, true, true, true, true, true, true, true, true, false] rfl rfl (any_of HT_.out (by kernel_rfl)) (fun _ _ _ h => h) (Or.inl ⟨by rfl, ?_⟩) ?_ ?_
              rotate_left
              · intro w'
                go_simp
                with_reducible rfl
              rotate_left
              · simp only [Act.put, List.setIfInBounds_toArray, List.set_cons_zero, List.set_cons_succ, i64_w, i32_w]
                rfl
              refine last_ (i := 11) (N := none) #[true, true, true, true, true, true, true, true, true, true, true, true] rfl rfl (one_of HT_.out (by kernel_rfl)) (by decide) (fun K hK => ?_)
              have hs27 : w25.cell? ⟨gb103, 1, none⟩ = some (u104001) := (blk_cell BK103.out 1).trans rfl
              have hfs27 := blk_frozen BK103.out 1
              have hns27_0 := NB101_103.out
              have hns27_1 := NB102_103.out
              have hns27_3 := NB105_103.out
              have hms27_0 := NB103_101.out
              have hms27_1 := NB103_102.out
              have hms27_3 := NB103_105.out
              refine skip_ (w1 := ?_) (by rfl) rfl ?_ ?_
              rotate_left
              · go_simp
                rfl
              refine hK.out _ _ ?_
              clear hK K
              refine done_ (done_of HT_.out (by kernel_rfl)) ?_
              try go_wp2
              go_roundg k1
              case measure => have := HK1.out; omega
              case rel => exact ⟨(wrap64 (x14_1 + 1)), (y109), (.slice Ao26 y109.length co26), (by first | rfl | (simp; done) | (simp [*]; done)), H', ⟨by have := HK1.out; omega⟩, ⟨by (with_reducible repeat (first | apply Kd.S_alloc | apply Kd.S_drewN | apply Kd.S_drew)); exact Kd.S_mono (Kd.S_far (p := ⟨gb103, 1, none⟩) (Kd.S_types HO111.out BK103.out (by decide)) (fun _ hk => hk.2) (.slice Ao26 y109.length co26)) (fun _ hk => trivial)⟩, ⟨by (with_reducible repeat (first | refine blk_drewN ?_ _ | refine blk_drew ?_ | refine blk_alloc ?_ _)); refine blk_far ?_ NB101_103.out _; (with_reducible repeat (first | refine blk_drewN ?_ _ | refine blk_drew ?_ | refine blk_alloc ?_ _)); exact BK101.out⟩, ⟨by (with_reducible repeat (first | refine blk_drewN ?_ _ | refine blk_drew ?_ | refine blk_alloc ?_ _)); refine blk_far ?_ NB102_103.out _; (with_reducible repeat (first | refine blk_drewN ?_ _ | refine blk_drew ?_ | refine blk_alloc ?_ _)); exact BK102.out⟩, ⟨by (with_reducible repeat (first | refine blk_drewN ?_ _ | refine blk_drew ?_ | refine blk_alloc ?_ _)); refine blk_put (cs := #[.string a0_0, u104001, .slice none 0 0]) ?_ 1 _ rfl; (with_reducible repeat (first | refine blk_drewN ?_ _ | refine blk_drew ?_ | refine blk_alloc ?_ _)); exact BK103.out⟩, ⟨by repeat (first | (with_reducible first | exact HB.out | apply below_alloc | apply pw_below_drewN | apply below_drew1 | refine below_set ?_ GE101.out | refine below_set ?_ GE102.out | refine below_set ?_ GE103.out | refine below_set ?_ GE105.out) | exact HB.out)⟩⟩
            · rw [if_neg c15] at H
              exact absurd H (by simp)
          · rw [if_neg c13] at H
            exact absurd H (by simp)
        · rw [if_neg c12] at H
          exact absurd H (by simp)
      · rw [if_neg c11] at H
        have c11b0 : decide (x14_1 < (l0_1.length : Int)) = false := decide_eq_false c11
        clear c11
        have H' := Aside0.mk H
        clear H
        have hnb28 := NB101_102.out
        have hnc28 := NB102_101.out
        have hnb29 := NB101_103.out
        have hnc29 := NB103_101.out
        have hcz30_0 : wr.cell? ⟨gb101, 0, none⟩ = some (.string a0_0) := (blk_cell BK101.out 0).trans rfl
        have hcz30_1 : wr.cell? ⟨gb101, 1, none⟩ = some (.slice A0_1 l0_1.length c0_1) := (blk_cell BK101.out 1).trans rfl
        have hcz30_2 : wr.cell? ⟨gb101, 2, none⟩ = some (.slice A0_2 l0_2.length c0_2) := (blk_cell BK101.out 2).trans rfl
        have hfz30_0 := blk_frozen BK101.out 0
        have hfz30_1 := blk_frozen BK101.out 1
        have hfz30_2 := blk_frozen BK101.out 2
        go_wp2
        go_loopg [33] k1 (fun kq v33 w' => ∃ (x33_2 : Int) (x104002_2 : List (S27)) (u104002 : Value), v33 = .int .i64 x33_2 ∧ Aside0 (tree_CloneNode.l1 kq l0_2 (l0_2.length : Int) x33_2 a0_0 x104001_1 x104002_2 = some (r1, r2, r3)) ∧ Aside0 (kq ≤ k1) ∧ Aside0 (Kd.S k62 62 w' w.heap.size (fun _ => True) u104001 x104001_1) ∧ Aside0 (Kd.R k27 27 w' w.heap.size (fun k_ => some k_ ≠ (u104001 : Value).ownBlock ∧ k_ ≠ gb101 ∧ k_ ≠ gb102 ∧ k_ ≠ gb103) u104002 x104002_2) ∧ Aside0 (w'.heap[gb101]? = some (.cells #[.string a0_0, (.slice A0_1 l0_1.length c0_1), (.slice A0_2 l0_2.length c0_2)] 27 (0, 0))) ∧ Aside0 (w'.heap[gb102]? = some (.cells #[.string (⟨#[]⟩ : ByteArray), (.slice none 0 0), (.slice none 0 0)] 27 (0, 0))) ∧ Aside0 (w'.heap[gb103]? = some (.cells #[.string a0_0, u104001, u104002] 27 (0, 0))) ∧ Aside0 (Below w.heap.size w w'))
        case atStart => exact ⟨(0), (([] : List (S27))), (.slice none 0 0), (by first | rfl | (simp; done) | (simp [*]; done)), H', ⟨Nat.le_refl _⟩, ⟨by (with_reducible repeat (first | apply Kd.S_alloc | apply Kd.S_drewN | apply Kd.S_drew)); exact HO_104001.out⟩, ⟨by first | exact Kd.R_nil _ _ _ _ _ | exact Kd.N_nil _ _ _ _ _ | exact Kd.V_nil _ _ _ _ _ | exact Kd.Q_nil _ _ _ _ _ | exact Kd.S_nil _ _ _ _ _⟩, ⟨by (with_reducible repeat (first | refine blk_drewN ?_ _ | refine blk_drew ?_ | refine blk_alloc ?_ _)); exact BK101.out⟩, ⟨by (with_reducible repeat (first | refine blk_drewN ?_ _ | refine blk_drew ?_ | refine blk_alloc ?_ _)); exact BK102.out⟩, ⟨by (with_reducible repeat (first | refine blk_drewN ?_ _ | refine blk_drew ?_ | refine blk_alloc ?_ _)); exact BK103.out⟩, ⟨by repeat (first | (with_reducible first | exact HB.out | apply below_alloc | apply pw_below_drewN | apply below_drew1 | refine below_set ?_ GE101.out | refine below_set ?_ GE102.out | refine below_set ?_ GE103.out) | exact HB.out)⟩⟩
        case round =>
          clear H'
          try clear c1
          try clear p1
          try clear q1
          try clear hx1
          try clear c2
          try clear p2
          try clear c3
          try clear c4
          try clear p6
          try clear c7
          try clear c8
          try clear c10
          try clear p10
          try clear q10
          try clear hx10
          try clear c11
          try clear c11b0
          try clear c12
          try clear c12b0
          try clear c13
          try clear c13b0
          try clear c15
          try clear c17
          try clear c18
          try clear c19
          try clear c24
          try clear c28
          try clear c29
          try clear hcz10_0
          try clear hcz10_1
          try clear hcz10_2
          try clear hcz20_0
          try clear hcz20_1
          try clear hcz30_0
          try clear hcz30_1
          try clear hcz30_2
          try clear hcz5_0
          try clear hcz5_1
          try clear hcz5_2
          try clear hcz9_0
          try clear hcz9_1
          try clear hcz9_2
          try clear hfz10_0
          try clear hfz10_1
          try clear hfz10_2
          try clear hfz20_0
          try clear hfz20_1
          try clear hfz30_0
          try clear hfz30_1
          try clear hfz30_2
          try clear hfz5_0
          try clear hfz5_1
          try clear hfz5_2
          try clear hfz9_0
          try clear hfz9_1
          try clear hfz9_2
          try clear hx104_0
          try clear hx104_1
          try clear p104
          try clear p2
          try clear q104
          obtain ⟨x33_2, x104002_2, u104002, rfl, HA, HK2, HO_104001, HO_104002, BK101, BK102, BK103, HB⟩ := hrel
          cases gk with
          | zero => exact absurd HA.out (by simp [tree_CloneNode.l1])
          | succ k2 =>
            have H := HA.out
            clear HA
            simp only [tree_CloneNode.l1] at H
            by_cases c31 : x33_2 < (l0_2.length : Int)
            · rw [if_pos c31] at H
              have c31b0 : decide (x33_2 < (l0_2.length : Int)) = true := decide_eq_true c31
              clear c31
              by_cases c32 : 0 ≤ x33_2
              · rw [if_pos c32] at H
                have c32b0 : decide (0 ≤ x33_2) = true := decide_eq_true c32
                clear c32
                by_cases c33 : x33_2 < (l0_2.length : Int)
                · rw [if_pos c33] at H
                  have c33b0 : decide (x33_2 < (l0_2.length : Int)) = true := decide_eq_true c33
                  clear c33
                  replace H := Option.bind_eq_some_iff.mp H
                  obtain ⟨⟨t114, t115, t118⟩, A340, H⟩ := H
                  replace H : (if x104002_2.length < 2199023255552 then (tree_CloneNode.l1 k2 l0_2 (l0_2.length : Int) (wrap64 (x33_2 + 1)) a0_0 x104001_1 (x104002_2 ++ [(⟨t114, t115, t118⟩ : S27)])) else (none)) = some (r1, r2, r3) := H
                  have A34 := Aside0.mk A340
                  clear A340
                  by_cases c35 : x104002_2.length < 2199023255552
                  · rw [if_pos c35] at H
                    have LMc35 := Aside0.mk c35
                    clear c35
                    obtain ⟨y121, hy121⟩ : ∃ y_ : List (S27), y_ = (x104002_2 ++ [(⟨t114, t115, t118⟩ : S27)]) := ⟨_, rfl⟩
                    replace H : (tree_CloneNode.l1 k2 l0_2 (l0_2.length : Int) (wrap64 (x33_2 + 1)) a0_0 x104001_1 y121) = some (r1, r2, r3) := by first | (rw [hy121]; with_reducible exact H) | (have H2_ := (Option.bind_some _ _).symm.trans H; rw [hy121]; with_reducible exact H2_) | (have H2_ := (Option.bind_some _ _).symm.trans H; with_reducible exact H2_) | with_reducible exact H | (rw [hy121]; exact H) | exact H
                    have Ny121 := Aside0.mk hy121
                    clear hy121
                    have H' := Aside0.mk H
                    clear H
                    have p112 : 0 ≤ (x33_2 : Int) := of_decide_eq_true (by first | (with_reducible assumption) | assumption)
                    have q112 : x33_2 < (l0_2.length : Int) := of_decide_eq_true (by first | (with_reducible assumption) | assumption)
                    obtain ⟨ad112, A112_1, c112_1, A112_2, c112_2, e112, hx112_0, hx112_1, hx112_2, hl112_1, hi112_1, hl112_2, hi112_2⟩ := at_T27 HR0_2.out x33_2 p112 q112
                    cases e112
                    replace hx112_0 := (HB.out.cell (World.block_lt_of_cell? w _ hx112_0)).trans hx112_0
                    replace hx112_1 := (HB.out.cell (World.block_lt_of_cell? w _ hx112_1)).trans hx112_1
                    replace hx112_2 := (HB.out.cell (World.block_lt_of_cell? w _ hx112_2)).trans hx112_2
                    have HR112_1 := Aside0.mk hi112_1
                    have HC112_1 := Aside0.mk hl112_1
                    clear hi112_1 hl112_1
                    have HR112_2 := Aside0.mk hi112_2
                    have HC112_2 := Aside0.mk hl112_2
                    clear hi112_2 hl112_2
                    replace p112 := eq_true p112
                    replace q112 := eq_true q112
                    try go_wp2_with (first | ((with_reducible refine gate_dst (N := 7) rfl ?_); refine box_event ?hg (N := 7) ?hd (cs := #[.string (⟨#[]⟩ : ByteArray), .slice none 0 0, .slice none 0 0]) (t := 27) ?hr ?_; (case hd => rfl); (case hg => rfl); (case hr => first | (go_simp; done) | (go_simp; rfl)); intro gb113 hg w36 hbox hb; have n0_ := Aside0.mk (Kd.S_below (by (with_reducible repeat (first | apply Kd.S_alloc | apply Kd.S_drewN | apply Kd.S_drew)); exact HO_104001.out) hb); have n1_ := Aside0.mk (Kd.R_below (Kd.R_elderB (by (with_reducible repeat (first | apply Kd.R_alloc | apply Kd.R_drewN | apply Kd.R_drew)); exact HO_104002.out) gb113 (Nat.le_of_eq hg.symm)) hb); have n2_ := Aside0.mk (blk_below (g := gb101) (o := .cells #[.string a0_0, .slice A0_1 l0_1.length c0_1, .slice (some ad112) l0_2.length c0_2] 27 (0, 0)) (by (with_reducible repeat (first | refine blk_drewN ?_ _ | refine blk_drew ?_ | refine blk_alloc ?_ _)); exact BK101.out) hb); have n3_ := Aside0.mk (blk_below (g := gb102) (o := .cells #[.string (⟨#[]⟩ : ByteArray), .slice none 0 0, .slice none 0 0] 27 (0, 0)) (by (with_reducible repeat (first | refine blk_drewN ?_ _ | refine blk_drew ?_ | refine blk_alloc ?_ _)); exact BK102.out) hb); have n4_ := Aside0.mk (blk_below (g := gb103) (o := .cells #[.string a0_0, u104001, u104002] 27 (0, 0)) (by (with_reducible repeat (first | refine blk_drewN ?_ _ | refine blk_drew ?_ | refine blk_alloc ?_ _)); exact BK103.out) hb); have n5_ := Aside0.mk (below_step (by repeat (first | (with_reducible first | exact HB.out | apply below_alloc | apply pw_below_drewN | apply below_drew1 | refine below_set ?_ GE101.out | refine below_set ?_ GE102.out | refine below_set ?_ GE103.out) | exact HB.out)) hb); have n6_ := Aside0.mk (hbox); have n7_ := Aside0.mk ((by rw [hg]; exact (below_size (by repeat (first | (with_reducible first | exact HB.out | apply below_alloc | apply pw_below_drewN | apply below_drew1 | refine below_set ?_ GE101.out | refine below_set ?_ GE102.out | refine below_set ?_ GE103.out) | exact HB.out))) : w.heap.size ≤ gb113)); have n8_ := Aside0.mk ((by rw [hg]; exact (below_size (by repeat (first | (with_reducible first | exact HB.out | apply below_alloc | apply pw_below_drewN | apply below_drew1 | refine below_set ?_ GE101.out | refine below_set ?_ GE102.out | refine below_set ?_ GE103.out) | exact HB.out))) : w.heap.size ≤ gb113)); have n9_ := Aside0.mk ((by rw [hg]; exact Nat.ne_of_lt (blk_lt (g := gb101) (o := .cells #[.string a0_0, .slice A0_1 l0_1.length c0_1, .slice (some ad112) l0_2.length c0_2] 27 (0, 0)) (by (with_reducible repeat (first | refine blk_drewN ?_ _ | refine blk_drew ?_ | refine blk_alloc ?_ _)); exact BK101.out)) : gb101 ≠ gb113)); have n10_ := Aside0.mk ((by rw [hg]; exact Nat.ne_of_gt (blk_lt (g := gb101) (o := .cells #[.string a0_0, .slice A0_1 l0_1.length c0_1, .slice (some ad112) l0_2.length c0_2] 27 (0, 0)) (by (with_reducible repeat (first | refine blk_drewN ?_ _ | refine blk_drew ?_ | refine blk_alloc ?_ _)); exact BK101.out)) : gb113 ≠ gb101)); have n11_ := Aside0.mk ((by rw [hg]; exact Nat.ne_of_lt (blk_lt (g := gb102) (o := .cells #[.string (⟨#[]⟩ : ByteArray), .slice none 0 0, .slice none 0 0] 27 (0, 0)) (by (with_reducible repeat (first | refine blk_drewN ?_ _ | refine blk_drew ?_ | refine blk_alloc ?_ _)); exact BK102.out)) : gb102 ≠ gb113)); have n12_ := Aside0.mk ((by rw [hg]; exact Nat.ne_of_gt (blk_lt (g := gb102) (o := .cells #[.string (⟨#[]⟩ : ByteArray), .slice none 0 0, .slice none 0 0] 27 (0, 0)) (by (with_reducible repeat (first | refine blk_drewN ?_ _ | refine blk_drew ?_ | refine blk_alloc ?_ _)); exact BK102.out)) : gb113 ≠ gb102)); have n13_ := Aside0.mk ((by rw [hg]; exact Nat.ne_of_lt (blk_lt (g := gb103) (o := .cells #[.string a0_0, u104001, u104002] 27 (0, 0)) (by (with_reducible repeat (first | refine blk_drewN ?_ _ | refine blk_drew ?_ | refine blk_alloc ?_ _)); exact BK103.out)) : gb103 ≠ gb113)); have n14_ := Aside0.mk ((by rw [hg]; exact Nat.ne_of_gt (blk_lt (g := gb103) (o := .cells #[.string a0_0, u104001, u104002] 27 (0, 0)) (by (with_reducible repeat (first | refine blk_drewN ?_ _ | refine blk_drew ?_ | refine blk_alloc ?_ _)); exact BK103.out)) : gb113 ≠ gb103)); clear HO_104001; clear HO_104002; clear BK101; clear BK102; clear BK103; clear HB; have HO_104001 := n0_; have HO_104002 := n1_; have BK101 := n2_; have BK102 := n3_; have BK103 := n4_; have HB := n5_; have BK113 := n6_; have GW113 := n7_; have GE113 := n8_; have NB101_113 := n9_; have NB113_101 := n10_; have NB102_113 := n11_; have NB113_102 := n12_; have NB103_113 := n13_; have NB113_103 := n14_; clear n0_ n1_ n2_ n3_ n4_ n5_ n6_ n7_ n8_ n9_ n10_ n11_ n12_ n13_ n14_; clear hb hbox hg; have hnb37 := NB113_101.out; have hnc37 := NB101_113.out; have hnb38 := NB113_102.out; have hnc38 := NB102_113.out; have hnb39 := NB113_103.out; have hnc39 := NB103_113.out; have hcz40_0 : w36.cell? ⟨gb113, 0, none⟩ = some (.string (⟨#[]⟩ : ByteArray)) := (blk_cell BK113.out 0).trans rfl; have hcz40_1 : w36.cell? ⟨gb113, 1, none⟩ = some (.slice none 0 0) := (blk_cell BK113.out 1).trans rfl; have hcz40_2 : w36.cell? ⟨gb113, 2, none⟩ = some (.slice none 0 0) := (blk_cell BK113.out 2).trans rfl; have hfz40_0 := blk_frozen BK113.out 0; have hfz40_1 := blk_frozen BK113.out 1; have hfz40_2 := blk_frozen BK113.out 2))
                    have n0_ : Aside0 (Kd.S k62 62 (((w36.setCell ⟨gb113, 0, none⟩ (.string ((rd_T27 l0_2 x33_2).f0))).setCell ⟨gb113, 1, none⟩ (.slice A112_1 ((rd_T27 l0_2 x33_2).f1).length c112_1)).setCell ⟨gb113, 2, none⟩ (.slice A112_2 ((rd_T27 l0_2 x33_2).f2).length c112_2)) w.heap.size (fun _ => True) u104001 x104001_1) := ⟨by (with_reducible repeat (first | apply Kd.S_alloc | apply Kd.S_drewN | apply Kd.S_drew)); exact Kd.S_mono (Kd.S_far (p := ⟨gb113, 2, none⟩) (Kd.S_far (p := ⟨gb113, 1, none⟩) (Kd.S_far (p := ⟨gb113, 0, none⟩) (Kd.S_types HO_104001.out BK113.out (by decide)) (fun _ hk => hk.2) (.string ((rd_T27 l0_2 x33_2).f0))) (fun _ hk => hk.2) (.slice A112_1 ((rd_T27 l0_2 x33_2).f1).length c112_1)) (fun _ hk => hk.2) (.slice A112_2 ((rd_T27 l0_2 x33_2).f2).length c112_2)) (fun _ hk => trivial)⟩
                    have n1_ : Aside0 (Kd.R k27 27 (((w36.setCell ⟨gb113, 0, none⟩ (.string ((rd_T27 l0_2 x33_2).f0))).setCell ⟨gb113, 1, none⟩ (.slice A112_1 ((rd_T27 l0_2 x33_2).f1).length c112_1)).setCell ⟨gb113, 2, none⟩ (.slice A112_2 ((rd_T27 l0_2 x33_2).f2).length c112_2)) w.heap.size (fun k_ => some k_ ≠ (u104001 : Value).ownBlock ∧ k_ ≠ gb101 ∧ k_ ≠ gb102 ∧ k_ ≠ gb103 ∧ k_ ≠ gb113) u104002 x104002_2) := ⟨by (with_reducible repeat (first | apply Kd.R_alloc | apply Kd.R_drewN | apply Kd.R_drew)); exact Kd.R_mono (Kd.R_far (p := ⟨gb113, 2, none⟩) (Kd.R_far (p := ⟨gb113, 1, none⟩) (Kd.R_far (p := ⟨gb113, 0, none⟩) (Kd.R_mono HO_104002.out (fun k_ hk => (⟨hk, hk.2⟩ : _ ∧ k_ ≠ gb113))) (fun _ hk => hk.2) (.string ((rd_T27 l0_2 x33_2).f0))) (fun _ hk => hk.2) (.slice A112_1 ((rd_T27 l0_2 x33_2).f1).length c112_1)) (fun _ hk => hk.2) (.slice A112_2 ((rd_T27 l0_2 x33_2).f2).length c112_2)) (fun _ hk => ⟨hk.1.1.1, ⟨hk.1.1.2.1, ⟨hk.1.1.2.2.1, ⟨hk.1.1.2.2.2, hk.1.2⟩⟩⟩⟩)⟩
                    have n2_ : Aside0 ((((w36.setCell ⟨gb113, 0, none⟩ (.string ((rd_T27 l0_2 x33_2).f0))).setCell ⟨gb113, 1, none⟩ (.slice A112_1 ((rd_T27 l0_2 x33_2).f1).length c112_1)).setCell ⟨gb113, 2, none⟩ (.slice A112_2 ((rd_T27 l0_2 x33_2).f2).length c112_2)).heap[gb101]? = some (.cells #[.string a0_0, .slice A0_1 l0_1.length c0_1, .slice (some ad112) l0_2.length c0_2] 27 (0, 0))) := ⟨by (with_reducible repeat (first | refine blk_drewN ?_ _ | refine blk_drew ?_ | refine blk_alloc ?_ _)); refine blk_far ?_ NB101_113.out _; (with_reducible repeat (first | refine blk_drewN ?_ _ | refine blk_drew ?_ | refine blk_alloc ?_ _)); refine blk_far ?_ NB101_113.out _; (with_reducible repeat (first | refine blk_drewN ?_ _ | refine blk_drew ?_ | refine blk_alloc ?_ _)); refine blk_far ?_ NB101_113.out _; (with_reducible repeat (first | refine blk_drewN ?_ _ | refine blk_drew ?_ | refine blk_alloc ?_ _)); exact BK101.out⟩
                    have n3_ : Aside0 ((((w36.setCell ⟨gb113, 0, none⟩ (.string ((rd_T27 l0_2 x33_2).f0))).setCell ⟨gb113, 1, none⟩ (.slice A112_1 ((rd_T27 l0_2 x33_2).f1).length c112_1)).setCell ⟨gb113, 2, none⟩ (.slice A112_2 ((rd_T27 l0_2 x33_2).f2).length c112_2)).heap[gb102]? = some (.cells #[.string (⟨#[]⟩ : ByteArray), .slice none 0 0, .slice none 0 0] 27 (0, 0))) := ⟨by (with_reducible repeat (first | refine blk_drewN ?_ _ | refine blk_drew ?_ | refine blk_alloc ?_ _)); refine blk_far ?_ NB102_113.out _; (with_reducible repeat (first | refine blk_drewN ?_ _ | refine blk_drew ?_ | refine blk_alloc ?_ _)); refine blk_far ?_ NB102_113.out _; (with_reducible repeat (first | refine blk_drewN ?_ _ | refine blk_drew ?_ | refine blk_alloc ?_ _)); refine blk_far ?_ NB102_113.out _; (with_reducible repeat (first | refine blk_drewN ?_ _ | refine blk_drew ?_ | refine blk_alloc ?_ _)); exact BK102.out⟩
                    have n4_ : Aside0 ((((w36.setCell ⟨gb113, 0, none⟩ (.string ((rd_T27 l0_2 x33_2).f0))).setCell ⟨gb113, 1, none⟩ (.slice A112_1 ((rd_T27 l0_2 x33_2).f1).length c112_1)).setCell ⟨gb113, 2, none⟩ (.slice A112_2 ((rd_T27 l0_2 x33_2).f2).length c112_2)).heap[gb103]? = some (.cells #[.string a0_0, u104001, u104002] 27 (0, 0))) := ⟨by (with_reducible repeat (first | refine blk_drewN ?_ _ | refine blk_drew ?_ | refine blk_alloc ?_ _)); refine blk_far ?_ NB103_113.out _; (with_reducible repeat (first | refine blk_drewN ?_ _ | refine blk_drew ?_ | refine blk_alloc ?_ _)); refine blk_far ?_ NB103_113.out _; (with_reducible repeat (first | refine blk_drewN ?_ _ | refine blk_drew ?_ | refine blk_alloc ?_ _)); refine blk_far ?_ NB103_113.out _; (with_reducible repeat (first | refine blk_drewN ?_ _ | refine blk_drew ?_ | refine blk_alloc ?_ _)); exact BK103.out⟩
                    have n5_ : Aside0 ((((w36.setCell ⟨gb113, 0, none⟩ (.string ((rd_T27 l0_2 x33_2).f0))).setCell ⟨gb113, 1, none⟩ (.slice A112_1 ((rd_T27 l0_2 x33_2).f1).length c112_1)).setCell ⟨gb113, 2, none⟩ (.slice A112_2 ((rd_T27 l0_2 x33_2).f2).length c112_2)).heap[gb113]? = some (.cells #[.string ((rd_T27 l0_2 x33_2).f0), .slice A112_1 ((rd_T27 l0_2 x33_2).f1).length c112_1, .slice A112_2 ((rd_T27 l0_2 x33_2).f2).length c112_2] 27 (0, 0))) := ⟨by (with_reducible repeat (first | refine blk_drewN ?_ _ | refine blk_drew ?_ | refine blk_alloc ?_ _)); refine blk_put (cs := #[.string ((rd_T27 l0_2 x33_2).f0), .slice A112_1 ((rd_T27 l0_2 x33_2).f1).length c112_1, .slice none 0 0]) ?_ 2 _ rfl; (with_reducible repeat (first | refine blk_drewN ?_ _ | refine blk_drew ?_ | refine blk_alloc ?_ _)); refine blk_put (cs := #[.string ((rd_T27 l0_2 x33_2).f0), .slice none 0 0, .slice none 0 0]) ?_ 1 _ rfl; (with_reducible repeat (first | refine blk_drewN ?_ _ | refine blk_drew ?_ | refine blk_alloc ?_ _)); refine blk_put (cs := #[.string (⟨#[]⟩ : ByteArray), .slice none 0 0, .slice none 0 0]) ?_ 0 _ rfl; (with_reducible repeat (first | refine blk_drewN ?_ _ | refine blk_drew ?_ | refine blk_alloc ?_ _)); exact BK113.out⟩
                    have n6_ : Aside0 (Below w.heap.size w (((w36.setCell ⟨gb113, 0, none⟩ (.string ((rd_T27 l0_2 x33_2).f0))).setCell ⟨gb113, 1, none⟩ (.slice A112_1 ((rd_T27 l0_2 x33_2).f1).length c112_1)).setCell ⟨gb113, 2, none⟩ (.slice A112_2 ((rd_T27 l0_2 x33_2).f2).length c112_2))) := ⟨by repeat (first | (with_reducible first | exact HB.out | apply below_alloc | apply pw_below_drewN | apply below_drew1 | refine below_set ?_ GE101.out | refine below_set ?_ GE102.out | refine below_set ?_ GE103.out | refine below_set ?_ GE113.out) | exact HB.out)⟩
                    (try clear HO_104001)
                    (try clear HO_104002)
                    (try clear BK101)
                    (try clear BK102)
                    (try clear BK103)
                    (try clear BK113)
                    (try clear HB)
                    generalize (((w36.setCell ⟨gb113, 0, none⟩ (.string ((rd_T27 l0_2 x33_2).f0))).setCell ⟨gb113, 1, none⟩ (.slice A112_1 ((rd_T27 l0_2 x33_2).f1).length c112_1)).setCell ⟨gb113, 2, none⟩ (.slice A112_2 ((rd_T27 l0_2 x33_2).f2).length c112_2)) = w41 at n0_ n1_ n2_ n3_ n4_ n5_ n6_ ⊢
                    have HO_104001 := n0_
                    have HO_104002 := n1_
                    have BK101 := n2_
                    have BK102 := n3_
                    have BK103 := n4_
                    have BK113 := n5_
                    have HB := n6_
                    clear n0_ n1_ n2_ n3_ n4_ n5_ n6_
                    have n0_ := Aside0.mk (Kd.S_drew HO_104001.out)
                    have n1_ := Aside0.mk (Kd.R_drew HO_104002.out)
                    have n2_ := Aside0.mk (blk_drew BK101.out)
                    have n3_ := Aside0.mk (blk_drew BK102.out)
                    have n4_ := Aside0.mk (blk_drew BK103.out)
                    have n5_ := Aside0.mk (blk_drew BK113.out)
                    have n6_ := Aside0.mk (below_drew1 HB.out)
                    clear HO_104001
                    clear HO_104002
                    clear BK101
                    clear BK102
                    clear BK103
                    clear BK113
                    clear HB
                    have HO_104001 := n0_
                    have HO_104002 := n1_
                    have BK101 := n2_
                    have BK102 := n3_
                    have BK103 := n4_
                    have BK113 := n5_
                    have HB := n6_
                    clear n0_ n1_ n2_ n3_ n4_ n5_ n6_
                    refine start_ (n := 8) (S := fun w' => w'.cell? ⟨gb103, 0, none⟩ = some (.string a0_0) ∧ w'.cell? ⟨gb103, 1, none⟩ = some (u104001) ∧ w'.cell? ⟨gb103, 2, none⟩ = some (u104002) ∧ w'.cell? ⟨gb113, 0, none⟩ = some (.string ((rd_T27 l0_2 x33_2).f0)) ∧ w'.cell? ⟨gb113, 1, none⟩ = some (.slice A112_1 ((rd_T27 l0_2 x33_2).f1).length c112_1) ∧ w'.cell? ⟨gb113, 2, none⟩ = some (.slice A112_2 ((rd_T27 l0_2 x33_2).f2).length c112_2)) (ds := [7]) #[false, false, false, false, false, false, false, false] (by kernel_rfl) rfl rfl ⟨(blk_cell BK103.out 0).trans rfl, (blk_cell BK103.out 1).trans rfl, (blk_cell BK103.out 2).trans rfl, (blk_cell BK113.out 0).trans rfl, (blk_cell BK113.out 1).trans rfl, (blk_cell BK113.out 2).trans rfl⟩ (fun hHeld => ?_); refine with_tabW tree_CloneNode.tab10 tree_CloneNode.bits10 (fun HT_ HW_ => ?_)
                    generalize w41.drew = w42 at HO_104001 HO_104002 BK101 BK102 BK103 BK113 HB hHeld ⊢
                    refine pure_ (i := 0) (N := some 37) (v := ?_) (a' := ?_) #[true, false, false, false, false, false, false, false] rfl rfl (any_of HT_.out (by kernel_rfl)) (fun _ _ _ h => h) (Or.inl ⟨by rfl, ?_⟩) ?_ ?_
                    rotate_left
                    · intro w'
                      go_simp
                      with_reducible rfl
                    rotate_left
                    · simp only [Act.put, List.setIfInBounds_toArray, List.set_cons_zero, List.set_cons_succ, i64_w, i32_w]
                      rfl
                    refine take_ (i := 1) (N := some 38) (v := ?_) (a' := ?_) #[true, true, false, false, false, false, false, false] rfl rfl (take_ofW HT_.out HW_.out (by kernel_rfl)) (fun _ _ _ h => h) (Or.inl ⟨by rfl, ?_⟩) hHeld ?_ ?_
                    rotate_left
                    · rintro w' ⟨s0, s1, s2, s3, s4, s5⟩
                      go_simp
                      with_reducible rfl
                    rotate_left
                    · simp only [Act.put, List.setIfInBounds_toArray, List.set_cons_zero, List.set_cons_succ, i64_w, i32_w]
                      rfl
                    refine take_ (i := 2) (N := some 39) (v := ?_) (a' := ?_) #[true, true, true, false, false, false, false, false] rfl rfl (take_ofW HT_.out HW_.out (by kernel_rfl)) (fun _ _ _ h => h) (Or.inl ⟨by rfl, ?_⟩) hHeld ?_ ?_
                    rotate_left
                    · rintro w' ⟨s0, s1, s2, s3, s4, s5⟩
                      go_simp
                      with_reducible rfl
                    rotate_left
                    · simp only [Act.put, List.setIfInBounds_toArray, List.set_cons_zero, List.set_cons_succ, i64_w, i32_w]
                      rfl
                    refine one_ (i := 3) (N := some 40) #[true, true, true, true, false, false, false, false] rfl rfl (one_of HT_.out (by kernel_rfl)) (by decide) (fun K hK => ?_)
                    refine goes_ Tryd.func24 (by kernel_rfl) rfl #[.agg #[.string ((rd_T27 l0_2 x33_2).f0), .slice A112_1 ((rd_T27 l0_2 x33_2).f1).length c112_1, .slice A112_2 ((rd_T27 l0_2 x33_2).f2).length c112_2]] (by rfl) rfl rfl (by (try simp only [List.map_toArray, List.map_cons, List.map_nil]); first | done | rfl | (simp only [List.length_drop, List.length_take]; rfl)) ?_
                    with_reducible refine (ih k2 (by have := HK1.out; have := HK2.out; omega) ((rd_T27 l0_2 x33_2).f0) _ _ ((rd_T27 l0_2 x33_2).f1) _ _ ((rd_T27 l0_2 x33_2).f2) t114 t115 t118 _ ?side1 ?side2 ?side3 ?side4 A34.out).mono ?_
                    (case side1 => repeat (first | exact (Kd.C_below HR112_1.out HB.out) | (with_reducible refine Kd.C_alloc ?_ _) | (with_reducible refine Kd.C_drewN ?_ _) | (with_reducible refine Kd.C_drew ?_)))
                    (case side2 => exact HC112_1.out)
                    (case side3 => repeat (first | exact (Kd.C_below HR112_2.out HB.out) | (with_reducible refine Kd.C_alloc ?_ _) | (with_reducible refine Kd.C_drewN ?_ _) | (with_reducible refine Kd.C_drew ?_)))
                    (case side4 => exact HC112_2.out)
                    rintro e w43 ⟨v116, v119, rfl, ho0, ho1, hb⟩
                    refine ⟨_, rfl, ?_⟩
                    have n0_ := Aside0.mk (Kd.S_elder' (by (with_reducible repeat (first | apply Kd.S_alloc | apply Kd.S_drewN | apply Kd.S_drew)); exact HO_104001.out) (Kd.S_base ho0) hb)
                    have n1_ := Aside0.mk (Kd.R_mono (Kd.R_told (Kd.R_told (Kd.R_old (by (with_reducible repeat (first | apply Kd.R_alloc | apply Kd.R_drewN | apply Kd.R_drew)); exact HO_104002.out) hb) (Kd.S_base ho0)) (Kd.R_base ho1)) (fun _ h_ => h_.1))
                    have n2_ := Aside0.mk (Kd.S_lower (Kd.S_new' ho0 (Kd.S_lt (by (with_reducible repeat (first | apply Kd.S_alloc | apply Kd.S_drewN | apply Kd.S_drew)); exact HO_104001.out))) (below_size (by repeat (first | (with_reducible first | exact HB.out | apply below_alloc | apply pw_below_drewN | apply below_drew1 | refine below_set ?_ GE101.out | refine below_set ?_ GE102.out | refine below_set ?_ GE103.out | refine below_set ?_ GE113.out) | exact HB.out))))
                    have n3_ := Aside0.mk (Kd.R_lower (Kd.R_newB (Kd.R_newB (Kd.R_newB (Kd.R_newB (Kd.R_new' (Kd.R_new' ho1 (Kd.S_lt (by (with_reducible repeat (first | apply Kd.S_alloc | apply Kd.S_drewN | apply Kd.S_drew)); exact HO_104001.out))) (Kd.R_lt (by (with_reducible repeat (first | apply Kd.R_alloc | apply Kd.R_drewN | apply Kd.R_drew)); exact HO_104002.out))) (g := gb101) (o := .cells #[.string a0_0, .slice A0_1 l0_1.length c0_1, .slice (some ad112) l0_2.length c0_2] 27 (0, 0)) (by (with_reducible repeat (first | refine blk_drewN ?_ _ | refine blk_drew ?_ | refine blk_alloc ?_ _)); exact BK101.out)) (g := gb102) (o := .cells #[.string (⟨#[]⟩ : ByteArray), .slice none 0 0, .slice none 0 0] 27 (0, 0)) (by (with_reducible repeat (first | refine blk_drewN ?_ _ | refine blk_drew ?_ | refine blk_alloc ?_ _)); exact BK102.out)) (g := gb103) (o := .cells #[.string a0_0, u104001, u104002] 27 (0, 0)) (by (with_reducible repeat (first | refine blk_drewN ?_ _ | refine blk_drew ?_ | refine blk_alloc ?_ _)); exact BK103.out)) (g := gb113) (o := .cells #[.string ((rd_T27 l0_2 x33_2).f0), .slice A112_1 ((rd_T27 l0_2 x33_2).f1).length c112_1, .slice A112_2 ((rd_T27 l0_2 x33_2).f2).length c112_2] 27 (0, 0)) (by (with_reducible repeat (first | refine blk_drewN ?_ _ | refine blk_drew ?_ | refine blk_alloc ?_ _)); exact BK113.out)) (below_size (by repeat (first | (with_reducible first | exact HB.out | apply below_alloc | apply pw_below_drewN | apply below_drew1 | refine below_set ?_ GE101.out | refine below_set ?_ GE102.out | refine below_set ?_ GE103.out | refine below_set ?_ GE113.out) | exact HB.out))))
                    have n4_ := Aside0.mk (blk_below (g := gb101) (o := .cells #[.string a0_0, .slice A0_1 l0_1.length c0_1, .slice (some ad112) l0_2.length c0_2] 27 (0, 0)) (by (with_reducible repeat (first | refine blk_drewN ?_ _ | refine blk_drew ?_ | refine blk_alloc ?_ _)); exact BK101.out) hb)
                    have n5_ := Aside0.mk (blk_below (g := gb102) (o := .cells #[.string (⟨#[]⟩ : ByteArray), .slice none 0 0, .slice none 0 0] 27 (0, 0)) (by (with_reducible repeat (first | refine blk_drewN ?_ _ | refine blk_drew ?_ | refine blk_alloc ?_ _)); exact BK102.out) hb)
                    have n6_ := Aside0.mk (blk_below (g := gb103) (o := .cells #[.string a0_0, u104001, u104002] 27 (0, 0)) (by (with_reducible repeat (first | refine blk_drewN ?_ _ | refine blk_drew ?_ | refine blk_alloc ?_ _)); exact BK103.out) hb)
                    have n7_ := Aside0.mk (blk_below (g := gb113) (o := .cells #[.string ((rd_T27 l0_2 x33_2).f0), .slice A112_1 ((rd_T27 l0_2 x33_2).f1).length c112_1, .slice A112_2 ((rd_T27 l0_2 x33_2).f2).length c112_2] 27 (0, 0)) (by (with_reducible repeat (first | refine blk_drewN ?_ _ | refine blk_drew ?_ | refine blk_alloc ?_ _)); exact BK113.out) hb)
                    have n8_ := Aside0.mk (below_step (by repeat (first | (with_reducible first | exact HB.out | apply below_alloc | apply pw_below_drewN | apply below_drew1 | refine below_set ?_ GE101.out | refine below_set ?_ GE102.out | refine below_set ?_ GE103.out | refine below_set ?_ GE113.out) | exact HB.out)) hb)
                    clear HO_104001
                    clear HO_104002
                    clear BK101
                    clear BK102
                    clear BK103
                    clear BK113
                    clear HB
                    have HO_104001 := n0_
                    have HO_104002 := n1_
                    have HO117 := n2_
                    have HO120 := n3_
                    have BK101 := n4_
                    have BK102 := n5_
                    have BK103 := n6_
                    have BK113 := n7_
                    have HB := n8_
                    clear n0_ n1_ n2_ n3_ n4_ n5_ n6_ n7_ n8_
                    (try clear hb)
                    (try clear hb2)
                    (try clear hk)
                    (try clear hi)
                    (try clear ho0)
                    (try clear ho1)
                    obtain ⟨Ao45, co45, eo45⟩ := Kd.S_slice HO117.out
                    (first | subst eo45 | (injection eo45 with f1_ f2_ f3_; have f4_ := f1_.symm; have f5_ := f3_.symm; clear f1_ f2_ f3_; subst f4_; subst f5_))
                    obtain ⟨Ao46, co46, eo46⟩ := Kd.R_slice HO120.out
                    (first | subst eo46 | (injection eo46 with f1_ f2_ f3_; have f4_ := f1_.symm; have f5_ := f3_.symm; clear f1_ f2_ f3_; subst f4_; subst f5_))
                    refine hK.out _ _ ⟨(blk_cell BK103.out 0).trans rfl, (blk_cell BK103.out 1).trans rfl, (blk_cell BK103.out 2).trans rfl, (blk_cell BK113.out 0).trans rfl, (blk_cell BK113.out 1).trans rfl, (blk_cell BK113.out 2).trans rfl⟩ (fun hHeld => ?_)
                    clear hK K
                    refine norm_ (a' := ?_) ?_ ?_
                    rotate_left
                    · show Act.put _ (some 40) _ = _
                      simp only [Act.put, List.setIfInBounds_toArray, List.set_cons_zero, List.set_cons_succ, i64_w, i32_w]
                      rfl
                    refine one_ (i := 4) (N := some 41) #[true, true, true, true, true, false, false, false] rfl rfl (one_of HT_.out (by kernel_rfl)) (by decide) (fun K hK => ?_)
                    refine value_ (w1 := ?_) (v := ?_) (by rfl) rfl ?_ ?_
                    rotate_left 2
                    · go_simp
                      constructor
                      · rfl
                      · rfl
                    refine hK.out _ _ ⟨(blk_cell (blk_alloc BK103.out _) 0).trans rfl, (blk_cell (blk_alloc BK103.out _) 1).trans rfl, (blk_cell (blk_alloc BK103.out _) 2).trans rfl, (blk_cell (blk_alloc BK113.out _) 0).trans rfl, (blk_cell (blk_alloc BK113.out _) 1).trans rfl, (blk_cell (blk_alloc BK113.out _) 2).trans rfl⟩ (fun hHeld => ?_)
                    clear hK K
                    refine norm_ (a' := ?_) ?_ ?_
                    rotate_left
                    · show Act.put _ (some 41) _ = _
                      simp only [Act.put, List.setIfInBounds_toArray, List.set_cons_zero, List.set_cons_succ, i64_w, i32_w]
                      rfl
                    refine one_ (i := 5) (N := some 42) #[true, true, true, true, true, true, false, false] rfl rfl (one_of HT_.out (by kernel_rfl)) (by decide) (fun K hK => ?_)
                    refine Kd.R_append_step k27 (w0 := w) w.heap.size (by rfl) (.tmp 38) (.tmp 41) 25 27 (.agg #[(.string ⟨#[]⟩), (.slice none 0 0), (.slice none 0 0)]) 64 rfl Tryd.underlying25 info27 rfl (by decide) (by omega) u104002 x104002_2 (⟨t114, t115, t118⟩ : S27) [.string t114, .slice Ao45 t115.length co45, .slice Ao46 t118.length co46] (fun k_ => some k_ ≠ (u104001 : Value).ownBlock ∧ k_ ≠ gb101 ∧ k_ ≠ gb102 ∧ k_ ≠ gb103 ∧ k_ ≠ gb113) (fun k_ => ((fun k_ => some k_ ≠ (u104001 : Value).ownBlock ∧ k_ ≠ gb101 ∧ k_ ≠ gb102 ∧ k_ ≠ gb103 ∧ k_ ≠ gb113)) k_ ∧ some k_ ≠ (u104002 : Value).ownBlock) rfl rfl ?aP (fun _ hk => hk) ?aF ?aO ?aB ?aS ?aL ?_
                    (case aP => exact k27_mkM _ _ _ (⟨t114, t115, t118⟩ : S27) (Kd.R_mono (Kd.R_types (Kd.R_types (Kd.R_types (Kd.R_types (Kd.R_apart' ((Kd.S_R HO117.out)) (Kd.R_typed HO_104002.out) (by decide)) BK101.out (by decide)) BK102.out (by decide)) BK103.out (by decide)) BK113.out (by decide)) (fun k_ hk => ⟨⟨hk.1.1.1.1.1.2, ⟨hk.1.1.1.2, ⟨hk.1.1.2, ⟨hk.1.2, hk.2⟩⟩⟩⟩, hk.1.1.1.1.2⟩)) (Kd.R_mono (HO120.out) (fun k_ hk => ⟨⟨hk.1.1.1.1.1.2, ⟨hk.1.1.1.2, ⟨hk.1.1.2, ⟨hk.1.2, hk.2⟩⟩⟩⟩, hk.1.1.1.1.2⟩)))
                    (case aB => exact (by repeat (first | (with_reducible first | exact HB.out | apply below_alloc | apply pw_below_drewN | apply below_drew1 | refine below_set ?_ GE101.out | refine below_set ?_ GE102.out | refine below_set ?_ GE103.out | refine below_set ?_ GE113.out) | exact HB.out)))
                    (case aF => exact (fun k_ hk => ⟨Kd.fresh' (Kd.S_lt (by (with_reducible repeat (first | apply Kd.S_alloc | apply Kd.S_drewN | apply Kd.S_drew)); exact HO_104001.out)) k_ hk, Kd.freshB (g := gb101) (o := .cells #[.string a0_0, .slice A0_1 l0_1.length c0_1, .slice (some ad112) l0_2.length c0_2] 27 (0, 0)) (by (with_reducible repeat (first | refine blk_drewN ?_ _ | refine blk_drew ?_ | refine blk_alloc ?_ _)); exact BK101.out) k_ hk, Kd.freshB (g := gb102) (o := .cells #[.string (⟨#[]⟩ : ByteArray), .slice none 0 0, .slice none 0 0] 27 (0, 0)) (by (with_reducible repeat (first | refine blk_drewN ?_ _ | refine blk_drew ?_ | refine blk_alloc ?_ _)); exact BK102.out) k_ hk, Kd.freshB (g := gb103) (o := .cells #[.string a0_0, u104001, u104002] 27 (0, 0)) (by (with_reducible repeat (first | refine blk_drewN ?_ _ | refine blk_drew ?_ | refine blk_alloc ?_ _)); exact BK103.out) k_ hk, Kd.freshB (g := gb113) (o := .cells #[.string ((rd_T27 l0_2 x33_2).f0), .slice A112_1 ((rd_T27 l0_2 x33_2).f1).length c112_1, .slice A112_2 ((rd_T27 l0_2 x33_2).f2).length c112_2] 27 (0, 0)) (by (with_reducible repeat (first | refine blk_drewN ?_ _ | refine blk_drew ?_ | refine blk_alloc ?_ _)); exact BK113.out) k_ hk⟩))
                    (case aO => exact (by (with_reducible repeat (first | apply Kd.R_alloc | apply Kd.R_drewN | apply Kd.R_drew)); exact Kd.R_mono HO_104002.out (fun _ hk => ⟨hk.1.1.1, ⟨hk.1.1.2.1, ⟨hk.1.1.2.2.1, ⟨hk.1.1.2.2.2.1, hk.1.1.2.2.2.2⟩⟩⟩⟩)))
                    (case aS => exact (below_size (by repeat (first | (with_reducible first | exact HB.out | apply below_alloc | apply pw_below_drewN | apply below_drew1 | refine below_set ?_ GE101.out | refine below_set ?_ GE102.out | refine below_set ?_ GE103.out | refine below_set ?_ GE113.out) | exact HB.out))))
                    (case aL => have := LMc35.out; omega)
                    intro v122 w44 ho hb hg hat
                    rw [← Ny121.out] at ho
                    have n0_ := Aside0.mk (Kd.S_over' (by (with_reducible repeat (first | apply Kd.S_alloc | apply Kd.S_drewN | apply Kd.S_drew)); exact HO_104001.out) (Kd.R_typed (by (with_reducible repeat (first | apply Kd.R_alloc | apply Kd.R_drewN | apply Kd.R_drew)); exact HO_104002.out)) (by decide) hg)
                    have n1_ := Aside0.mk (blk_grown (g := gb101) (o := .cells #[.string a0_0, .slice A0_1 l0_1.length c0_1, .slice (some ad112) l0_2.length c0_2] 27 (0, 0)) (by (with_reducible repeat (first | refine blk_drewN ?_ _ | refine blk_drew ?_ | refine blk_alloc ?_ _)); exact BK101.out) hg (Kd.R_away HO_104002.out (fun _ hk => hk.1.1.2.1)))
                    have n2_ := Aside0.mk (blk_grown (g := gb102) (o := .cells #[.string (⟨#[]⟩ : ByteArray), .slice none 0 0, .slice none 0 0] 27 (0, 0)) (by (with_reducible repeat (first | refine blk_drewN ?_ _ | refine blk_drew ?_ | refine blk_alloc ?_ _)); exact BK102.out) hg (Kd.R_away HO_104002.out (fun _ hk => hk.1.1.2.2.1)))
                    have n3_ := Aside0.mk (blk_grown (g := gb103) (o := .cells #[.string a0_0, u104001, u104002] 27 (0, 0)) (by (with_reducible repeat (first | refine blk_drewN ?_ _ | refine blk_drew ?_ | refine blk_alloc ?_ _)); exact BK103.out) hg (Kd.R_away HO_104002.out (fun _ hk => hk.1.1.2.2.2.1)))
                    have n4_ := Aside0.mk (blk_grown (g := gb113) (o := .cells #[.string ((rd_T27 l0_2 x33_2).f0), .slice A112_1 ((rd_T27 l0_2 x33_2).f1).length c112_1, .slice A112_2 ((rd_T27 l0_2 x33_2).f2).length c112_2] 27 (0, 0)) (by (with_reducible repeat (first | refine blk_drewN ?_ _ | refine blk_drew ?_ | refine blk_alloc ?_ _)); exact BK113.out) hg (Kd.R_away HO_104002.out (fun _ hk => hk.1.1.2.2.2.2)))
                    have n5_ := Aside0.mk (hb)
                    have n6_ := Aside0.mk (ho)
                    clear HO_104001
                    clear BK101
                    clear BK102
                    clear BK103
                    clear BK113
                    clear HB
                    clear HO_104002
                    clear HO117
                    clear HO120
                    have HO_104001 := n0_
                    have BK101 := n1_
                    have BK102 := n2_
                    have BK103 := n3_
                    have BK113 := n4_
                    have HB := n5_
                    have HO123 := n6_
                    clear n0_ n1_ n2_ n3_ n4_ n5_ n6_
                    clear ho hb hg hat
                    obtain ⟨Ao47, co47, eo47⟩ := Kd.R_slice HO123.out
                    (first | subst eo47 | (injection eo47 with f1_ f2_ f3_; have f4_ := f1_.symm; have f5_ := f3_.symm; clear f1_ f2_ f3_; subst f4_; subst f5_))
                    refine hK.out _ _ ⟨(blk_cell BK103.out 0).trans rfl, (blk_cell BK103.out 1).trans rfl, (blk_cell BK103.out 2).trans rfl, (blk_cell BK113.out 0).trans rfl, (blk_cell BK113.out 1).trans rfl, (blk_cell BK113.out 2).trans rfl⟩ (fun hHeld => ?_)
                    clear hK K
                    refine norm_ (a' := ?_) ?_ ?_
                    rotate_left
                    · show Act.put _ (some 42) _ = _
                      simp only [Act.put, List.setIfInBounds_toArray, List.set_cons_zero, List.set_cons_succ, i64_w, i32_w]
                      rfl
                    refine pure_ (i := 6) (N := some 43) (v := ?_) (a' := ?_) #[true, true, true, true, true, true, true, false] rfl rfl (any_of HT_.out (by kernel_rfl)) (fun _ _ _ h => h) (Or.inl ⟨by rfl, ?_⟩) ?_ ?_
                    rotate_left
                    · intro w'
                      go_simp
                      with_reducible rfl
                    rotate_left
                    · simp only [Act.put, List.setIfInBounds_toArray, List.set_cons_zero, List.set_cons_succ, i64_w, i32_w]
                      rfl
                    refine last_ (i := 7) (N := none) #[true, true, true, true, true, true, true, true] rfl rfl (one_of HT_.out (by kernel_rfl)) (by decide) (fun K hK => ?_)
                    have hs48 : w44.cell? ⟨gb103, 2, none⟩ = some (u104002) := (blk_cell BK103.out 2).trans rfl
                    have hfs48 := blk_frozen BK103.out 2
                    have hns48_0 := NB101_103.out
                    have hns48_1 := NB102_103.out
                    have hns48_3 := NB113_103.out
                    have hms48_0 := NB103_101.out
                    have hms48_1 := NB103_102.out
                    have hms48_3 := NB103_113.out
                    refine skip_ (w1 := ?_) (by rfl) rfl ?_ ?_
                    rotate_left
                    · go_simp
                      rfl
                    refine hK.out _ _ ?_
                    clear hK K
                    refine done_ (done_of HT_.out (by kernel_rfl)) ?_
                    try go_wp2
                    go_roundg k2
                    case measure => have := HK1.out; have := HK2.out; omega
                    case rel => exact ⟨(wrap64 (x33_2 + 1)), (y121), (.slice Ao47 y121.length co47), (by first | rfl | (simp; done) | (simp [*]; done)), H', ⟨by have := HK1.out; have := HK2.out; omega⟩, ⟨by (with_reducible repeat (first | apply Kd.S_alloc | apply Kd.S_drewN | apply Kd.S_drew)); exact Kd.S_mono (Kd.S_far (p := ⟨gb103, 2, none⟩) (Kd.S_types HO_104001.out BK103.out (by decide)) (fun _ hk => hk.2) (.slice Ao47 y121.length co47)) (fun _ hk => trivial)⟩, ⟨by (with_reducible repeat (first | apply Kd.R_alloc | apply Kd.R_drewN | apply Kd.R_drew)); exact Kd.R_mono (Kd.R_far (p := ⟨gb103, 2, none⟩) (Kd.R_mono HO123.out (fun k_ hk => (⟨hk, hk.2.2.2.1⟩ : _ ∧ k_ ≠ gb103))) (fun _ hk => hk.2) (.slice Ao47 y121.length co47)) (fun _ hk => ⟨hk.1.1, ⟨hk.1.2.1, ⟨hk.1.2.2.1, hk.1.2.2.2.1⟩⟩⟩)⟩, ⟨by (with_reducible repeat (first | refine blk_drewN ?_ _ | refine blk_drew ?_ | refine blk_alloc ?_ _)); refine blk_far ?_ NB101_103.out _; (with_reducible repeat (first | refine blk_drewN ?_ _ | refine blk_drew ?_ | refine blk_alloc ?_ _)); exact BK101.out⟩, ⟨by (with_reducible repeat (first | refine blk_drewN ?_ _ | refine blk_drew ?_ | refine blk_alloc ?_ _)); refine blk_far ?_ NB102_103.out _; (with_reducible repeat (first | refine blk_drewN ?_ _ | refine blk_drew ?_ | refine blk_alloc ?_ _)); exact BK102.out⟩, ⟨by (with_reducible repeat (first | refine blk_drewN ?_ _ | refine blk_drew ?_ | refine blk_alloc ?_ _)); refine blk_put (cs := #[.string a0_0, u104001, u104002]) ?_ 2 _ rfl; (with_reducible repeat (first | refine blk_drewN ?_ _ | refine blk_drew ?_ | refine blk_alloc ?_ _)); exact BK103.out⟩, ⟨by repeat (first | (with_reducible first | exact HB.out | apply below_alloc | apply pw_below_drewN | apply below_drew1 | refine below_set ?_ GE101.out | refine below_set ?_ GE102.out | refine below_set ?_ GE103.out | refine below_set ?_ GE113.out) | exact HB.out)⟩⟩
                  · rw [if_neg c35] at H
                    exact absurd H (by simp)
                · rw [if_neg c33] at H
                  exact absurd H (by simp)
              · rw [if_neg c32] at H
                exact absurd H (by simp)
            · rw [if_neg c31] at H
              have c31b0 : decide (x33_2 < (l0_2.length : Int)) = false := decide_eq_false c31
              clear c31
              simp only [Option.some.injEq, Prod.mk.injEq] at H
              obtain ⟨rfl, rfl, rfl⟩ := H
              have hnb49 := NB103_101.out
              have hnc49 := NB101_103.out
              have hnb50 := NB103_102.out
              have hnc50 := NB102_103.out
              have hcz51_0 : wr.cell? ⟨gb103, 0, none⟩ = some (.string a0_0) := (blk_cell BK103.out 0).trans rfl
              have hcz51_1 : wr.cell? ⟨gb103, 1, none⟩ = some (u104001) := (blk_cell BK103.out 1).trans rfl
              have hcz51_2 : wr.cell? ⟨gb103, 2, none⟩ = some (u104002) := (blk_cell BK103.out 2).trans rfl
              have hfz51_0 := blk_frozen BK103.out 0
              have hfz51_1 := blk_frozen BK103.out 1
              have hfz51_2 := blk_frozen BK103.out 2
              have hnb52 := NB102_101.out
              have hnc52 := NB101_102.out
              have hcz53_0 : wr.cell? ⟨gb102, 0, none⟩ = some (.string (⟨#[]⟩ : ByteArray)) := (blk_cell BK102.out 0).trans rfl
              have hcz53_1 : wr.cell? ⟨gb102, 1, none⟩ = some (.slice none 0 0) := (blk_cell BK102.out 1).trans rfl
              have hcz53_2 : wr.cell? ⟨gb102, 2, none⟩ = some (.slice none 0 0) := (blk_cell BK102.out 2).trans rfl
              have hfz53_0 := blk_frozen BK102.out 0
              have hfz53_1 := blk_frozen BK102.out 1
              have hfz53_2 := blk_frozen BK102.out 2
              obtain ⟨Ao54, co54, eo54⟩ := Kd.S_slice HO_104001.out
              subst eo54
              obtain ⟨Ao55, co55, eo55⟩ := Kd.R_slice HO_104002.out
              subst eo55
              go_wp2
              refine bodyPost_ret (results_cell_row rfl _ _ gb102 27 #[.string a0_0, .slice Ao54 x104001_1.length co54, .slice Ao55 x104002_2.length co55] (0, 0) _ rfl (by (with_reducible repeat (first | refine blk_drewN ?_ _ | refine blk_drew ?_ | refine blk_alloc ?_ _)); refine blk_put (cs := #[.string a0_0, .slice Ao54 x104001_1.length co54, .slice none 0 0]) ?_ 2 _ rfl; (with_reducible repeat (first | refine blk_drewN ?_ _ | refine blk_drew ?_ | refine blk_alloc ?_ _)); refine blk_put (cs := #[.string a0_0, .slice none 0 0, .slice none 0 0]) ?_ 1 _ rfl; (with_reducible repeat (first | refine blk_drewN ?_ _ | refine blk_drew ?_ | refine blk_alloc ?_ _)); refine blk_put (cs := #[.string (⟨#[]⟩ : ByteArray), .slice none 0 0, .slice none 0 0]) ?_ 0 _ rfl; (with_reducible repeat (first | refine blk_drewN ?_ _ | refine blk_drew ?_ | refine blk_alloc ?_ _)); exact BK102.out) Tryd.underlying27 rfl (by kernel_rfl)) rfl ?_
              exact ⟨_, _, by first | rfl | (simp [errW_none, errW_some] <;> rfl) | (simp [*, errW_none, errW_some] <;> rfl), by (with_reducible repeat (first | apply Kd.S_alloc | apply Kd.S_drewN | apply Kd.S_drew)); exact Kd.S_mono (Kd.S_far (p := ⟨gb102, 2, none⟩) (Kd.S_far (p := ⟨gb102, 1, none⟩) (Kd.S_far (p := ⟨gb102, 0, none⟩) (Kd.S_types HO_104001.out BK102.out (by decide)) (fun _ hk => hk.2) (.string a0_0)) (fun _ hk => hk.2) (.slice Ao54 x104001_1.length co54)) (fun _ hk => hk.2) (.slice Ao55 x104002_2.length co55)) (fun _ hk => trivial), by (with_reducible repeat (first | apply Kd.R_alloc | apply Kd.R_drewN | apply Kd.R_drew)); exact Kd.R_mono (Kd.R_far (p := ⟨gb102, 2, none⟩) (Kd.R_far (p := ⟨gb102, 1, none⟩) (Kd.R_far (p := ⟨gb102, 0, none⟩) (Kd.R_mono HO_104002.out (fun k_ hk => (⟨hk, hk.2.2.1⟩ : _ ∧ k_ ≠ gb102))) (fun _ hk => hk.2) (.string a0_0)) (fun _ hk => hk.2) (.slice Ao54 x104001_1.length co54)) (fun _ hk => hk.2) (.slice Ao55 x104002_2.length co55)) (fun _ hk => hk.1.1), by repeat (first | (with_reducible first | exact HB.out | apply below_alloc | apply pw_below_drewN | apply below_drew1 | refine below_set ?_ GE101.out | refine below_set ?_ GE102.out | refine below_set ?_ GE103.out) | exact HB.out)⟩
end Go.Proofs.YtkopmkinlanhoaaDoor.PP

namespace Go.Proofs.YtkopmkinlanhoaaDoor.PP
open Go.RowKit Go.Proofs.YtkopmkinlanhoaaDoorW.PrintWords Go.Proofs.YtkopmkinlanhoaaDoorW.PrintLast Go.Proofs.YtkopmkinlanhoaaDoorW.PrintMore
attribute [local go_sem] max2_int min2_int max_two min_two max_three min_three max_four min_four   -- for this text's walks alone
set_option linter.unusedVariables false
set_option linter.unusedSimpArgs false
def path_Get.l0 : Nat → List Int → Int → Int → ByteArray → List (S62) → List (S27) → Option (ByteArray × (List (S62)) × (List (S27)) × Int)
  | 0, _, _, _, _, _, _ => none
  | k + 1, x15, x16, x17, x127000, x127001, x127002 => if x17 < x16 then (if 0 ≤ x17 then (if x17 < (x15.length : Int) then (if (rd x15 x17) < 0 then (some ((⟨#[]⟩ : ByteArray), ([] : List (S62)), ([] : List (S27)), 8)) else (if (rd x15 x17) ≥ (x127002.length : Int) then (some ((⟨#[]⟩ : ByteArray), ([] : List (S62)), ([] : List (S27)), 8)) else (if 0 ≤ (rd x15 x17) then (if (rd x15 x17) < (x127002.length : Int) then (path_Get.l0 k x15 x16 (wrap64 (x17 + 1)) ((rd_T27 x127002 (rd x15 x17)).f0) ((rd_T27 x127002 (rd x15 x17)).f1) ((rd_T27 x127002 (rd x15 x17)).f2)) else (none)) else (none)))) else (none)) else (none)) else ((tree_CloneNode.f k x127000 x127001 x127002).bind fun bt129 => (some (bt129.1, bt129.2.1, bt129.2.2, 0)))
def path_Get.f (k : Nat) (a0_0 : Int) (l0_1 : List (S48)) (a0_2 : ByteArray) (l0_3 : List (S62)) (l0_4 : List (S27)) (l1 : List Int) : Option (ByteArray × (List (S62)) × (List (S27)) × Int) := if (l1.length : Int) > 16 then (some ((⟨#[]⟩ : ByteArray), ([] : List (S62)), ([] : List (S27)), 6)) else (path_Get.l0 k l1 (l1.length : Int) 0 a0_2 l0_3 l0_4)
theorem path_Get.mono_l : ∀ k, (∀ y0 y1 y2 y3 y4 y5, LeO (path_Get.l0 k y0 y1 y2 y3 y4 y5) (path_Get.l0 (k + 1) y0 y1 y2 y3 y4 y5))
  | 0 => fun _ _ _ _ _ _ r h => by simp [path_Get.l0] at h
  | k + 1 => by
    have ih0 := path_Get.mono_l k
    · intro y0 y1 y2 y3 y4 y5
      unfold path_Get.l0
      repeat' first
      | (with_reducible exact ih0 _ _ _ _ _ _)
      | (with_reducible exact tree_CloneNode.mono _ _ _ _)
      | (with_reducible exact LeO.refl _)
      | (with_reducible exact LeO.none _)
      | (with_reducible refine LeO.ite ?_ ?_)
      | (with_reducible refine LeO.bind ?_ (fun _ => ?_))
      | exact ih0 _ _ _ _ _ _
      | exact tree_CloneNode.mono _ _ _ _
      | exact LeO.none _
      | refine LeO.ite ?_ ?_
      | refine LeO.bind ?_ (fun _ => ?_)
theorem path_Get.mono : ∀ a0 a1 a2 a3 a4 a5 k, LeO (path_Get.f k a0 a1 a2 a3 a4 a5) (path_Get.f (k + 1) a0 a1 a2 a3 a4 a5) := by
  intro a0 a1 a2 a3 a4 a5 k
  have ih0 := path_Get.mono_l k
  unfold path_Get.f
  repeat' first
      | (with_reducible exact ih0 _ _ _ _ _ _)
      | (with_reducible exact tree_CloneNode.mono _ _ _ _)
      | (with_reducible exact LeO.refl _)
      | (with_reducible exact LeO.none _)
      | (with_reducible refine LeO.ite ?_ ?_)
      | (with_reducible refine LeO.bind ?_ (fun _ => ?_))
      | exact ih0 _ _ _ _ _ _
      | exact tree_CloneNode.mono _ _ _ _
      | exact LeO.none _
      | refine LeO.ite ?_ ?_
      | refine LeO.bind ?_ (fun _ => ?_)
set_option maxHeartbeats 8000000 in
set_option maxRecDepth 100000 in
theorem path_Get.calls (k : Nat) (a0_0 : Int) (A0_1 : Option Addr) (c0_1 : Nat) (l0_1 : List (S48)) (a0_2 : ByteArray) (P0_3_ : Nat → Prop) (A0_3 : Option Addr) (c0_3 : Nat) (l0_3 : List (S62)) (P0_4_ : Nat → Prop) (A0_4 : Option Addr) (c0_4 : Nat) (l0_4 : List (S27)) (A1 : Option Addr) (c1 : Nat) (l1 : List Int) (r1 : ByteArray) (r2 : List (S62)) (r3 : List (S27)) (r4 : Int) (w : World) (hr0_1 : Kd.C k48 w A0_1 l0_1.length l0_1) (hc0_1 : l0_1.length ≤ c0_1) (hs0_3 : Kd.V k62 62 w w.heap.size (fun k_ => P0_3_ k_) (.slice A0_3 l0_3.length c0_3) l0_3) (hs0_4 : Kd.V k27 27 w w.heap.size (fun k_ => P0_4_ k_) (.slice A0_4 l0_4.length c0_4) l0_4) (hr1 : Kd.C (Kd.int .i64) w A1 l1.length l1) (hc1 : l1.length ≤ c1) (h : path_Get.f k a0_0 l0_1 a0_2 l0_3 l0_4 l1 = some (r1, r2, r3, r4)) :
    Calls Tryd.prog 15 #[.agg #[.int .u32 a0_0, .slice A0_1 l0_1.length c0_1, .string a0_2, .slice A0_3 l0_3.length c0_3, .slice A0_4 l0_4.length c0_4], .slice A1 l1.length c1] w fun e w' => ∃ v1_ v2_ : Value, e = .returned (.tuple #[.agg #[.string r1, v1_, v2_], .int .i64 r4]) ∧ Kd.S k62 62 w' w.heap.size (fun k_ => (w.heap.size ≤ k_)) v1_ r2 ∧ Kd.R k27 27 w' w.heap.size (fun k_ => (w.heap.size ≤ k_) ∧ some k_ ≠ (v1_ : Value).ownBlock) v2_ r3 ∧ Below w.heap.size w w' := by
  have hu29 := Tryd.underlying29
  have hu27 := Tryd.underlying27
  have HR0_1 := Aside0.mk hr0_1
  have HC0_1 := Aside0.mk hc0_1
  clear hr0_1 hc0_1
  have HO0_3 := Aside0.mk (show Kd.V k62 62 w w.heap.size (fun k_ => ((P0_3_ k_ ∨ P0_4_ k_) ∨ w.heap.size ≤ k_)) (.slice A0_3 l0_3.length c0_3) l0_3 from Kd.V_mono hs0_3 (fun k_ hk => .inl (.inl hk)))
  have HO0_4 := Aside0.mk (show Kd.V k27 27 w w.heap.size (fun k_ => ((P0_3_ k_ ∨ P0_4_ k_) ∨ w.heap.size ≤ k_)) (.slice A0_4 l0_4.length c0_4) l0_4 from Kd.V_mono hs0_4 (fun k_ hk => .inl (.inr hk)))
  have HR1 := Aside0.mk hr1
  have HC1 := Aside0.mk hc1
  clear hr1 hc1
  have HB := Aside0.mk (Below.refl w.heap.size w)
  have H : (if (l1.length : Int) > 16 then (some ((⟨#[]⟩ : ByteArray), ([] : List (S62)), ([] : List (S27)), 6)) else (path_Get.l0 k l1 (l1.length : Int) 0 a0_2 l0_3 l0_4)) = some (r1, r2, r3, r4) := h
  clear h
  by_cases c3 : (l1.length : Int) > 16
  · rw [if_pos c3] at H
    have c3b0 : decide (16 < (l1.length : Int)) = true := decide_eq_true c3
    have c3b1 : decide (16 < l1.length) = true := decide_eq_true (by omega)
    clear c3
    simp only [Option.some.injEq, Prod.mk.injEq] at H
    obtain ⟨rfl, rfl, rfl, rfl⟩ := H
    go_enter Tryd.func15, Tryd.ntmps15
    go_wp2_with (first | ((with_reducible refine gate_dst (N := 2) rfl ?_); (try (refine gate_guard (by rfl) ?_; dsimp only)); refine box_event ?hg (N := 2) ?hd (cs := #[.int .u32 a0_0, .slice A0_1 l0_1.length c0_1, .string a0_2, .slice A0_3 l0_3.length c0_3, .slice A0_4 l0_4.length c0_4]) (t := 29) ?hr ?_; (case hd => rfl); (case hg => rfl); (case hr => first | (go_simp; done) | (go_simp; rfl)); intro gb124 hg w4 hbox hb; have n0_ := Aside0.mk (Kd.V_below (Kd.V_elderB (by (with_reducible repeat (first | apply Kd.V_alloc | apply Kd.V_drewN | apply Kd.V_drew)); exact HO0_3.out) gb124 (Nat.le_of_eq hg.symm)) hb); have n1_ := Aside0.mk (Kd.V_below (Kd.V_elderB (by (with_reducible repeat (first | apply Kd.V_alloc | apply Kd.V_drewN | apply Kd.V_drew)); exact HO0_4.out) gb124 (Nat.le_of_eq hg.symm)) hb); have n2_ := Aside0.mk (below_step (by repeat (first | (with_reducible first | exact HB.out | apply below_alloc | apply pw_below_drewN | apply below_drew1) | exact HB.out)) hb); have n3_ := Aside0.mk (hbox); have n4_ := Aside0.mk ((by rw [hg]; exact (below_size (by repeat (first | (with_reducible first | exact HB.out | apply below_alloc | apply pw_below_drewN | apply below_drew1) | exact HB.out))) : w.heap.size ≤ gb124)); have n5_ := Aside0.mk ((by rw [hg]; exact (below_size (by repeat (first | (with_reducible first | exact HB.out | apply below_alloc | apply pw_below_drewN | apply below_drew1) | exact HB.out))) : w.heap.size ≤ gb124)); clear HO0_3; clear HO0_4; clear HB; have HO0_3 := n0_; have HO0_4 := n1_; have HB := n2_; have BK124 := n3_; have GW124 := n4_; have GE124 := n5_; clear n0_ n1_ n2_ n3_ n4_ n5_; clear hb hbox hg) | ((with_reducible refine gate_dst (N := 4) rfl ?_); (try (refine gate_guard (by rfl) ?_; dsimp only)); refine box_event ?hg (N := 4) ?hd (cs := #[.string (⟨#[]⟩ : ByteArray), .slice none 0 0, .slice none 0 0]) (t := 27) ?hr ?_; (case hd => rfl); (case hg => rfl); (case hr => first | (go_simp; done) | (go_simp; rfl)); intro gb125 hg w5 hbox hb; have n0_ := Aside0.mk (Kd.V_below (Kd.V_elderB (by (with_reducible repeat (first | apply Kd.V_alloc | apply Kd.V_drewN | apply Kd.V_drew)); exact HO0_3.out) gb125 (Nat.le_of_eq hg.symm)) hb); have n1_ := Aside0.mk (Kd.V_below (Kd.V_elderB (by (with_reducible repeat (first | apply Kd.V_alloc | apply Kd.V_drewN | apply Kd.V_drew)); exact HO0_4.out) gb125 (Nat.le_of_eq hg.symm)) hb); have n2_ := Aside0.mk (blk_below (g := gb124) (o := .cells #[.int .u32 a0_0, .slice A0_1 l0_1.length c0_1, .string a0_2, .slice A0_3 l0_3.length c0_3, .slice A0_4 l0_4.length c0_4] 29 (0, 0)) (by (with_reducible repeat (first | refine blk_drewN ?_ _ | refine blk_drew ?_ | refine blk_alloc ?_ _)); exact BK124.out) hb); have n3_ := Aside0.mk (below_step (by repeat (first | (with_reducible first | exact HB.out | apply below_alloc | apply pw_below_drewN | apply below_drew1 | refine below_set ?_ GE124.out) | exact HB.out)) hb); have n4_ := Aside0.mk (hbox); have n5_ := Aside0.mk ((by rw [hg]; exact (below_size (by repeat (first | (with_reducible first | exact HB.out | apply below_alloc | apply pw_below_drewN | apply below_drew1 | refine below_set ?_ GE124.out) | exact HB.out))) : w.heap.size ≤ gb125)); have n6_ := Aside0.mk ((by rw [hg]; exact (below_size (by repeat (first | (with_reducible first | exact HB.out | apply below_alloc | apply pw_below_drewN | apply below_drew1 | refine below_set ?_ GE124.out) | exact HB.out))) : w.heap.size ≤ gb125)); have n7_ := Aside0.mk ((by rw [hg]; exact Nat.ne_of_lt (blk_lt (g := gb124) (o := .cells #[.int .u32 a0_0, .slice A0_1 l0_1.length c0_1, .string a0_2, .slice A0_3 l0_3.length c0_3, .slice A0_4 l0_4.length c0_4] 29 (0, 0)) (by (with_reducible repeat (first | refine blk_drewN ?_ _ | refine blk_drew ?_ | refine blk_alloc ?_ _)); exact BK124.out)) : gb124 ≠ gb125)); have n8_ := Aside0.mk ((by rw [hg]; exact Nat.ne_of_gt (blk_lt (g := gb124) (o := .cells #[.int .u32 a0_0, .slice A0_1 l0_1.length c0_1, .string a0_2, .slice A0_3 l0_3.length c0_3, .slice A0_4 l0_4.length c0_4] 29 (0, 0)) (by (with_reducible repeat (first | refine blk_drewN ?_ _ | refine blk_drew ?_ | refine blk_alloc ?_ _)); exact BK124.out)) : gb125 ≠ gb124)); clear HO0_3; clear HO0_4; clear BK124; clear HB; have HO0_3 := n0_; have HO0_4 := n1_; have BK124 := n2_; have HB := n3_; have BK125 := n4_; have GW125 := n5_; have GE125 := n6_; have NB124_125 := n7_; have NB125_124 := n8_; clear n0_ n1_ n2_ n3_ n4_ n5_ n6_ n7_ n8_; clear hb hbox hg; have hnb6 := NB125_124.out; have hnc6 := NB124_125.out; have hcz7_0 : w5.cell? ⟨gb125, 0, none⟩ = some (.string (⟨#[]⟩ : ByteArray)) := (blk_cell BK125.out 0).trans rfl; have hcz7_1 : w5.cell? ⟨gb125, 1, none⟩ = some (.slice none 0 0) := (blk_cell BK125.out 1).trans rfl; have hcz7_2 : w5.cell? ⟨gb125, 2, none⟩ = some (.slice none 0 0) := (blk_cell BK125.out 2).trans rfl; have hfz7_0 := blk_frozen BK125.out 0; have hfz7_1 := blk_frozen BK125.out 1; have hfz7_2 := blk_frozen BK125.out 2))
    refine bodyPost_ret (results_ct rfl _ _ gb125 27 #[.string (⟨#[]⟩ : ByteArray), .slice none 0 0, .slice none 0 0] (0, 0) _ rfl (by (with_reducible repeat (first | refine blk_drewN ?_ _ | refine blk_drew ?_ | refine blk_alloc ?_ _)); refine blk_put (cs := #[.string (⟨#[]⟩ : ByteArray), .slice none 0 0, .slice none 0 0]) ?_ 2 _ rfl; (with_reducible repeat (first | refine blk_drewN ?_ _ | refine blk_drew ?_ | refine blk_alloc ?_ _)); refine blk_put (cs := #[.string (⟨#[]⟩ : ByteArray), .slice none 0 0, .slice none 0 0]) ?_ 1 _ rfl; (with_reducible repeat (first | refine blk_drewN ?_ _ | refine blk_drew ?_ | refine blk_alloc ?_ _)); refine blk_put (cs := #[.string (⟨#[]⟩ : ByteArray), .slice none 0 0, .slice none 0 0]) ?_ 0 _ rfl; (with_reducible repeat (first | refine blk_drewN ?_ _ | refine blk_drew ?_ | refine blk_alloc ?_ _)); exact BK125.out) Tryd.underlying27 rfl (by kernel_rfl)) rfl ?_
    exact ⟨_, _, by first | rfl | (simp [errW_none, errW_some] <;> rfl) | (simp [*, errW_none, errW_some] <;> rfl), by first | exact Kd.S_nil _ _ _ _ _ | exact Kd.N_nil _ _ _ _ _ | exact Kd.V_nil _ _ _ _ _ | exact Kd.Q_nil _ _ _ _ _ | exact Kd.R_nil _ _ _ _ _, by first | exact Kd.R_nil _ _ _ _ _ | exact Kd.N_nil _ _ _ _ _ | exact Kd.V_nil _ _ _ _ _ | exact Kd.Q_nil _ _ _ _ _ | exact Kd.S_nil _ _ _ _ _, by repeat (first | (with_reducible first | exact HB.out | apply below_alloc | apply pw_below_drewN | apply below_drew1 | refine below_set ?_ GE124.out | refine below_set ?_ GE125.out) | exact HB.out)⟩
  · rw [if_neg c3] at H
    have c3b0 : decide (16 < (l1.length : Int)) = false := decide_eq_false c3
    have c3b1 : decide (16 < l1.length) = false := decide_eq_false (by omega)
    clear c3
    have H' := Aside0.mk H
    clear H
    go_enter Tryd.func15, Tryd.ntmps15
    go_wp2_with (first | ((with_reducible refine gate_dst (N := 2) rfl ?_); (try (refine gate_guard (by rfl) ?_; dsimp only)); refine box_event ?hg (N := 2) ?hd (cs := #[.int .u32 a0_0, .slice A0_1 l0_1.length c0_1, .string a0_2, .slice A0_3 l0_3.length c0_3, .slice A0_4 l0_4.length c0_4]) (t := 29) ?hr ?_; (case hd => rfl); (case hg => rfl); (case hr => first | (go_simp; done) | (go_simp; rfl)); intro gb124 hg w8 hbox hb; have n0_ := Aside0.mk (Kd.V_below (Kd.V_elderB (by (with_reducible repeat (first | apply Kd.V_alloc | apply Kd.V_drewN | apply Kd.V_drew)); exact HO0_3.out) gb124 (Nat.le_of_eq hg.symm)) hb); have n1_ := Aside0.mk (Kd.V_below (Kd.V_elderB (by (with_reducible repeat (first | apply Kd.V_alloc | apply Kd.V_drewN | apply Kd.V_drew)); exact HO0_4.out) gb124 (Nat.le_of_eq hg.symm)) hb); have n2_ := Aside0.mk (below_step (by repeat (first | (with_reducible first | exact HB.out | apply below_alloc | apply pw_below_drewN | apply below_drew1) | exact HB.out)) hb); have n3_ := Aside0.mk (hbox); have n4_ := Aside0.mk ((by rw [hg]; exact (below_size (by repeat (first | (with_reducible first | exact HB.out | apply below_alloc | apply pw_below_drewN | apply below_drew1) | exact HB.out))) : w.heap.size ≤ gb124)); have n5_ := Aside0.mk ((by rw [hg]; exact (below_size (by repeat (first | (with_reducible first | exact HB.out | apply below_alloc | apply pw_below_drewN | apply below_drew1) | exact HB.out))) : w.heap.size ≤ gb124)); clear HO0_3; clear HO0_4; clear HB; have HO0_3 := n0_; have HO0_4 := n1_; have HB := n2_; have BK124 := n3_; have GW124 := n4_; have GE124 := n5_; clear n0_ n1_ n2_ n3_ n4_ n5_; clear hb hbox hg) | ((with_reducible refine gate_dst (N := 4) rfl ?_); (try (refine gate_guard (by rfl) ?_; dsimp only)); refine box_event ?hg (N := 4) ?hd (cs := #[.string (⟨#[]⟩ : ByteArray), .slice none 0 0, .slice none 0 0]) (t := 27) ?hr ?_; (case hd => rfl); (case hg => rfl); (case hr => first | (go_simp; done) | (go_simp; rfl)); intro gb125 hg w9 hbox hb; have n0_ := Aside0.mk (Kd.V_below (Kd.V_elderB (by (with_reducible repeat (first | apply Kd.V_alloc | apply Kd.V_drewN | apply Kd.V_drew)); exact HO0_3.out) gb125 (Nat.le_of_eq hg.symm)) hb); have n1_ := Aside0.mk (Kd.V_below (Kd.V_elderB (by (with_reducible repeat (first | apply Kd.V_alloc | apply Kd.V_drewN | apply Kd.V_drew)); exact HO0_4.out) gb125 (Nat.le_of_eq hg.symm)) hb); have n2_ := Aside0.mk (blk_below (g := gb124) (o := .cells #[.int .u32 a0_0, .slice A0_1 l0_1.length c0_1, .string a0_2, .slice A0_3 l0_3.length c0_3, .slice A0_4 l0_4.length c0_4] 29 (0, 0)) (by (with_reducible repeat (first | refine blk_drewN ?_ _ | refine blk_drew ?_ | refine blk_alloc ?_ _)); exact BK124.out) hb); have n3_ := Aside0.mk (below_step (by repeat (first | (with_reducible first | exact HB.out | apply below_alloc | apply pw_below_drewN | apply below_drew1 | refine below_set ?_ GE124.out) | exact HB.out)) hb); have n4_ := Aside0.mk (hbox); have n5_ := Aside0.mk ((by rw [hg]; exact (below_size (by repeat (first | (with_reducible first | exact HB.out | apply below_alloc | apply pw_below_drewN | apply below_drew1 | refine below_set ?_ GE124.out) | exact HB.out))) : w.heap.size ≤ gb125)); have n6_ := Aside0.mk ((by rw [hg]; exact (below_size (by repeat (first | (with_reducible first | exact HB.out | apply below_alloc | apply pw_below_drewN | apply below_drew1 | refine below_set ?_ GE124.out) | exact HB.out))) : w.heap.size ≤ gb125)); have n7_ := Aside0.mk ((by rw [hg]; exact Nat.ne_of_lt (blk_lt (g := gb124) (o := .cells #[.int .u32 a0_0, .slice A0_1 l0_1.length c0_1, .string a0_2, .slice A0_3 l0_3.length c0_3, .slice A0_4 l0_4.length c0_4] 29 (0, 0)) (by (with_reducible repeat (first | refine blk_drewN ?_ _ | refine blk_drew ?_ | refine blk_alloc ?_ _)); exact BK124.out)) : gb124 ≠ gb125)); have n8_ := Aside0.mk ((by rw [hg]; exact Nat.ne_of_gt (blk_lt (g := gb124) (o := .cells #[.int .u32 a0_0, .slice A0_1 l0_1.length c0_1, .string a0_2, .slice A0_3 l0_3.length c0_3, .slice A0_4 l0_4.length c0_4] 29 (0, 0)) (by (with_reducible repeat (first | refine blk_drewN ?_ _ | refine blk_drew ?_ | refine blk_alloc ?_ _)); exact BK124.out)) : gb125 ≠ gb124)); clear HO0_3; clear HO0_4; clear BK124; clear HB; have HO0_3 := n0_; have HO0_4 := n1_; have BK124 := n2_; have HB := n3_; have BK125 := n4_; have GW125 := n5_; have GE125 := n6_; have NB124_125 := n7_; have NB125_124 := n8_; clear n0_ n1_ n2_ n3_ n4_ n5_ n6_ n7_ n8_; clear hb hbox hg; have hnb10 := NB124_125.out; have hnc10 := NB125_124.out; have hcz11_0 : w9.cell? ⟨gb124, 0, none⟩ = some (.int .u32 a0_0) := (blk_cell BK124.out 0).trans rfl; have hcz11_1 : w9.cell? ⟨gb124, 1, none⟩ = some (.slice A0_1 l0_1.length c0_1) := (blk_cell BK124.out 1).trans rfl; have hcz11_2 : w9.cell? ⟨gb124, 2, none⟩ = some (.string a0_2) := (blk_cell BK124.out 2).trans rfl; have hcz11_3 : w9.cell? ⟨gb124, 3, none⟩ = some (.slice A0_3 l0_3.length c0_3) := (blk_cell BK124.out 3).trans rfl; have hcz11_4 : w9.cell? ⟨gb124, 4, none⟩ = some (.slice A0_4 l0_4.length c0_4) := (blk_cell BK124.out 4).trans rfl; have hfz11_0 := blk_frozen BK124.out 0; have hfz11_1 := blk_frozen BK124.out 1; have hfz11_2 := blk_frozen BK124.out 2; have hfz11_3 := blk_frozen BK124.out 3; have hfz11_4 := blk_frozen BK124.out 4) | ((with_reducible refine gate_dst (N := 6) rfl ?_); (try (refine gate_guard (by rfl) ?_; dsimp only)); refine box_event ?hg (N := 6) ?hd (cs := #[.string (⟨#[]⟩ : ByteArray), .slice none 0 0, .slice none 0 0]) (t := 27) ?hr ?_; (case hd => rfl); (case hg => rfl); (case hr => first | (go_simp; done) | (go_simp; rfl)); intro gb126 hg w12 hbox hb; have n0_ := Aside0.mk (Kd.V_below (Kd.V_elderB (by (with_reducible repeat (first | apply Kd.V_alloc | apply Kd.V_drewN | apply Kd.V_drew)); exact HO0_3.out) gb126 (Nat.le_of_eq hg.symm)) hb); have n1_ := Aside0.mk (Kd.V_below (Kd.V_elderB (by (with_reducible repeat (first | apply Kd.V_alloc | apply Kd.V_drewN | apply Kd.V_drew)); exact HO0_4.out) gb126 (Nat.le_of_eq hg.symm)) hb); have n2_ := Aside0.mk (blk_below (g := gb124) (o := .cells #[.int .u32 a0_0, .slice A0_1 l0_1.length c0_1, .string a0_2, .slice A0_3 l0_3.length c0_3, .slice A0_4 l0_4.length c0_4] 29 (0, 0)) (by (with_reducible repeat (first | refine blk_drewN ?_ _ | refine blk_drew ?_ | refine blk_alloc ?_ _)); exact BK124.out) hb); have n3_ := Aside0.mk (blk_below (g := gb125) (o := .cells #[.string (⟨#[]⟩ : ByteArray), .slice none 0 0, .slice none 0 0] 27 (0, 0)) (by (with_reducible repeat (first | refine blk_drewN ?_ _ | refine blk_drew ?_ | refine blk_alloc ?_ _)); exact BK125.out) hb); have n4_ := Aside0.mk (below_step (by repeat (first | (with_reducible first | exact HB.out | apply below_alloc | apply pw_below_drewN | apply below_drew1 | refine below_set ?_ GE124.out | refine below_set ?_ GE125.out) | exact HB.out)) hb); have n5_ := Aside0.mk (hbox); have n6_ := Aside0.mk ((by rw [hg]; exact (below_size (by repeat (first | (with_reducible first | exact HB.out | apply below_alloc | apply pw_below_drewN | apply below_drew1 | refine below_set ?_ GE124.out | refine below_set ?_ GE125.out) | exact HB.out))) : w.heap.size ≤ gb126)); have n7_ := Aside0.mk ((by rw [hg]; exact (below_size (by repeat (first | (with_reducible first | exact HB.out | apply below_alloc | apply pw_below_drewN | apply below_drew1 | refine below_set ?_ GE124.out | refine below_set ?_ GE125.out) | exact HB.out))) : w.heap.size ≤ gb126)); have n8_ := Aside0.mk ((by rw [hg]; exact Nat.ne_of_lt (blk_lt (g := gb124) (o := .cells #[.int .u32 a0_0, .slice A0_1 l0_1.length c0_1, .string a0_2, .slice A0_3 l0_3.length c0_3, .slice A0_4 l0_4.length c0_4] 29 (0, 0)) (by (with_reducible repeat (first | refine blk_drewN ?_ _ | refine blk_drew ?_ | refine blk_alloc ?_ _)); exact BK124.out)) : gb124 ≠ gb126)); have n9_ := Aside0.mk ((by rw [hg]; exact Nat.ne_of_gt (blk_lt (g := gb124) (o := .cells #[.int .u32 a0_0, .slice A0_1 l0_1.length c0_1, .string a0_2, .slice A0_3 l0_3.length c0_3, .slice A0_4 l0_4.length c0_4] 29 (0, 0)) (by (with_reducible repeat (first | refine blk_drewN ?_ _ | refine blk_drew ?_ | refine blk_alloc ?_ _)); exact BK124.out)) : gb126 ≠ gb124)); have n10_ := Aside0.mk ((by rw [hg]; exact Nat.ne_of_lt (blk_lt (g := gb125) (o := .cells #[.string (⟨#[]⟩ : ByteArray), .slice none 0 0, .slice none 0 0] 27 (0, 0)) (by (with_reducible repeat (first | refine blk_drewN ?_ _ | refine blk_drew ?_ | refine blk_alloc ?_ _)); exact BK125.out)) : gb125 ≠ gb126)); have n11_ := Aside0.mk ((by rw [hg]; exact Nat.ne_of_gt (blk_lt (g := gb125) (o := .cells #[.string (⟨#[]⟩ : ByteArray), .slice none 0 0, .slice none 0 0] 27 (0, 0)) (by (with_reducible repeat (first | refine blk_drewN ?_ _ | refine blk_drew ?_ | refine blk_alloc ?_ _)); exact BK125.out)) : gb126 ≠ gb125)); clear HO0_3; clear HO0_4; clear BK124; clear BK125; clear HB; have HO0_3 := n0_; have HO0_4 := n1_; have BK124 := n2_; have BK125 := n3_; have HB := n4_; have BK126 := n5_; have GW126 := n6_; have GE126 := n7_; have NB124_126 := n8_; have NB126_124 := n9_; have NB125_126 := n10_; have NB126_125 := n11_; clear n0_ n1_ n2_ n3_ n4_ n5_ n6_ n7_ n8_ n9_ n10_ n11_; clear hb hbox hg; have hnb13 := NB126_124.out; have hnc13 := NB124_126.out; have hnb14 := NB126_125.out; have hnc14 := NB125_126.out; have hcz15_0 : w12.cell? ⟨gb126, 0, none⟩ = some (.string (⟨#[]⟩ : ByteArray)) := (blk_cell BK126.out 0).trans rfl; have hcz15_1 : w12.cell? ⟨gb126, 1, none⟩ = some (.slice none 0 0) := (blk_cell BK126.out 1).trans rfl; have hcz15_2 : w12.cell? ⟨gb126, 2, none⟩ = some (.slice none 0 0) := (blk_cell BK126.out 2).trans rfl; have hfz15_0 := blk_frozen BK126.out 0; have hfz15_1 := blk_frozen BK126.out 1; have hfz15_2 := blk_frozen BK126.out 2))
    go_loopg [17] k (fun kq v17 w' => ∃ (x17_1 : Int) (x126000_1 : ByteArray) (x127000_1 : ByteArray) (x127001_1 : List (S62)) (x127002_1 : List (S27)) (u127001 : Value) (u127002 : Value), v17 = .int .i64 x17_1 ∧ Aside0 (path_Get.l0 kq l1 (l1.length : Int) x17_1 x127000_1 x127001_1 x127002_1 = some (r1, r2, r3, r4)) ∧ Aside0 (kq ≤ k) ∧ Aside0 (Kd.V k62 62 w' w.heap.size (fun k_ => ((P0_3_ k_ ∨ P0_4_ k_) ∨ w.heap.size ≤ k_) ∧ k_ ≠ gb124 ∧ k_ ≠ gb125 ∧ k_ ≠ gb126) (.slice A0_3 l0_3.length c0_3) l0_3) ∧ Aside0 (Kd.V k27 27 w' w.heap.size (fun k_ => ((P0_3_ k_ ∨ P0_4_ k_) ∨ w.heap.size ≤ k_) ∧ k_ ≠ gb124 ∧ k_ ≠ gb125 ∧ k_ ≠ gb126) (.slice A0_4 l0_4.length c0_4) l0_4) ∧ Aside0 (Kd.V k62 62 w' w.heap.size (fun k_ => ((P0_3_ k_ ∨ P0_4_ k_) ∨ w.heap.size ≤ k_) ∧ k_ ≠ gb124 ∧ k_ ≠ gb125 ∧ k_ ≠ gb126) u127001 x127001_1) ∧ Aside0 (Kd.V k27 27 w' w.heap.size (fun k_ => ((P0_3_ k_ ∨ P0_4_ k_) ∨ w.heap.size ≤ k_) ∧ k_ ≠ gb124 ∧ k_ ≠ gb125 ∧ k_ ≠ gb126) u127002 x127002_1) ∧ Aside0 (w'.heap[gb124]? = some (.cells #[.int .u32 a0_0, (.slice A0_1 l0_1.length c0_1), .string a0_2, (.slice A0_3 l0_3.length c0_3), (.slice A0_4 l0_4.length c0_4)] 29 (0, 0))) ∧ Aside0 (w'.heap[gb125]? = some (.cells #[.string x126000_1, (.slice none 0 0), (.slice none 0 0)] 27 (0, 0))) ∧ Aside0 (w'.heap[gb126]? = some (.cells #[.string x127000_1, u127001, u127002] 27 (0, 0))) ∧ Aside0 (Below w.heap.size w w'))
    case atStart => exact ⟨(0), ((⟨#[]⟩ : ByteArray)), (a0_2), (l0_3), (l0_4), (.slice A0_3 l0_3.length c0_3), (.slice A0_4 l0_4.length c0_4), (by first | rfl | (simp; done) | (simp [*]; done)), H', ⟨Nat.le_refl _⟩, ⟨by (with_reducible repeat (first | apply Kd.V_alloc | apply Kd.V_drewN | apply Kd.V_drew)); exact Kd.V_mono (Kd.V_far (p := ⟨gb126, 2, none⟩) (Kd.V_far (p := ⟨gb126, 1, none⟩) (Kd.V_far (p := ⟨gb126, 0, none⟩) (Kd.V_mono HO0_3.out (fun k_ hk => (⟨hk, hk.2⟩ : _ ∧ k_ ≠ gb126))) (fun _ hk => hk.2) (.string a0_2)) (fun _ hk => hk.2) (.slice A0_3 l0_3.length c0_3)) (fun _ hk => hk.2) (.slice A0_4 l0_4.length c0_4)) (fun _ hk => ⟨hk.1.1.1.1, ⟨hk.1.1.1.2, ⟨hk.1.1.2, hk.1.2⟩⟩⟩)⟩, ⟨by (with_reducible repeat (first | apply Kd.V_alloc | apply Kd.V_drewN | apply Kd.V_drew)); exact Kd.V_mono (Kd.V_far (p := ⟨gb126, 2, none⟩) (Kd.V_far (p := ⟨gb126, 1, none⟩) (Kd.V_far (p := ⟨gb126, 0, none⟩) (Kd.V_mono HO0_4.out (fun k_ hk => (⟨hk, hk.2⟩ : _ ∧ k_ ≠ gb126))) (fun _ hk => hk.2) (.string a0_2)) (fun _ hk => hk.2) (.slice A0_3 l0_3.length c0_3)) (fun _ hk => hk.2) (.slice A0_4 l0_4.length c0_4)) (fun _ hk => ⟨hk.1.1.1.1, ⟨hk.1.1.1.2, ⟨hk.1.1.2, hk.1.2⟩⟩⟩)⟩, ⟨by (with_reducible repeat (first | apply Kd.V_alloc | apply Kd.V_drewN | apply Kd.V_drew)); exact Kd.V_mono (Kd.V_far (p := ⟨gb126, 2, none⟩) (Kd.V_far (p := ⟨gb126, 1, none⟩) (Kd.V_far (p := ⟨gb126, 0, none⟩) (Kd.V_mono HO0_3.out (fun k_ hk => (⟨hk, hk.2⟩ : _ ∧ k_ ≠ gb126))) (fun _ hk => hk.2) (.string a0_2)) (fun _ hk => hk.2) (.slice A0_3 l0_3.length c0_3)) (fun _ hk => hk.2) (.slice A0_4 l0_4.length c0_4)) (fun _ hk => ⟨hk.1.1.1.1, ⟨hk.1.1.1.2, ⟨hk.1.1.2, hk.1.2⟩⟩⟩)⟩, ⟨by (with_reducible repeat (first | apply Kd.V_alloc | apply Kd.V_drewN | apply Kd.V_drew)); exact Kd.V_mono (Kd.V_far (p := ⟨gb126, 2, none⟩) (Kd.V_far (p := ⟨gb126, 1, none⟩) (Kd.V_far (p := ⟨gb126, 0, none⟩) (Kd.V_mono HO0_4.out (fun k_ hk => (⟨hk, hk.2⟩ : _ ∧ k_ ≠ gb126))) (fun _ hk => hk.2) (.string a0_2)) (fun _ hk => hk.2) (.slice A0_3 l0_3.length c0_3)) (fun _ hk => hk.2) (.slice A0_4 l0_4.length c0_4)) (fun _ hk => ⟨hk.1.1.1.1, ⟨hk.1.1.1.2, ⟨hk.1.1.2, hk.1.2⟩⟩⟩)⟩, ⟨by (with_reducible repeat (first | refine blk_drewN ?_ _ | refine blk_drew ?_ | refine blk_alloc ?_ _)); refine blk_far ?_ NB124_126.out _; (with_reducible repeat (first | refine blk_drewN ?_ _ | refine blk_drew ?_ | refine blk_alloc ?_ _)); refine blk_far ?_ NB124_126.out _; (with_reducible repeat (first | refine blk_drewN ?_ _ | refine blk_drew ?_ | refine blk_alloc ?_ _)); refine blk_far ?_ NB124_126.out _; (with_reducible repeat (first | refine blk_drewN ?_ _ | refine blk_drew ?_ | refine blk_alloc ?_ _)); exact BK124.out⟩, ⟨by (with_reducible repeat (first | refine blk_drewN ?_ _ | refine blk_drew ?_ | refine blk_alloc ?_ _)); refine blk_far ?_ NB125_126.out _; (with_reducible repeat (first | refine blk_drewN ?_ _ | refine blk_drew ?_ | refine blk_alloc ?_ _)); refine blk_far ?_ NB125_126.out _; (with_reducible repeat (first | refine blk_drewN ?_ _ | refine blk_drew ?_ | refine blk_alloc ?_ _)); refine blk_far ?_ NB125_126.out _; (with_reducible repeat (first | refine blk_drewN ?_ _ | refine blk_drew ?_ | refine blk_alloc ?_ _)); exact BK125.out⟩, ⟨by (with_reducible repeat (first | refine blk_drewN ?_ _ | refine blk_drew ?_ | refine blk_alloc ?_ _)); refine blk_put (cs := #[.string a0_2, .slice A0_3 l0_3.length c0_3, .slice none 0 0]) ?_ 2 _ rfl; (with_reducible repeat (first | refine blk_drewN ?_ _ | refine blk_drew ?_ | refine blk_alloc ?_ _)); refine blk_put (cs := #[.string a0_2, .slice none 0 0, .slice none 0 0]) ?_ 1 _ rfl; (with_reducible repeat (first | refine blk_drewN ?_ _ | refine blk_drew ?_ | refine blk_alloc ?_ _)); refine blk_put (cs := #[.string (⟨#[]⟩ : ByteArray), .slice none 0 0, .slice none 0 0]) ?_ 0 _ rfl; (with_reducible repeat (first | refine blk_drewN ?_ _ | refine blk_drew ?_ | refine blk_alloc ?_ _)); exact BK126.out⟩, ⟨by repeat (first | (with_reducible first | exact HB.out | apply below_alloc | apply pw_below_drewN | apply below_drew1 | refine below_set ?_ GE124.out | refine below_set ?_ GE125.out | refine below_set ?_ GE126.out) | exact HB.out)⟩⟩
    case round =>
      clear H'
      try clear c1
      try clear p2
      try clear c3
      try clear c3b0
      try clear c3b1
      try clear c6
      try clear c10
      try clear c13
      try clear c14
      try clear c15
      try clear hcz11_0
      try clear hcz11_1
      try clear hcz11_2
      try clear hcz11_3
      try clear hcz11_4
      try clear hcz15_0
      try clear hcz15_1
      try clear hcz15_2
      try clear hcz7_0
      try clear hcz7_1
      try clear hcz7_2
      try clear hfz11_0
      try clear hfz11_1
      try clear hfz11_2
      try clear hfz11_3
      try clear hfz11_4
      try clear hfz15_0
      try clear hfz15_1
      try clear hfz15_2
      try clear hfz7_0
      try clear hfz7_1
      try clear hfz7_2
      obtain ⟨x17_1, x126000_1, x127000_1, x127001_1, x127002_1, u127001, u127002, rfl, HA, HK1, HO_125003, HO_125004, HO_127001, HO_127002, BK124, BK125, BK126, HB⟩ := hrel
      cases gk with
      | zero => exact absurd HA.out (by simp [path_Get.l0])
      | succ k1 =>
        have H := HA.out
        clear HA
        simp only [path_Get.l0] at H
        by_cases c16 : x17_1 < (l1.length : Int)
        · rw [if_pos c16] at H
          have c16b0 : decide (x17_1 < (l1.length : Int)) = true := decide_eq_true c16
          clear c16
          by_cases c17 : 0 ≤ x17_1
          · rw [if_pos c17] at H
            have c17b0 : decide (0 ≤ x17_1) = true := decide_eq_true c17
            clear c17
            by_cases c18 : x17_1 < (l1.length : Int)
            · rw [if_pos c18] at H
              have c18b0 : decide (x17_1 < (l1.length : Int)) = true := decide_eq_true c18
              clear c18
              by_cases c19 : (rd l1 x17_1) < 0
              · rw [if_pos c19] at H
                have c19b0 : decide ((rd l1 x17_1) < 0) = true := decide_eq_true c19
                clear c19
                simp only [Option.some.injEq, Prod.mk.injEq] at H
                obtain ⟨rfl, rfl, rfl, rfl⟩ := H
                have p127 : 0 ≤ (x17_1 : Int) := of_decide_eq_true (by first | (with_reducible assumption) | assumption)
                have q127 : x17_1 < (l1.length : Int) := of_decide_eq_true (by first | (with_reducible assumption) | assumption)
                obtain ⟨ad127, e127, hx127_0⟩ := Kd.at_int HR1.out x17_1 p127 q127
                cases e127
                replace hx127_0 := (HB.out.cell (World.block_lt_of_cell? w _ hx127_0)).trans hx127_0
                replace p127 := eq_true p127
                replace q127 := eq_true q127
                have hnb20 := NB125_124.out
                have hnc20 := NB124_125.out
                have hnb21 := NB125_126.out
                have hnc21 := NB126_125.out
                have hcz22_0 : wr.cell? ⟨gb125, 0, none⟩ = some (.string x126000_1) := (blk_cell BK125.out 0).trans rfl
                have hcz22_1 : wr.cell? ⟨gb125, 1, none⟩ = some (.slice none 0 0) := (blk_cell BK125.out 1).trans rfl
                have hcz22_2 : wr.cell? ⟨gb125, 2, none⟩ = some (.slice none 0 0) := (blk_cell BK125.out 2).trans rfl
                have hfz22_0 := blk_frozen BK125.out 0
                have hfz22_1 := blk_frozen BK125.out 1
                have hfz22_2 := blk_frozen BK125.out 2
                go_wp2
                refine bodyPost_ret (results_ct rfl _ _ gb125 27 #[.string (⟨#[]⟩ : ByteArray), .slice none 0 0, .slice none 0 0] (0, 0) _ rfl (by (with_reducible repeat (first | refine blk_drewN ?_ _ | refine blk_drew ?_ | refine blk_alloc ?_ _)); refine blk_put (cs := #[.string (⟨#[]⟩ : ByteArray), .slice none 0 0, .slice none 0 0]) ?_ 2 _ rfl; (with_reducible repeat (first | refine blk_drewN ?_ _ | refine blk_drew ?_ | refine blk_alloc ?_ _)); refine blk_put (cs := #[.string (⟨#[]⟩ : ByteArray), .slice none 0 0, .slice none 0 0]) ?_ 1 _ rfl; (with_reducible repeat (first | refine blk_drewN ?_ _ | refine blk_drew ?_ | refine blk_alloc ?_ _)); refine blk_put (cs := #[.string x126000_1, .slice none 0 0, .slice none 0 0]) ?_ 0 _ rfl; (with_reducible repeat (first | refine blk_drewN ?_ _ | refine blk_drew ?_ | refine blk_alloc ?_ _)); exact BK125.out) Tryd.underlying27 rfl (by kernel_rfl)) rfl ?_
                exact ⟨_, _, by first | rfl | (simp [errW_none, errW_some] <;> rfl) | (simp [*, errW_none, errW_some] <;> rfl), by first | exact Kd.S_nil _ _ _ _ _ | exact Kd.N_nil _ _ _ _ _ | exact Kd.V_nil _ _ _ _ _ | exact Kd.Q_nil _ _ _ _ _ | exact Kd.R_nil _ _ _ _ _, by first | exact Kd.R_nil _ _ _ _ _ | exact Kd.N_nil _ _ _ _ _ | exact Kd.V_nil _ _ _ _ _ | exact Kd.Q_nil _ _ _ _ _ | exact Kd.S_nil _ _ _ _ _, by repeat (first | (with_reducible first | exact HB.out | apply below_alloc | apply pw_below_drewN | apply below_drew1 | refine below_set ?_ GE124.out | refine below_set ?_ GE125.out | refine below_set ?_ GE126.out) | exact HB.out)⟩
              · rw [if_neg c19] at H
                have c19b0 : decide ((rd l1 x17_1) < 0) = false := decide_eq_false c19
                clear c19
                by_cases c23 : (rd l1 x17_1) ≥ (x127002_1.length : Int)
                · rw [if_pos c23] at H
                  have c23b0 : decide ((x127002_1.length : Int) ≤ (rd l1 x17_1)) = true := decide_eq_true c23
                  clear c23
                  simp only [Option.some.injEq, Prod.mk.injEq] at H
                  obtain ⟨rfl, rfl, rfl, rfl⟩ := H
                  have p127 : 0 ≤ (x17_1 : Int) := of_decide_eq_true (by first | (with_reducible assumption) | assumption)
                  have q127 : x17_1 < (l1.length : Int) := of_decide_eq_true (by first | (with_reducible assumption) | assumption)
                  obtain ⟨ad127, e127, hx127_0⟩ := Kd.at_int HR1.out x17_1 p127 q127
                  cases e127
                  replace hx127_0 := (HB.out.cell (World.block_lt_of_cell? w _ hx127_0)).trans hx127_0
                  replace p127 := eq_true p127
                  replace q127 := eq_true q127
                  have hnb24 := NB126_124.out
                  have hnc24 := NB124_126.out
                  have hnb25 := NB126_125.out
                  have hnc25 := NB125_126.out
                  have hcz26_0 : wr.cell? ⟨gb126, 0, none⟩ = some (.string x127000_1) := (blk_cell BK126.out 0).trans rfl
                  have hcz26_1 : wr.cell? ⟨gb126, 1, none⟩ = some (u127001) := (blk_cell BK126.out 1).trans rfl
                  have hcz26_2 : wr.cell? ⟨gb126, 2, none⟩ = some (u127002) := (blk_cell BK126.out 2).trans rfl
                  have hfz26_0 := blk_frozen BK126.out 0
                  have hfz26_1 := blk_frozen BK126.out 1
                  have hfz26_2 := blk_frozen BK126.out 2
                  obtain ⟨Ao27, co27, eo27⟩ := Kd.V_slice HO_127002.out
                  subst eo27
                  have hnb28 := NB125_124.out
                  have hnc28 := NB124_125.out
                  have hcz29_0 : wr.cell? ⟨gb125, 0, none⟩ = some (.string x126000_1) := (blk_cell BK125.out 0).trans rfl
                  have hcz29_1 : wr.cell? ⟨gb125, 1, none⟩ = some (.slice none 0 0) := (blk_cell BK125.out 1).trans rfl
                  have hcz29_2 : wr.cell? ⟨gb125, 2, none⟩ = some (.slice none 0 0) := (blk_cell BK125.out 2).trans rfl
                  have hfz29_0 := blk_frozen BK125.out 0
                  have hfz29_1 := blk_frozen BK125.out 1
                  have hfz29_2 := blk_frozen BK125.out 2
                  go_wp2
                  refine bodyPost_ret (results_ct rfl _ _ gb125 27 #[.string (⟨#[]⟩ : ByteArray), .slice none 0 0, .slice none 0 0] (0, 0) _ rfl (by (with_reducible repeat (first | refine blk_drewN ?_ _ | refine blk_drew ?_ | refine blk_alloc ?_ _)); refine blk_put (cs := #[.string (⟨#[]⟩ : ByteArray), .slice none 0 0, .slice none 0 0]) ?_ 2 _ rfl; (with_reducible repeat (first | refine blk_drewN ?_ _ | refine blk_drew ?_ | refine blk_alloc ?_ _)); refine blk_put (cs := #[.string (⟨#[]⟩ : ByteArray), .slice none 0 0, .slice none 0 0]) ?_ 1 _ rfl; (with_reducible repeat (first | refine blk_drewN ?_ _ | refine blk_drew ?_ | refine blk_alloc ?_ _)); refine blk_put (cs := #[.string x126000_1, .slice none 0 0, .slice none 0 0]) ?_ 0 _ rfl; (with_reducible repeat (first | refine blk_drewN ?_ _ | refine blk_drew ?_ | refine blk_alloc ?_ _)); exact BK125.out) Tryd.underlying27 rfl (by kernel_rfl)) rfl ?_
                  exact ⟨_, _, by first | rfl | (simp [errW_none, errW_some] <;> rfl) | (simp [*, errW_none, errW_some] <;> rfl), by first | exact Kd.S_nil _ _ _ _ _ | exact Kd.N_nil _ _ _ _ _ | exact Kd.V_nil _ _ _ _ _ | exact Kd.Q_nil _ _ _ _ _ | exact Kd.R_nil _ _ _ _ _, by first | exact Kd.R_nil _ _ _ _ _ | exact Kd.N_nil _ _ _ _ _ | exact Kd.V_nil _ _ _ _ _ | exact Kd.Q_nil _ _ _ _ _ | exact Kd.S_nil _ _ _ _ _, by repeat (first | (with_reducible first | exact HB.out | apply below_alloc | apply pw_below_drewN | apply below_drew1 | refine below_set ?_ GE124.out | refine below_set ?_ GE125.out | refine below_set ?_ GE126.out) | exact HB.out)⟩
                · rw [if_neg c23] at H
                  have c23b0 : decide ((x127002_1.length : Int) ≤ (rd l1 x17_1)) = false := decide_eq_false c23
                  clear c23
                  by_cases c30 : 0 ≤ (rd l1 x17_1)
                  · rw [if_pos c30] at H
                    have c30b0 : decide (0 ≤ (rd l1 x17_1)) = true := decide_eq_true c30
                    clear c30
                    by_cases c31 : (rd l1 x17_1) < (x127002_1.length : Int)
                    · rw [if_pos c31] at H
                      have c31b0 : decide ((rd l1 x17_1) < (x127002_1.length : Int)) = true := decide_eq_true c31
                      clear c31
                      have H' := Aside0.mk H
                      clear H
                      have p127 : 0 ≤ (x17_1 : Int) := of_decide_eq_true (by first | (with_reducible assumption) | assumption)
                      have q127 : x17_1 < (l1.length : Int) := of_decide_eq_true (by first | (with_reducible assumption) | assumption)
                      obtain ⟨ad127, e127, hx127_0⟩ := Kd.at_int HR1.out x17_1 p127 q127
                      cases e127
                      replace hx127_0 := (HB.out.cell (World.block_lt_of_cell? w _ hx127_0)).trans hx127_0
                      replace p127 := eq_true p127
                      replace q127 := eq_true q127
                      have hnb32 := NB126_124.out
                      have hnc32 := NB124_126.out
                      have hnb33 := NB126_125.out
                      have hnc33 := NB125_126.out
                      have hcz34_0 : wr.cell? ⟨gb126, 0, none⟩ = some (.string x127000_1) := (blk_cell BK126.out 0).trans rfl
                      have hcz34_1 : wr.cell? ⟨gb126, 1, none⟩ = some (u127001) := (blk_cell BK126.out 1).trans rfl
                      have hcz34_2 : wr.cell? ⟨gb126, 2, none⟩ = some (u127002) := (blk_cell BK126.out 2).trans rfl
                      have hfz34_0 := blk_frozen BK126.out 0
                      have hfz34_1 := blk_frozen BK126.out 1
                      have hfz34_2 := blk_frozen BK126.out 2
                      obtain ⟨Ao35, co35, eo35⟩ := Kd.V_slice HO_127002.out
                      subst eo35
                      have p128 : 0 ≤ ((rd l1 x17_1) : Int) := of_decide_eq_true (by first | (with_reducible assumption) | assumption)
                      have q128 : (rd l1 x17_1) < (x127002_1.length : Int) := of_decide_eq_true (by first | (with_reducible assumption) | assumption)
                      obtain ⟨ad128, A128_1, c128_1, A128_2, c128_2, e128, hx128_0, hx128_1, hx128_2, hl128_1, hi128_1, hl128_2, hi128_2⟩ := at_T27 (Kd.V_reads' HO_127002.out).2.2 (rd l1 x17_1) p128 q128
                      cases e128
                      obtain ⟨ce128, hce128, hMe128, hcc128⟩ := Kd.V_get HO_127002.out z27 (rd l1 x17_1) p128 (by first | exact q128 | exact of_decide_eq_true (by first | (with_reducible assumption) | assumption) | (have e_ := (Kd.V_reads' HO_127002.out).1; omega))
                      obtain ⟨ua128_1, uc128_1, ua128_2, uc128_2, rfl, ul128_1, ge128_1, ul128_2, ge128_2⟩ := k27_openF hMe128
                      have hv128_1 := hcc128 1 _ rfl
                      rw [add_field _ _ 1 (by omega)] at hv128_1
                      replace hv128_1 := Option.some.inj (hv128_1.symm.trans hx128_1)
                      injection hv128_1 with hva_ hvn_ hvc_
                      rw [hva_] at ge128_1
                      rw [hvc_] at ul128_1
                      have HL128_1 := Aside0.mk (show Kd.V k62 62 _ w.heap.size _ _ ((rd_T27 x127002_1 (rd l1 x17_1)).f1) from Kd.V_mk ul128_1 ge128_1)
                      clear hva_ hvn_ hvc_ ge128_1 ul128_1
                      have hv128_2 := hcc128 2 _ rfl
                      rw [add_field _ _ 2 (by omega)] at hv128_2
                      replace hv128_2 := Option.some.inj (hv128_2.symm.trans hx128_2)
                      injection hv128_2 with hva_ hvn_ hvc_
                      rw [hva_] at ge128_2
                      rw [hvc_] at ul128_2
                      have HL128_2 := Aside0.mk (show Kd.V k27 27 _ w.heap.size _ _ ((rd_T27 x127002_1 (rd l1 x17_1)).f2) from Kd.V_mk ul128_2 ge128_2)
                      clear hva_ hvn_ hvc_ ge128_2 ul128_2
                      clear hcc128 hce128
                      have HR128_1 := Aside0.mk hi128_1
                      have HC128_1 := Aside0.mk hl128_1
                      clear hi128_1 hl128_1
                      have HR128_2 := Aside0.mk hi128_2
                      have HC128_2 := Aside0.mk hl128_2
                      clear hi128_2 hl128_2
                      replace p128 := eq_true p128
                      replace q128 := eq_true q128
                      go_wp2
                      go_roundg k1
                      case measure => have := HK1.out; omega
                      case rel => exact ⟨(wrap64 (x17_1 + 1)), (x126000_1), ((rd_T27 x127002_1 (rd l1 x17_1)).f0), ((rd_T27 x127002_1 (rd l1 x17_1)).f1), ((rd_T27 x127002_1 (rd l1 x17_1)).f2), (.slice A128_1 ((rd_T27 x127002_1 (rd l1 x17_1)).f1).length c128_1), (.slice A128_2 ((rd_T27 x127002_1 (rd l1 x17_1)).f2).length c128_2), (by first | rfl | (simp; done) | (simp [*]; done)), H', ⟨by have := HK1.out; omega⟩, ⟨by (with_reducible repeat (first | apply Kd.V_alloc | apply Kd.V_drewN | apply Kd.V_drew)); exact Kd.V_mono (Kd.V_far (p := ⟨gb126, 2, none⟩) (Kd.V_far (p := ⟨gb126, 1, none⟩) (Kd.V_far (p := ⟨gb126, 0, none⟩) (Kd.V_mono HO_125003.out (fun k_ hk => (⟨hk, hk.2.2.2⟩ : _ ∧ k_ ≠ gb126))) (fun _ hk => hk.2) (.string ((rd_T27 x127002_1 (rd l1 x17_1)).f0))) (fun _ hk => hk.2) (.slice A128_1 ((rd_T27 x127002_1 (rd l1 x17_1)).f1).length c128_1)) (fun _ hk => hk.2) (.slice A128_2 ((rd_T27 x127002_1 (rd l1 x17_1)).f2).length c128_2)) (fun _ hk => ⟨hk.1.1, ⟨hk.1.2.1, ⟨hk.1.2.2.1, hk.1.2.2.2⟩⟩⟩)⟩, ⟨by (with_reducible repeat (first | apply Kd.V_alloc | apply Kd.V_drewN | apply Kd.V_drew)); exact Kd.V_mono (Kd.V_far (p := ⟨gb126, 2, none⟩) (Kd.V_far (p := ⟨gb126, 1, none⟩) (Kd.V_far (p := ⟨gb126, 0, none⟩) (Kd.V_mono HO_125004.out (fun k_ hk => (⟨hk, hk.2.2.2⟩ : _ ∧ k_ ≠ gb126))) (fun _ hk => hk.2) (.string ((rd_T27 x127002_1 (rd l1 x17_1)).f0))) (fun _ hk => hk.2) (.slice A128_1 ((rd_T27 x127002_1 (rd l1 x17_1)).f1).length c128_1)) (fun _ hk => hk.2) (.slice A128_2 ((rd_T27 x127002_1 (rd l1 x17_1)).f2).length c128_2)) (fun _ hk => ⟨hk.1.1, ⟨hk.1.2.1, ⟨hk.1.2.2.1, hk.1.2.2.2⟩⟩⟩)⟩, ⟨by (with_reducible repeat (first | apply Kd.V_alloc | apply Kd.V_drewN | apply Kd.V_drew)); exact Kd.V_mono (Kd.V_far (p := ⟨gb126, 2, none⟩) (Kd.V_far (p := ⟨gb126, 1, none⟩) (Kd.V_far (p := ⟨gb126, 0, none⟩) (Kd.V_mono HL128_1.out (fun k_ hk => (⟨hk, hk.2.2.2⟩ : _ ∧ k_ ≠ gb126))) (fun _ hk => hk.2) (.string ((rd_T27 x127002_1 (rd l1 x17_1)).f0))) (fun _ hk => hk.2) (.slice A128_1 ((rd_T27 x127002_1 (rd l1 x17_1)).f1).length c128_1)) (fun _ hk => hk.2) (.slice A128_2 ((rd_T27 x127002_1 (rd l1 x17_1)).f2).length c128_2)) (fun _ hk => ⟨hk.1.1, ⟨hk.1.2.1, ⟨hk.1.2.2.1, hk.1.2.2.2⟩⟩⟩)⟩, ⟨by (with_reducible repeat (first | apply Kd.V_alloc | apply Kd.V_drewN | apply Kd.V_drew)); exact Kd.V_mono (Kd.V_far (p := ⟨gb126, 2, none⟩) (Kd.V_far (p := ⟨gb126, 1, none⟩) (Kd.V_far (p := ⟨gb126, 0, none⟩) (Kd.V_mono HL128_2.out (fun k_ hk => (⟨hk, hk.2.2.2⟩ : _ ∧ k_ ≠ gb126))) (fun _ hk => hk.2) (.string ((rd_T27 x127002_1 (rd l1 x17_1)).f0))) (fun _ hk => hk.2) (.slice A128_1 ((rd_T27 x127002_1 (rd l1 x17_1)).f1).length c128_1)) (fun _ hk => hk.2) (.slice A128_2 ((rd_T27 x127002_1 (rd l1 x17_1)).f2).length c128_2)) (fun _ hk => ⟨hk.1.1, ⟨hk.1.2.1, ⟨hk.1.2.2.1, hk.1.2.2.2⟩⟩⟩)⟩, ⟨by (with_reducible repeat (first | refine blk_drewN ?_ _ | refine blk_drew ?_ | refine blk_alloc ?_ _)); refine blk_far ?_ NB124_126.out _; (with_reducible repeat (first | refine blk_drewN ?_ _ | refine blk_drew ?_ | refine blk_alloc ?_ _)); refine blk_far ?_ NB124_126.out _; (with_reducible repeat (first | refine blk_drewN ?_ _ | refine blk_drew ?_ | refine blk_alloc ?_ _)); refine blk_far ?_ NB124_126.out _; (with_reducible repeat (first | refine blk_drewN ?_ _ | refine blk_drew ?_ | refine blk_alloc ?_ _)); exact BK124.out⟩, ⟨by (with_reducible repeat (first | refine blk_drewN ?_ _ | refine blk_drew ?_ | refine blk_alloc ?_ _)); refine blk_far ?_ NB125_126.out _; (with_reducible repeat (first | refine blk_drewN ?_ _ | refine blk_drew ?_ | refine blk_alloc ?_ _)); refine blk_far ?_ NB125_126.out _; (with_reducible repeat (first | refine blk_drewN ?_ _ | refine blk_drew ?_ | refine blk_alloc ?_ _)); refine blk_far ?_ NB125_126.out _; (with_reducible repeat (first | refine blk_drewN ?_ _ | refine blk_drew ?_ | refine blk_alloc ?_ _)); exact BK125.out⟩, ⟨by (with_reducible repeat (first | refine blk_drewN ?_ _ | refine blk_drew ?_ | refine blk_alloc ?_ _)); refine blk_put (cs := #[.string ((rd_T27 x127002_1 (rd l1 x17_1)).f0), .slice A128_1 ((rd_T27 x127002_1 (rd l1 x17_1)).f1).length c128_1, .slice (some ad128) x127002_1.length co35]) ?_ 2 _ rfl; (with_reducible repeat (first | refine blk_drewN ?_ _ | refine blk_drew ?_ | refine blk_alloc ?_ _)); refine blk_put (cs := #[.string ((rd_T27 x127002_1 (rd l1 x17_1)).f0), u127001, .slice (some ad128) x127002_1.length co35]) ?_ 1 _ rfl; (with_reducible repeat (first | refine blk_drewN ?_ _ | refine blk_drew ?_ | refine blk_alloc ?_ _)); refine blk_put (cs := #[.string x127000_1, u127001, .slice (some ad128) x127002_1.length co35]) ?_ 0 _ rfl; (with_reducible repeat (first | refine blk_drewN ?_ _ | refine blk_drew ?_ | refine blk_alloc ?_ _)); exact BK126.out⟩, ⟨by repeat (first | (with_reducible first | exact HB.out | apply below_alloc | apply pw_below_drewN | apply below_drew1 | refine below_set ?_ GE124.out | refine below_set ?_ GE125.out | refine below_set ?_ GE126.out) | exact HB.out)⟩⟩
                    · rw [if_neg c31] at H
                      exact absurd H (by simp)
                  · rw [if_neg c30] at H
                    exact absurd H (by simp)
            · rw [if_neg c18] at H
              exact absurd H (by simp)
          · rw [if_neg c17] at H
            exact absurd H (by simp)
        · rw [if_neg c16] at H
          have c16b0 : decide (x17_1 < (l1.length : Int)) = false := decide_eq_false c16
          clear c16
          replace H := Option.bind_eq_some_iff.mp H
          obtain ⟨⟨t129, t130, t133⟩, A360, H⟩ := H
          replace H : (some (t129, t130, t133, 0)) = some (r1, r2, r3, r4) := H
          have A36 := Aside0.mk A360
          clear A360
          simp only [Option.some.injEq, Prod.mk.injEq] at H
          obtain ⟨rfl, rfl, rfl, rfl⟩ := H
          have hnb37 := NB126_124.out
          have hnc37 := NB124_126.out
          have hnb38 := NB126_125.out
          have hnc38 := NB125_126.out
          have hcz39_0 : wr.cell? ⟨gb126, 0, none⟩ = some (.string x127000_1) := (blk_cell BK126.out 0).trans rfl
          have hcz39_1 : wr.cell? ⟨gb126, 1, none⟩ = some (u127001) := (blk_cell BK126.out 1).trans rfl
          have hcz39_2 : wr.cell? ⟨gb126, 2, none⟩ = some (u127002) := (blk_cell BK126.out 2).trans rfl
          have hfz39_0 := blk_frozen BK126.out 0
          have hfz39_1 := blk_frozen BK126.out 1
          have hfz39_2 := blk_frozen BK126.out 2
          obtain ⟨Ao40, co40, eo40⟩ := Kd.V_slice HO_127001.out
          subst eo40
          obtain ⟨Ao41, co41, eo41⟩ := Kd.V_slice HO_127002.out
          subst eo41
          go_wp2_with (first | ((with_reducible refine gate_callee (f := 24) rfl ?_); refine goesL_ (some 38) rfl rfl Tryd.func24 (by kernel_rfl) rfl #[.agg #[.string x127000_1, .slice Ao40 x127001_1.length co40, .slice Ao41 x127002_1.length co41]] rfl (by (try simp only [List.map_toArray, List.map_cons, List.map_nil]); first | done | rfl | (simp only [List.length_drop, List.length_take]; rfl)) ?_; (with_reducible refine (tree_CloneNode.calls k1 x127000_1 _ _ x127001_1 _ _ x127002_1 t129 t130 t133 _ ?side1 ?side2 ?side3 ?side4 A36.out).mono ?_); (case side1 => repeat (first | exact (Kd.V_reads' HO_127001.out).2.2 | (with_reducible refine Kd.C_alloc ?_ _) | (with_reducible refine Kd.C_drewN ?_ _) | (with_reducible refine Kd.C_drew ?_))); (case side2 => exact (Kd.V_reads' HO_127001.out).2.1); (case side3 => repeat (first | exact (Kd.V_reads' HO_127002.out).2.2 | (with_reducible refine Kd.C_alloc ?_ _) | (with_reducible refine Kd.C_drewN ?_ _) | (with_reducible refine Kd.C_drew ?_))); (case side4 => exact (Kd.V_reads' HO_127002.out).2.1); rintro e w42 ⟨v131, v134, rfl, ho0, ho1, hb⟩; refine ⟨_, rfl, ?_⟩; have n0_ := Aside0.mk (Kd.V_mono (Kd.V_told (Kd.V_told (Kd.V_old (by (with_reducible repeat (first | apply Kd.V_alloc | apply Kd.V_drewN | apply Kd.V_drew)); exact HO_125003.out) hb) (Kd.S_base ho0)) (Kd.R_base ho1)) (fun _ h_ => h_.1)); have n1_ := Aside0.mk (Kd.V_mono (Kd.V_told (Kd.V_told (Kd.V_old (by (with_reducible repeat (first | apply Kd.V_alloc | apply Kd.V_drewN | apply Kd.V_drew)); exact HO_125004.out) hb) (Kd.S_base ho0)) (Kd.R_base ho1)) (fun _ h_ => h_.1)); have n2_ := Aside0.mk (Kd.V_mono (Kd.V_told (Kd.V_told (Kd.V_old (by (with_reducible repeat (first | apply Kd.V_alloc | apply Kd.V_drewN | apply Kd.V_drew)); exact HO_127001.out) hb) (Kd.S_base ho0)) (Kd.R_base ho1)) (fun _ h_ => h_.1)); have n3_ := Aside0.mk (Kd.V_mono (Kd.V_told (Kd.V_told (Kd.V_old (by (with_reducible repeat (first | apply Kd.V_alloc | apply Kd.V_drewN | apply Kd.V_drew)); exact HO_127002.out) hb) (Kd.S_base ho0)) (Kd.R_base ho1)) (fun _ h_ => h_.1)); have n4_ := Aside0.mk (Kd.S_lower (Kd.S_newM (M := fun k_ => (w.heap.size ≤ k_)) ho0 (below_size (by repeat (first | (with_reducible first | exact HB.out | apply below_alloc | apply pw_below_drewN | apply below_drew1 | refine below_set ?_ GE124.out | refine below_set ?_ GE125.out | refine below_set ?_ GE126.out) | exact HB.out))) (fun k_ h_ => h_)) (below_size (by repeat (first | (with_reducible first | exact HB.out | apply below_alloc | apply pw_below_drewN | apply below_drew1 | refine below_set ?_ GE124.out | refine below_set ?_ GE125.out | refine below_set ?_ GE126.out) | exact HB.out)))); have n5_ := Aside0.mk (Kd.R_lower (Kd.R_newB (Kd.R_newB (Kd.R_newM (M := fun k_ => (w.heap.size ≤ k_)) ho1 (below_size (by repeat (first | (with_reducible first | exact HB.out | apply below_alloc | apply pw_below_drewN | apply below_drew1 | refine below_set ?_ GE124.out | refine below_set ?_ GE125.out | refine below_set ?_ GE126.out) | exact HB.out))) (fun k_ h_ => h_)) (g := gb125) (o := .cells #[.string x126000_1, .slice none 0 0, .slice none 0 0] 27 (0, 0)) (by (with_reducible repeat (first | refine blk_drewN ?_ _ | refine blk_drew ?_ | refine blk_alloc ?_ _)); exact BK125.out)) (g := gb126) (o := .cells #[.string x127000_1, .slice Ao40 x127001_1.length co40, .slice Ao41 x127002_1.length co41] 27 (0, 0)) (by (with_reducible repeat (first | refine blk_drewN ?_ _ | refine blk_drew ?_ | refine blk_alloc ?_ _)); exact BK126.out)) (below_size (by repeat (first | (with_reducible first | exact HB.out | apply below_alloc | apply pw_below_drewN | apply below_drew1 | refine below_set ?_ GE124.out | refine below_set ?_ GE125.out | refine below_set ?_ GE126.out) | exact HB.out)))); have n6_ := Aside0.mk (blk_below (g := gb124) (o := .cells #[.int .u32 a0_0, .slice A0_1 l0_1.length c0_1, .string a0_2, .slice A0_3 l0_3.length c0_3, .slice A0_4 l0_4.length c0_4] 29 (0, 0)) (by (with_reducible repeat (first | refine blk_drewN ?_ _ | refine blk_drew ?_ | refine blk_alloc ?_ _)); exact BK124.out) hb); have n7_ := Aside0.mk (blk_below (g := gb125) (o := .cells #[.string x126000_1, .slice none 0 0, .slice none 0 0] 27 (0, 0)) (by (with_reducible repeat (first | refine blk_drewN ?_ _ | refine blk_drew ?_ | refine blk_alloc ?_ _)); exact BK125.out) hb); have n8_ := Aside0.mk (blk_below (g := gb126) (o := .cells #[.string x127000_1, .slice Ao40 x127001_1.length co40, .slice Ao41 x127002_1.length co41] 27 (0, 0)) (by (with_reducible repeat (first | refine blk_drewN ?_ _ | refine blk_drew ?_ | refine blk_alloc ?_ _)); exact BK126.out) hb); have n9_ := Aside0.mk (below_step (by repeat (first | (with_reducible first | exact HB.out | apply below_alloc | apply pw_below_drewN | apply below_drew1 | refine below_set ?_ GE124.out | refine below_set ?_ GE125.out | refine below_set ?_ GE126.out) | exact HB.out)) hb); clear HO_125003; clear HO_125004; clear HO_127001; clear HO_127002; clear BK124; clear BK125; clear BK126; clear HB; have HO_125003 := n0_; have HO_125004 := n1_; have HO_127001 := n2_; have HO_127002 := n3_; have HO132 := n4_; have HO135 := n5_; have BK124 := n6_; have BK125 := n7_; have BK126 := n8_; have HB := n9_; clear n0_ n1_ n2_ n3_ n4_ n5_ n6_ n7_ n8_ n9_; (try clear hb); (try clear hb2); (try clear hk); (try clear hi); (try clear ho0); (try clear ho1); have hnb43 := NB125_124.out; have hnc43 := NB124_125.out; have hcz44_0 : w42.cell? ⟨gb125, 0, none⟩ = some (.string x126000_1) := (blk_cell BK125.out 0).trans rfl; have hcz44_1 : w42.cell? ⟨gb125, 1, none⟩ = some (.slice none 0 0) := (blk_cell BK125.out 1).trans rfl; have hcz44_2 : w42.cell? ⟨gb125, 2, none⟩ = some (.slice none 0 0) := (blk_cell BK125.out 2).trans rfl; have hfz44_0 := blk_frozen BK125.out 0; have hfz44_1 := blk_frozen BK125.out 1; have hfz44_2 := blk_frozen BK125.out 2; obtain ⟨Ao45, co45, eo45⟩ := Kd.S_slice HO132.out; subst eo45; obtain ⟨Ao46, co46, eo46⟩ := Kd.R_slice HO135.out; subst eo46))
          refine bodyPost_ret (results_ct rfl _ _ gb125 27 #[.string t129, .slice Ao45 t130.length co45, .slice Ao46 t133.length co46] (0, 0) _ rfl (by (with_reducible repeat (first | refine blk_drewN ?_ _ | refine blk_drew ?_ | refine blk_alloc ?_ _)); refine blk_put (cs := #[.string t129, .slice Ao45 t130.length co45, .slice none 0 0]) ?_ 2 _ rfl; (with_reducible repeat (first | refine blk_drewN ?_ _ | refine blk_drew ?_ | refine blk_alloc ?_ _)); refine blk_put (cs := #[.string t129, .slice none 0 0, .slice none 0 0]) ?_ 1 _ rfl; (with_reducible repeat (first | refine blk_drewN ?_ _ | refine blk_drew ?_ | refine blk_alloc ?_ _)); refine blk_put (cs := #[.string x126000_1, .slice none 0 0, .slice none 0 0]) ?_ 0 _ rfl; (with_reducible repeat (first | refine blk_drewN ?_ _ | refine blk_drew ?_ | refine blk_alloc ?_ _)); exact BK125.out) Tryd.underlying27 rfl (by kernel_rfl)) rfl ?_
          exact ⟨_, _, by first | rfl | (simp [errW_none, errW_some] <;> rfl) | (simp [*, errW_none, errW_some] <;> rfl), by (with_reducible repeat (first | apply Kd.S_alloc | apply Kd.S_drewN | apply Kd.S_drew)); exact Kd.S_mono (Kd.S_far (p := ⟨gb125, 2, none⟩) (Kd.S_far (p := ⟨gb125, 1, none⟩) (Kd.S_far (p := ⟨gb125, 0, none⟩) (Kd.S_types HO132.out BK125.out (by decide)) (fun _ hk => hk.2) (.string t129)) (fun _ hk => hk.2) (.slice Ao45 t130.length co45)) (fun _ hk => hk.2) (.slice Ao46 t133.length co46)) (fun _ hk => hk.1.1), by (with_reducible repeat (first | apply Kd.R_alloc | apply Kd.R_drewN | apply Kd.R_drew)); exact Kd.R_mono (Kd.R_far (p := ⟨gb125, 2, none⟩) (Kd.R_far (p := ⟨gb125, 1, none⟩) (Kd.R_far (p := ⟨gb125, 0, none⟩) (Kd.R_mono HO135.out (fun k_ hk => (⟨hk, hk.1.2⟩ : _ ∧ k_ ≠ gb125))) (fun _ hk => hk.2) (.string t129)) (fun _ hk => hk.2) (.slice Ao45 t130.length co45)) (fun _ hk => hk.2) (.slice Ao46 t133.length co46)) (fun _ hk => ⟨hk.1.1.1.1, hk.1.1.1.2⟩), by repeat (first | (with_reducible first | exact HB.out | apply below_alloc | apply pw_below_drewN | apply below_drew1 | refine below_set ?_ GE124.out | refine below_set ?_ GE125.out | refine below_set ?_ GE126.out) | exact HB.out)⟩
end Go.Proofs.YtkopmkinlanhoaaDoor.PP

namespace Go.Proofs.YtkopmkinlanhoaaDoor.PP
open Go.RowKit Go.Proofs.YtkopmkinlanhoaaDoorW.PrintWords Go.Proofs.YtkopmkinlanhoaaDoorW.PrintLast Go.Proofs.YtkopmkinlanhoaaDoorW.PrintMore
attribute [local go_sem] max2_int min2_int max_two min_two max_three min_three max_four min_four   -- for this text's walks alone
set_option linter.unusedVariables false
set_option linter.unusedSimpArgs false
def path_Path.l0 : Nat → ByteArray → List Int → Int → Int → ByteArray → List (S62) → List (S27) → Option (ByteArray × Int)
  | 0, _, _, _, _, _, _, _ => none
  | k + 1, x9, x26, x27, x28, x147000, x147001, x147002 => if x28 < x27 then (if 0 ≤ x28 then (if x28 < (x26.length : Int) then (if 0 ≤ (rd x26 x28) then (if (rd x26 x28) < (x147002.length : Int) then (if 1 + ((rd_T27 x147002 (rd x26 x28)).f0).size ≤ 9223372036854775807 then (if x9.size + ((⟨#[47]⟩ : ByteArray) ++ ((rd_T27 x147002 (rd x26 x28)).f0)).size ≤ 9223372036854775807 then (path_Path.l0 k (x9 ++ ((⟨#[47]⟩ : ByteArray) ++ ((rd_T27 x147002 (rd x26 x28)).f0))) x26 x27 (wrap64 (x28 + 1)) ((rd_T27 x147002 (rd x26 x28)).f0) ((rd_T27 x147002 (rd x26 x28)).f1) ((rd_T27 x147002 (rd x26 x28)).f2)) else (none)) else (none)) else (none)) else (none)) else (none)) else (none)) else (some (x9, 0))
def path_Path.f (k : Nat) (a0_0 : Int) (l0_1 : List (S48)) (a0_2 : ByteArray) (l0_3 : List (S62)) (l0_4 : List (S27)) (l1 : List Int) : Option (ByteArray × Int) := (path_Get.f k a0_0 l0_1 a0_2 l0_3 l0_4 l1).bind fun bt137 => (if bt137.2.2.2 = 0 then (if (l1.length : Int) = 0 then (some ((⟨#[47]⟩ : ByteArray), 0)) else (path_Path.l0 k (⟨#[]⟩ : ByteArray) l1 (l1.length : Int) 0 a0_2 l0_3 l0_4)) else (some ((⟨#[]⟩ : ByteArray), bt137.2.2.2)))
theorem path_Path.mono_l : ∀ k, (∀ y0 y1 y2 y3 y4 y5 y6, LeO (path_Path.l0 k y0 y1 y2 y3 y4 y5 y6) (path_Path.l0 (k + 1) y0 y1 y2 y3 y4 y5 y6))
  | 0 => fun _ _ _ _ _ _ _ r h => by simp [path_Path.l0] at h
  | k + 1 => by
    have ih0 := path_Path.mono_l k
    · intro y0 y1 y2 y3 y4 y5 y6
      unfold path_Path.l0
      repeat' first
      | (with_reducible exact ih0 _ _ _ _ _ _ _)
      | (with_reducible exact path_Get.mono _ _ _ _ _ _ _)
      | (with_reducible exact LeO.refl _)
      | (with_reducible exact LeO.none _)
      | (with_reducible refine LeO.ite ?_ ?_)
      | (with_reducible refine LeO.bind ?_ (fun _ => ?_))
      | exact ih0 _ _ _ _ _ _ _
      | exact path_Get.mono _ _ _ _ _ _ _
      | exact LeO.none _
      | refine LeO.ite ?_ ?_
      | refine LeO.bind ?_ (fun _ => ?_)
theorem path_Path.mono : ∀ a0 a1 a2 a3 a4 a5 k, LeO (path_Path.f k a0 a1 a2 a3 a4 a5) (path_Path.f (k + 1) a0 a1 a2 a3 a4 a5) := by
  intro a0 a1 a2 a3 a4 a5 k
  have ih0 := path_Path.mono_l k
  unfold path_Path.f
  repeat' first
      | (with_reducible exact ih0 _ _ _ _ _ _ _)
      | (with_reducible exact path_Get.mono _ _ _ _ _ _ _)
      | (with_reducible exact LeO.refl _)
      | (with_reducible exact LeO.none _)
      | (with_reducible refine LeO.ite ?_ ?_)
      | (with_reducible refine LeO.bind ?_ (fun _ => ?_))
      | exact ih0 _ _ _ _ _ _ _
      | exact path_Get.mono _ _ _ _ _ _ _
      | exact LeO.none _
      | refine LeO.ite ?_ ?_
      | refine LeO.bind ?_ (fun _ => ?_)
set_option maxHeartbeats 8000000 in
set_option maxRecDepth 100000 in
theorem path_Path.calls (k : Nat) (a0_0 : Int) (A0_1 : Option Addr) (c0_1 : Nat) (l0_1 : List (S48)) (a0_2 : ByteArray) (P0_3_ : Nat → Prop) (A0_3 : Option Addr) (c0_3 : Nat) (l0_3 : List (S62)) (P0_4_ : Nat → Prop) (A0_4 : Option Addr) (c0_4 : Nat) (l0_4 : List (S27)) (A1 : Option Addr) (c1 : Nat) (l1 : List Int) (r1 : ByteArray) (r2 : Int) (w : World) (hr0_1 : Kd.C k48 w A0_1 l0_1.length l0_1) (hc0_1 : l0_1.length ≤ c0_1) (hs0_3 : Kd.V k62 62 w w.heap.size (fun k_ => P0_3_ k_) (.slice A0_3 l0_3.length c0_3) l0_3) (hs0_4 : Kd.V k27 27 w w.heap.size (fun k_ => P0_4_ k_) (.slice A0_4 l0_4.length c0_4) l0_4) (hr1 : Kd.C (Kd.int .i64) w A1 l1.length l1) (hc1 : l1.length ≤ c1) (h : path_Path.f k a0_0 l0_1 a0_2 l0_3 l0_4 l1 = some (r1, r2)) :
    Calls Tryd.prog 8 #[.agg #[.int .u32 a0_0, .slice A0_1 l0_1.length c0_1, .string a0_2, .slice A0_3 l0_3.length c0_3, .slice A0_4 l0_4.length c0_4], .slice A1 l1.length c1] w fun e w' => e = .returned (.tuple #[.string r1, .int .i64 r2]) ∧ Below w.heap.size w w' := by
  have hu29 := Tryd.underlying29
  have hu27 := Tryd.underlying27
  have HR0_1 := Aside0.mk hr0_1
  have HC0_1 := Aside0.mk hc0_1
  clear hr0_1 hc0_1
  have HO0_3 := Aside0.mk (show Kd.V k62 62 w w.heap.size (fun k_ => ((P0_3_ k_ ∨ P0_4_ k_) ∨ w.heap.size ≤ k_)) (.slice A0_3 l0_3.length c0_3) l0_3 from Kd.V_mono hs0_3 (fun k_ hk => .inl (.inl hk)))
  have HO0_4 := Aside0.mk (show Kd.V k27 27 w w.heap.size (fun k_ => ((P0_3_ k_ ∨ P0_4_ k_) ∨ w.heap.size ≤ k_)) (.slice A0_4 l0_4.length c0_4) l0_4 from Kd.V_mono hs0_4 (fun k_ hk => .inl (.inr hk)))
  have HR1 := Aside0.mk hr1
  have HC1 := Aside0.mk hc1
  clear hr1 hc1
  have HB := Aside0.mk (Below.refl w.heap.size w)
  have H : ((path_Get.f k a0_0 l0_1 a0_2 l0_3 l0_4 l1).bind fun bt137 => (if bt137.2.2.2 = 0 then (if (l1.length : Int) = 0 then (some ((⟨#[47]⟩ : ByteArray), 0)) else (path_Path.l0 k (⟨#[]⟩ : ByteArray) l1 (l1.length : Int) 0 a0_2 l0_3 l0_4)) else (some ((⟨#[]⟩ : ByteArray), bt137.2.2.2)))) = some (r1, r2) := h
  clear h
  replace H := Option.bind_eq_some_iff.mp H
  obtain ⟨⟨t137, t138, t141, t144⟩, A30, H⟩ := H
  replace H : (if t144 = 0 then (if (l1.length : Int) = 0 then (some ((⟨#[47]⟩ : ByteArray), 0)) else (path_Path.l0 k (⟨#[]⟩ : ByteArray) l1 (l1.length : Int) 0 a0_2 l0_3 l0_4)) else (some ((⟨#[]⟩ : ByteArray), t144))) = some (r1, r2) := H
  have A3 := Aside0.mk A30
  clear A30
  by_cases c4 : t144 = 0
  · rw [if_pos c4] at H
    have c4b0 : (t144 == 0) = true := beq_iff_eq.mpr c4
    have c4b1 : (t144 != 0) = false := bne_eq_false_iff_eq.mpr c4
    clear c4
    by_cases c5 : (l1.length : Int) = 0
    · rw [if_pos c5] at H
      have c5b0 : ((l1.length : Int) == 0) = true := beq_iff_eq.mpr c5
      have c5b1 : ((l1.length : Int) != 0) = false := bne_eq_false_iff_eq.mpr c5
      clear c5
      simp only [Option.some.injEq, Prod.mk.injEq] at H
      obtain ⟨rfl, rfl⟩ := H
      go_enter Tryd.func8, Tryd.ntmps8
      go_wp2_with (first | ((with_reducible refine gate_dst (N := 2) rfl ?_); refine box_event ?hg (N := 2) ?hd (cs := #[.int .u32 a0_0, .slice A0_1 l0_1.length c0_1, .string a0_2, .slice A0_3 l0_3.length c0_3, .slice A0_4 l0_4.length c0_4]) (t := 29) ?hr ?_; (case hd => rfl); (case hg => rfl); (case hr => first | (go_simp; done) | (go_simp; rfl)); intro gb136 hg w6 hbox hb; have n0_ := Aside0.mk (Kd.V_below (Kd.V_elderB (by (with_reducible repeat (first | apply Kd.V_alloc | apply Kd.V_drewN | apply Kd.V_drew)); exact HO0_3.out) gb136 (Nat.le_of_eq hg.symm)) hb); have n1_ := Aside0.mk (Kd.V_below (Kd.V_elderB (by (with_reducible repeat (first | apply Kd.V_alloc | apply Kd.V_drewN | apply Kd.V_drew)); exact HO0_4.out) gb136 (Nat.le_of_eq hg.symm)) hb); have n2_ := Aside0.mk (below_step (by repeat (first | (with_reducible first | exact HB.out | apply below_alloc | apply pw_below_drewN | apply below_drew1) | exact HB.out)) hb); have n3_ := Aside0.mk (hbox); have n4_ := Aside0.mk ((by rw [hg]; exact (below_size (by repeat (first | (with_reducible first | exact HB.out | apply below_alloc | apply pw_below_drewN | apply below_drew1) | exact HB.out))) : w.heap.size ≤ gb136)); have n5_ := Aside0.mk ((by rw [hg]; exact (below_size (by repeat (first | (with_reducible first | exact HB.out | apply below_alloc | apply pw_below_drewN | apply below_drew1) | exact HB.out))) : w.heap.size ≤ gb136)); clear HO0_3; clear HO0_4; clear HB; have HO0_3 := n0_; have HO0_4 := n1_; have HB := n2_; have BK136 := n3_; have GW136 := n4_; have GE136 := n5_; clear n0_ n1_ n2_ n3_ n4_ n5_; clear hb hbox hg; have hcz7_0 : w6.cell? ⟨gb136, 0, none⟩ = some (.int .u32 a0_0) := (blk_cell BK136.out 0).trans rfl; have hcz7_1 : w6.cell? ⟨gb136, 1, none⟩ = some (.slice A0_1 l0_1.length c0_1) := (blk_cell BK136.out 1).trans rfl; have hcz7_2 : w6.cell? ⟨gb136, 2, none⟩ = some (.string a0_2) := (blk_cell BK136.out 2).trans rfl; have hcz7_3 : w6.cell? ⟨gb136, 3, none⟩ = some (.slice A0_3 l0_3.length c0_3) := (blk_cell BK136.out 3).trans rfl; have hcz7_4 : w6.cell? ⟨gb136, 4, none⟩ = some (.slice A0_4 l0_4.length c0_4) := (blk_cell BK136.out 4).trans rfl; have hfz7_0 := blk_frozen BK136.out 0; have hfz7_1 := blk_frozen BK136.out 1; have hfz7_2 := blk_frozen BK136.out 2; have hfz7_3 := blk_frozen BK136.out 3; have hfz7_4 := blk_frozen BK136.out 4) | ((with_reducible refine gate_callee (f := 15) rfl ?_); refine goesL_ (some 15) rfl rfl Tryd.func15 (by kernel_rfl) rfl #[.agg #[.int .u32 a0_0, .slice A0_1 l0_1.length c0_1, .string a0_2, .slice A0_3 l0_3.length c0_3, .slice A0_4 l0_4.length c0_4], .slice A1 l1.length c1] rfl (by (try simp only [List.map_toArray, List.map_cons, List.map_nil]); first | done | rfl | (simp only [List.length_drop, List.length_take]; rfl)) ?_; (with_reducible refine (path_Get.calls k a0_0 _ _ l0_1 a0_2 (fun k_ => (((P0_3_ k_ ∨ P0_4_ k_) ∨ w.heap.size ≤ k_) ∧ k_ ≠ gb136)) _ _ l0_3 (fun k_ => (((P0_3_ k_ ∨ P0_4_ k_) ∨ w.heap.size ≤ k_) ∧ k_ ≠ gb136)) _ _ l0_4 _ _ l1 t137 t138 t141 t144 _ ?side1 ?side2 ?side3 ?side4 ?side5 ?side6 A3.out).mono ?_); (case side1 => repeat (first | exact (Kd.C_below HR0_1.out HB.out) | (with_reducible refine Kd.C_alloc ?_ _) | (with_reducible refine Kd.C_drewN ?_ _) | (with_reducible refine Kd.C_drew ?_))); (case side2 => exact HC0_1.out); (case side3 => exact HO0_3.out); (case side4 => exact HO0_4.out); (case side5 => repeat (first | exact (Kd.C_below HR1.out HB.out) | (with_reducible refine Kd.C_alloc ?_ _) | (with_reducible refine Kd.C_drewN ?_ _) | (with_reducible refine Kd.C_drew ?_))); (case side6 => exact HC1.out); rintro e w8 ⟨v139, v142, rfl, ho0, ho1, hb⟩; refine ⟨_, rfl, ?_⟩; have n0_ := Aside0.mk (Kd.V_mono (Kd.V_told (Kd.V_told (Kd.V_old (by (with_reducible repeat (first | apply Kd.V_alloc | apply Kd.V_drewN | apply Kd.V_drew)); exact HO0_3.out) hb) (Kd.S_base ho0)) (Kd.R_base ho1)) (fun _ h_ => h_.1)); have n1_ := Aside0.mk (Kd.V_mono (Kd.V_told (Kd.V_told (Kd.V_old (by (with_reducible repeat (first | apply Kd.V_alloc | apply Kd.V_drewN | apply Kd.V_drew)); exact HO0_4.out) hb) (Kd.S_base ho0)) (Kd.R_base ho1)) (fun _ h_ => h_.1)); have n2_ := Aside0.mk (Kd.S_lower (Kd.S_newM (M := fun k_ => (w.heap.size ≤ k_)) (Kd.S_mono (ok' := fun k_ => True) ho0 (fun _ hk_ => trivial)) (below_size (by repeat (first | (with_reducible first | exact HB.out | apply below_alloc | apply pw_below_drewN | apply below_drew1 | refine below_set ?_ GE136.out) | exact HB.out))) (fun k_ h_ => h_)) (below_size (by repeat (first | (with_reducible first | exact HB.out | apply below_alloc | apply pw_below_drewN | apply below_drew1 | refine below_set ?_ GE136.out) | exact HB.out)))); have n3_ := Aside0.mk (Kd.R_lower (Kd.R_newM (M := fun k_ => (w.heap.size ≤ k_)) (Kd.R_mono (ok' := fun k_ => some k_ ≠ (v139 : Value).ownBlock) ho1 (fun _ hk_ => hk_.2)) (below_size (by repeat (first | (with_reducible first | exact HB.out | apply below_alloc | apply pw_below_drewN | apply below_drew1 | refine below_set ?_ GE136.out) | exact HB.out))) (fun k_ h_ => h_)) (below_size (by repeat (first | (with_reducible first | exact HB.out | apply below_alloc | apply pw_below_drewN | apply below_drew1 | refine below_set ?_ GE136.out) | exact HB.out)))); have n4_ := Aside0.mk (blk_below (g := gb136) (o := .cells #[.int .u32 a0_0, .slice A0_1 l0_1.length c0_1, .string a0_2, .slice A0_3 l0_3.length c0_3, .slice A0_4 l0_4.length c0_4] 29 (0, 0)) (by (with_reducible repeat (first | refine blk_drewN ?_ _ | refine blk_drew ?_ | refine blk_alloc ?_ _)); exact BK136.out) hb); have n5_ := Aside0.mk (below_step (by repeat (first | (with_reducible first | exact HB.out | apply below_alloc | apply pw_below_drewN | apply below_drew1 | refine below_set ?_ GE136.out) | exact HB.out)) hb); clear HO0_3; clear HO0_4; clear BK136; clear HB; have HO0_3 := n0_; have HO0_4 := n1_; have HO140 := n2_; have HO143 := n3_; have BK136 := n4_; have HB := n5_; clear n0_ n1_ n2_ n3_ n4_ n5_; (try clear hb); (try clear hb2); (try clear hk); (try clear hi); (try clear ho0); (try clear ho1)) | ((with_reducible refine gate_dst (N := 6) rfl ?_); refine box_event ?hg (N := 6) ?hd (cs := #[.string (⟨#[]⟩ : ByteArray), .slice none 0 0, .slice none 0 0]) (t := 27) ?hr ?_; (case hd => rfl); (case hg => rfl); (case hr => first | (go_simp; done) | (go_simp; rfl)); intro gb145 hg w9 hbox hb; have n0_ := Aside0.mk (Kd.V_below (Kd.V_elderB (by (with_reducible repeat (first | apply Kd.V_alloc | apply Kd.V_drewN | apply Kd.V_drew)); exact HO0_3.out) gb145 (Nat.le_of_eq hg.symm)) hb); have n1_ := Aside0.mk (Kd.V_below (Kd.V_elderB (by (with_reducible repeat (first | apply Kd.V_alloc | apply Kd.V_drewN | apply Kd.V_drew)); exact HO0_4.out) gb145 (Nat.le_of_eq hg.symm)) hb); have n2_ := Aside0.mk (Kd.S_below (by (with_reducible repeat (first | apply Kd.S_alloc | apply Kd.S_drewN | apply Kd.S_drew)); exact HO140.out) hb); have n3_ := Aside0.mk (Kd.R_below (Kd.R_elderB (by (with_reducible repeat (first | apply Kd.R_alloc | apply Kd.R_drewN | apply Kd.R_drew)); exact HO143.out) gb145 (Nat.le_of_eq hg.symm)) hb); have n4_ := Aside0.mk (blk_below (g := gb136) (o := .cells #[.int .u32 a0_0, .slice A0_1 l0_1.length c0_1, .string a0_2, .slice A0_3 l0_3.length c0_3, .slice A0_4 l0_4.length c0_4] 29 (0, 0)) (by (with_reducible repeat (first | refine blk_drewN ?_ _ | refine blk_drew ?_ | refine blk_alloc ?_ _)); exact BK136.out) hb); have n5_ := Aside0.mk (below_step (by repeat (first | (with_reducible first | exact HB.out | apply below_alloc | apply pw_below_drewN | apply below_drew1 | refine below_set ?_ GE136.out) | exact HB.out)) hb); have n6_ := Aside0.mk (hbox); have n7_ := Aside0.mk ((by rw [hg]; exact (below_size (by repeat (first | (with_reducible first | exact HB.out | apply below_alloc | apply pw_below_drewN | apply below_drew1 | refine below_set ?_ GE136.out) | exact HB.out))) : w.heap.size ≤ gb145)); have n8_ := Aside0.mk ((by rw [hg]; exact (below_size (by repeat (first | (with_reducible first | exact HB.out | apply below_alloc | apply pw_below_drewN | apply below_drew1 | refine below_set ?_ GE136.out) | exact HB.out))) : w.heap.size ≤ gb145)); have n9_ := Aside0.mk ((by rw [hg]; exact Nat.ne_of_lt (blk_lt (g := gb136) (o := .cells #[.int .u32 a0_0, .slice A0_1 l0_1.length c0_1, .string a0_2, .slice A0_3 l0_3.length c0_3, .slice A0_4 l0_4.length c0_4] 29 (0, 0)) (by (with_reducible repeat (first | refine blk_drewN ?_ _ | refine blk_drew ?_ | refine blk_alloc ?_ _)); exact BK136.out)) : gb136 ≠ gb145)); have n10_ := Aside0.mk ((by rw [hg]; exact Nat.ne_of_gt (blk_lt (g := gb136) (o := .cells #[.int .u32 a0_0, .slice A0_1 l0_1.length c0_1, .string a0_2, .slice A0_3 l0_3.length c0_3, .slice A0_4 l0_4.length c0_4] 29 (0, 0)) (by (with_reducible repeat (first | refine blk_drewN ?_ _ | refine blk_drew ?_ | refine blk_alloc ?_ _)); exact BK136.out)) : gb145 ≠ gb136)); clear HO0_3; clear HO0_4; clear HO140; clear HO143; clear BK136; clear HB; have HO0_3 := n0_; have HO0_4 := n1_; have HO140 := n2_; have HO143 := n3_; have BK136 := n4_; have HB := n5_; have BK145 := n6_; have GW145 := n7_; have GE145 := n8_; have NB136_145 := n9_; have NB145_136 := n10_; clear n0_ n1_ n2_ n3_ n4_ n5_ n6_ n7_ n8_ n9_ n10_; clear hb hbox hg; have hnb10 := NB145_136.out; have hnc10 := NB136_145.out; have hcz11_0 : w9.cell? ⟨gb145, 0, none⟩ = some (.string (⟨#[]⟩ : ByteArray)) := (blk_cell BK145.out 0).trans rfl; have hcz11_1 : w9.cell? ⟨gb145, 1, none⟩ = some (.slice none 0 0) := (blk_cell BK145.out 1).trans rfl; have hcz11_2 : w9.cell? ⟨gb145, 2, none⟩ = some (.slice none 0 0) := (blk_cell BK145.out 2).trans rfl; have hfz11_0 := blk_frozen BK145.out 0; have hfz11_1 := blk_frozen BK145.out 1; have hfz11_2 := blk_frozen BK145.out 2; obtain ⟨Ao12, co12, eo12⟩ := Kd.S_slice HO140.out; subst eo12; obtain ⟨Ao13, co13, eo13⟩ := Kd.R_slice HO143.out; subst eo13))
      go_ret2
      exact ⟨by first | rfl | (simp [errW_none, errW_some] <;> rfl) | (simp [*, errW_none, errW_some] <;> rfl), by repeat (first | (with_reducible first | exact HB.out | apply below_alloc | apply pw_below_drewN | apply below_drew1 | refine below_set ?_ GE136.out | refine below_set ?_ GE145.out) | exact HB.out)⟩
    · rw [if_neg c5] at H
      have c5b0 : ((l1.length : Int) == 0) = false := beq_eq_false_iff_ne.mpr c5
      have c5b1 : ((l1.length : Int) != 0) = true := bne_iff_ne.mpr c5
      have c5b2 : ¬ (l1 = []) := fun h_ => c5 (by rw [h_]; rfl)
      have H' := Aside0.mk H
      clear H
      go_enter Tryd.func8, Tryd.ntmps8
      go_wp2_with (first | ((with_reducible refine gate_dst (N := 2) rfl ?_); refine box_event ?hg (N := 2) ?hd (cs := #[.int .u32 a0_0, .slice A0_1 l0_1.length c0_1, .string a0_2, .slice A0_3 l0_3.length c0_3, .slice A0_4 l0_4.length c0_4]) (t := 29) ?hr ?_; (case hd => rfl); (case hg => rfl); (case hr => first | (go_simp; done) | (go_simp; rfl)); intro gb136 hg w14 hbox hb; have n0_ := Aside0.mk (Kd.V_below (Kd.V_elderB (by (with_reducible repeat (first | apply Kd.V_alloc | apply Kd.V_drewN | apply Kd.V_drew)); exact HO0_3.out) gb136 (Nat.le_of_eq hg.symm)) hb); have n1_ := Aside0.mk (Kd.V_below (Kd.V_elderB (by (with_reducible repeat (first | apply Kd.V_alloc | apply Kd.V_drewN | apply Kd.V_drew)); exact HO0_4.out) gb136 (Nat.le_of_eq hg.symm)) hb); have n2_ := Aside0.mk (below_step (by repeat (first | (with_reducible first | exact HB.out | apply below_alloc | apply pw_below_drewN | apply below_drew1) | exact HB.out)) hb); have n3_ := Aside0.mk (hbox); have n4_ := Aside0.mk ((by rw [hg]; exact (below_size (by repeat (first | (with_reducible first | exact HB.out | apply below_alloc | apply pw_below_drewN | apply below_drew1) | exact HB.out))) : w.heap.size ≤ gb136)); have n5_ := Aside0.mk ((by rw [hg]; exact (below_size (by repeat (first | (with_reducible first | exact HB.out | apply below_alloc | apply pw_below_drewN | apply below_drew1) | exact HB.out))) : w.heap.size ≤ gb136)); clear HO0_3; clear HO0_4; clear HB; have HO0_3 := n0_; have HO0_4 := n1_; have HB := n2_; have BK136 := n3_; have GW136 := n4_; have GE136 := n5_; clear n0_ n1_ n2_ n3_ n4_ n5_; clear hb hbox hg; have hcz15_0 : w14.cell? ⟨gb136, 0, none⟩ = some (.int .u32 a0_0) := (blk_cell BK136.out 0).trans rfl; have hcz15_1 : w14.cell? ⟨gb136, 1, none⟩ = some (.slice A0_1 l0_1.length c0_1) := (blk_cell BK136.out 1).trans rfl; have hcz15_2 : w14.cell? ⟨gb136, 2, none⟩ = some (.string a0_2) := (blk_cell BK136.out 2).trans rfl; have hcz15_3 : w14.cell? ⟨gb136, 3, none⟩ = some (.slice A0_3 l0_3.length c0_3) := (blk_cell BK136.out 3).trans rfl; have hcz15_4 : w14.cell? ⟨gb136, 4, none⟩ = some (.slice A0_4 l0_4.length c0_4) := (blk_cell BK136.out 4).trans rfl; have hfz15_0 := blk_frozen BK136.out 0; have hfz15_1 := blk_frozen BK136.out 1; have hfz15_2 := blk_frozen BK136.out 2; have hfz15_3 := blk_frozen BK136.out 3; have hfz15_4 := blk_frozen BK136.out 4) | ((with_reducible refine gate_callee (f := 15) rfl ?_); refine goesL_ (some 15) rfl rfl Tryd.func15 (by kernel_rfl) rfl #[.agg #[.int .u32 a0_0, .slice A0_1 l0_1.length c0_1, .string a0_2, .slice A0_3 l0_3.length c0_3, .slice A0_4 l0_4.length c0_4], .slice A1 l1.length c1] rfl (by (try simp only [List.map_toArray, List.map_cons, List.map_nil]); first | done | rfl | (simp only [List.length_drop, List.length_take]; rfl)) ?_; (with_reducible refine (path_Get.calls k a0_0 _ _ l0_1 a0_2 (fun k_ => (((P0_3_ k_ ∨ P0_4_ k_) ∨ w.heap.size ≤ k_) ∧ k_ ≠ gb136)) _ _ l0_3 (fun k_ => (((P0_3_ k_ ∨ P0_4_ k_) ∨ w.heap.size ≤ k_) ∧ k_ ≠ gb136)) _ _ l0_4 _ _ l1 t137 t138 t141 t144 _ ?side1 ?side2 ?side3 ?side4 ?side5 ?side6 A3.out).mono ?_); (case side1 => repeat (first | exact (Kd.C_below HR0_1.out HB.out) | (with_reducible refine Kd.C_alloc ?_ _) | (with_reducible refine Kd.C_drewN ?_ _) | (with_reducible refine Kd.C_drew ?_))); (case side2 => exact HC0_1.out); (case side3 => exact HO0_3.out); (case side4 => exact HO0_4.out); (case side5 => repeat (first | exact (Kd.C_below HR1.out HB.out) | (with_reducible refine Kd.C_alloc ?_ _) | (with_reducible refine Kd.C_drewN ?_ _) | (with_reducible refine Kd.C_drew ?_))); (case side6 => exact HC1.out); rintro e w16 ⟨v139, v142, rfl, ho0, ho1, hb⟩; refine ⟨_, rfl, ?_⟩; have n0_ := Aside0.mk (Kd.V_mono (Kd.V_told (Kd.V_told (Kd.V_old (by (with_reducible repeat (first | apply Kd.V_alloc | apply Kd.V_drewN | apply Kd.V_drew)); exact HO0_3.out) hb) (Kd.S_base ho0)) (Kd.R_base ho1)) (fun _ h_ => h_.1)); have n1_ := Aside0.mk (Kd.V_mono (Kd.V_told (Kd.V_told (Kd.V_old (by (with_reducible repeat (first | apply Kd.V_alloc | apply Kd.V_drewN | apply Kd.V_drew)); exact HO0_4.out) hb) (Kd.S_base ho0)) (Kd.R_base ho1)) (fun _ h_ => h_.1)); have n2_ := Aside0.mk (Kd.S_lower (Kd.S_newM (M := fun k_ => (w.heap.size ≤ k_)) (Kd.S_mono (ok' := fun k_ => True) ho0 (fun _ hk_ => trivial)) (below_size (by repeat (first | (with_reducible first | exact HB.out | apply below_alloc | apply pw_below_drewN | apply below_drew1 | refine below_set ?_ GE136.out) | exact HB.out))) (fun k_ h_ => h_)) (below_size (by repeat (first | (with_reducible first | exact HB.out | apply below_alloc | apply pw_below_drewN | apply below_drew1 | refine below_set ?_ GE136.out) | exact HB.out)))); have n3_ := Aside0.mk (Kd.R_lower (Kd.R_newM (M := fun k_ => (w.heap.size ≤ k_)) (Kd.R_mono (ok' := fun k_ => some k_ ≠ (v139 : Value).ownBlock) ho1 (fun _ hk_ => hk_.2)) (below_size (by repeat (first | (with_reducible first | exact HB.out | apply below_alloc | apply pw_below_drewN | apply below_drew1 | refine below_set ?_ GE136.out) | exact HB.out))) (fun k_ h_ => h_)) (below_size (by repeat (first | (with_reducible first | exact HB.out | apply below_alloc | apply pw_below_drewN | apply below_drew1 | refine below_set ?_ GE136.out) | exact HB.out)))); have n4_ := Aside0.mk (blk_below (g := gb136) (o := .cells #[.int .u32 a0_0, .slice A0_1 l0_1.length c0_1, .string a0_2, .slice A0_3 l0_3.length c0_3, .slice A0_4 l0_4.length c0_4] 29 (0, 0)) (by (with_reducible repeat (first | refine blk_drewN ?_ _ | refine blk_drew ?_ | refine blk_alloc ?_ _)); exact BK136.out) hb); have n5_ := Aside0.mk (below_step (by repeat (first | (with_reducible first | exact HB.out | apply below_alloc | apply pw_below_drewN | apply below_drew1 | refine below_set ?_ GE136.out) | exact HB.out)) hb); clear HO0_3; clear HO0_4; clear BK136; clear HB; have HO0_3 := n0_; have HO0_4 := n1_; have HO140 := n2_; have HO143 := n3_; have BK136 := n4_; have HB := n5_; clear n0_ n1_ n2_ n3_ n4_ n5_; (try clear hb); (try clear hb2); (try clear hk); (try clear hi); (try clear ho0); (try clear ho1)) | ((with_reducible refine gate_dst (N := 6) rfl ?_); refine box_event ?hg (N := 6) ?hd (cs := #[.string (⟨#[]⟩ : ByteArray), .slice none 0 0, .slice none 0 0]) (t := 27) ?hr ?_; (case hd => rfl); (case hg => rfl); (case hr => first | (go_simp; done) | (go_simp; rfl)); intro gb145 hg w17 hbox hb; have n0_ := Aside0.mk (Kd.V_below (Kd.V_elderB (by (with_reducible repeat (first | apply Kd.V_alloc | apply Kd.V_drewN | apply Kd.V_drew)); exact HO0_3.out) gb145 (Nat.le_of_eq hg.symm)) hb); have n1_ := Aside0.mk (Kd.V_below (Kd.V_elderB (by (with_reducible repeat (first | apply Kd.V_alloc | apply Kd.V_drewN | apply Kd.V_drew)); exact HO0_4.out) gb145 (Nat.le_of_eq hg.symm)) hb); have n2_ := Aside0.mk (Kd.S_below (by (with_reducible repeat (first | apply Kd.S_alloc | apply Kd.S_drewN | apply Kd.S_drew)); exact HO140.out) hb); have n3_ := Aside0.mk (Kd.R_below (Kd.R_elderB (by (with_reducible repeat (first | apply Kd.R_alloc | apply Kd.R_drewN | apply Kd.R_drew)); exact HO143.out) gb145 (Nat.le_of_eq hg.symm)) hb); have n4_ := Aside0.mk (blk_below (g := gb136) (o := .cells #[.int .u32 a0_0, .slice A0_1 l0_1.length c0_1, .string a0_2, .slice A0_3 l0_3.length c0_3, .slice A0_4 l0_4.length c0_4] 29 (0, 0)) (by (with_reducible repeat (first | refine blk_drewN ?_ _ | refine blk_drew ?_ | refine blk_alloc ?_ _)); exact BK136.out) hb); have n5_ := Aside0.mk (below_step (by repeat (first | (with_reducible first | exact HB.out | apply below_alloc | apply pw_below_drewN | apply below_drew1 | refine below_set ?_ GE136.out) | exact HB.out)) hb); have n6_ := Aside0.mk (hbox); have n7_ := Aside0.mk ((by rw [hg]; exact (below_size (by repeat (first | (with_reducible first | exact HB.out | apply below_alloc | apply pw_below_drewN | apply below_drew1 | refine below_set ?_ GE136.out) | exact HB.out))) : w.heap.size ≤ gb145)); have n8_ := Aside0.mk ((by rw [hg]; exact (below_size (by repeat (first | (with_reducible first | exact HB.out | apply below_alloc | apply pw_below_drewN | apply below_drew1 | refine below_set ?_ GE136.out) | exact HB.out))) : w.heap.size ≤ gb145)); have n9_ := Aside0.mk ((by rw [hg]; exact Nat.ne_of_lt (blk_lt (g := gb136) (o := .cells #[.int .u32 a0_0, .slice A0_1 l0_1.length c0_1, .string a0_2, .slice A0_3 l0_3.length c0_3, .slice A0_4 l0_4.length c0_4] 29 (0, 0)) (by (with_reducible repeat (first | refine blk_drewN ?_ _ | refine blk_drew ?_ | refine blk_alloc ?_ _)); exact BK136.out)) : gb136 ≠ gb145)); have n10_ := Aside0.mk ((by rw [hg]; exact Nat.ne_of_gt (blk_lt (g := gb136) (o := .cells #[.int .u32 a0_0, .slice A0_1 l0_1.length c0_1, .string a0_2, .slice A0_3 l0_3.length c0_3, .slice A0_4 l0_4.length c0_4] 29 (0, 0)) (by (with_reducible repeat (first | refine blk_drewN ?_ _ | refine blk_drew ?_ | refine blk_alloc ?_ _)); exact BK136.out)) : gb145 ≠ gb136)); clear HO0_3; clear HO0_4; clear HO140; clear HO143; clear BK136; clear HB; have HO0_3 := n0_; have HO0_4 := n1_; have HO140 := n2_; have HO143 := n3_; have BK136 := n4_; have HB := n5_; have BK145 := n6_; have GW145 := n7_; have GE145 := n8_; have NB136_145 := n9_; have NB145_136 := n10_; clear n0_ n1_ n2_ n3_ n4_ n5_ n6_ n7_ n8_ n9_ n10_; clear hb hbox hg; have hnb18 := NB145_136.out; have hnc18 := NB136_145.out; have hcz19_0 : w17.cell? ⟨gb145, 0, none⟩ = some (.string (⟨#[]⟩ : ByteArray)) := (blk_cell BK145.out 0).trans rfl; have hcz19_1 : w17.cell? ⟨gb145, 1, none⟩ = some (.slice none 0 0) := (blk_cell BK145.out 1).trans rfl; have hcz19_2 : w17.cell? ⟨gb145, 2, none⟩ = some (.slice none 0 0) := (blk_cell BK145.out 2).trans rfl; have hfz19_0 := blk_frozen BK145.out 0; have hfz19_1 := blk_frozen BK145.out 1; have hfz19_2 := blk_frozen BK145.out 2; obtain ⟨Ao20, co20, eo20⟩ := Kd.S_slice HO140.out; subst eo20; obtain ⟨Ao21, co21, eo21⟩ := Kd.R_slice HO143.out; subst eo21; have hcz22_0 : w17.cell? ⟨gb136, 0, none⟩ = some (.int .u32 a0_0) := (blk_cell BK136.out 0).trans rfl; have hcz22_1 : w17.cell? ⟨gb136, 1, none⟩ = some (.slice A0_1 l0_1.length c0_1) := (blk_cell BK136.out 1).trans rfl; have hcz22_2 : w17.cell? ⟨gb136, 2, none⟩ = some (.string a0_2) := (blk_cell BK136.out 2).trans rfl; have hcz22_3 : w17.cell? ⟨gb136, 3, none⟩ = some (.slice A0_3 l0_3.length c0_3) := (blk_cell BK136.out 3).trans rfl; have hcz22_4 : w17.cell? ⟨gb136, 4, none⟩ = some (.slice A0_4 l0_4.length c0_4) := (blk_cell BK136.out 4).trans rfl; have hfz22_0 := blk_frozen BK136.out 0; have hfz22_1 := blk_frozen BK136.out 1; have hfz22_2 := blk_frozen BK136.out 2; have hfz22_3 := blk_frozen BK136.out 3; have hfz22_4 := blk_frozen BK136.out 4) | ((with_reducible refine gate_dst (N := 8) rfl ?_); refine box_event ?hg (N := 8) ?hd (cs := #[.string (⟨#[]⟩ : ByteArray), .slice none 0 0, .slice none 0 0]) (t := 27) ?hr ?_; (case hd => rfl); (case hg => rfl); (case hr => first | (go_simp; done) | (go_simp; rfl)); intro gb146 hg w23 hbox hb; have n0_ := Aside0.mk (Kd.V_below (Kd.V_elderB (by (with_reducible repeat (first | apply Kd.V_alloc | apply Kd.V_drewN | apply Kd.V_drew)); exact (Kd.V_mono (Kd.V_far (p := ⟨gb145, 2, none⟩) (Kd.V_far (p := ⟨gb145, 1, none⟩) (Kd.V_far (p := ⟨gb145, 0, none⟩) (Kd.V_mono HO0_3.out (fun k_ hk => (⟨hk, hk.2⟩ : _ ∧ k_ ≠ gb145))) (fun _ hk => hk.2) (.string t137)) (fun _ hk => hk.2) (.slice Ao20 t138.length co20)) (fun _ hk => hk.2) (.slice Ao21 t141.length co21)) (fun _ h_ => h_.1))) gb146 (Nat.le_of_eq hg.symm)) hb); have n1_ := Aside0.mk (Kd.V_below (Kd.V_elderB (by (with_reducible repeat (first | apply Kd.V_alloc | apply Kd.V_drewN | apply Kd.V_drew)); exact (Kd.V_mono (Kd.V_far (p := ⟨gb145, 2, none⟩) (Kd.V_far (p := ⟨gb145, 1, none⟩) (Kd.V_far (p := ⟨gb145, 0, none⟩) (Kd.V_mono HO0_4.out (fun k_ hk => (⟨hk, hk.2⟩ : _ ∧ k_ ≠ gb145))) (fun _ hk => hk.2) (.string t137)) (fun _ hk => hk.2) (.slice Ao20 t138.length co20)) (fun _ hk => hk.2) (.slice Ao21 t141.length co21)) (fun _ h_ => h_.1))) gb146 (Nat.le_of_eq hg.symm)) hb); have n2_ := Aside0.mk (Kd.S_below (by (with_reducible repeat (first | apply Kd.S_alloc | apply Kd.S_drewN | apply Kd.S_drew)); exact (Kd.S_mono (Kd.S_far (p := ⟨gb145, 2, none⟩) (Kd.S_far (p := ⟨gb145, 1, none⟩) (Kd.S_far (p := ⟨gb145, 0, none⟩) (Kd.S_types HO140.out BK145.out (by decide)) (fun _ hk => hk.2) (.string t137)) (fun _ hk => hk.2) (.slice Ao20 t138.length co20)) (fun _ hk => hk.2) (.slice Ao21 t141.length co21)) (fun _ h_ => h_.1))) hb); have n3_ := Aside0.mk (Kd.R_below (Kd.R_elderB (by (with_reducible repeat (first | apply Kd.R_alloc | apply Kd.R_drewN | apply Kd.R_drew)); exact (Kd.R_mono (Kd.R_far (p := ⟨gb145, 2, none⟩) (Kd.R_far (p := ⟨gb145, 1, none⟩) (Kd.R_far (p := ⟨gb145, 0, none⟩) (Kd.R_mono HO143.out (fun k_ hk => (⟨hk, hk.2⟩ : _ ∧ k_ ≠ gb145))) (fun _ hk => hk.2) (.string t137)) (fun _ hk => hk.2) (.slice Ao20 t138.length co20)) (fun _ hk => hk.2) (.slice Ao21 t141.length co21)) (fun _ h_ => h_.1))) gb146 (Nat.le_of_eq hg.symm)) hb); have n4_ := Aside0.mk (blk_below (g := gb136) (o := .cells #[.int .u32 a0_0, .slice A0_1 l0_1.length c0_1, .string a0_2, .slice A0_3 l0_3.length c0_3, .slice A0_4 l0_4.length c0_4] 29 (0, 0)) (by (with_reducible repeat (first | refine blk_drewN ?_ _ | refine blk_drew ?_ | refine blk_alloc ?_ _)); refine blk_far ?_ NB136_145.out _; (with_reducible repeat (first | refine blk_drewN ?_ _ | refine blk_drew ?_ | refine blk_alloc ?_ _)); refine blk_far ?_ NB136_145.out _; (with_reducible repeat (first | refine blk_drewN ?_ _ | refine blk_drew ?_ | refine blk_alloc ?_ _)); refine blk_far ?_ NB136_145.out _; (with_reducible repeat (first | refine blk_drewN ?_ _ | refine blk_drew ?_ | refine blk_alloc ?_ _)); exact BK136.out) hb); have n5_ := Aside0.mk (blk_below (g := gb145) (o := .cells #[.string t137, .slice Ao20 t138.length co20, .slice Ao21 t141.length co21] 27 (0, 0)) (by (with_reducible repeat (first | refine blk_drewN ?_ _ | refine blk_drew ?_ | refine blk_alloc ?_ _)); refine blk_put (cs := #[.string t137, .slice Ao20 t138.length co20, .slice none 0 0]) ?_ 2 _ rfl; (with_reducible repeat (first | refine blk_drewN ?_ _ | refine blk_drew ?_ | refine blk_alloc ?_ _)); refine blk_put (cs := #[.string t137, .slice none 0 0, .slice none 0 0]) ?_ 1 _ rfl; (with_reducible repeat (first | refine blk_drewN ?_ _ | refine blk_drew ?_ | refine blk_alloc ?_ _)); refine blk_put (cs := #[.string (⟨#[]⟩ : ByteArray), .slice none 0 0, .slice none 0 0]) ?_ 0 _ rfl; (with_reducible repeat (first | refine blk_drewN ?_ _ | refine blk_drew ?_ | refine blk_alloc ?_ _)); exact BK145.out) hb); have n6_ := Aside0.mk (below_step (by repeat (first | (with_reducible first | exact HB.out | apply below_alloc | apply pw_below_drewN | apply below_drew1 | refine below_set ?_ GE136.out | refine below_set ?_ GE145.out) | exact HB.out)) hb); have n7_ := Aside0.mk (hbox); have n8_ := Aside0.mk ((by rw [hg]; exact (below_size (by repeat (first | (with_reducible first | exact HB.out | apply below_alloc | apply pw_below_drewN | apply below_drew1 | refine below_set ?_ GE136.out | refine below_set ?_ GE145.out) | exact HB.out))) : w.heap.size ≤ gb146)); have n9_ := Aside0.mk ((by rw [hg]; exact (below_size (by repeat (first | (with_reducible first | exact HB.out | apply below_alloc | apply pw_below_drewN | apply below_drew1 | refine below_set ?_ GE136.out | refine below_set ?_ GE145.out) | exact HB.out))) : w.heap.size ≤ gb146)); have n10_ := Aside0.mk ((by rw [hg]; exact Nat.ne_of_lt (blk_lt (g := gb136) (o := .cells #[.int .u32 a0_0, .slice A0_1 l0_1.length c0_1, .string a0_2, .slice A0_3 l0_3.length c0_3, .slice A0_4 l0_4.length c0_4] 29 (0, 0)) (by (with_reducible repeat (first | refine blk_drewN ?_ _ | refine blk_drew ?_ | refine blk_alloc ?_ _)); refine blk_far ?_ NB136_145.out _; (with_reducible repeat (first | refine blk_drewN ?_ _ | refine blk_drew ?_ | refine blk_alloc ?_ _)); refine blk_far ?_ NB136_145.out _; (with_reducible repeat (first | refine blk_drewN ?_ _ | refine blk_drew ?_ | refine blk_alloc ?_ _)); refine blk_far ?_ NB136_145.out _; (with_reducible repeat (first | refine blk_drewN ?_ _ | refine blk_drew ?_ | refine blk_alloc ?_ _)); exact BK136.out)) : gb136 ≠ gb146)); have n11_ := Aside0.mk ((by rw [hg]; exact Nat.ne_of_gt (blk_lt (g := gb136) (o := .cells #[.int .u32 a0_0, .slice A0_1 l0_1.length c0_1, .string a0_2, .slice A0_3 l0_3.length c0_3, .slice A0_4 l0_4.length c0_4] 29 (0, 0)) (by (with_reducible repeat (first | refine blk_drewN ?_ _ | refine blk_drew ?_ | refine blk_alloc ?_ _)); refine blk_far ?_ NB136_145.out _; (with_reducible repeat (first | refine blk_drewN ?_ _ | refine blk_drew ?_ | refine blk_alloc ?_ _)); refine blk_far ?_ NB136_145.out _; (with_reducible repeat (first | refine blk_drewN ?_ _ | refine blk_drew ?_ | refine blk_alloc ?_ _)); refine blk_far ?_ NB136_145.out _; (with_reducible repeat (first | refine blk_drewN ?_ _ | refine blk_drew ?_ | refine blk_alloc ?_ _)); exact BK136.out)) : gb146 ≠ gb136)); have n12_ := Aside0.mk ((by rw [hg]; exact Nat.ne_of_lt (blk_lt (g := gb145) (o := .cells #[.string t137, .slice Ao20 t138.length co20, .slice Ao21 t141.length co21] 27 (0, 0)) (by (with_reducible repeat (first | refine blk_drewN ?_ _ | refine blk_drew ?_ | refine blk_alloc ?_ _)); refine blk_put (cs := #[.string t137, .slice Ao20 t138.length co20, .slice none 0 0]) ?_ 2 _ rfl; (with_reducible repeat (first | refine blk_drewN ?_ _ | refine blk_drew ?_ | refine blk_alloc ?_ _)); refine blk_put (cs := #[.string t137, .slice none 0 0, .slice none 0 0]) ?_ 1 _ rfl; (with_reducible repeat (first | refine blk_drewN ?_ _ | refine blk_drew ?_ | refine blk_alloc ?_ _)); refine blk_put (cs := #[.string (⟨#[]⟩ : ByteArray), .slice none 0 0, .slice none 0 0]) ?_ 0 _ rfl; (with_reducible repeat (first | refine blk_drewN ?_ _ | refine blk_drew ?_ | refine blk_alloc ?_ _)); exact BK145.out)) : gb145 ≠ gb146)); have n13_ := Aside0.mk ((by rw [hg]; exact Nat.ne_of_gt (blk_lt (g := gb145) (o := .cells #[.string t137, .slice Ao20 t138.length co20, .slice Ao21 t141.length co21] 27 (0, 0)) (by (with_reducible repeat (first | refine blk_drewN ?_ _ | refine blk_drew ?_ | refine blk_alloc ?_ _)); refine blk_put (cs := #[.string t137, .slice Ao20 t138.length co20, .slice none 0 0]) ?_ 2 _ rfl; (with_reducible repeat (first | refine blk_drewN ?_ _ | refine blk_drew ?_ | refine blk_alloc ?_ _)); refine blk_put (cs := #[.string t137, .slice none 0 0, .slice none 0 0]) ?_ 1 _ rfl; (with_reducible repeat (first | refine blk_drewN ?_ _ | refine blk_drew ?_ | refine blk_alloc ?_ _)); refine blk_put (cs := #[.string (⟨#[]⟩ : ByteArray), .slice none 0 0, .slice none 0 0]) ?_ 0 _ rfl; (with_reducible repeat (first | refine blk_drewN ?_ _ | refine blk_drew ?_ | refine blk_alloc ?_ _)); exact BK145.out)) : gb146 ≠ gb145)); clear HO0_3; clear HO0_4; clear HO140; clear HO143; clear BK136; clear BK145; clear HB; have HO0_3 := n0_; have HO0_4 := n1_; have HO140 := n2_; have HO143 := n3_; have BK136 := n4_; have BK145 := n5_; have HB := n6_; have BK146 := n7_; have GW146 := n8_; have GE146 := n9_; have NB136_146 := n10_; have NB146_136 := n11_; have NB145_146 := n12_; have NB146_145 := n13_; clear n0_ n1_ n2_ n3_ n4_ n5_ n6_ n7_ n8_ n9_ n10_ n11_ n12_ n13_; clear hb hbox hg; have hnb24 := NB146_136.out; have hnc24 := NB136_146.out; have hnb25 := NB146_145.out; have hnc25 := NB145_146.out; have hcz26_0 : w23.cell? ⟨gb146, 0, none⟩ = some (.string (⟨#[]⟩ : ByteArray)) := (blk_cell BK146.out 0).trans rfl; have hcz26_1 : w23.cell? ⟨gb146, 1, none⟩ = some (.slice none 0 0) := (blk_cell BK146.out 1).trans rfl; have hcz26_2 : w23.cell? ⟨gb146, 2, none⟩ = some (.slice none 0 0) := (blk_cell BK146.out 2).trans rfl; have hfz26_0 := blk_frozen BK146.out 0; have hfz26_1 := blk_frozen BK146.out 1; have hfz26_2 := blk_frozen BK146.out 2))
      go_loopg [9, 28] k (fun kq v9 v28 w' => ∃ (x9_1 : ByteArray) (x28_1 : Int) (x147000_1 : ByteArray) (x147001_1 : List (S62)) (x147002_1 : List (S27)) (u147001 : Value) (u147002 : Value), v9 = .string x9_1 ∧ v28 = .int .i64 x28_1 ∧ Aside0 (path_Path.l0 kq x9_1 l1 (l1.length : Int) x28_1 x147000_1 x147001_1 x147002_1 = some (r1, r2)) ∧ Aside0 (kq ≤ k) ∧ Aside0 (Kd.V k62 62 w' w.heap.size (fun k_ => ((P0_3_ k_ ∨ P0_4_ k_) ∨ w.heap.size ≤ k_) ∧ some k_ ≠ ((.slice Ao20 t138.length co20) : Value).ownBlock ∧ some k_ ≠ ((.slice Ao21 t141.length co21) : Value).ownBlock ∧ k_ ≠ gb136 ∧ k_ ≠ gb145 ∧ k_ ≠ gb146) (.slice A0_3 l0_3.length c0_3) l0_3) ∧ Aside0 (Kd.V k27 27 w' w.heap.size (fun k_ => ((P0_3_ k_ ∨ P0_4_ k_) ∨ w.heap.size ≤ k_) ∧ some k_ ≠ ((.slice Ao20 t138.length co20) : Value).ownBlock ∧ some k_ ≠ ((.slice Ao21 t141.length co21) : Value).ownBlock ∧ k_ ≠ gb136 ∧ k_ ≠ gb145 ∧ k_ ≠ gb146) (.slice A0_4 l0_4.length c0_4) l0_4) ∧ Aside0 (Kd.S k62 62 w' w.heap.size (fun k_ => (w.heap.size ≤ k_)) (.slice Ao20 t138.length co20) t138) ∧ Aside0 (Kd.R k27 27 w' w.heap.size (fun k_ => (w.heap.size ≤ k_) ∧ some k_ ≠ ((.slice Ao20 t138.length co20) : Value).ownBlock ∧ k_ ≠ gb145 ∧ k_ ≠ gb146) (.slice Ao21 t141.length co21) t141) ∧ Aside0 (Kd.V k62 62 w' w.heap.size (fun k_ => ((P0_3_ k_ ∨ P0_4_ k_) ∨ w.heap.size ≤ k_) ∧ some k_ ≠ ((.slice Ao20 t138.length co20) : Value).ownBlock ∧ some k_ ≠ ((.slice Ao21 t141.length co21) : Value).ownBlock ∧ k_ ≠ gb136 ∧ k_ ≠ gb145 ∧ k_ ≠ gb146) u147001 x147001_1) ∧ Aside0 (Kd.V k27 27 w' w.heap.size (fun k_ => ((P0_3_ k_ ∨ P0_4_ k_) ∨ w.heap.size ≤ k_) ∧ some k_ ≠ ((.slice Ao20 t138.length co20) : Value).ownBlock ∧ some k_ ≠ ((.slice Ao21 t141.length co21) : Value).ownBlock ∧ k_ ≠ gb136 ∧ k_ ≠ gb145 ∧ k_ ≠ gb146) u147002 x147002_1) ∧ Aside0 (w'.heap[gb136]? = some (.cells #[.int .u32 a0_0, (.slice A0_1 l0_1.length c0_1), .string a0_2, (.slice A0_3 l0_3.length c0_3), (.slice A0_4 l0_4.length c0_4)] 29 (0, 0))) ∧ Aside0 (w'.heap[gb145]? = some (.cells #[.string t137, (.slice Ao20 t138.length co20), (.slice Ao21 t141.length co21)] 27 (0, 0))) ∧ Aside0 (w'.heap[gb146]? = some (.cells #[.string x147000_1, u147001, u147002] 27 (0, 0))) ∧ Aside0 (Below w.heap.size w w'))
      case atStart => exact ⟨((⟨#[]⟩ : ByteArray)), (0), (a0_2), (l0_3), (l0_4), (.slice A0_3 l0_3.length c0_3), (.slice A0_4 l0_4.length c0_4), (by first | rfl | (simp; done) | (simp [*]; done)), (by first | rfl | (simp; done) | (simp [*]; done)), H', ⟨Nat.le_refl _⟩, ⟨by (with_reducible repeat (first | apply Kd.V_alloc | apply Kd.V_drewN | apply Kd.V_drew)); exact Kd.V_mono (Kd.V_far (p := ⟨gb146, 2, none⟩) (Kd.V_far (p := ⟨gb146, 1, none⟩) (Kd.V_far (p := ⟨gb146, 0, none⟩) (Kd.V_mono HO0_3.out (fun k_ hk => (⟨hk, hk.2⟩ : _ ∧ k_ ≠ gb146))) (fun _ hk => hk.2) (.string a0_2)) (fun _ hk => hk.2) (.slice A0_3 l0_3.length c0_3)) (fun _ hk => hk.2) (.slice A0_4 l0_4.length c0_4)) (fun _ hk => ⟨hk.1.1.1.1.1.1, ⟨hk.1.1.1.1.2, ⟨hk.1.1.1.2, ⟨hk.1.1.1.1.1.2, ⟨hk.1.1.2, hk.1.2⟩⟩⟩⟩⟩)⟩, ⟨by (with_reducible repeat (first | apply Kd.V_alloc | apply Kd.V_drewN | apply Kd.V_drew)); exact Kd.V_mono (Kd.V_far (p := ⟨gb146, 2, none⟩) (Kd.V_far (p := ⟨gb146, 1, none⟩) (Kd.V_far (p := ⟨gb146, 0, none⟩) (Kd.V_mono HO0_4.out (fun k_ hk => (⟨hk, hk.2⟩ : _ ∧ k_ ≠ gb146))) (fun _ hk => hk.2) (.string a0_2)) (fun _ hk => hk.2) (.slice A0_3 l0_3.length c0_3)) (fun _ hk => hk.2) (.slice A0_4 l0_4.length c0_4)) (fun _ hk => ⟨hk.1.1.1.1.1.1, ⟨hk.1.1.1.1.2, ⟨hk.1.1.1.2, ⟨hk.1.1.1.1.1.2, ⟨hk.1.1.2, hk.1.2⟩⟩⟩⟩⟩)⟩, ⟨by (with_reducible repeat (first | apply Kd.S_alloc | apply Kd.S_drewN | apply Kd.S_drew)); exact Kd.S_mono (Kd.S_far (p := ⟨gb146, 2, none⟩) (Kd.S_far (p := ⟨gb146, 1, none⟩) (Kd.S_far (p := ⟨gb146, 0, none⟩) (Kd.S_types HO140.out BK146.out (by decide)) (fun _ hk => hk.2) (.string a0_2)) (fun _ hk => hk.2) (.slice A0_3 l0_3.length c0_3)) (fun _ hk => hk.2) (.slice A0_4 l0_4.length c0_4)) (fun _ hk => hk.1.1)⟩, ⟨by (with_reducible repeat (first | apply Kd.R_alloc | apply Kd.R_drewN | apply Kd.R_drew)); exact Kd.R_mono (Kd.R_far (p := ⟨gb146, 2, none⟩) (Kd.R_far (p := ⟨gb146, 1, none⟩) (Kd.R_far (p := ⟨gb146, 0, none⟩) (Kd.R_mono HO143.out (fun k_ hk => (⟨hk, hk.2⟩ : _ ∧ k_ ≠ gb146))) (fun _ hk => hk.2) (.string a0_2)) (fun _ hk => hk.2) (.slice A0_3 l0_3.length c0_3)) (fun _ hk => hk.2) (.slice A0_4 l0_4.length c0_4)) (fun _ hk => ⟨hk.1.1.1.1, ⟨hk.1.1.1.2, ⟨hk.1.1.2, hk.1.2⟩⟩⟩)⟩, ⟨by (with_reducible repeat (first | apply Kd.V_alloc | apply Kd.V_drewN | apply Kd.V_drew)); exact Kd.V_mono (Kd.V_far (p := ⟨gb146, 2, none⟩) (Kd.V_far (p := ⟨gb146, 1, none⟩) (Kd.V_far (p := ⟨gb146, 0, none⟩) (Kd.V_mono HO0_3.out (fun k_ hk => (⟨hk, hk.2⟩ : _ ∧ k_ ≠ gb146))) (fun _ hk => hk.2) (.string a0_2)) (fun _ hk => hk.2) (.slice A0_3 l0_3.length c0_3)) (fun _ hk => hk.2) (.slice A0_4 l0_4.length c0_4)) (fun _ hk => ⟨hk.1.1.1.1.1.1, ⟨hk.1.1.1.1.2, ⟨hk.1.1.1.2, ⟨hk.1.1.1.1.1.2, ⟨hk.1.1.2, hk.1.2⟩⟩⟩⟩⟩)⟩, ⟨by (with_reducible repeat (first | apply Kd.V_alloc | apply Kd.V_drewN | apply Kd.V_drew)); exact Kd.V_mono (Kd.V_far (p := ⟨gb146, 2, none⟩) (Kd.V_far (p := ⟨gb146, 1, none⟩) (Kd.V_far (p := ⟨gb146, 0, none⟩) (Kd.V_mono HO0_4.out (fun k_ hk => (⟨hk, hk.2⟩ : _ ∧ k_ ≠ gb146))) (fun _ hk => hk.2) (.string a0_2)) (fun _ hk => hk.2) (.slice A0_3 l0_3.length c0_3)) (fun _ hk => hk.2) (.slice A0_4 l0_4.length c0_4)) (fun _ hk => ⟨hk.1.1.1.1.1.1, ⟨hk.1.1.1.1.2, ⟨hk.1.1.1.2, ⟨hk.1.1.1.1.1.2, ⟨hk.1.1.2, hk.1.2⟩⟩⟩⟩⟩)⟩, ⟨by (with_reducible repeat (first | refine blk_drewN ?_ _ | refine blk_drew ?_ | refine blk_alloc ?_ _)); refine blk_far ?_ NB136_146.out _; (with_reducible repeat (first | refine blk_drewN ?_ _ | refine blk_drew ?_ | refine blk_alloc ?_ _)); refine blk_far ?_ NB136_146.out _; (with_reducible repeat (first | refine blk_drewN ?_ _ | refine blk_drew ?_ | refine blk_alloc ?_ _)); refine blk_far ?_ NB136_146.out _; (with_reducible repeat (first | refine blk_drewN ?_ _ | refine blk_drew ?_ | refine blk_alloc ?_ _)); exact BK136.out⟩, ⟨by (with_reducible repeat (first | refine blk_drewN ?_ _ | refine blk_drew ?_ | refine blk_alloc ?_ _)); refine blk_far ?_ NB145_146.out _; (with_reducible repeat (first | refine blk_drewN ?_ _ | refine blk_drew ?_ | refine blk_alloc ?_ _)); refine blk_far ?_ NB145_146.out _; (with_reducible repeat (first | refine blk_drewN ?_ _ | refine blk_drew ?_ | refine blk_alloc ?_ _)); refine blk_far ?_ NB145_146.out _; (with_reducible repeat (first | refine blk_drewN ?_ _ | refine blk_drew ?_ | refine blk_alloc ?_ _)); exact BK145.out⟩, ⟨by (with_reducible repeat (first | refine blk_drewN ?_ _ | refine blk_drew ?_ | refine blk_alloc ?_ _)); refine blk_put (cs := #[.string a0_2, .slice A0_3 l0_3.length c0_3, .slice none 0 0]) ?_ 2 _ rfl; (with_reducible repeat (first | refine blk_drewN ?_ _ | refine blk_drew ?_ | refine blk_alloc ?_ _)); refine blk_put (cs := #[.string a0_2, .slice none 0 0, .slice none 0 0]) ?_ 1 _ rfl; (with_reducible repeat (first | refine blk_drewN ?_ _ | refine blk_drew ?_ | refine blk_alloc ?_ _)); refine blk_put (cs := #[.string (⟨#[]⟩ : ByteArray), .slice none 0 0, .slice none 0 0]) ?_ 0 _ rfl; (with_reducible repeat (first | refine blk_drewN ?_ _ | refine blk_drew ?_ | refine blk_alloc ?_ _)); exact BK146.out⟩, ⟨by repeat (first | (with_reducible first | exact HB.out | apply below_alloc | apply pw_below_drewN | apply below_drew1 | refine below_set ?_ GE136.out | refine below_set ?_ GE145.out | refine below_set ?_ GE146.out) | exact HB.out)⟩⟩
      case round =>
        clear H'
        try clear c1
        try clear c2
        try clear p2
        try clear c4
        try clear c4b0
        try clear c4b1
        try clear c5
        try clear c5b0
        try clear c5b1
        try clear c5b2
        try clear c8
        try clear c10
        try clear c15
        try clear c18
        try clear c24
        try clear c25
        try clear hcz11_0
        try clear hcz11_1
        try clear hcz11_2
        try clear hcz15_0
        try clear hcz15_1
        try clear hcz15_2
        try clear hcz15_3
        try clear hcz15_4
        try clear hcz19_0
        try clear hcz19_1
        try clear hcz19_2
        try clear hcz22_0
        try clear hcz22_1
        try clear hcz22_2
        try clear hcz22_3
        try clear hcz22_4
        try clear hcz26_0
        try clear hcz26_1
        try clear hcz26_2
        try clear hcz7_0
        try clear hcz7_1
        try clear hcz7_2
        try clear hcz7_3
        try clear hcz7_4
        try clear hfz11_0
        try clear hfz11_1
        try clear hfz11_2
        try clear hfz15_0
        try clear hfz15_1
        try clear hfz15_2
        try clear hfz15_3
        try clear hfz15_4
        try clear hfz19_0
        try clear hfz19_1
        try clear hfz19_2
        try clear hfz22_0
        try clear hfz22_1
        try clear hfz22_2
        try clear hfz22_3
        try clear hfz22_4
        try clear hfz26_0
        try clear hfz26_1
        try clear hfz26_2
        try clear hfz7_0
        try clear hfz7_1
        try clear hfz7_2
        try clear hfz7_3
        try clear hfz7_4
        obtain ⟨x9_1, x28_1, x147000_1, x147001_1, x147002_1, u147001, u147002, rfl, rfl, HA, HK1, HO_137003, HO_137004, HO_146001, HO_146002, HO_147001, HO_147002, BK136, BK145, BK146, HB⟩ := hrel
        cases gk with
        | zero => exact absurd HA.out (by simp [path_Path.l0])
        | succ k1 =>
          have H := HA.out
          clear HA
          simp only [path_Path.l0] at H
          by_cases c27 : x28_1 < (l1.length : Int)
          · rw [if_pos c27] at H
            have c27b0 : decide (x28_1 < (l1.length : Int)) = true := decide_eq_true c27
            clear c27
            by_cases c28 : 0 ≤ x28_1
            · rw [if_pos c28] at H
              have c28b0 : decide (0 ≤ x28_1) = true := decide_eq_true c28
              clear c28
              by_cases c29 : x28_1 < (l1.length : Int)
              · rw [if_pos c29] at H
                have c29b0 : decide (x28_1 < (l1.length : Int)) = true := decide_eq_true c29
                clear c29
                by_cases c30 : 0 ≤ (rd l1 x28_1)
                · rw [if_pos c30] at H
                  have c30b0 : decide (0 ≤ (rd l1 x28_1)) = true := decide_eq_true c30
                  clear c30
                  by_cases c31 : (rd l1 x28_1) < (x147002_1.length : Int)
                  · rw [if_pos c31] at H
                    have c31b0 : decide ((rd l1 x28_1) < (x147002_1.length : Int)) = true := decide_eq_true c31
                    clear c31
                    by_cases c32 : 1 + ((rd_T27 x147002_1 (rd l1 x28_1)).f0).size ≤ 9223372036854775807
                    · rw [if_pos c32] at H
                      have c32b0 := eq_true c32
                      have c32b1 : decide (1 + ((rd_T27 x147002_1 (rd l1 x28_1)).f0).size ≤ 9223372036854775807) = true := decide_eq_true c32
                      try have c32b2 : (9223372036854775807 < 1 + ((rd_T27 x147002_1 (rd l1 x28_1)).f0).size) = False := eq_false (Nat.not_lt.2 c32)
                      by_cases c33 : x9_1.size + ((⟨#[47]⟩ : ByteArray) ++ ((rd_T27 x147002_1 (rd l1 x28_1)).f0)).size ≤ 9223372036854775807
                      · rw [if_pos c33] at H
                        have c33b0 := eq_true c33
                        have c33b1 : decide (x9_1.size + ((⟨#[47]⟩ : ByteArray) ++ ((rd_T27 x147002_1 (rd l1 x28_1)).f0)).size ≤ 9223372036854775807) = true := decide_eq_true c33
                        try have c33b2 : (9223372036854775807 < x9_1.size + ((⟨#[47]⟩ : ByteArray) ++ ((rd_T27 x147002_1 (rd l1 x28_1)).f0)).size) = False := eq_false (Nat.not_lt.2 c33)
                        have H' := Aside0.mk H
                        clear H
                        have p147 : 0 ≤ (x28_1 : Int) := of_decide_eq_true (by first | (with_reducible assumption) | assumption)
                        have q147 : x28_1 < (l1.length : Int) := of_decide_eq_true (by first | (with_reducible assumption) | assumption)
                        obtain ⟨ad147, e147, hx147_0⟩ := Kd.at_int HR1.out x28_1 p147 q147
                        cases e147
                        replace hx147_0 := (HB.out.cell (World.block_lt_of_cell? w _ hx147_0)).trans hx147_0
                        replace p147 := eq_true p147
                        replace q147 := eq_true q147
                        have hnb34 := NB146_136.out
                        have hnc34 := NB136_146.out
                        have hnb35 := NB146_145.out
                        have hnc35 := NB145_146.out
                        have hcz36_0 : wr.cell? ⟨gb146, 0, none⟩ = some (.string x147000_1) := (blk_cell BK146.out 0).trans rfl
                        have hcz36_1 : wr.cell? ⟨gb146, 1, none⟩ = some (u147001) := (blk_cell BK146.out 1).trans rfl
                        have hcz36_2 : wr.cell? ⟨gb146, 2, none⟩ = some (u147002) := (blk_cell BK146.out 2).trans rfl
                        have hfz36_0 := blk_frozen BK146.out 0
                        have hfz36_1 := blk_frozen BK146.out 1
                        have hfz36_2 := blk_frozen BK146.out 2
                        obtain ⟨Ao37, co37, eo37⟩ := Kd.V_slice HO_147002.out
                        subst eo37
                        have p148 : 0 ≤ ((rd l1 x28_1) : Int) := of_decide_eq_true (by first | (with_reducible assumption) | assumption)
                        have q148 : (rd l1 x28_1) < (x147002_1.length : Int) := of_decide_eq_true (by first | (with_reducible assumption) | assumption)
                        obtain ⟨ad148, A148_1, c148_1, A148_2, c148_2, e148, hx148_0, hx148_1, hx148_2, hl148_1, hi148_1, hl148_2, hi148_2⟩ := at_T27 (Kd.V_reads' HO_147002.out).2.2 (rd l1 x28_1) p148 q148
                        cases e148
                        obtain ⟨ce148, hce148, hMe148, hcc148⟩ := Kd.V_get HO_147002.out z27 (rd l1 x28_1) p148 (by first | exact q148 | exact of_decide_eq_true (by first | (with_reducible assumption) | assumption) | (have e_ := (Kd.V_reads' HO_147002.out).1; omega))
                        obtain ⟨ua148_1, uc148_1, ua148_2, uc148_2, rfl, ul148_1, ge148_1, ul148_2, ge148_2⟩ := k27_openF hMe148
                        have hv148_1 := hcc148 1 _ rfl
                        rw [add_field _ _ 1 (by omega)] at hv148_1
                        replace hv148_1 := Option.some.inj (hv148_1.symm.trans hx148_1)
                        injection hv148_1 with hva_ hvn_ hvc_
                        rw [hva_] at ge148_1
                        rw [hvc_] at ul148_1
                        have HL148_1 := Aside0.mk (show Kd.V k62 62 _ w.heap.size _ _ ((rd_T27 x147002_1 (rd l1 x28_1)).f1) from Kd.V_mk ul148_1 ge148_1)
                        clear hva_ hvn_ hvc_ ge148_1 ul148_1
                        have hv148_2 := hcc148 2 _ rfl
                        rw [add_field _ _ 2 (by omega)] at hv148_2
                        replace hv148_2 := Option.some.inj (hv148_2.symm.trans hx148_2)
                        injection hv148_2 with hva_ hvn_ hvc_
                        rw [hva_] at ge148_2
                        rw [hvc_] at ul148_2
                        have HL148_2 := Aside0.mk (show Kd.V k27 27 _ w.heap.size _ _ ((rd_T27 x147002_1 (rd l1 x28_1)).f2) from Kd.V_mk ul148_2 ge148_2)
                        clear hva_ hvn_ hvc_ ge148_2 ul148_2
                        clear hcc148 hce148
                        have HR148_1 := Aside0.mk hi148_1
                        have HC148_1 := Aside0.mk hl148_1
                        clear hi148_1 hl148_1
                        have HR148_2 := Aside0.mk hi148_2
                        have HC148_2 := Aside0.mk hl148_2
                        clear hi148_2 hl148_2
                        replace p148 := eq_true p148
                        replace q148 := eq_true q148
                        go_wp2
                        go_roundg k1
                        case measure => have := HK1.out; omega
                        case rel => exact ⟨(x9_1 ++ ((⟨#[47]⟩ : ByteArray) ++ ((rd_T27 x147002_1 (rd l1 x28_1)).f0))), (wrap64 (x28_1 + 1)), ((rd_T27 x147002_1 (rd l1 x28_1)).f0), ((rd_T27 x147002_1 (rd l1 x28_1)).f1), ((rd_T27 x147002_1 (rd l1 x28_1)).f2), (.slice A148_1 ((rd_T27 x147002_1 (rd l1 x28_1)).f1).length c148_1), (.slice A148_2 ((rd_T27 x147002_1 (rd l1 x28_1)).f2).length c148_2), (by first | rfl | (simp; done) | (simp [*]; done)), (by first | rfl | (simp; done) | (simp [*]; done)), H', ⟨by have := HK1.out; omega⟩, ⟨by (with_reducible repeat (first | apply Kd.V_alloc | apply Kd.V_drewN | apply Kd.V_drew)); exact Kd.V_mono (Kd.V_far (p := ⟨gb146, 2, none⟩) (Kd.V_far (p := ⟨gb146, 1, none⟩) (Kd.V_far (p := ⟨gb146, 0, none⟩) (Kd.V_mono HO_137003.out (fun k_ hk => (⟨hk, hk.2.2.2.2.2⟩ : _ ∧ k_ ≠ gb146))) (fun _ hk => hk.2) (.string ((rd_T27 x147002_1 (rd l1 x28_1)).f0))) (fun _ hk => hk.2) (.slice A148_1 ((rd_T27 x147002_1 (rd l1 x28_1)).f1).length c148_1)) (fun _ hk => hk.2) (.slice A148_2 ((rd_T27 x147002_1 (rd l1 x28_1)).f2).length c148_2)) (fun _ hk => ⟨hk.1.1, ⟨hk.1.2.1, ⟨hk.1.2.2.1, ⟨hk.1.2.2.2.1, ⟨hk.1.2.2.2.2.1, hk.1.2.2.2.2.2⟩⟩⟩⟩⟩)⟩, ⟨by (with_reducible repeat (first | apply Kd.V_alloc | apply Kd.V_drewN | apply Kd.V_drew)); exact Kd.V_mono (Kd.V_far (p := ⟨gb146, 2, none⟩) (Kd.V_far (p := ⟨gb146, 1, none⟩) (Kd.V_far (p := ⟨gb146, 0, none⟩) (Kd.V_mono HO_137004.out (fun k_ hk => (⟨hk, hk.2.2.2.2.2⟩ : _ ∧ k_ ≠ gb146))) (fun _ hk => hk.2) (.string ((rd_T27 x147002_1 (rd l1 x28_1)).f0))) (fun _ hk => hk.2) (.slice A148_1 ((rd_T27 x147002_1 (rd l1 x28_1)).f1).length c148_1)) (fun _ hk => hk.2) (.slice A148_2 ((rd_T27 x147002_1 (rd l1 x28_1)).f2).length c148_2)) (fun _ hk => ⟨hk.1.1, ⟨hk.1.2.1, ⟨hk.1.2.2.1, ⟨hk.1.2.2.2.1, ⟨hk.1.2.2.2.2.1, hk.1.2.2.2.2.2⟩⟩⟩⟩⟩)⟩, ⟨by (with_reducible repeat (first | apply Kd.S_alloc | apply Kd.S_drewN | apply Kd.S_drew)); exact Kd.S_mono (Kd.S_far (p := ⟨gb146, 2, none⟩) (Kd.S_far (p := ⟨gb146, 1, none⟩) (Kd.S_far (p := ⟨gb146, 0, none⟩) (Kd.S_types HO_146001.out BK146.out (by decide)) (fun _ hk => hk.2) (.string ((rd_T27 x147002_1 (rd l1 x28_1)).f0))) (fun _ hk => hk.2) (.slice A148_1 ((rd_T27 x147002_1 (rd l1 x28_1)).f1).length c148_1)) (fun _ hk => hk.2) (.slice A148_2 ((rd_T27 x147002_1 (rd l1 x28_1)).f2).length c148_2)) (fun _ hk => hk.1)⟩, ⟨by (with_reducible repeat (first | apply Kd.R_alloc | apply Kd.R_drewN | apply Kd.R_drew)); exact Kd.R_mono (Kd.R_far (p := ⟨gb146, 2, none⟩) (Kd.R_far (p := ⟨gb146, 1, none⟩) (Kd.R_far (p := ⟨gb146, 0, none⟩) (Kd.R_mono HO_146002.out (fun k_ hk => (⟨hk, hk.2.2.2⟩ : _ ∧ k_ ≠ gb146))) (fun _ hk => hk.2) (.string ((rd_T27 x147002_1 (rd l1 x28_1)).f0))) (fun _ hk => hk.2) (.slice A148_1 ((rd_T27 x147002_1 (rd l1 x28_1)).f1).length c148_1)) (fun _ hk => hk.2) (.slice A148_2 ((rd_T27 x147002_1 (rd l1 x28_1)).f2).length c148_2)) (fun _ hk => ⟨hk.1.1, ⟨hk.1.2.1, ⟨hk.1.2.2.1, hk.1.2.2.2⟩⟩⟩)⟩, ⟨by (with_reducible repeat (first | apply Kd.V_alloc | apply Kd.V_drewN | apply Kd.V_drew)); exact Kd.V_mono (Kd.V_far (p := ⟨gb146, 2, none⟩) (Kd.V_far (p := ⟨gb146, 1, none⟩) (Kd.V_far (p := ⟨gb146, 0, none⟩) (Kd.V_mono HL148_1.out (fun k_ hk => (⟨hk, hk.2.2.2.2.2⟩ : _ ∧ k_ ≠ gb146))) (fun _ hk => hk.2) (.string ((rd_T27 x147002_1 (rd l1 x28_1)).f0))) (fun _ hk => hk.2) (.slice A148_1 ((rd_T27 x147002_1 (rd l1 x28_1)).f1).length c148_1)) (fun _ hk => hk.2) (.slice A148_2 ((rd_T27 x147002_1 (rd l1 x28_1)).f2).length c148_2)) (fun _ hk => ⟨hk.1.1, ⟨hk.1.2.1, ⟨hk.1.2.2.1, ⟨hk.1.2.2.2.1, ⟨hk.1.2.2.2.2.1, hk.1.2.2.2.2.2⟩⟩⟩⟩⟩)⟩, ⟨by (with_reducible repeat (first | apply Kd.V_alloc | apply Kd.V_drewN | apply Kd.V_drew)); exact Kd.V_mono (Kd.V_far (p := ⟨gb146, 2, none⟩) (Kd.V_far (p := ⟨gb146, 1, none⟩) (Kd.V_far (p := ⟨gb146, 0, none⟩) (Kd.V_mono HL148_2.out (fun k_ hk => (⟨hk, hk.2.2.2.2.2⟩ : _ ∧ k_ ≠ gb146))) (fun _ hk => hk.2) (.string ((rd_T27 x147002_1 (rd l1 x28_1)).f0))) (fun _ hk => hk.2) (.slice A148_1 ((rd_T27 x147002_1 (rd l1 x28_1)).f1).length c148_1)) (fun _ hk => hk.2) (.slice A148_2 ((rd_T27 x147002_1 (rd l1 x28_1)).f2).length c148_2)) (fun _ hk => ⟨hk.1.1, ⟨hk.1.2.1, ⟨hk.1.2.2.1, ⟨hk.1.2.2.2.1, ⟨hk.1.2.2.2.2.1, hk.1.2.2.2.2.2⟩⟩⟩⟩⟩)⟩, ⟨by (with_reducible repeat (first | refine blk_drewN ?_ _ | refine blk_drew ?_ | refine blk_alloc ?_ _)); refine blk_far ?_ NB136_146.out _; (with_reducible repeat (first | refine blk_drewN ?_ _ | refine blk_drew ?_ | refine blk_alloc ?_ _)); refine blk_far ?_ NB136_146.out _; (with_reducible repeat (first | refine blk_drewN ?_ _ | refine blk_drew ?_ | refine blk_alloc ?_ _)); refine blk_far ?_ NB136_146.out _; (with_reducible repeat (first | refine blk_drewN ?_ _ | refine blk_drew ?_ | refine blk_alloc ?_ _)); exact BK136.out⟩, ⟨by (with_reducible repeat (first | refine blk_drewN ?_ _ | refine blk_drew ?_ | refine blk_alloc ?_ _)); refine blk_far ?_ NB145_146.out _; (with_reducible repeat (first | refine blk_drewN ?_ _ | refine blk_drew ?_ | refine blk_alloc ?_ _)); refine blk_far ?_ NB145_146.out _; (with_reducible repeat (first | refine blk_drewN ?_ _ | refine blk_drew ?_ | refine blk_alloc ?_ _)); refine blk_far ?_ NB145_146.out _; (with_reducible repeat (first | refine blk_drewN ?_ _ | refine blk_drew ?_ | refine blk_alloc ?_ _)); exact BK145.out⟩, ⟨by (with_reducible repeat (first | refine blk_drewN ?_ _ | refine blk_drew ?_ | refine blk_alloc ?_ _)); refine blk_put (cs := #[.string ((rd_T27 x147002_1 (rd l1 x28_1)).f0), .slice A148_1 ((rd_T27 x147002_1 (rd l1 x28_1)).f1).length c148_1, .slice (some ad148) x147002_1.length co37]) ?_ 2 _ rfl; (with_reducible repeat (first | refine blk_drewN ?_ _ | refine blk_drew ?_ | refine blk_alloc ?_ _)); refine blk_put (cs := #[.string ((rd_T27 x147002_1 (rd l1 x28_1)).f0), u147001, .slice (some ad148) x147002_1.length co37]) ?_ 1 _ rfl; (with_reducible repeat (first | refine blk_drewN ?_ _ | refine blk_drew ?_ | refine blk_alloc ?_ _)); refine blk_put (cs := #[.string x147000_1, u147001, .slice (some ad148) x147002_1.length co37]) ?_ 0 _ rfl; (with_reducible repeat (first | refine blk_drewN ?_ _ | refine blk_drew ?_ | refine blk_alloc ?_ _)); exact BK146.out⟩, ⟨by repeat (first | (with_reducible first | exact HB.out | apply below_alloc | apply pw_below_drewN | apply below_drew1 | refine below_set ?_ GE136.out | refine below_set ?_ GE145.out | refine below_set ?_ GE146.out) | exact HB.out)⟩⟩
                      · rw [if_neg c33] at H
                        exact absurd H (by simp)
                    · rw [if_neg c32] at H
                      exact absurd H (by simp)
                  · rw [if_neg c31] at H
                    exact absurd H (by simp)
                · rw [if_neg c30] at H
                  exact absurd H (by simp)
              · rw [if_neg c29] at H
                exact absurd H (by simp)
            · rw [if_neg c28] at H
              exact absurd H (by simp)
          · rw [if_neg c27] at H
            have c27b0 : decide (x28_1 < (l1.length : Int)) = false := decide_eq_false c27
            clear c27
            simp only [Option.some.injEq, Prod.mk.injEq] at H
            obtain ⟨rfl, rfl⟩ := H
            go_wp2
            go_ret2
            exact ⟨by first | rfl | (simp [errW_none, errW_some] <;> rfl) | (simp [*, errW_none, errW_some] <;> rfl), by repeat (first | (with_reducible first | exact HB.out | apply below_alloc | apply pw_below_drewN | apply below_drew1 | refine below_set ?_ GE136.out | refine below_set ?_ GE145.out | refine below_set ?_ GE146.out) | exact HB.out)⟩
  · rw [if_neg c4] at H
    have c4b0 : (t144 == 0) = false := beq_eq_false_iff_ne.mpr c4
    have c4b1 : (t144 != 0) = true := bne_iff_ne.mpr c4
    simp only [Option.some.injEq, Prod.mk.injEq] at H
    obtain ⟨rfl, rfl⟩ := H
    go_enter Tryd.func8, Tryd.ntmps8
    go_wp2_with (first | ((with_reducible refine gate_dst (N := 2) rfl ?_); refine box_event ?hg (N := 2) ?hd (cs := #[.int .u32 a0_0, .slice A0_1 l0_1.length c0_1, .string a0_2, .slice A0_3 l0_3.length c0_3, .slice A0_4 l0_4.length c0_4]) (t := 29) ?hr ?_; (case hd => rfl); (case hg => rfl); (case hr => first | (go_simp; done) | (go_simp; rfl)); intro gb136 hg w38 hbox hb; have n0_ := Aside0.mk (Kd.V_below (Kd.V_elderB (by (with_reducible repeat (first | apply Kd.V_alloc | apply Kd.V_drewN | apply Kd.V_drew)); exact HO0_3.out) gb136 (Nat.le_of_eq hg.symm)) hb); have n1_ := Aside0.mk (Kd.V_below (Kd.V_elderB (by (with_reducible repeat (first | apply Kd.V_alloc | apply Kd.V_drewN | apply Kd.V_drew)); exact HO0_4.out) gb136 (Nat.le_of_eq hg.symm)) hb); have n2_ := Aside0.mk (below_step (by repeat (first | (with_reducible first | exact HB.out | apply below_alloc | apply pw_below_drewN | apply below_drew1) | exact HB.out)) hb); have n3_ := Aside0.mk (hbox); have n4_ := Aside0.mk ((by rw [hg]; exact (below_size (by repeat (first | (with_reducible first | exact HB.out | apply below_alloc | apply pw_below_drewN | apply below_drew1) | exact HB.out))) : w.heap.size ≤ gb136)); have n5_ := Aside0.mk ((by rw [hg]; exact (below_size (by repeat (first | (with_reducible first | exact HB.out | apply below_alloc | apply pw_below_drewN | apply below_drew1) | exact HB.out))) : w.heap.size ≤ gb136)); clear HO0_3; clear HO0_4; clear HB; have HO0_3 := n0_; have HO0_4 := n1_; have HB := n2_; have BK136 := n3_; have GW136 := n4_; have GE136 := n5_; clear n0_ n1_ n2_ n3_ n4_ n5_; clear hb hbox hg; have hcz39_0 : w38.cell? ⟨gb136, 0, none⟩ = some (.int .u32 a0_0) := (blk_cell BK136.out 0).trans rfl; have hcz39_1 : w38.cell? ⟨gb136, 1, none⟩ = some (.slice A0_1 l0_1.length c0_1) := (blk_cell BK136.out 1).trans rfl; have hcz39_2 : w38.cell? ⟨gb136, 2, none⟩ = some (.string a0_2) := (blk_cell BK136.out 2).trans rfl; have hcz39_3 : w38.cell? ⟨gb136, 3, none⟩ = some (.slice A0_3 l0_3.length c0_3) := (blk_cell BK136.out 3).trans rfl; have hcz39_4 : w38.cell? ⟨gb136, 4, none⟩ = some (.slice A0_4 l0_4.length c0_4) := (blk_cell BK136.out 4).trans rfl; have hfz39_0 := blk_frozen BK136.out 0; have hfz39_1 := blk_frozen BK136.out 1; have hfz39_2 := blk_frozen BK136.out 2; have hfz39_3 := blk_frozen BK136.out 3; have hfz39_4 := blk_frozen BK136.out 4) | ((with_reducible refine gate_callee (f := 15) rfl ?_); refine goesL_ (some 15) rfl rfl Tryd.func15 (by kernel_rfl) rfl #[.agg #[.int .u32 a0_0, .slice A0_1 l0_1.length c0_1, .string a0_2, .slice A0_3 l0_3.length c0_3, .slice A0_4 l0_4.length c0_4], .slice A1 l1.length c1] rfl (by (try simp only [List.map_toArray, List.map_cons, List.map_nil]); first | done | rfl | (simp only [List.length_drop, List.length_take]; rfl)) ?_; (with_reducible refine (path_Get.calls k a0_0 _ _ l0_1 a0_2 (fun k_ => (((P0_3_ k_ ∨ P0_4_ k_) ∨ w.heap.size ≤ k_) ∧ k_ ≠ gb136)) _ _ l0_3 (fun k_ => (((P0_3_ k_ ∨ P0_4_ k_) ∨ w.heap.size ≤ k_) ∧ k_ ≠ gb136)) _ _ l0_4 _ _ l1 t137 t138 t141 t144 _ ?side1 ?side2 ?side3 ?side4 ?side5 ?side6 A3.out).mono ?_); (case side1 => repeat (first | exact (Kd.C_below HR0_1.out HB.out) | (with_reducible refine Kd.C_alloc ?_ _) | (with_reducible refine Kd.C_drewN ?_ _) | (with_reducible refine Kd.C_drew ?_))); (case side2 => exact HC0_1.out); (case side3 => exact HO0_3.out); (case side4 => exact HO0_4.out); (case side5 => repeat (first | exact (Kd.C_below HR1.out HB.out) | (with_reducible refine Kd.C_alloc ?_ _) | (with_reducible refine Kd.C_drewN ?_ _) | (with_reducible refine Kd.C_drew ?_))); (case side6 => exact HC1.out); rintro e w40 ⟨v139, v142, rfl, ho0, ho1, hb⟩; refine ⟨_, rfl, ?_⟩; have n0_ := Aside0.mk (Kd.V_mono (Kd.V_told (Kd.V_told (Kd.V_old (by (with_reducible repeat (first | apply Kd.V_alloc | apply Kd.V_drewN | apply Kd.V_drew)); exact HO0_3.out) hb) (Kd.S_base ho0)) (Kd.R_base ho1)) (fun _ h_ => h_.1)); have n1_ := Aside0.mk (Kd.V_mono (Kd.V_told (Kd.V_told (Kd.V_old (by (with_reducible repeat (first | apply Kd.V_alloc | apply Kd.V_drewN | apply Kd.V_drew)); exact HO0_4.out) hb) (Kd.S_base ho0)) (Kd.R_base ho1)) (fun _ h_ => h_.1)); have n2_ := Aside0.mk (Kd.S_lower (Kd.S_newM (M := fun k_ => (w.heap.size ≤ k_)) (Kd.S_mono (ok' := fun k_ => True) ho0 (fun _ hk_ => trivial)) (below_size (by repeat (first | (with_reducible first | exact HB.out | apply below_alloc | apply pw_below_drewN | apply below_drew1 | refine below_set ?_ GE136.out) | exact HB.out))) (fun k_ h_ => h_)) (below_size (by repeat (first | (with_reducible first | exact HB.out | apply below_alloc | apply pw_below_drewN | apply below_drew1 | refine below_set ?_ GE136.out) | exact HB.out)))); have n3_ := Aside0.mk (Kd.R_lower (Kd.R_newM (M := fun k_ => (w.heap.size ≤ k_)) (Kd.R_mono (ok' := fun k_ => some k_ ≠ (v139 : Value).ownBlock) ho1 (fun _ hk_ => hk_.2)) (below_size (by repeat (first | (with_reducible first | exact HB.out | apply below_alloc | apply pw_below_drewN | apply below_drew1 | refine below_set ?_ GE136.out) | exact HB.out))) (fun k_ h_ => h_)) (below_size (by repeat (first | (with_reducible first | exact HB.out | apply below_alloc | apply pw_below_drewN | apply below_drew1 | refine below_set ?_ GE136.out) | exact HB.out)))); have n4_ := Aside0.mk (blk_below (g := gb136) (o := .cells #[.int .u32 a0_0, .slice A0_1 l0_1.length c0_1, .string a0_2, .slice A0_3 l0_3.length c0_3, .slice A0_4 l0_4.length c0_4] 29 (0, 0)) (by (with_reducible repeat (first | refine blk_drewN ?_ _ | refine blk_drew ?_ | refine blk_alloc ?_ _)); exact BK136.out) hb); have n5_ := Aside0.mk (below_step (by repeat (first | (with_reducible first | exact HB.out | apply below_alloc | apply pw_below_drewN | apply below_drew1 | refine below_set ?_ GE136.out) | exact HB.out)) hb); clear HO0_3; clear HO0_4; clear BK136; clear HB; have HO0_3 := n0_; have HO0_4 := n1_; have HO140 := n2_; have HO143 := n3_; have BK136 := n4_; have HB := n5_; clear n0_ n1_ n2_ n3_ n4_ n5_; (try clear hb); (try clear hb2); (try clear hk); (try clear hi); (try clear ho0); (try clear ho1)) | ((with_reducible refine gate_dst (N := 6) rfl ?_); refine box_event ?hg (N := 6) ?hd (cs := #[.string (⟨#[]⟩ : ByteArray), .slice none 0 0, .slice none 0 0]) (t := 27) ?hr ?_; (case hd => rfl); (case hg => rfl); (case hr => first | (go_simp; done) | (go_simp; rfl)); intro gb145 hg w41 hbox hb; have n0_ := Aside0.mk (Kd.V_below (Kd.V_elderB (by (with_reducible repeat (first | apply Kd.V_alloc | apply Kd.V_drewN | apply Kd.V_drew)); exact HO0_3.out) gb145 (Nat.le_of_eq hg.symm)) hb); have n1_ := Aside0.mk (Kd.V_below (Kd.V_elderB (by (with_reducible repeat (first | apply Kd.V_alloc | apply Kd.V_drewN | apply Kd.V_drew)); exact HO0_4.out) gb145 (Nat.le_of_eq hg.symm)) hb); have n2_ := Aside0.mk (Kd.S_below (by (with_reducible repeat (first | apply Kd.S_alloc | apply Kd.S_drewN | apply Kd.S_drew)); exact HO140.out) hb); have n3_ := Aside0.mk (Kd.R_below (Kd.R_elderB (by (with_reducible repeat (first | apply Kd.R_alloc | apply Kd.R_drewN | apply Kd.R_drew)); exact HO143.out) gb145 (Nat.le_of_eq hg.symm)) hb); have n4_ := Aside0.mk (blk_below (g := gb136) (o := .cells #[.int .u32 a0_0, .slice A0_1 l0_1.length c0_1, .string a0_2, .slice A0_3 l0_3.length c0_3, .slice A0_4 l0_4.length c0_4] 29 (0, 0)) (by (with_reducible repeat (first | refine blk_drewN ?_ _ | refine blk_drew ?_ | refine blk_alloc ?_ _)); exact BK136.out) hb); have n5_ := Aside0.mk (below_step (by repeat (first | (with_reducible first | exact HB.out | apply below_alloc | apply pw_below_drewN | apply below_drew1 | refine below_set ?_ GE136.out) | exact HB.out)) hb); have n6_ := Aside0.mk (hbox); have n7_ := Aside0.mk ((by rw [hg]; exact (below_size (by repeat (first | (with_reducible first | exact HB.out | apply below_alloc | apply pw_below_drewN | apply below_drew1 | refine below_set ?_ GE136.out) | exact HB.out))) : w.heap.size ≤ gb145)); have n8_ := Aside0.mk ((by rw [hg]; exact (below_size (by repeat (first | (with_reducible first | exact HB.out | apply below_alloc | apply pw_below_drewN | apply below_drew1 | refine below_set ?_ GE136.out) | exact HB.out))) : w.heap.size ≤ gb145)); have n9_ := Aside0.mk ((by rw [hg]; exact Nat.ne_of_lt (blk_lt (g := gb136) (o := .cells #[.int .u32 a0_0, .slice A0_1 l0_1.length c0_1, .string a0_2, .slice A0_3 l0_3.length c0_3, .slice A0_4 l0_4.length c0_4] 29 (0, 0)) (by (with_reducible repeat (first | refine blk_drewN ?_ _ | refine blk_drew ?_ | refine blk_alloc ?_ _)); exact BK136.out)) : gb136 ≠ gb145)); have n10_ := Aside0.mk ((by rw [hg]; exact Nat.ne_of_gt (blk_lt (g := gb136) (o := .cells #[.int .u32 a0_0, .slice A0_1 l0_1.length c0_1, .string a0_2, .slice A0_3 l0_3.length c0_3, .slice A0_4 l0_4.length c0_4] 29 (0, 0)) (by (with_reducible repeat (first | refine blk_drewN ?_ _ | refine blk_drew ?_ | refine blk_alloc ?_ _)); exact BK136.out)) : gb145 ≠ gb136)); clear HO0_3; clear HO0_4; clear HO140; clear HO143; clear BK136; clear HB; have HO0_3 := n0_; have HO0_4 := n1_; have HO140 := n2_; have HO143 := n3_; have BK136 := n4_; have HB := n5_; have BK145 := n6_; have GW145 := n7_; have GE145 := n8_; have NB136_145 := n9_; have NB145_136 := n10_; clear n0_ n1_ n2_ n3_ n4_ n5_ n6_ n7_ n8_ n9_ n10_; clear hb hbox hg; have hnb42 := NB145_136.out; have hnc42 := NB136_145.out; have hcz43_0 : w41.cell? ⟨gb145, 0, none⟩ = some (.string (⟨#[]⟩ : ByteArray)) := (blk_cell BK145.out 0).trans rfl; have hcz43_1 : w41.cell? ⟨gb145, 1, none⟩ = some (.slice none 0 0) := (blk_cell BK145.out 1).trans rfl; have hcz43_2 : w41.cell? ⟨gb145, 2, none⟩ = some (.slice none 0 0) := (blk_cell BK145.out 2).trans rfl; have hfz43_0 := blk_frozen BK145.out 0; have hfz43_1 := blk_frozen BK145.out 1; have hfz43_2 := blk_frozen BK145.out 2; obtain ⟨Ao44, co44, eo44⟩ := Kd.S_slice HO140.out; subst eo44; obtain ⟨Ao45, co45, eo45⟩ := Kd.R_slice HO143.out; subst eo45))
    go_ret2
    exact ⟨by first | rfl | (simp [errW_none, errW_some] <;> rfl) | (simp [*, errW_none, errW_some] <;> rfl), by repeat (first | (with_reducible first | exact HB.out | apply below_alloc | apply pw_below_drewN | apply below_drew1 | refine below_set ?_ GE136.out | refine below_set ?_ GE145.out) | exact HB.out)⟩
end Go.Proofs.YtkopmkinlanhoaaDoor.PP

namespace Go.Proofs.YtkopmkinlanhoaaDoor.PP
open Go.RowKit Go.Proofs.YtkopmkinlanhoaaDoorW.PrintWords Go.Proofs.YtkopmkinlanhoaaDoorW.PrintLast Go.Proofs.YtkopmkinlanhoaaDoorW.PrintMore
attribute [local go_sem] max2_int min2_int max_two min_two max_three min_three max_four min_four   -- for this text's walks alone
set_option linter.unusedVariables false
set_option linter.unusedSimpArgs false
def arboretlaw06_awake.f (k : Nat)  : Option (Bool) := (path_Path.f k 0 ([] : List (S48)) (⟨#[]⟩ : ByteArray) ([] : List (S62)) ([] : List (S27)) ([] : List Int)).bind fun bt149 => (if bt149.2 = 0 then (some (bt149.1.toList == ([47] : List UInt8))) else (some false))
theorem arboretlaw06_awake.mono : ∀ k, LeO (arboretlaw06_awake.f k ) (arboretlaw06_awake.f (k + 1) ) := by
  intro  k
  unfold arboretlaw06_awake.f
  repeat' first
      | (with_reducible exact path_Path.mono _ _ _ _ _ _ _)
      | (with_reducible exact LeO.refl _)
      | (with_reducible exact LeO.none _)
      | (with_reducible refine LeO.ite ?_ ?_)
      | (with_reducible refine LeO.bind ?_ (fun _ => ?_))
      | exact path_Path.mono _ _ _ _ _ _ _
      | exact LeO.none _
      | refine LeO.ite ?_ ?_
      | refine LeO.bind ?_ (fun _ => ?_)
set_option maxHeartbeats 8000000 in
set_option maxRecDepth 100000 in
theorem arboretlaw06_awake.calls (k : Nat)  (r : Bool) (w : World) (h : arboretlaw06_awake.f k  = some r) :
    Calls Tryd.prog 4 #[] w fun e w' => e = .returned (.bool r) ∧ Below w.heap.size w w' := by
  have hu29 := Tryd.underlying29
  have HB := Aside0.mk (Below.refl w.heap.size w)
  have H : ((path_Path.f k 0 ([] : List (S48)) (⟨#[]⟩ : ByteArray) ([] : List (S62)) ([] : List (S27)) ([] : List Int)).bind fun bt149 => (if bt149.2 = 0 then (some (bt149.1.toList == ([47] : List UInt8))) else (some false))) = some r := h
  clear h
  replace H := Option.bind_eq_some_iff.mp H
  obtain ⟨⟨t149, t150⟩, A10, H⟩ := H
  replace H : (if t150 = 0 then (some (t149.toList == ([47] : List UInt8))) else (some false)) = some r := H
  have A1 := Aside0.mk A10
  clear A10
  by_cases c2 : t150 = 0
  · rw [if_pos c2] at H
    have c2b0 : (t150 == 0) = true := beq_iff_eq.mpr c2
    have c2b1 : (t150 != 0) = false := bne_eq_false_iff_eq.mpr c2
    clear c2
    obtain rfl := Option.some.inj H
    go_enter Tryd.func4, Tryd.ntmps4
    go_wp2_with (first | ((with_reducible refine gate_callee (f := 8) rfl ?_); refine goesL_ (some 5) rfl rfl Tryd.func8 (by kernel_rfl) rfl #[.agg #[.int .u32 0, .slice none 0 0, .string (⟨#[]⟩ : ByteArray), .slice none 0 0, .slice none 0 0], .slice none 0 0] rfl (by (try simp only [List.map_toArray, List.map_cons, List.map_nil]); first | done | rfl | (simp only [List.length_drop, List.length_take]; rfl)) ?_; (refine (path_Path.calls k 0 _ _ ([] : List (S48)) (⟨#[]⟩ : ByteArray) (fun k_ => False) _ _ ([] : List (S62)) (fun k_ => False) _ _ ([] : List (S27)) _ _ ([] : List Int) t149 t150 _ ?side1 ?side2 ?side3 ?side4 ?side5 ?side6 A1.out).mono ?_); (case side1 => exact Kd.C_nil _ _); (case side2 => exact Nat.le_refl _); (case side3 => exact Kd.V_nil _ _ _ _ _); (case side4 => exact Kd.V_nil _ _ _ _ _); (case side5 => exact Kd.C_nil _ _); (case side6 => exact Nat.le_refl _); rintro e w3 ⟨rfl, hb⟩; refine ⟨_, rfl, ?_⟩; have n0_ := Aside0.mk (below_step (by repeat (first | (with_reducible first | exact HB.out | apply below_alloc | apply pw_below_drewN | apply below_drew1) | exact HB.out)) hb); clear HB; have HB := n0_; clear n0_; (try clear hb); (try clear hb2); (try clear hk); (try clear hi)))
    go_ret
    exact ⟨by first | rfl | (simp [errW_none, errW_some] <;> rfl) | (simp [*, errW_none, errW_some] <;> rfl), by repeat (first | (with_reducible first | exact HB.out | apply below_alloc | apply pw_below_drewN | apply below_drew1) | exact HB.out)⟩
  · rw [if_neg c2] at H
    have c2b0 : (t150 == 0) = false := beq_eq_false_iff_ne.mpr c2
    have c2b1 : (t150 != 0) = true := bne_iff_ne.mpr c2
    obtain rfl := Option.some.inj H
    go_enter Tryd.func4, Tryd.ntmps4
    go_wp2_with (first | ((with_reducible refine gate_callee (f := 8) rfl ?_); refine goesL_ (some 5) rfl rfl Tryd.func8 (by kernel_rfl) rfl #[.agg #[.int .u32 0, .slice none 0 0, .string (⟨#[]⟩ : ByteArray), .slice none 0 0, .slice none 0 0], .slice none 0 0] rfl (by (try simp only [List.map_toArray, List.map_cons, List.map_nil]); first | done | rfl | (simp only [List.length_drop, List.length_take]; rfl)) ?_; (refine (path_Path.calls k 0 _ _ ([] : List (S48)) (⟨#[]⟩ : ByteArray) (fun k_ => False) _ _ ([] : List (S62)) (fun k_ => False) _ _ ([] : List (S27)) _ _ ([] : List Int) t149 t150 _ ?side1 ?side2 ?side3 ?side4 ?side5 ?side6 A1.out).mono ?_); (case side1 => exact Kd.C_nil _ _); (case side2 => exact Nat.le_refl _); (case side3 => exact Kd.V_nil _ _ _ _ _); (case side4 => exact Kd.V_nil _ _ _ _ _); (case side5 => exact Kd.C_nil _ _); (case side6 => exact Nat.le_refl _); rintro e w4 ⟨rfl, hb⟩; refine ⟨_, rfl, ?_⟩; have n0_ := Aside0.mk (below_step (by repeat (first | (with_reducible first | exact HB.out | apply below_alloc | apply pw_below_drewN | apply below_drew1) | exact HB.out)) hb); clear HB; have HB := n0_; clear n0_; (try clear hb); (try clear hb2); (try clear hk); (try clear hi)))
    go_ret
    exact ⟨by first | rfl | (simp [errW_none, errW_some] <;> rfl) | (simp [*, errW_none, errW_some] <;> rfl), by repeat (first | (with_reducible first | exact HB.out | apply below_alloc | apply pw_below_drewN | apply below_drew1) | exact HB.out)⟩
end Go.Proofs.YtkopmkinlanhoaaDoor.PP

namespace Go.Proofs.YtkopmkinlanhoaaDoor.PP
open Go.RowKit Go.Proofs.YtkopmkinlanhoaaDoorW.PrintWords Go.Proofs.YtkopmkinlanhoaaDoorW.PrintLast Go.Proofs.YtkopmkinlanhoaaDoorW.PrintMore
attribute [local go_sem] max2_int min2_int max_two min_two max_three min_three max_four min_four   -- for this text's walks alone
set_option linter.unusedVariables false
set_option linter.unusedSimpArgs false
mutual
def arboretlaw03_size.l0 : Nat → Int → Int → Int → Int → ByteArray → List (S62) → List (S27) → Option (Int)
  | 0, _, _, _, _, _, _, _ => none
  | k + 1, x1, x5, x14, x15, x152000, x152001, x152002 => if x15 < x14 then (if 0 ≤ x15 then (if x15 < (x152001.length : Int) then (arboretlaw03_size.l0 k x1 (wrap64 ((wrap64 ((wrap64 (x5 + 1)) + (((rd_T62 x152001 x15).f0).size : Int))) + (((rd_T62 x152001 x15).f1).length : Int))) x14 (wrap64 (x15 + 1)) x152000 x152001 x152002) else (none)) else (none)) else (arboretlaw03_size.l1 k x1 x5 (x152002.length : Int) 0 x152000 x152001 x152002)
def arboretlaw03_size.l1 : Nat → Int → Int → Int → Int → ByteArray → List (S62) → List (S27) → Option (Int)
  | 0, _, _, _, _, _, _, _ => none
  | k + 1, x1, x5, x39, x40, x152000, x152001, x152002 => if x40 < x39 then (if x1 > 20 then (some 1048576) else (if x5 > 100000 then (some 1048576) else (if 0 ≤ x40 then (if x40 < (x152002.length : Int) then ((arboretlaw03_size.f k ((rd_T27 x152002 x40).f0) ((rd_T27 x152002 x40).f1) ((rd_T27 x152002 x40).f2) (wrap64 (x1 + 1))).bind fun t155 => (arboretlaw03_size.l1 k x1 (wrap64 (x5 + t155)) x39 (wrap64 (x40 + 1)) x152000 x152001 x152002)) else (none)) else (none)))) else (some x5)
def arboretlaw03_size.f : Nat → ByteArray → List (S62) → List (S27) → Int → Option (Int)
  | 0, _, _, _, _ => none
  | k + 1, a0_0, l0_1, l0_2, a1 => arboretlaw03_size.l0 k a1 (wrap64 (1 + (a0_0.size : Int))) (l0_1.length : Int) 0 a0_0 l0_1 l0_2
end
set_option maxHeartbeats 8000000 in
set_option maxRecDepth 100000 in
theorem arboretlaw03_size.calls (k : Nat) : ∀ (a0_0 : ByteArray) (A0_1 : Option Addr) (c0_1 : Nat) (l0_1 : List (S62)) (A0_2 : Option Addr) (c0_2 : Nat) (l0_2 : List (S27)) (a1 : Int) (r : Int) (w : World) (hr0_1 : Kd.C k62 w A0_1 l0_1.length l0_1) (hc0_1 : l0_1.length ≤ c0_1) (hr0_2 : Kd.C k27 w A0_2 l0_2.length l0_2) (hc0_2 : l0_2.length ≤ c0_2) (h : arboretlaw03_size.f k a0_0 l0_1 l0_2 a1 = some r),
    Calls Tryd.prog 11 #[.agg #[.string a0_0, .slice A0_1 l0_1.length c0_1, .slice A0_2 l0_2.length c0_2], .int .i64 a1] w fun e w' => e = .returned (.int .i64 r) ∧ Below w.heap.size w w' := by
  induction k using Nat.strongRecOn with
  | _ k ih =>
  intro a0_0 A0_1 c0_1 l0_1 A0_2 c0_2 l0_2 a1 r w hr0_1 hc0_1 hr0_2 hc0_2 h
  cases k with
  | zero => exact absurd h (by simp [arboretlaw03_size.f])
  | succ k =>
  simp only [arboretlaw03_size.f] at h
  have hu27 := Tryd.underlying27
  have HR0_1 := Aside0.mk hr0_1
  have HC0_1 := Aside0.mk hc0_1
  clear hr0_1 hc0_1
  have HR0_2 := Aside0.mk hr0_2
  have HC0_2 := Aside0.mk hc0_2
  clear hr0_2 hc0_2
  have HB := Aside0.mk (Below.refl w.heap.size w)
  have H : (arboretlaw03_size.l0 k a1 (wrap64 (1 + (a0_0.size : Int))) (l0_1.length : Int) 0 a0_0 l0_1 l0_2) = some r := h
  clear h
  have H' := Aside0.mk H
  clear H
  go_enter Tryd.func11, Tryd.ntmps11
  go_wp2_with (first | ((with_reducible refine gate_dst (N := 2) rfl ?_); refine box_event ?hg (N := 2) ?hd (cs := #[.string a0_0, .slice A0_1 l0_1.length c0_1, .slice A0_2 l0_2.length c0_2]) (t := 27) ?hr ?_; (case hd => rfl); (case hg => rfl); (case hr => first | (go_simp; done) | (go_simp; rfl)); intro gb151 hg w3 hbox hb; have n0_ := Aside0.mk (below_step (by repeat (first | (with_reducible first | exact HB.out | apply below_alloc | apply pw_below_drewN | apply below_drew1) | exact HB.out)) hb); have n1_ := Aside0.mk (hbox); have n2_ := Aside0.mk ((by rw [hg]; exact (below_size (by repeat (first | (with_reducible first | exact HB.out | apply below_alloc | apply pw_below_drewN | apply below_drew1) | exact HB.out))) : w.heap.size ≤ gb151)); have n3_ := Aside0.mk ((by rw [hg]; exact (below_size (by repeat (first | (with_reducible first | exact HB.out | apply below_alloc | apply pw_below_drewN | apply below_drew1) | exact HB.out))) : w.heap.size ≤ gb151)); clear HB; have HB := n0_; have BK151 := n1_; have GW151 := n2_; have GE151 := n3_; clear n0_ n1_ n2_ n3_; clear hb hbox hg; have hcz4_0 : w3.cell? ⟨gb151, 0, none⟩ = some (.string a0_0) := (blk_cell BK151.out 0).trans rfl; have hcz4_1 : w3.cell? ⟨gb151, 1, none⟩ = some (.slice A0_1 l0_1.length c0_1) := (blk_cell BK151.out 1).trans rfl; have hcz4_2 : w3.cell? ⟨gb151, 2, none⟩ = some (.slice A0_2 l0_2.length c0_2) := (blk_cell BK151.out 2).trans rfl; have hfz4_0 := blk_frozen BK151.out 0; have hfz4_1 := blk_frozen BK151.out 1; have hfz4_2 := blk_frozen BK151.out 2))
  repeat (go_quiet (first | ((with_reducible refine gate_dst (N := 2) rfl ?_); refine box_event ?hg (N := 2) ?hd (cs := #[.string a0_0, .slice A0_1 l0_1.length c0_1, .slice A0_2 l0_2.length c0_2]) (t := 27) ?hr ?_; (case hd => rfl); (case hg => rfl); (case hr => first | (go_simp; done) | (go_simp; rfl)); intro gb151 hg w3 hbox hb; have n0_ := Aside0.mk (below_step (by repeat (first | (with_reducible first | exact HB.out | apply below_alloc | apply pw_below_drewN | apply below_drew1) | exact HB.out)) hb); have n1_ := Aside0.mk (hbox); have n2_ := Aside0.mk ((by rw [hg]; exact (below_size (by repeat (first | (with_reducible first | exact HB.out | apply below_alloc | apply pw_below_drewN | apply below_drew1) | exact HB.out))) : w.heap.size ≤ gb151)); have n3_ := Aside0.mk ((by rw [hg]; exact (below_size (by repeat (first | (with_reducible first | exact HB.out | apply below_alloc | apply pw_below_drewN | apply below_drew1) | exact HB.out))) : w.heap.size ≤ gb151)); clear HB; have HB := n0_; have BK151 := n1_; have GW151 := n2_; have GE151 := n3_; clear n0_ n1_ n2_ n3_; clear hb hbox hg; have hcz4_0 : w3.cell? ⟨gb151, 0, none⟩ = some (.string a0_0) := (blk_cell BK151.out 0).trans rfl; have hcz4_1 : w3.cell? ⟨gb151, 1, none⟩ = some (.slice A0_1 l0_1.length c0_1) := (blk_cell BK151.out 1).trans rfl; have hcz4_2 : w3.cell? ⟨gb151, 2, none⟩ = some (.slice A0_2 l0_2.length c0_2) := (blk_cell BK151.out 2).trans rfl; have hfz4_0 := blk_frozen BK151.out 0; have hfz4_1 := blk_frozen BK151.out 1; have hfz4_2 := blk_frozen BK151.out 2)); try go_wp2_with (first | ((with_reducible refine gate_dst (N := 2) rfl ?_); refine box_event ?hg (N := 2) ?hd (cs := #[.string a0_0, .slice A0_1 l0_1.length c0_1, .slice A0_2 l0_2.length c0_2]) (t := 27) ?hr ?_; (case hd => rfl); (case hg => rfl); (case hr => first | (go_simp; done) | (go_simp; rfl)); intro gb151 hg w3 hbox hb; have n0_ := Aside0.mk (below_step (by repeat (first | (with_reducible first | exact HB.out | apply below_alloc | apply pw_below_drewN | apply below_drew1) | exact HB.out)) hb); have n1_ := Aside0.mk (hbox); have n2_ := Aside0.mk ((by rw [hg]; exact (below_size (by repeat (first | (with_reducible first | exact HB.out | apply below_alloc | apply pw_below_drewN | apply below_drew1) | exact HB.out))) : w.heap.size ≤ gb151)); have n3_ := Aside0.mk ((by rw [hg]; exact (below_size (by repeat (first | (with_reducible first | exact HB.out | apply below_alloc | apply pw_below_drewN | apply below_drew1) | exact HB.out))) : w.heap.size ≤ gb151)); clear HB; have HB := n0_; have BK151 := n1_; have GW151 := n2_; have GE151 := n3_; clear n0_ n1_ n2_ n3_; clear hb hbox hg; have hcz4_0 : w3.cell? ⟨gb151, 0, none⟩ = some (.string a0_0) := (blk_cell BK151.out 0).trans rfl; have hcz4_1 : w3.cell? ⟨gb151, 1, none⟩ = some (.slice A0_1 l0_1.length c0_1) := (blk_cell BK151.out 1).trans rfl; have hcz4_2 : w3.cell? ⟨gb151, 2, none⟩ = some (.slice A0_2 l0_2.length c0_2) := (blk_cell BK151.out 2).trans rfl; have hfz4_0 := blk_frozen BK151.out 0; have hfz4_1 := blk_frozen BK151.out 1; have hfz4_2 := blk_frozen BK151.out 2)))
  go_loopg [5, 15] k (fun kq v5 v15 w' => ∃ (x5_1 : Int) (x15_1 : Int), v5 = .int .i64 x5_1 ∧ v15 = .int .i64 x15_1 ∧ Aside0 (arboretlaw03_size.l0 kq a1 x5_1 (l0_1.length : Int) x15_1 a0_0 l0_1 l0_2 = some r) ∧ Aside0 (kq ≤ k) ∧ Aside0 (w'.heap[gb151]? = some (.cells #[.string a0_0, (.slice A0_1 l0_1.length c0_1), (.slice A0_2 l0_2.length c0_2)] 27 (0, 0))) ∧ Aside0 (Below w.heap.size w w'))
  case atStart => exact ⟨(wrap64 (1 + (a0_0.size : Int))), (0), (by first | rfl | (simp; done) | (simp [*]; done)), (by first | rfl | (simp; done) | (simp [*]; done)), H', ⟨Nat.le_refl _⟩, ⟨by (with_reducible repeat (first | refine blk_drewN ?_ _ | refine blk_drew ?_ | refine blk_alloc ?_ _)); exact BK151.out⟩, ⟨by repeat (first | (with_reducible first | exact HB.out | apply below_alloc | apply pw_below_drewN | apply below_drew1 | refine below_set ?_ GE151.out) | exact HB.out)⟩⟩
  case round =>
    clear H'
    try clear c1
    try clear p2
    try clear hcz4_0
    try clear hcz4_1
    try clear hcz4_2
    try clear hfz4_0
    try clear hfz4_1
    try clear hfz4_2
    obtain ⟨x5_1, x15_1, rfl, rfl, HA, HK1, BK151, HB⟩ := hrel
    cases gk with
    | zero => exact absurd HA.out (by simp [arboretlaw03_size.l0])
    | succ k1 =>
      have H := HA.out
      clear HA
      simp only [arboretlaw03_size.l0] at H
      by_cases c5 : x15_1 < (l0_1.length : Int)
      · rw [if_pos c5] at H
        have c5b0 : decide (x15_1 < (l0_1.length : Int)) = true := decide_eq_true c5
        clear c5
        by_cases c6 : 0 ≤ x15_1
        · rw [if_pos c6] at H
          have c6b0 : decide (0 ≤ x15_1) = true := decide_eq_true c6
          clear c6
          by_cases c7 : x15_1 < (l0_1.length : Int)
          · rw [if_pos c7] at H
            have c7b0 : decide (x15_1 < (l0_1.length : Int)) = true := decide_eq_true c7
            clear c7
            have H' := Aside0.mk H
            clear H
            have hcz8_0 : wr.cell? ⟨gb151, 0, none⟩ = some (.string a0_0) := (blk_cell BK151.out 0).trans rfl
            have hcz8_1 : wr.cell? ⟨gb151, 1, none⟩ = some (.slice A0_1 l0_1.length c0_1) := (blk_cell BK151.out 1).trans rfl
            have hcz8_2 : wr.cell? ⟨gb151, 2, none⟩ = some (.slice A0_2 l0_2.length c0_2) := (blk_cell BK151.out 2).trans rfl
            have hfz8_0 := blk_frozen BK151.out 0
            have hfz8_1 := blk_frozen BK151.out 1
            have hfz8_2 := blk_frozen BK151.out 2
            have p152 : 0 ≤ (x15_1 : Int) := of_decide_eq_true (by first | (with_reducible assumption) | assumption)
            have q152 : x15_1 < (l0_1.length : Int) := of_decide_eq_true (by first | (with_reducible assumption) | assumption)
            obtain ⟨ad152, A152_1, c152_1, e152, hx152_0, hx152_1, hl152_1, hi152_1⟩ := at_T62 HR0_1.out x15_1 p152 q152
            cases e152
            replace hx152_0 := (HB.out.cell (World.block_lt_of_cell? w _ hx152_0)).trans hx152_0
            replace hx152_1 := (HB.out.cell (World.block_lt_of_cell? w _ hx152_1)).trans hx152_1
            have HR152_1 := Aside0.mk hi152_1
            have HC152_1 := Aside0.mk hl152_1
            clear hi152_1 hl152_1
            replace p152 := eq_true p152
            replace q152 := eq_true q152
            have p153 : 0 ≤ (x15_1 : Int) := of_decide_eq_true (by first | (with_reducible assumption) | assumption)
            have q153 : x15_1 < (l0_1.length : Int) := of_decide_eq_true (by first | (with_reducible assumption) | assumption)
            obtain ⟨ad153, A153_1, c153_1, e153, hx153_0, hx153_1, hl153_1, hi153_1⟩ := at_T62 HR0_1.out x15_1 p153 q153
            obtain rfl : ad152 = ad153 := (by injection e153)
            replace hx153_0 := (HB.out.cell (World.block_lt_of_cell? w _ hx153_0)).trans hx153_0
            replace hx153_1 := (HB.out.cell (World.block_lt_of_cell? w _ hx153_1)).trans hx153_1
            have HR153_1 := Aside0.mk hi153_1
            have HC153_1 := Aside0.mk hl153_1
            clear hi153_1 hl153_1
            replace p153 := eq_true p153
            replace q153 := eq_true q153
            have ea_ := Option.some.inj (hx152_1.symm.trans hx153_1)
            injection ea_ with ea_ en_ ec_
            subst ea_
            subst ec_
            clear en_
            go_wp2
            repeat (go_quiet (fail); try go_wp2)
            go_roundg k1
            case measure => have := HK1.out; omega
            case rel => exact ⟨(wrap64 ((wrap64 ((wrap64 (x5_1 + 1)) + (((rd_T62 l0_1 x15_1).f0).size : Int))) + (((rd_T62 l0_1 x15_1).f1).length : Int))), (wrap64 (x15_1 + 1)), (by first | rfl | (simp; done) | (simp [*]; done)), (by first | rfl | (simp; done) | (simp [*]; done)), H', ⟨by have := HK1.out; omega⟩, ⟨by (with_reducible repeat (first | refine blk_drewN ?_ _ | refine blk_drew ?_ | refine blk_alloc ?_ _)); exact BK151.out⟩, ⟨by repeat (first | (with_reducible first | exact HB.out | apply below_alloc | apply pw_below_drewN | apply below_drew1 | refine below_set ?_ GE151.out) | exact HB.out)⟩⟩
          · rw [if_neg c7] at H
            exact absurd H (by simp)
        · rw [if_neg c6] at H
          exact absurd H (by simp)
      · rw [if_neg c5] at H
        have c5b0 : decide (x15_1 < (l0_1.length : Int)) = false := decide_eq_false c5
        clear c5
        have H' := Aside0.mk H
        clear H
        have hcz9_0 : wr.cell? ⟨gb151, 0, none⟩ = some (.string a0_0) := (blk_cell BK151.out 0).trans rfl
        have hcz9_1 : wr.cell? ⟨gb151, 1, none⟩ = some (.slice A0_1 l0_1.length c0_1) := (blk_cell BK151.out 1).trans rfl
        have hcz9_2 : wr.cell? ⟨gb151, 2, none⟩ = some (.slice A0_2 l0_2.length c0_2) := (blk_cell BK151.out 2).trans rfl
        have hfz9_0 := blk_frozen BK151.out 0
        have hfz9_1 := blk_frozen BK151.out 1
        have hfz9_2 := blk_frozen BK151.out 2
        go_wp2
        repeat (go_quiet (fail); try go_wp2)
        go_loopg [5, 40] k1 (fun kq v5 v40 w' => ∃ (x5_2 : Int) (x40_2 : Int), v5 = .int .i64 x5_2 ∧ v40 = .int .i64 x40_2 ∧ Aside0 (arboretlaw03_size.l1 kq a1 x5_2 (l0_2.length : Int) x40_2 a0_0 l0_1 l0_2 = some r) ∧ Aside0 (kq ≤ k1) ∧ Aside0 (w'.heap[gb151]? = some (.cells #[.string a0_0, (.slice A0_1 l0_1.length c0_1), (.slice A0_2 l0_2.length c0_2)] 27 (0, 0))) ∧ Aside0 (Below w.heap.size w w'))
        case atStart => exact ⟨(x5_1), (0), (by first | rfl | (simp; done) | (simp [*]; done)), (by first | rfl | (simp; done) | (simp [*]; done)), H', ⟨Nat.le_refl _⟩, ⟨by (with_reducible repeat (first | refine blk_drewN ?_ _ | refine blk_drew ?_ | refine blk_alloc ?_ _)); exact BK151.out⟩, ⟨by repeat (first | (with_reducible first | exact HB.out | apply below_alloc | apply pw_below_drewN | apply below_drew1 | refine below_set ?_ GE151.out) | exact HB.out)⟩⟩
        case round =>
          clear H'
          try clear c1
          try clear p1
          try clear q1
          try clear hx1
          try clear p2
          try clear c5
          try clear c5b0
          try clear c6
          try clear c6b0
          try clear p6
          try clear c7
          try clear c7b0
          try clear hcz4_0
          try clear hcz4_1
          try clear hcz4_2
          try clear hcz8_0
          try clear hcz8_1
          try clear hcz8_2
          try clear hcz9_0
          try clear hcz9_1
          try clear hcz9_2
          try clear hfz4_0
          try clear hfz4_1
          try clear hfz4_2
          try clear hfz8_0
          try clear hfz8_1
          try clear hfz8_2
          try clear hfz9_0
          try clear hfz9_1
          try clear hfz9_2
          try clear hx152_0
          try clear hx152_1
          try clear hx153_0
          try clear hx153_1
          try clear p152
          try clear p153
          try clear p2
          try clear q152
          try clear q153
          obtain ⟨x5_2, x40_2, rfl, rfl, HA, HK2, BK151, HB⟩ := hrel
          cases gk with
          | zero => exact absurd HA.out (by simp [arboretlaw03_size.l1])
          | succ k2 =>
            have H := HA.out
            clear HA
            simp only [arboretlaw03_size.l1] at H
            by_cases c10 : x40_2 < (l0_2.length : Int)
            · rw [if_pos c10] at H
              have c10b0 : decide (x40_2 < (l0_2.length : Int)) = true := decide_eq_true c10
              clear c10
              by_cases c11 : a1 > 20
              · rw [if_pos c11] at H
                have c11b0 : decide (20 < a1) = true := decide_eq_true c11
                clear c11
                obtain rfl := Option.some.inj H
                go_wp2
                repeat (go_quiet (fail); try go_wp2)
                go_ret
                exact ⟨by first | rfl | (simp [errW_none, errW_some] <;> rfl) | (simp [*, errW_none, errW_some] <;> rfl), by repeat (first | (with_reducible first | exact HB.out | apply below_alloc | apply pw_below_drewN | apply below_drew1 | refine below_set ?_ GE151.out) | exact HB.out)⟩
              · rw [if_neg c11] at H
                have c11b0 : decide (20 < a1) = false := decide_eq_false c11
                clear c11
                by_cases c12 : x5_2 > 100000
                · rw [if_pos c12] at H
                  have c12b0 : decide (100000 < x5_2) = true := decide_eq_true c12
                  clear c12
                  obtain rfl := Option.some.inj H
                  go_wp2
                  repeat (go_quiet (fail); try go_wp2)
                  go_ret
                  exact ⟨by first | rfl | (simp [errW_none, errW_some] <;> rfl) | (simp [*, errW_none, errW_some] <;> rfl), by repeat (first | (with_reducible first | exact HB.out | apply below_alloc | apply pw_below_drewN | apply below_drew1 | refine below_set ?_ GE151.out) | exact HB.out)⟩
                · rw [if_neg c12] at H
                  have c12b0 : decide (100000 < x5_2) = false := decide_eq_false c12
                  clear c12
                  by_cases c13 : 0 ≤ x40_2
                  · rw [if_pos c13] at H
                    have c13b0 : decide (0 ≤ x40_2) = true := decide_eq_true c13
                    clear c13
                    by_cases c14 : x40_2 < (l0_2.length : Int)
                    · rw [if_pos c14] at H
                      have c14b0 : decide (x40_2 < (l0_2.length : Int)) = true := decide_eq_true c14
                      clear c14
                      replace H := Option.bind_eq_some_iff.mp H
                      obtain ⟨t155, A150, H⟩ := H
                      replace H : (arboretlaw03_size.l1 k2 a1 (wrap64 (x5_2 + t155)) (l0_2.length : Int) (wrap64 (x40_2 + 1)) a0_0 l0_1 l0_2) = some r := H
                      have A15 := Aside0.mk A150
                      clear A150
                      have H' := Aside0.mk H
                      clear H
                      have hcz16_0 : wr.cell? ⟨gb151, 0, none⟩ = some (.string a0_0) := (blk_cell BK151.out 0).trans rfl
                      have hcz16_1 : wr.cell? ⟨gb151, 1, none⟩ = some (.slice A0_1 l0_1.length c0_1) := (blk_cell BK151.out 1).trans rfl
                      have hcz16_2 : wr.cell? ⟨gb151, 2, none⟩ = some (.slice A0_2 l0_2.length c0_2) := (blk_cell BK151.out 2).trans rfl
                      have hfz16_0 := blk_frozen BK151.out 0
                      have hfz16_1 := blk_frozen BK151.out 1
                      have hfz16_2 := blk_frozen BK151.out 2
                      have p154 : 0 ≤ (x40_2 : Int) := of_decide_eq_true (by first | (with_reducible assumption) | assumption)
                      have q154 : x40_2 < (l0_2.length : Int) := of_decide_eq_true (by first | (with_reducible assumption) | assumption)
                      obtain ⟨ad154, A154_1, c154_1, A154_2, c154_2, e154, hx154_0, hx154_1, hx154_2, hl154_1, hi154_1, hl154_2, hi154_2⟩ := at_T27 HR0_2.out x40_2 p154 q154
                      cases e154
                      replace hx154_0 := (HB.out.cell (World.block_lt_of_cell? w _ hx154_0)).trans hx154_0
                      replace hx154_1 := (HB.out.cell (World.block_lt_of_cell? w _ hx154_1)).trans hx154_1
                      replace hx154_2 := (HB.out.cell (World.block_lt_of_cell? w _ hx154_2)).trans hx154_2
                      have HR154_1 := Aside0.mk hi154_1
                      have HC154_1 := Aside0.mk hl154_1
                      clear hi154_1 hl154_1
                      have HR154_2 := Aside0.mk hi154_2
                      have HC154_2 := Aside0.mk hl154_2
                      clear hi154_2 hl154_2
                      replace p154 := eq_true p154
                      replace q154 := eq_true q154
                      go_wp2_with (first | (go_at_call 11; (with_reducible refine (ih k2 (by have := HK1.out; have := HK2.out; omega) ((rd_T27 l0_2 x40_2).f0) _ _ ((rd_T27 l0_2 x40_2).f1) _ _ ((rd_T27 l0_2 x40_2).f2) (wrap64 (a1 + 1)) t155 _ ?side1 ?side2 ?side3 ?side4 A15.out).mono ?_); (case side1 => repeat (first | exact (Kd.C_below HR154_1.out HB.out) | (with_reducible refine Kd.C_alloc ?_ _) | (with_reducible refine Kd.C_drewN ?_ _) | (with_reducible refine Kd.C_drew ?_))); (case side2 => exact HC154_1.out); (case side3 => repeat (first | exact (Kd.C_below HR154_2.out HB.out) | (with_reducible refine Kd.C_alloc ?_ _) | (with_reducible refine Kd.C_drewN ?_ _) | (with_reducible refine Kd.C_drew ?_))); (case side4 => exact HC154_2.out); rintro e w17 ⟨rfl, hb⟩; have n0_ := Aside0.mk (blk_below (g := gb151) (o := .cells #[.string a0_0, .slice A0_1 l0_1.length c0_1, .slice (some ad154) l0_2.length c0_2] 27 (0, 0)) (by (with_reducible repeat (first | refine blk_drewN ?_ _ | refine blk_drew ?_ | refine blk_alloc ?_ _)); exact BK151.out) hb); have n1_ := Aside0.mk (below_step (by repeat (first | (with_reducible first | exact HB.out | apply below_alloc | apply pw_below_drewN | apply below_drew1 | refine below_set ?_ GE151.out) | exact HB.out)) hb); clear BK151; clear HB; have BK151 := n0_; have HB := n1_; clear n0_ n1_; (try clear hb); (try clear hb2); (try clear hk); (try clear hi)))
                      repeat (go_quiet (first | (go_at_call 11; (with_reducible refine (ih k2 (by have := HK1.out; have := HK2.out; omega) ((rd_T27 l0_2 x40_2).f0) _ _ ((rd_T27 l0_2 x40_2).f1) _ _ ((rd_T27 l0_2 x40_2).f2) (wrap64 (a1 + 1)) t155 _ ?side1 ?side2 ?side3 ?side4 A15.out).mono ?_); (case side1 => repeat (first | exact (Kd.C_below HR154_1.out HB.out) | (with_reducible refine Kd.C_alloc ?_ _) | (with_reducible refine Kd.C_drewN ?_ _) | (with_reducible refine Kd.C_drew ?_))); (case side2 => exact HC154_1.out); (case side3 => repeat (first | exact (Kd.C_below HR154_2.out HB.out) | (with_reducible refine Kd.C_alloc ?_ _) | (with_reducible refine Kd.C_drewN ?_ _) | (with_reducible refine Kd.C_drew ?_))); (case side4 => exact HC154_2.out); rintro e w17 ⟨rfl, hb⟩; have n0_ := Aside0.mk (blk_below (g := gb151) (o := .cells #[.string a0_0, .slice A0_1 l0_1.length c0_1, .slice (some ad154) l0_2.length c0_2] 27 (0, 0)) (by (with_reducible repeat (first | refine blk_drewN ?_ _ | refine blk_drew ?_ | refine blk_alloc ?_ _)); exact BK151.out) hb); have n1_ := Aside0.mk (below_step (by repeat (first | (with_reducible first | exact HB.out | apply below_alloc | apply pw_below_drewN | apply below_drew1 | refine below_set ?_ GE151.out) | exact HB.out)) hb); clear BK151; clear HB; have BK151 := n0_; have HB := n1_; clear n0_ n1_; (try clear hb); (try clear hb2); (try clear hk); (try clear hi))); try go_wp2_with (first | (go_at_call 11; (with_reducible refine (ih k2 (by have := HK1.out; have := HK2.out; omega) ((rd_T27 l0_2 x40_2).f0) _ _ ((rd_T27 l0_2 x40_2).f1) _ _ ((rd_T27 l0_2 x40_2).f2) (wrap64 (a1 + 1)) t155 _ ?side1 ?side2 ?side3 ?side4 A15.out).mono ?_); (case side1 => repeat (first | exact (Kd.C_below HR154_1.out HB.out) | (with_reducible refine Kd.C_alloc ?_ _) | (with_reducible refine Kd.C_drewN ?_ _) | (with_reducible refine Kd.C_drew ?_))); (case side2 => exact HC154_1.out); (case side3 => repeat (first | exact (Kd.C_below HR154_2.out HB.out) | (with_reducible refine Kd.C_alloc ?_ _) | (with_reducible refine Kd.C_drewN ?_ _) | (with_reducible refine Kd.C_drew ?_))); (case side4 => exact HC154_2.out); rintro e w17 ⟨rfl, hb⟩; have n0_ := Aside0.mk (blk_below (g := gb151) (o := .cells #[.string a0_0, .slice A0_1 l0_1.length c0_1, .slice (some ad154) l0_2.length c0_2] 27 (0, 0)) (by (with_reducible repeat (first | refine blk_drewN ?_ _ | refine blk_drew ?_ | refine blk_alloc ?_ _)); exact BK151.out) hb); have n1_ := Aside0.mk (below_step (by repeat (first | (with_reducible first | exact HB.out | apply below_alloc | apply pw_below_drewN | apply below_drew1 | refine below_set ?_ GE151.out) | exact HB.out)) hb); clear BK151; clear HB; have BK151 := n0_; have HB := n1_; clear n0_ n1_; (try clear hb); (try clear hb2); (try clear hk); (try clear hi))))
                      go_roundg k2
                      case measure => have := HK1.out; have := HK2.out; omega
                      case rel => exact ⟨(wrap64 (x5_2 + t155)), (wrap64 (x40_2 + 1)), (by first | rfl | (simp; done) | (simp [*]; done)), (by first | rfl | (simp; done) | (simp [*]; done)), H', ⟨by have := HK1.out; have := HK2.out; omega⟩, ⟨by (with_reducible repeat (first | refine blk_drewN ?_ _ | refine blk_drew ?_ | refine blk_alloc ?_ _)); exact BK151.out⟩, ⟨by repeat (first | (with_reducible first | exact HB.out | apply below_alloc | apply pw_below_drewN | apply below_drew1 | refine below_set ?_ GE151.out) | exact HB.out)⟩⟩
                    · rw [if_neg c14] at H
                      exact absurd H (by simp)
                  · rw [if_neg c13] at H
                    exact absurd H (by simp)
            · rw [if_neg c10] at H
              have c10b0 : decide (x40_2 < (l0_2.length : Int)) = false := decide_eq_false c10
              clear c10
              obtain rfl := Option.some.inj H
              go_wp2
              repeat (go_quiet (fail); try go_wp2)
              go_ret
              exact ⟨by first | rfl | (simp [errW_none, errW_some] <;> rfl) | (simp [*, errW_none, errW_some] <;> rfl), by repeat (first | (with_reducible first | exact HB.out | apply below_alloc | apply pw_below_drewN | apply below_drew1 | refine below_set ?_ GE151.out) | exact HB.out)⟩
end Go.Proofs.YtkopmkinlanhoaaDoor.PP
