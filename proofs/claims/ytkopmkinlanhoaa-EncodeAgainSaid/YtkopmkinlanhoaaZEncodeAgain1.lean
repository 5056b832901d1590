/- EncodeAgain: texts of this session's, and what the kit's print laid for this seat, as far as the law's row uses them (Shelf, PEx0, PEx_words_Pad, PEx_eq82, PEx_arboretref01_Same, PEx_arboretref01_SameTree, PEx_words_part, PEx_words_number, PEx_words_Get, PEx_words_Get64, PEx_decode_reserves, PEx_tree_Count, PEx_api_Reserve_91, PEx_api_Reserve_73, PEx_strings_IndexByte, PEx_name_letter, PEx_name_plain, PEx_name_all, PEx_name_Prop, PEx_stringslite_Index, PEx_stringslite_Cut, PEx_strings_Cut, PEx_name_Node). -/
import Derived.Shelf.Small.Strs
import Derived.Shelf.Strings.Search1
import Derived.Shelf.Strings.Search2
import Derived.Shelf.Strings.Cut
import Derived.Shelf.LaysM
import Derived.Shelf.Strings.Shaped
import Derived.Shelf.Sort.Plain
import Derived.Shelf.Slices.CompactS
import Derived.Shelf.Slices.In.SortNone
import Derived.Shelf.Bytes.SlIndexSmall
import Derived.Ground.SlbNamesProg
import Derived.Shelf.Bytes.SlCountOne
import Derived.Shelf.Bytes.SlIndexAt
import Derived.Shelf.Bytes.SlEqualAll
import Derived.Shelf.Bytes.Small
import Derived.Shelf.Bytes.IndexByte
import Derived.Test.YtkopmkinlanhoaaProg
import Derived.WalkSpells
import Derived.Sort.OwnSorted
import Derived.Maps.Own
import Derived.Maps.OwnSet
import Derived.Maps.Views
import Derived.Test.YtkopmkinlanhoaaZEncodeAgain0
set_option linter.unusedVariables false
set_option linter.unusedSimpArgs false
namespace Go.Proofs
open Go.Shelf
def Try.lays137_ren : Go.Shelf.Ren := ⟨fun | 137 => 109 | 217 => 117 | 266 => 132 | n => n, fun | 9 => 9 | 5 => 5 | 3 => 3 | n => n, fun | n => n⟩
theorem Try.lays137 : Go.Proofs.Lays.n137 Try.prog Try.lays137_ren := {
  mixed := by kernel_rfl
  f137 := Try.func109.trans (congrArg some (by kernel_rfl))
  f217 := Try.func117.trans (congrArg some (by kernel_rfl))
  f266 := Try.func132.trans (congrArg some (by kernel_rfl))
  t3 := Try.underlying3
  a3 := Try.isAgg3
  z3 := Try.sizeOf3
  v3 := Try.zeroValue3
  t5 := Try.underlying5
  a5 := Try.isAgg5
  z5 := Try.sizeOf5
  v5 := Try.zeroValue5
  t9 := Try.underlying9
  a9 := Try.isAgg9
  z9 := Try.sizeOf9
  v9 := Try.zeroValue9 }
open Go.RowKit in
theorem Try.strings_IndexByte (s : ByteArray) (c : Int) (w : World) :
    Calls Try.prog 109 #[.string s, .int .u8 c] w fun e w' => e = .returned (.int .i64 (Lib.indexByte s.data.toList c.toNat.toUInt8)) ∧ w' = w := Any.strings_IndexByte Try.lays137 s c w
def Try.lays219_ren : Go.Shelf.Ren := ⟨fun | 219 => 116 | 217 => 117 | 225 => 130 | 224 => 114 | 267 => 131 | 266 => 132 | 314 => 139 | n => n, fun | 9 => 9 | 3 => 3 | 4 => 4 | 5 => 5 | 46 => 139 | 146 => 174 | 51 => 22 | n => n, fun | 1 => 0 | n => n⟩
theorem Try.lays219 : Go.Proofs.Lays.n219 Try.prog Try.lays219_ren := {
  mixed := by kernel_rfl
  f217 := Try.func117.trans (congrArg some (by kernel_rfl))
  f219 := Try.func116.trans (congrArg some (by kernel_rfl))
  f224 := Try.func114.trans (congrArg some (by kernel_rfl))
  f225 := Try.func130.trans (congrArg some (by kernel_rfl))
  f266 := Try.func132.trans (congrArg some (by kernel_rfl))
  f267 := Try.func131.trans (congrArg some (by kernel_rfl))
  f314 := Try.func139.trans (congrArg some (by kernel_rfl))
  t3 := Try.underlying3
  a3 := Try.isAgg3
  z3 := Try.sizeOf3
  v3 := Try.zeroValue3
  t4 := Try.underlying4
  a4 := Try.isAgg4
  z4 := Try.sizeOf4
  v4 := Try.zeroValue4
  t5 := Try.underlying5
  a5 := Try.isAgg5
  z5 := Try.sizeOf5
  v5 := Try.zeroValue5
  t9 := Try.underlying9
  a9 := Try.isAgg9
  z9 := Try.sizeOf9
  v9 := Try.zeroValue9
  t46 := Try.underlying139
  a46 := Try.isAgg139
  z46 := Try.sizeOf139
  v46 := Try.zeroValue139
  t51 := Try.underlying22
  a51 := Try.isAgg22
  z51 := Try.sizeOf22
  v51 := Try.zeroValue22
  t146 := Try.underlying174
  a146 := Try.isAgg174
  z146 := Try.sizeOf174
  v146 := Try.zeroValue174
  g1 := by kernel_rfl }
open Go.RowKit Go.Lib in
theorem Try.stringslite_Index_one (s : ByteArray) (c : UInt8) (w : World) :
    Calls Try.prog 116 #[.string s, .string ⟨#[c]⟩] w fun e w' => e = .returned (.int .i64 (Lib.indexByte s.data.toList c)) ∧ w' = w := Any.stringslite_Index_one Try.lays219 s c w
def Try.lays190_ren : Go.Shelf.Ren := ⟨fun | 190 => 101 | 125 => 111 | 258 => 110 | 128 => 127 | 129 => 128 | 302 => 118 | 303 => 119 | 304 => 120 | 305 => 121 | 306 => 122 | 307 => 123 | 308 => 124 | 309 => 125 | 310 => 126 | 333 => 133 | 329 => 134 | 330 => 135 | 334 => 136 | 335 => 137 | 336 => 138 | 344 => 140 | n => n, fun | 31 => 83 | 9 => 9 | 3 => 3 | 46 => 139 | 0 => 0 | 51 => 22 | 53 => 47 | 4 => 4 | 183 => 167 | 182 => 166 | 131 => 95 | 5 => 5 | 218 => 176 | 222 => 180 | 228 => 183 | 229 => 79 | n => n, fun | n => n⟩
theorem Try.lays190 : Go.Proofs.Lays.n190 Try.prog Try.lays190_ren := {
  mixed := by kernel_rfl
  f125 := Try.func111.trans (congrArg some (by kernel_rfl))
  f128 := Try.func127.trans (congrArg some (by kernel_rfl))
  f129 := Try.func128.trans (congrArg some (by kernel_rfl))
  f190 := Try.func101.trans (congrArg some (by kernel_rfl))
  f258 := Try.func110.trans (congrArg some (by kernel_rfl))
  f302 := Try.func118.trans (congrArg some (by kernel_rfl))
  f303 := Try.func119.trans (congrArg some (by kernel_rfl))
  f304 := Try.func120.trans (congrArg some (by kernel_rfl))
  f305 := Try.func121.trans (congrArg some (by kernel_rfl))
  f306 := Try.func122.trans (congrArg some (by kernel_rfl))
  f307 := Try.func123.trans (congrArg some (by kernel_rfl))
  f308 := Try.func124.trans (congrArg some (by kernel_rfl))
  f309 := Try.func125.trans (congrArg some (by kernel_rfl))
  f310 := Try.func126.trans (congrArg some (by kernel_rfl))
  f329 := Try.func134.trans (congrArg some (by kernel_rfl))
  f330 := Try.func135.trans (congrArg some (by kernel_rfl))
  f333 := Try.func133.trans (congrArg some (by kernel_rfl))
  f334 := Try.func136.trans (congrArg some (by kernel_rfl))
  f335 := Try.func137.trans (congrArg some (by kernel_rfl))
  f336 := Try.func138.trans (congrArg some (by kernel_rfl))
  f344 := Try.func140.trans (congrArg some (by kernel_rfl))
  t0 := Try.underlying0
  a0 := Try.isAgg0
  z0 := Try.sizeOf0
  v0 := Try.zeroValue0
  t3 := Try.underlying3
  a3 := Try.isAgg3
  z3 := Try.sizeOf3
  v3 := Try.zeroValue3
  t4 := Try.underlying4
  a4 := Try.isAgg4
  z4 := Try.sizeOf4
  v4 := Try.zeroValue4
  t5 := Try.underlying5
  a5 := Try.isAgg5
  z5 := Try.sizeOf5
  v5 := Try.zeroValue5
  t9 := Try.underlying9
  a9 := Try.isAgg9
  z9 := Try.sizeOf9
  v9 := Try.zeroValue9
  t31 := Try.underlying83
  a31 := Try.isAgg83
  z31 := Try.sizeOf83
  v31 := Try.zeroValue83
  t46 := Try.underlying139
  a46 := Try.isAgg139
  z46 := Try.sizeOf139
  v46 := Try.zeroValue139
  t51 := Try.underlying22
  a51 := Try.isAgg22
  z51 := Try.sizeOf22
  v51 := Try.zeroValue22
  t53 := Try.underlying47
  a53 := Try.isAgg47
  z53 := Try.sizeOf47
  v53 := Try.zeroValue47
  t131 := Try.underlying95
  a131 := Try.isAgg95
  z131 := Try.sizeOf95
  v131 := Try.zeroValue95
  t182 := Try.underlying166
  a182 := Try.isAgg166
  z182 := Try.sizeOf166
  v182 := Try.zeroValue166
  t183 := Try.underlying167
  a183 := Try.isAgg167
  z183 := Try.sizeOf167
  v183 := Try.zeroValue167
  t218 := Try.underlying176
  a218 := Try.isAgg176
  z218 := Try.sizeOf176
  v218 := Try.zeroValue176
  t222 := Try.underlying180
  a222 := Try.isAgg180
  z222 := Try.sizeOf180
  v222 := Try.zeroValue180
  t228 := Try.underlying183
  a228 := Try.isAgg183
  z228 := Try.sizeOf183
  v228 := Try.zeroValue183
  t229 := Try.underlying79
  a229 := Try.isAgg79
  z229 := Try.sizeOf79
  v229 := Try.zeroValue79 }
open Go.Sort Go.RowKit in
theorem Try.slices_Sort_string (blk off cap : Nat) (ss : List (List UInt8)) (w : World) (hH : Holds encStr w blk off ss.toArray) (hblk : blk < w.heap.size) (hsz : ss.length < 4611686018427387904) :
    Calls Try.prog 101 #[.slice (some ⟨blk, off, none⟩) ss.length cap] w fun e w' =>
      e = .returned (.tuple #[]) ∧ ∃ n os, w' = grow (putRow encStr (Sort.ahead w n) blk off (ss.mergeSort fun x y => decide (x ≤ y)).toArray) os := Any.slices_Sort_string Try.lays190 blk off cap ss w hH hblk hsz
def Try.lays194_ren : Go.Shelf.Ren := ⟨fun | 194 => 102 | n => n, fun | 31 => 83 | 9 => 9 | 3 => 3 | 4 => 4 | 0 => 0 | n => n, fun | n => n⟩
theorem Try.lays194 : Go.Proofs.Lays.n194 Try.prog Try.lays194_ren := {
  mixed := by kernel_rfl
  f194 := Try.func102.trans (congrArg some (by kernel_rfl))
  t0 := Try.underlying0
  a0 := Try.isAgg0
  z0 := Try.sizeOf0
  v0 := Try.zeroValue0
  t3 := Try.underlying3
  a3 := Try.isAgg3
  z3 := Try.sizeOf3
  v3 := Try.zeroValue3
  t4 := Try.underlying4
  a4 := Try.isAgg4
  z4 := Try.sizeOf4
  v4 := Try.zeroValue4
  t9 := Try.underlying9
  a9 := Try.isAgg9
  z9 := Try.sizeOf9
  v9 := Try.zeroValue9
  t31 := Try.underlying83
  a31 := Try.isAgg83
  z31 := Try.sizeOf83
  v31 := Try.zeroValue83 }
open Go.RowKit Go.Lib Go.Sort in
theorem Try.slices_Compact_string (blk off cap : Nat) (zs : List (List UInt8)) (w : World) (hH : Holds encStr w blk off zs.toArray) (hsz : zs.length ≤ 9223372036854775807) (hcap : zs.length ≤ cap) :
    Calls Try.prog 102 #[.slice (some ⟨blk, off, none⟩) zs.length cap] w fun e w' => e = .returned (.slice (some ⟨blk, off, none⟩) (Lib.compact zs).length cap) ∧ ∃ q, w' = putRow encStr (Sort.ahead w q) blk off (Lib.compact zs ++ List.replicate (zs.length - (Lib.compact zs).length) []).toArray := Any.slices_Compact_string Try.lays194 blk off cap zs w hH hsz hcap
open Go.RowKit Go.Lib Go.Sort in
theorem Try.slices_Compact_string_empty (a : Option Addr) (cap : Nat) (w : World) :
    Calls Try.prog 102 #[.slice a 0 cap] w fun e w' => e = .returned (.slice a 0 cap) ∧ w' = w := Any.slices_Compact_string_empty Try.lays194 a cap w
open Go.RowKit Go.Sort in
theorem Try.slices_Sort_string_none (p : Option Addr) (cap : Nat) (w : World) :
    Calls Try.prog 101 #[.slice p 0 cap] w fun e w' => e = .returned (.tuple #[]) ∧ w' = w := Any.slices_Sort_string_none Try.lays190 p cap w
def Try.laysSlB13_ren : Go.Shelf.Ren := ⟨fun | 13 => 96 | 24 => 104 | 25 => 105 | 12 => 106 | 31 => 112 | 19 => 95 | 20 => 55 | 21 => 113 | 22 => 114 | 23 => 115 | 29 => 103 | 30 => 129 | n => n, fun | 22 => 45 | 3 => 3 | 4 => 4 | 0 => 0 | 5 => 5 | 9 => 9 | 33 => 139 | 40 => 174 | 39 => 22 | n => n, fun | 0 => 0 | n => n⟩
theorem Try.laysSlB13 : Go.Proofs.SlLaysB.n13 Try.prog Try.laysSlB13_ren := {
  mixed := by kernel_rfl
  f13 := Try.func96.trans (congrArg some (by kernel_rfl))
  f25 := Try.func105.trans (congrArg some (by kernel_rfl))
  t0 := Try.underlying0
  a0 := Try.isAgg0
  z0 := Try.sizeOf0
  v0 := Try.zeroValue0
  t3 := Try.underlying3
  a3 := Try.isAgg3
  z3 := Try.sizeOf3
  v3 := Try.zeroValue3
  t4 := Try.underlying4
  a4 := Try.isAgg4
  z4 := Try.sizeOf4
  v4 := Try.zeroValue4
  t5 := Try.underlying5
  a5 := Try.isAgg5
  z5 := Try.sizeOf5
  v5 := Try.zeroValue5
  t22 := Try.underlying45
  a22 := Try.isAgg45
  z22 := Try.sizeOf45
  v22 := Try.zeroValue45 }
open Go.RowKit Go.Lib in
theorem Try.bytes_Count_one_at (a : Addr) (n c b2 o2 d : Nat) (xs : List Int) (cv : Int) (w : World) (hx : xs.length = n) (hc : ∀ i, i < n → w.cell? (a.add i) = some (.int .u8 (xs.getD i 0))) (hc2 : w.cell? ⟨b2, o2, none⟩ = some (.int .u8 cv)) :
    Calls Try.prog 96 #[.slice (some a) n c, .slice (some ⟨b2, o2, none⟩) 1 d] w fun e w' => e = .returned (.int .i64 (Lib.countByte (Lib.bytesOf xs) cv.toNat.toUInt8)) ∧ w' = w := Any.bytes_Count_one_at Try.laysSlB13 a n c b2 o2 d xs cv w hx hc hc2
def Try.lays187_ren : Go.Shelf.Ren := ⟨fun | 187 => 95 | 255 => 103 | n => n, fun | 37 => 45 | 5 => 5 | 3 => 3 | n => n, fun | n => n⟩
theorem Try.lays187 : Go.Proofs.Lays.n187 Try.prog Try.lays187_ren := {
  mixed := by kernel_rfl
  f187 := Try.func95.trans (congrArg some (by kernel_rfl))
  f255 := Try.func103.trans (congrArg some (by kernel_rfl))
  t3 := Try.underlying3
  a3 := Try.isAgg3
  z3 := Try.sizeOf3
  v3 := Try.zeroValue3
  t5 := Try.underlying5
  a5 := Try.isAgg5
  z5 := Try.sizeOf5
  v5 := Try.zeroValue5
  t37 := Try.underlying45
  a37 := Try.isAgg45
  z37 := Try.sizeOf45
  v37 := Try.zeroValue45 }
theorem Try.bytes_IndexByte (b o n c : Nat) (xs : List Int) (cv : Int) (w : World) (hx : xs.length = n) (hc : ∀ i, i < n → w.cell? ⟨b, o + i, none⟩ = some (.int .u8 (xs.getD i 0))) :
    Calls Try.prog 95 #[.slice (some ⟨b, o, none⟩) n c, .int .u8 cv] w fun e w' => e = .returned (.int .i64 (Lib.indexByte (Lib.bytesOf xs) cv.toNat.toUInt8)) ∧ w' = w := Any.bytes_IndexByte Try.lays187 b o n c xs cv w hx hc
end Go.Proofs

namespace Go.Proofs.Ytkopmkinlanhoaa.PE
open Go.RowKit Go.Proofs.YtkopmkinlanhoaaW.PrintWords Go.Proofs.YtkopmkinlanhoaaW.PrintLast Go.Proofs.YtkopmkinlanhoaaW.PrintMore
attribute [local go_sem] max2_int min2_int max_two min_two max_three min_three max_four min_four   -- for this text's walks alone
set_option linter.unusedVariables false
set_option linter.unusedSimpArgs false
def errW : Option Int → Value
  | none => .nilIface
  | some c => .iface 0 (.int .i64 c)
theorem errW_none : errW none = .nilIface := rfl
theorem errW_some (c : Int) : errW (some c) = .iface 0 (.int .i64 c) := rfl
theorem info5 : (Try.prog.info? 5).map (fun i => (i.zero, i.size, i.bytes)) = some (some (.int .u8 0), 1, 1) := by kernel_rfl
theorem info9 : (Try.prog.info? 9).map (fun i => (i.zero, i.size, i.bytes)) = some (some (.string ⟨#[]⟩), 1, 16) := by kernel_rfl
theorem info82 : (Try.prog.info? 82).map (fun i => (i.zero, i.size, i.bytes)) = some (some (.agg #[(.int .u64 0), (.int .u64 0)]), 2, 16) := by kernel_rfl
structure S82 where
  f0 : Int
  f1 : Int
def z82 : S82 := ⟨(0 : Int), (0 : Int)⟩
def k82 : Kd S82 := Kd.iso (Kd.pair (Kd.int .u64) (Kd.int .u64)) (fun x : S82 => (x.f0, x.f1))
theorem k82_open {w : World} {x : S82} {cs : List Value} (h : k82.K w x cs) : cs = [.int .u64 x.f0, .int .u64 x.f1] := by
  obtain ⟨_, _, rfl, rfl, rfl⟩ := h
  exact rfl
theorem k82_mkM (w : World) (base : Nat) (ok : Nat → Prop) (x : S82)  : k82.M w base ok x [.int .u64 x.f0, .int .u64 x.f1] := ⟨[.int .u64 x.f0], [.int .u64 x.f1], rfl, rfl, rfl⟩
def rd_T82 (xs : List S82) (i : Int) : S82 := xs.getD i.toNat z82
theorem at_T82 {w : World} {A : Option Addr} {n : Nat} {xs : List S82} (h : Kd.C k82 w A n xs) (i : Int) (h0 : 0 ≤ i) (h1 : i < n) : ∃ ad , A = some ad ∧ w.cell? (ad.add (i.toNat * 2)) = some (.int .u64 (rd_T82 xs i).f0) ∧ w.cell? ⟨(ad.add (i.toNat * 2)).block, (ad.add (i.toNat * 2)).off + 1, none⟩ = some (.int .u64 (rd_T82 xs i).f1) := by
  obtain ⟨ad, c, e, _, hK, hc0⟩ := Kd.C_get h z82 i h0 h1
  have hc : ∀ j u, c[j]? = some u → w.cell? (ad.add (i.toNat * 2 + j)) = some u := hc0
  obtain rfl := k82_open hK
  exact ⟨ad, e, hc 0 _ rfl, by rw [← add_field _ _ 1 (by omega)]; exact hc 1 _ rfl⟩
def rd_L6 (xs : List (List Int)) (i : Int) : (List Int) := xs.getD i.toNat ([] : List Int)
theorem at_L6 {w : World} {A : Option Addr} {n : Nat} {xs : List (List Int)} (h : Kd.C (Kd.slice 5 (Kd.int .u8)) w A n xs) (i : Int) (h0 : 0 ≤ i) (h1 : i < n) : ∃ ad A0 c0, A = some ad ∧ w.cell? (ad.add i.toNat) = some (.slice A0 (rd_L6 xs i).length c0) ∧ (rd_L6 xs i).length ≤ c0 ∧ (Kd.int .u8).C w A0 (rd_L6 xs i).length (rd_L6 xs i) := by
  obtain ⟨ad, c, e, _, hK, hc0⟩ := Kd.C_get h ([] : List Int) i h0 h1
  have hc : ∀ j u, c[j]? = some u → w.cell? (ad.add (i.toNat * 1 + j)) = some u := hc0
  obtain ⟨A0, c0, rfl, l0, g0⟩ := hK
  exact ⟨ad, A0, c0, e, by have hq := hc 0 _ rfl; rwa [Nat.mul_one, Nat.add_zero] at hq, l0, g0⟩
structure S63 where
  f0 : ByteArray
  f1 : (List Int)
def z63 : S63 := ⟨(⟨#[]⟩ : ByteArray), ([] : List Int)⟩
def k63 : Kd S63 := Kd.iso (Kd.pair Kd.string (Kd.slice 5 (Kd.int .u8))) (fun x : S63 => (x.f0, x.f1))
theorem k63_open {w : World} {x : S63} {cs : List Value} (h : k63.K w x cs) : ∃ A1 c1, cs = [.string x.f0, .slice A1 x.f1.length c1] ∧ x.f1.length ≤ c1 ∧ (Kd.int .u8).C w A1 x.f1.length x.f1 := by
  obtain ⟨_, _, rfl, rfl, ⟨A1, c1, rfl, l1, g1⟩⟩ := h
  exact ⟨A1, c1, rfl, l1, g1⟩
theorem k63_mkM (w : World) (base : Nat) (ok : Nat → Prop) (x : S63) {v1 : Value} (g1 : (Kd.int .u8).R 5 w base ok v1 x.f1) : k63.M w base ok x [.string x.f0, v1] := ⟨[.string x.f0], [v1], rfl, rfl, ⟨v1, rfl, g1⟩⟩
def rd_T63 (xs : List S63) (i : Int) : S63 := xs.getD i.toNat z63
theorem at_T63 {w : World} {A : Option Addr} {n : Nat} {xs : List S63} (h : Kd.C k63 w A n xs) (i : Int) (h0 : 0 ≤ i) (h1 : i < n) : ∃ ad A1 c1, A = some ad ∧ w.cell? (ad.add (i.toNat * 2)) = some (.string (rd_T63 xs i).f0) ∧ w.cell? ⟨(ad.add (i.toNat * 2)).block, (ad.add (i.toNat * 2)).off + 1, none⟩ = some (.slice A1 (rd_T63 xs i).f1.length c1) ∧ (rd_T63 xs i).f1.length ≤ c1 ∧ (Kd.int .u8).C w A1 (rd_T63 xs i).f1.length (rd_T63 xs i).f1 := by
  obtain ⟨ad, c, e, _, hK, hc0⟩ := Kd.C_get h z63 i h0 h1
  have hc : ∀ j u, c[j]? = some u → w.cell? (ad.add (i.toNat * 2 + j)) = some u := hc0
  obtain ⟨A1, c1, rfl, l1, g1⟩ := k63_open hK
  exact ⟨ad, A1, c1, e, hc 0 _ rfl, by rw [← add_field _ _ 1 (by omega)]; exact hc 1 _ rfl, l1, g1⟩
structure S27 where
  f0 : ByteArray
  f1 : (List S63)
  f2 : (List S27)
def z27 : S27 := ⟨(⟨#[]⟩ : ByteArray), ([] : List S63), ([] : List S27)⟩
def F27 (d : Kd S27) : Kd S27 := Kd.iso (Kd.pair Kd.string (Kd.pair (Kd.slice 63 k63) (Kd.slice 27 d))) (fun x : S27 => (x.f0, x.f1, x.f2))
theorem mono27 : Kd.Mono F27 := Kd.mono_iso _ (Kd.mono_pair (Kd.mono_const _) (Kd.mono_pair (Kd.mono_const _) (Kd.mono_slice 27 Kd.mono_id)))
theorem sub27 : Kd.Sub F27 [5, 27, 63] := Kd.sub_iso _ (Kd.sub_pair (Kd.sub_const _ (by decide)) (Kd.sub_pair (Kd.sub_const _ (by decide)) (Kd.sub_slice 27 (by decide) Kd.sub_id)))
theorem sz27 : ∀ n, (Kd.upto F27 3 [5, 27, 63] n).sz = 3 := Kd.upto_sz (fun _ => rfl)
def k27 : Kd S27 := Kd.fix F27 3 [5, 27, 63] sz27 (Kd.upto_E sub27)
theorem k27_open {w : World} {x : S27} {cs : List Value} (h : k27.K w x cs) : ∃ A1 c1 A2 c2, cs = [.string x.f0, .slice A1 x.f1.length c1, .slice A2 x.f2.length c2] ∧ x.f1.length ≤ c1 ∧ k63.C w A1 x.f1.length x.f1 ∧ x.f2.length ≤ c2 ∧ k27.C w A2 x.f2.length x.f2 := by
  obtain ⟨n, h⟩ := h
  cases n with
  | zero => exact h.elim
  | succ n =>
    obtain ⟨_, _, rfl, rfl, ⟨_, _, rfl, ⟨A1, c1, rfl, l1, g1⟩, ⟨A2, c2, rfl, l2, g2⟩⟩⟩ := h
    exact ⟨A1, c1, A2, c2, rfl, l1, g1, l2, Kd.fix_C g2⟩
theorem k27_mkM (w : World) (base : Nat) (ok : Nat → Prop) (x : S27) {v1 : Value} (g1 : k63.R 63 w base ok v1 x.f1) {v2 : Value} (g2 : k27.R 27 w base ok v2 x.f2) : k27.M w base ok x [.string x.f0, v1, v2] := by
  obtain ⟨n2, q2⟩ := Kd.fix_R_back mono27 g2
  have r2 := Kd.upto_R_le mono27 sz27 (show n2 ≤ n2 by omega) q2
  exact ⟨n2 + 1, ⟨[.string x.f0], [v1, v2], rfl, rfl, ⟨[v1], [v2], rfl, ⟨v1, rfl, g1⟩, ⟨v2, rfl, r2⟩⟩⟩⟩
def rd_T27 (xs : List S27) (i : Int) : S27 := xs.getD i.toNat z27
theorem at_T27 {w : World} {A : Option Addr} {n : Nat} {xs : List S27} (h : Kd.C k27 w A n xs) (i : Int) (h0 : 0 ≤ i) (h1 : i < n) : ∃ ad A1 c1 A2 c2, A = some ad ∧ w.cell? (ad.add (i.toNat * 3)) = some (.string (rd_T27 xs i).f0) ∧ w.cell? ⟨(ad.add (i.toNat * 3)).block, (ad.add (i.toNat * 3)).off + 1, none⟩ = some (.slice A1 (rd_T27 xs i).f1.length c1) ∧ w.cell? ⟨(ad.add (i.toNat * 3)).block, (ad.add (i.toNat * 3)).off + 2, none⟩ = some (.slice A2 (rd_T27 xs i).f2.length c2) ∧ (rd_T27 xs i).f1.length ≤ c1 ∧ k63.C w A1 (rd_T27 xs i).f1.length (rd_T27 xs i).f1 ∧ (rd_T27 xs i).f2.length ≤ c2 ∧ k27.C w A2 (rd_T27 xs i).f2.length (rd_T27 xs i).f2 := by
  obtain ⟨ad, c, e, _, hK, hc0⟩ := Kd.C_get h z27 i h0 h1
  have hc : ∀ j u, c[j]? = some u → w.cell? (ad.add (i.toNat * 3 + j)) = some u := hc0
  obtain ⟨A1, c1, A2, c2, rfl, l1, g1, l2, g2⟩ := k27_open hK
  exact ⟨ad, A1, c1, A2, c2, e, hc 0 _ rfl, by rw [← add_field _ _ 1 (by omega)]; exact hc 1 _ rfl, by rw [← add_field _ _ 2 (by omega)]; exact hc 2 _ rfl, l1, g1, l2, g2⟩
structure S29 where
  f0 : Int
  f1 : (List S82)
  f2 : S27
def z29 : S29 := ⟨(0 : Int), ([] : List S82), z27⟩
end Go.Proofs.Ytkopmkinlanhoaa.PE

namespace Go.Proofs.Ytkopmkinlanhoaa.PE
open Go.RowKit Go.Proofs.YtkopmkinlanhoaaW.PrintWords Go.Proofs.YtkopmkinlanhoaaW.PrintLast Go.Proofs.YtkopmkinlanhoaaW.PrintMore
attribute [local go_sem] max2_int min2_int max_two min_two max_three min_three max_four min_four   -- for this text's walks alone
set_option linter.unusedVariables false
set_option linter.unusedSimpArgs false
def words_Pad.f (a0 : Int) : Option (Int) := if a0 < 0 then (some 0) else (some (Int.tmod (wrap64 (4 - (Int.tmod a0 4))) 4))
set_option maxHeartbeats 8000000 in
set_option maxRecDepth 100000 in
theorem words_Pad.calls (a0 : Int) (r : Int) (w : World) (h : words_Pad.f a0 = some r) :
    Calls Try.prog 92 #[.int .i64 a0] w fun e w' => e = .returned (.int .i64 r) ∧ Drawn0 w w' := by
  have H : (if a0 < 0 then (some 0) else (some (Int.tmod (wrap64 (4 - (Int.tmod a0 4))) 4))) = some r := h
  clear h
  by_cases c2 : a0 < 0
  · rw [if_pos c2] at H
    have c2b0 : decide (a0 < 0) = true := decide_eq_true c2
    clear c2
    obtain rfl := Option.some.inj H
    go_enter Try.func92, Try.ntmps92
    go_wp2
    go_ret
    exact ⟨by first | rfl | (simp; done) | (simp [*]; done), by repeat (first | exact Drawn0.refl _ | apply Drawn0.step)⟩
  · rw [if_neg c2] at H
    have c2b0 : decide (a0 < 0) = false := decide_eq_false c2
    clear c2
    obtain rfl := Option.some.inj H
    go_enter Try.func92, Try.ntmps92
    go_wp2
    go_ret
    exact ⟨by first | rfl | (simp; done) | (simp [*]; done), by repeat (first | exact Drawn0.refl _ | apply Drawn0.step)⟩
end Go.Proofs.Ytkopmkinlanhoaa.PE

namespace Go.Proofs.Ytkopmkinlanhoaa.PE
open Go.RowKit Go.Proofs.YtkopmkinlanhoaaW.PrintWords Go.Proofs.YtkopmkinlanhoaaW.PrintLast Go.Proofs.YtkopmkinlanhoaaW.PrintMore
attribute [local go_sem] max2_int min2_int max_two min_two max_three min_three max_four min_four   -- for this text's walks alone
set_option linter.unusedVariables false
set_option linter.unusedSimpArgs false
theorem eqA82 (d : Nat) (w : World) (x0 y0 : Int) (x1 y1 : Int) :
    (Op.equalIn (d + 2) 82 (.agg #[.int .u64 x0, .int .u64 x1]) (.agg #[.int .u64 y0, .int .u64 y1])).run Try.prog w = .ok (x0 == y0 && (x1 == y1)) w := by
  refine eqA_of Try.underlying82 (by kernel_rfl) ?_
  refine eqf_cons (by rfl) (by go_simp; rfl) (by go_simp; rfl) (by go_simp) ?_
  exact eqf_last (by rfl) (by go_simp; rfl) (by go_simp; rfl) (by go_simp)
end Go.Proofs.Ytkopmkinlanhoaa.PE

namespace Go.Proofs.Ytkopmkinlanhoaa.PE
open Go.RowKit Go.Proofs.YtkopmkinlanhoaaW.PrintWords Go.Proofs.YtkopmkinlanhoaaW.PrintLast Go.Proofs.YtkopmkinlanhoaaW.PrintMore
attribute [local go_sem] max2_int min2_int max_two min_two max_three min_three max_four min_four   -- for this text's walks alone
set_option linter.unusedVariables false
set_option linter.unusedSimpArgs false
mutual
def arboretref01_Same.j0 : Nat → Bool → ByteArray → List (S63) → List (S27) → ByteArray → List (S63) → List (S27) → Option (Bool)
  | 0, _, _, _, _, _, _, _ => none
  | k + 1, x29, x442000, x442001, x442002, x443000, x443001, x443002 => if x29 = true then (some false) else (arboretref01_Same.l0 k (x442001.length : Int) 0 x442000 x442001 x442002 x443000 x443001 x443002)
def arboretref01_Same.l0 : Nat → Int → Int → ByteArray → List (S63) → List (S27) → ByteArray → List (S63) → List (S27) → Option (Bool)
  | 0, _, _, _, _, _, _, _, _ => none
  | k + 1, x32, x33, x442000, x442001, x442002, x443000, x443001, x443002 => if x33 < x32 then (if 0 ≤ x33 then (if x33 < (x442001.length : Int) then (if x33 < (x443001.length : Int) then (if ((rd_T63 x442001 x33).f0).toList = ((rd_T63 x443001 x33).f0).toList then (if (strOfNums ((rd_T63 x442001 x33).f1)).toList = (strOfNums ((rd_T63 x443001 x33).f1)).toList then (arboretref01_Same.l0 k x32 (wrap64 (x33 + 1)) x442000 x442001 x442002 x443000 x443001 x443002) else (some false)) else (some false)) else (none)) else (none)) else (none)) else (arboretref01_Same.l1 k (x442002.length : Int) 0 x442000 x442001 x442002 x443000 x443001 x443002)
def arboretref01_Same.l1 : Nat → Int → Int → ByteArray → List (S63) → List (S27) → ByteArray → List (S63) → List (S27) → Option (Bool)
  | 0, _, _, _, _, _, _, _, _ => none
  | k + 1, x69, x70, x442000, x442001, x442002, x443000, x443001, x443002 => if x70 < x69 then (if 0 ≤ x70 then (if x70 < (x442002.length : Int) then (if x70 < (x443002.length : Int) then ((arboretref01_Same.f k ((rd_T27 x442002 x70).f0) ((rd_T27 x442002 x70).f1) ((rd_T27 x442002 x70).f2) ((rd_T27 x443002 x70).f0) ((rd_T27 x443002 x70).f1) ((rd_T27 x443002 x70).f2)).bind fun t449 => (if t449 = true then (arboretref01_Same.l1 k x69 (wrap64 (x70 + 1)) x442000 x442001 x442002 x443000 x443001 x443002) else (some false))) else (none)) else (none)) else (none)) else (some true)
def arboretref01_Same.f : Nat → ByteArray → List (S63) → List (S27) → ByteArray → List (S63) → List (S27) → Option (Bool)
  | 0, _, _, _, _, _, _ => none
  | k + 1, a0_0, l0_1, l0_2, a1_0, l1_1, l1_2 => if a0_0.toList = a1_0.toList then (if (l0_1.length : Int) = (l1_1.length : Int) then (arboretref01_Same.j0 k ((l0_2.length : Int) != (l1_2.length : Int)) a0_0 l0_1 l0_2 a1_0 l1_1 l1_2) else (arboretref01_Same.j0 k true a0_0 l0_1 l0_2 a1_0 l1_1 l1_2)) else (arboretref01_Same.j0 k true a0_0 l0_1 l0_2 a1_0 l1_1 l1_2)
end
def arboretref01_Same.T12 : Bool × List (List Nat × List Nat) := (true, [([], []), ([0], [0]), ([], []), ([1, 2], [1, 2]), ([3], [3]), ([], []), ([5], [5]), ([], []), ([6, 7], [6, 7]), ([8], [8]), ([4, 9], [4, 9]), ([10], [10])])
def arboretref01_Same.B12 : List Nat := [0, 1, 0, 7, 15, 0, 32, 0, 224, 480, 1023, 2047]
theorem arboretref01_Same.tab12 : rtab .any (opsOf Try.f54 12) = arboretref01_Same.T12 := by kernel_rfl
theorem arboretref01_Same.bits12 : waitsOk arboretref01_Same.T12.2 arboretref01_Same.B12 = true := by kernel_rfl
set_option maxHeartbeats 8000000 in
set_option maxRecDepth 100000 in
theorem arboretref01_Same.calls (k : Nat) : ∀ (a0_0 : ByteArray) (A0_1 : Option Addr) (c0_1 : Nat) (l0_1 : List (S63)) (A0_2 : Option Addr) (c0_2 : Nat) (l0_2 : List (S27)) (a1_0 : ByteArray) (A1_1 : Option Addr) (c1_1 : Nat) (l1_1 : List (S63)) (A1_2 : Option Addr) (c1_2 : Nat) (l1_2 : List (S27)) (r : Bool) (w : World) (hr0_1 : Kd.C k63 w A0_1 l0_1.length l0_1) (hc0_1 : l0_1.length ≤ c0_1) (hr0_2 : Kd.C k27 w A0_2 l0_2.length l0_2) (hc0_2 : l0_2.length ≤ c0_2) (hr1_1 : Kd.C k63 w A1_1 l1_1.length l1_1) (hc1_1 : l1_1.length ≤ c1_1) (hr1_2 : Kd.C k27 w A1_2 l1_2.length l1_2) (hc1_2 : l1_2.length ≤ c1_2) (h : arboretref01_Same.f k a0_0 l0_1 l0_2 a1_0 l1_1 l1_2 = some r),
    Calls Try.prog 54 #[.agg #[.string a0_0, .slice A0_1 l0_1.length c0_1, .slice A0_2 l0_2.length c0_2], .agg #[.string a1_0, .slice A1_1 l1_1.length c1_1, .slice A1_2 l1_2.length c1_2]] w fun e w' => e = .returned (.bool r) ∧ Below w.heap.size w w' := by
  induction k using Nat.strongRecOn with
  | _ k ih =>
  intro a0_0 A0_1 c0_1 l0_1 A0_2 c0_2 l0_2 a1_0 A1_1 c1_1 l1_1 A1_2 c1_2 l1_2 r w hr0_1 hc0_1 hr0_2 hc0_2 hr1_1 hc1_1 hr1_2 hc1_2 h
  cases k with
  | zero => exact absurd h (by simp [arboretref01_Same.f])
  | succ k =>
  simp only [arboretref01_Same.f] at h
  have hu27 := Try.underlying27
  have HR0_1 := Aside0.mk hr0_1
  have HC0_1 := Aside0.mk hc0_1
  clear hr0_1 hc0_1
  have HR0_2 := Aside0.mk hr0_2
  have HC0_2 := Aside0.mk hc0_2
  clear hr0_2 hc0_2
  have HR1_1 := Aside0.mk hr1_1
  have HC1_1 := Aside0.mk hc1_1
  clear hr1_1 hc1_1
  have HR1_2 := Aside0.mk hr1_2
  have HC1_2 := Aside0.mk hc1_2
  clear hr1_2 hc1_2
  have HB := Aside0.mk (Below.refl w.heap.size w)
  have H : (if a0_0.toList = a1_0.toList then (if (l0_1.length : Int) = (l1_1.length : Int) then (arboretref01_Same.j0 k ((l0_2.length : Int) != (l1_2.length : Int)) a0_0 l0_1 l0_2 a1_0 l1_1 l1_2) else (arboretref01_Same.j0 k true a0_0 l0_1 l0_2 a1_0 l1_1 l1_2)) else (arboretref01_Same.j0 k true a0_0 l0_1 l0_2 a1_0 l1_1 l1_2)) = some r := h
  clear h
  have HC3 := Aside0.mk H
  clear H
  go_enter Try.func54, Try.ntmps54
  go_upto_region 1 with (first | ((with_reducible refine gate_dst (N := 2) rfl ?_); (try (refine gate_guard (by rfl) ?_; dsimp only)); refine box_event ?hg (N := 2) ?hd (cs := #[.string a0_0, .slice A0_1 l0_1.length c0_1, .slice A0_2 l0_2.length c0_2]) (t := 27) ?hr ?_; (case hd => rfl); (case hg => rfl); (case hr => first | (go_simp; done) | (go_simp; rfl)); intro gb441 hg w4 hbox hb; have n0_ := Aside0.mk (below_step (by repeat (first | (with_reducible first | exact HB.out | apply below_alloc | apply pw_below_drewN | apply below_drew1) | exact HB.out)) hb); have n1_ := Aside0.mk (hbox); have n2_ := Aside0.mk ((by rw [hg]; exact (below_size (by repeat (first | (with_reducible first | exact HB.out | apply below_alloc | apply pw_below_drewN | apply below_drew1) | exact HB.out))) : w.heap.size ≤ gb441)); have n3_ := Aside0.mk ((by rw [hg]; exact (below_size (by repeat (first | (with_reducible first | exact HB.out | apply below_alloc | apply pw_below_drewN | apply below_drew1) | exact HB.out))) : w.heap.size ≤ gb441)); clear HB; have HB := n0_; have BK441 := n1_; have GW441 := n2_; have GE441 := n3_; clear n0_ n1_ n2_ n3_; clear hb hbox hg) | ((with_reducible refine gate_dst (N := 3) rfl ?_); (try (refine gate_guard (by rfl) ?_; dsimp only)); refine box_event ?hg (N := 3) ?hd (cs := #[.string a1_0, .slice A1_1 l1_1.length c1_1, .slice A1_2 l1_2.length c1_2]) (t := 27) ?hr ?_; (case hd => rfl); (case hg => rfl); (case hr => first | (go_simp; done) | (go_simp; rfl)); intro gb442 hg w5 hbox hb; have n0_ := Aside0.mk (blk_below (g := gb441) (o := .cells #[.string a0_0, .slice A0_1 l0_1.length c0_1, .slice A0_2 l0_2.length c0_2] 27 (0, 0)) (by (with_reducible repeat (first | refine blk_drewN ?_ _ | refine blk_drew ?_ | refine blk_alloc ?_ _)); exact BK441.out) hb); have n1_ := Aside0.mk (below_step (by repeat (first | (with_reducible first | exact HB.out | apply below_alloc | apply pw_below_drewN | apply below_drew1 | refine below_set ?_ GE441.out) | exact HB.out)) hb); have n2_ := Aside0.mk (hbox); have n3_ := Aside0.mk ((by rw [hg]; exact (below_size (by repeat (first | (with_reducible first | exact HB.out | apply below_alloc | apply pw_below_drewN | apply below_drew1 | refine below_set ?_ GE441.out) | exact HB.out))) : w.heap.size ≤ gb442)); have n4_ := Aside0.mk ((by rw [hg]; exact (below_size (by repeat (first | (with_reducible first | exact HB.out | apply below_alloc | apply pw_below_drewN | apply below_drew1 | refine below_set ?_ GE441.out) | exact HB.out))) : w.heap.size ≤ gb442)); have n5_ := Aside0.mk ((by rw [hg]; exact Nat.ne_of_lt (blk_lt (g := gb441) (o := .cells #[.string a0_0, .slice A0_1 l0_1.length c0_1, .slice A0_2 l0_2.length c0_2] 27 (0, 0)) (by (with_reducible repeat (first | refine blk_drewN ?_ _ | refine blk_drew ?_ | refine blk_alloc ?_ _)); exact BK441.out)) : gb441 ≠ gb442)); have n6_ := Aside0.mk ((by rw [hg]; exact Nat.ne_of_gt (blk_lt (g := gb441) (o := .cells #[.string a0_0, .slice A0_1 l0_1.length c0_1, .slice A0_2 l0_2.length c0_2] 27 (0, 0)) (by (with_reducible repeat (first | refine blk_drewN ?_ _ | refine blk_drew ?_ | refine blk_alloc ?_ _)); exact BK441.out)) : gb442 ≠ gb441)); clear BK441; clear HB; have BK441 := n0_; have HB := n1_; have BK442 := n2_; have GW442 := n3_; have GE442 := n4_; have NB441_442 := n5_; have NB442_441 := n6_; clear n0_ n1_ n2_ n3_ n4_ n5_ n6_; clear hb hbox hg))
  (try simp only [Act.put, List.setIfInBounds_toArray, List.set_cons_zero, List.set_cons_succ])
  go_cut [29] (fun v29 wc => ∃ (kq : Nat) (x29_2 : Bool), v29 = .bool x29_2 ∧ Aside0 (arboretref01_Same.j0 kq x29_2 a0_0 l0_1 l0_2 a1_0 l1_1 l1_2 = some r) ∧ Aside0 (kq ≤ k) ∧ Aside0 (wc.heap[gb441]? = some (.cells #[.string a0_0, (.slice A0_1 l0_1.length c0_1), (.slice A0_2 l0_2.length c0_2)] 27 (0, 0))) ∧ Aside0 (wc.heap[gb442]? = some (.cells #[.string a1_0, (.slice A1_1 l1_1.length c1_1), (.slice A1_2 l1_2.length c1_2)] 27 (0, 0))) ∧ Aside0 (Below w.heap.size w wc))
  case first =>
    have H := HC3.out
    clear HC3
    by_cases c6 : a0_0.toList = a1_0.toList
    · rw [if_pos c6] at H
      have c6b0 : (a0_0.toList == a1_0.toList) = true := beq_iff_eq.mpr c6
      have c6b1 : (a0_0.toList != a1_0.toList) = false := bne_eq_false_iff_eq.mpr c6
      clear c6
      (first | rw [c6b0] | (simp only [i64_w, i32_w]; rw [c6b0]) | skip)
      by_cases c7 : (l0_1.length : Int) = (l1_1.length : Int)
      · rw [if_pos c7] at H
        have c7b0 : ((l0_1.length : Int) == (l1_1.length : Int)) = true := beq_iff_eq.mpr c7
        have c7b1 : ((l0_1.length : Int) != (l1_1.length : Int)) = false := bne_eq_false_iff_eq.mpr c7
        have c7b2 : (l0_1.length == l1_1.length) = true := by first | simpa using c7 | (simp at c7 ⊢; omega)
        clear c7
        have H' := Aside0.mk H
        clear H
        have hnb8 := NB441_442.out
        have hnc8 := NB442_441.out
        have hcz9_0 : w5.cell? ⟨gb441, 0, none⟩ = some (.string a0_0) := (blk_cell BK441.out 0).trans rfl
        have hcz9_1 : w5.cell? ⟨gb441, 1, none⟩ = some (.slice A0_1 l0_1.length c0_1) := (blk_cell BK441.out 1).trans rfl
        have hcz9_2 : w5.cell? ⟨gb441, 2, none⟩ = some (.slice A0_2 l0_2.length c0_2) := (blk_cell BK441.out 2).trans rfl
        have hfz9_0 := blk_frozen BK441.out 0
        have hfz9_1 := blk_frozen BK441.out 1
        have hfz9_2 := blk_frozen BK441.out 2
        have hcz10_0 : w5.cell? ⟨gb442, 0, none⟩ = some (.string a1_0) := (blk_cell BK442.out 0).trans rfl
        have hcz10_1 : w5.cell? ⟨gb442, 1, none⟩ = some (.slice A1_1 l1_1.length c1_1) := (blk_cell BK442.out 1).trans rfl
        have hcz10_2 : w5.cell? ⟨gb442, 2, none⟩ = some (.slice A1_2 l1_2.length c1_2) := (blk_cell BK442.out 2).trans rfl
        have hfz10_0 := blk_frozen BK442.out 0
        have hfz10_1 := blk_frozen BK442.out 1
        have hfz10_2 := blk_frozen BK442.out 2
        go_wp2
        go_meet
        case rel => exact ⟨_, (((l0_2.length : Int) != (l1_2.length : Int))), (by first | rfl | (simp; done) | (simp [*]; done)), H', ⟨by first | omega | exact Nat.le_refl _⟩, ⟨by (with_reducible repeat (first | refine blk_drewN ?_ _ | refine blk_drew ?_ | refine blk_alloc ?_ _)); exact BK441.out⟩, ⟨by (with_reducible repeat (first | refine blk_drewN ?_ _ | refine blk_drew ?_ | refine blk_alloc ?_ _)); exact BK442.out⟩, ⟨by repeat (first | (with_reducible first | exact HB.out | apply below_alloc | apply pw_below_drewN | apply below_drew1 | refine below_set ?_ GE441.out | refine below_set ?_ GE442.out) | exact HB.out)⟩⟩
      · rw [if_neg c7] at H
        have c7b0 : ((l0_1.length : Int) == (l1_1.length : Int)) = false := beq_eq_false_iff_ne.mpr c7
        have c7b1 : ((l0_1.length : Int) != (l1_1.length : Int)) = true := bne_iff_ne.mpr c7
        have c7b2 : (l0_1.length == l1_1.length) = false := by first | simpa using c7 | (simp at c7 ⊢; omega)
        have H' := Aside0.mk H
        clear H
        have hnb11 := NB441_442.out
        have hnc11 := NB442_441.out
        have hcz12_0 : w5.cell? ⟨gb441, 0, none⟩ = some (.string a0_0) := (blk_cell BK441.out 0).trans rfl
        have hcz12_1 : w5.cell? ⟨gb441, 1, none⟩ = some (.slice A0_1 l0_1.length c0_1) := (blk_cell BK441.out 1).trans rfl
        have hcz12_2 : w5.cell? ⟨gb441, 2, none⟩ = some (.slice A0_2 l0_2.length c0_2) := (blk_cell BK441.out 2).trans rfl
        have hfz12_0 := blk_frozen BK441.out 0
        have hfz12_1 := blk_frozen BK441.out 1
        have hfz12_2 := blk_frozen BK441.out 2
        have hcz13_0 : w5.cell? ⟨gb442, 0, none⟩ = some (.string a1_0) := (blk_cell BK442.out 0).trans rfl
        have hcz13_1 : w5.cell? ⟨gb442, 1, none⟩ = some (.slice A1_1 l1_1.length c1_1) := (blk_cell BK442.out 1).trans rfl
        have hcz13_2 : w5.cell? ⟨gb442, 2, none⟩ = some (.slice A1_2 l1_2.length c1_2) := (blk_cell BK442.out 2).trans rfl
        have hfz13_0 := blk_frozen BK442.out 0
        have hfz13_1 := blk_frozen BK442.out 1
        have hfz13_2 := blk_frozen BK442.out 2
        go_wp2
        go_meet
        case rel => exact ⟨_, (true), (by first | rfl | (simp; done) | (simp [*]; done)), H', ⟨by first | omega | exact Nat.le_refl _⟩, ⟨by (with_reducible repeat (first | refine blk_drewN ?_ _ | refine blk_drew ?_ | refine blk_alloc ?_ _)); exact BK441.out⟩, ⟨by (with_reducible repeat (first | refine blk_drewN ?_ _ | refine blk_drew ?_ | refine blk_alloc ?_ _)); exact BK442.out⟩, ⟨by repeat (first | (with_reducible first | exact HB.out | apply below_alloc | apply pw_below_drewN | apply below_drew1 | refine below_set ?_ GE441.out | refine below_set ?_ GE442.out) | exact HB.out)⟩⟩
    · rw [if_neg c6] at H
      have c6b0 : (a0_0.toList == a1_0.toList) = false := beq_eq_false_iff_ne.mpr c6
      have c6b1 : (a0_0.toList != a1_0.toList) = true := bne_iff_ne.mpr c6
      (first | rw [c6b0] | (simp only [i64_w, i32_w]; rw [c6b0]) | skip)
      have H' := Aside0.mk H
      clear H
      have hnb14 := NB441_442.out
      have hnc14 := NB442_441.out
      have hcz15_0 : w5.cell? ⟨gb441, 0, none⟩ = some (.string a0_0) := (blk_cell BK441.out 0).trans rfl
      have hcz15_1 : w5.cell? ⟨gb441, 1, none⟩ = some (.slice A0_1 l0_1.length c0_1) := (blk_cell BK441.out 1).trans rfl
      have hcz15_2 : w5.cell? ⟨gb441, 2, none⟩ = some (.slice A0_2 l0_2.length c0_2) := (blk_cell BK441.out 2).trans rfl
      have hfz15_0 := blk_frozen BK441.out 0
      have hfz15_1 := blk_frozen BK441.out 1
      have hfz15_2 := blk_frozen BK441.out 2
      have hcz16_0 : w5.cell? ⟨gb442, 0, none⟩ = some (.string a1_0) := (blk_cell BK442.out 0).trans rfl
      have hcz16_1 : w5.cell? ⟨gb442, 1, none⟩ = some (.slice A1_1 l1_1.length c1_1) := (blk_cell BK442.out 1).trans rfl
      have hcz16_2 : w5.cell? ⟨gb442, 2, none⟩ = some (.slice A1_2 l1_2.length c1_2) := (blk_cell BK442.out 2).trans rfl
      have hfz16_0 := blk_frozen BK442.out 0
      have hfz16_1 := blk_frozen BK442.out 1
      have hfz16_2 := blk_frozen BK442.out 2
      go_wp2
      go_meet
      case rel => exact ⟨_, (true), (by first | rfl | (simp; done) | (simp [*]; done)), H', ⟨by first | omega | exact Nat.le_refl _⟩, ⟨by (with_reducible repeat (first | refine blk_drewN ?_ _ | refine blk_drew ?_ | refine blk_alloc ?_ _)); exact BK441.out⟩, ⟨by (with_reducible repeat (first | refine blk_drewN ?_ _ | refine blk_drew ?_ | refine blk_alloc ?_ _)); exact BK442.out⟩, ⟨by repeat (first | (with_reducible first | exact HB.out | apply below_alloc | apply pw_below_drewN | apply below_drew1 | refine below_set ?_ GE441.out | refine below_set ?_ GE442.out) | exact HB.out)⟩⟩
  case rest =>
    clear HC3
    try clear c1
    try clear p2
    try clear c5
    try clear c6
    try clear c6b0
    try clear c6b1
    try clear c7
    try clear c7b0
    try clear c7b1
    try clear c7b2
    try clear c8
    try clear c11
    try clear c14
    try clear hcz10_0
    try clear hcz10_1
    try clear hcz10_2
    try clear hcz12_0
    try clear hcz12_1
    try clear hcz12_2
    try clear hcz13_0
    try clear hcz13_1
    try clear hcz13_2
    try clear hcz15_0
    try clear hcz15_1
    try clear hcz15_2
    try clear hcz16_0
    try clear hcz16_1
    try clear hcz16_2
    try clear hcz9_0
    try clear hcz9_1
    try clear hcz9_2
    try clear hfz10_0
    try clear hfz10_1
    try clear hfz10_2
    try clear hfz12_0
    try clear hfz12_1
    try clear hfz12_2
    try clear hfz13_0
    try clear hfz13_1
    try clear hfz13_2
    try clear hfz15_0
    try clear hfz15_1
    try clear hfz15_2
    try clear hfz16_0
    try clear hfz16_1
    try clear hfz16_2
    try clear hfz9_0
    try clear hfz9_1
    try clear hfz9_2
    obtain ⟨kq, x29_2, rfl, HA, HJ2, BK441, BK442, HB⟩ := hcut
    cases kq with
    | zero => exact absurd HA.out (by simp [arboretref01_Same.j0])
    | succ kj2 =>
      have H := HA.out
      clear HA
      simp only [arboretref01_Same.j0] at H
      by_cases c17 : x29_2 = true
      · subst c17
        have H1 : (some false) = some r := by rw [if_pos rfl] at H; exact H
        clear H
        have H := H1
        clear H1
        obtain rfl := Option.some.inj H
        go_wp2
        go_ret
        exact ⟨by first | rfl | (simp [errW_none, errW_some] <;> rfl) | (simp [*, errW_none, errW_some] <;> rfl), by repeat (first | (with_reducible first | exact HB.out | apply below_alloc | apply pw_below_drewN | apply below_drew1 | refine below_set ?_ GE441.out | refine below_set ?_ GE442.out) | exact HB.out)⟩
      · replace c17 := Bool.eq_false_iff.mpr c17
        subst c17
        have H1 : (arboretref01_Same.l0 kj2 (l0_1.length : Int) 0 a0_0 l0_1 l0_2 a1_0 l1_1 l1_2) = some r := by rw [if_neg (show ¬ (false = true) by decide)] at H; exact H
        clear H
        have H := H1
        clear H1
        have H' := Aside0.mk H
        clear H
        have hnb18 := NB441_442.out
        have hnc18 := NB442_441.out
        have hcz19_0 : wc.cell? ⟨gb441, 0, none⟩ = some (.string a0_0) := (blk_cell BK441.out 0).trans rfl
        have hcz19_1 : wc.cell? ⟨gb441, 1, none⟩ = some (.slice A0_1 l0_1.length c0_1) := (blk_cell BK441.out 1).trans rfl
        have hcz19_2 : wc.cell? ⟨gb441, 2, none⟩ = some (.slice A0_2 l0_2.length c0_2) := (blk_cell BK441.out 2).trans rfl
        have hfz19_0 := blk_frozen BK441.out 0
        have hfz19_1 := blk_frozen BK441.out 1
        have hfz19_2 := blk_frozen BK441.out 2
        go_wp2
        go_loopg [33] kj2 (fun kq v33 w' => ∃ (x33_2 : Int), v33 = .int .i64 x33_2 ∧ Aside0 (arboretref01_Same.l0 kq (l0_1.length : Int) x33_2 a0_0 l0_1 l0_2 a1_0 l1_1 l1_2 = some r) ∧ Aside0 (kq ≤ kj2) ∧ Aside0 (w'.heap[gb441]? = some (.cells #[.string a0_0, (.slice A0_1 l0_1.length c0_1), (.slice A0_2 l0_2.length c0_2)] 27 (0, 0))) ∧ Aside0 (w'.heap[gb442]? = some (.cells #[.string a1_0, (.slice A1_1 l1_1.length c1_1), (.slice A1_2 l1_2.length c1_2)] 27 (0, 0))) ∧ Aside0 (Below w.heap.size w w'))
        case atStart => exact ⟨(0), (by first | rfl | (simp; done) | (simp [*]; done)), H', ⟨Nat.le_refl _⟩, ⟨by (with_reducible repeat (first | refine blk_drewN ?_ _ | refine blk_drew ?_ | refine blk_alloc ?_ _)); exact BK441.out⟩, ⟨by (with_reducible repeat (first | refine blk_drewN ?_ _ | refine blk_drew ?_ | refine blk_alloc ?_ _)); exact BK442.out⟩, ⟨by repeat (first | (with_reducible first | exact HB.out | apply below_alloc | apply pw_below_drewN | apply below_drew1 | refine below_set ?_ GE441.out | refine below_set ?_ GE442.out) | exact HB.out)⟩⟩
        case round =>
          clear H'
          try clear c1
          try clear p2
          try clear c5
          try clear c6
          try clear c6b0
          try clear c6b1
          try clear c7
          try clear c7b0
          try clear c7b1
          try clear c7b2
          try clear c8
          try clear c11
          try clear c14
          try clear c17
          try clear c18
          try clear hcz10_0
          try clear hcz10_1
          try clear hcz10_2
          try clear hcz12_0
          try clear hcz12_1
          try clear hcz12_2
          try clear hcz13_0
          try clear hcz13_1
          try clear hcz13_2
          try clear hcz15_0
          try clear hcz15_1
          try clear hcz15_2
          try clear hcz16_0
          try clear hcz16_1
          try clear hcz16_2
          try clear hcz19_0
          try clear hcz19_1
          try clear hcz19_2
          try clear hcz9_0
          try clear hcz9_1
          try clear hcz9_2
          try clear hfz10_0
          try clear hfz10_1
          try clear hfz10_2
          try clear hfz12_0
          try clear hfz12_1
          try clear hfz12_2
          try clear hfz13_0
          try clear hfz13_1
          try clear hfz13_2
          try clear hfz15_0
          try clear hfz15_1
          try clear hfz15_2
          try clear hfz16_0
          try clear hfz16_1
          try clear hfz16_2
          try clear hfz19_0
          try clear hfz19_1
          try clear hfz19_2
          try clear hfz9_0
          try clear hfz9_1
          try clear hfz9_2
          try clear p2
          obtain ⟨x33_2, rfl, HA, HK2, BK441, BK442, HB⟩ := hrel
          cases gk with
          | zero => exact absurd HA.out (by simp [arboretref01_Same.l0])
          | succ k2 =>
            have H := HA.out
            clear HA
            simp only [arboretref01_Same.l0] at H
            by_cases c20 : x33_2 < (l0_1.length : Int)
            · rw [if_pos c20] at H
              have c20b0 : decide (x33_2 < (l0_1.length : Int)) = true := decide_eq_true c20
              clear c20
              by_cases c21 : 0 ≤ x33_2
              · rw [if_pos c21] at H
                have c21b0 : decide (0 ≤ x33_2) = true := decide_eq_true c21
                clear c21
                by_cases c22 : x33_2 < (l0_1.length : Int)
                · rw [if_pos c22] at H
                  have c22b0 : decide (x33_2 < (l0_1.length : Int)) = true := decide_eq_true c22
                  clear c22
                  by_cases c23 : x33_2 < (l1_1.length : Int)
                  · rw [if_pos c23] at H
                    have c23b0 : decide (x33_2 < (l1_1.length : Int)) = true := decide_eq_true c23
                    clear c23
                    by_cases c24 : ((rd_T63 l0_1 x33_2).f0).toList = ((rd_T63 l1_1 x33_2).f0).toList
                    · rw [if_pos c24] at H
                      have c24b0 : (((rd_T63 l0_1 x33_2).f0).toList == ((rd_T63 l1_1 x33_2).f0).toList) = true := beq_iff_eq.mpr c24
                      have c24b1 : (((rd_T63 l0_1 x33_2).f0).toList != ((rd_T63 l1_1 x33_2).f0).toList) = false := bne_eq_false_iff_eq.mpr c24
                      clear c24
                      by_cases c25 : (strOfNums ((rd_T63 l0_1 x33_2).f1)).toList = (strOfNums ((rd_T63 l1_1 x33_2).f1)).toList
                      · rw [if_pos c25] at H
                        have c25b0 : ((strOfNums ((rd_T63 l0_1 x33_2).f1)).toList == (strOfNums ((rd_T63 l1_1 x33_2).f1)).toList) = true := beq_iff_eq.mpr c25
                        have c25b1 : ((strOfNums ((rd_T63 l0_1 x33_2).f1)).toList != (strOfNums ((rd_T63 l1_1 x33_2).f1)).toList) = false := bne_eq_false_iff_eq.mpr c25
                        clear c25
                        have H' := Aside0.mk H
                        clear H
                        try go_wp2
                        have p443 : 0 ≤ (x33_2 : Int) := of_decide_eq_true (by first | (with_reducible assumption) | assumption)
                        have q443 : x33_2 < (l0_1.length : Int) := of_decide_eq_true (by first | (with_reducible assumption) | assumption)
                        obtain ⟨ad443, A443_1, c443_1, e443, hx443_0, hx443_1, hl443_1, hi443_1⟩ := at_T63 HR0_1.out x33_2 p443 q443
                        have hw443_1 := hx443_1
                        have hw443_0 := hx443_0
                        cases e443
                        replace hx443_0 := (HB.out.cell (World.block_lt_of_cell? w _ hx443_0)).trans hx443_0
                        replace hx443_1 := (HB.out.cell (World.block_lt_of_cell? w _ hx443_1)).trans hx443_1
                        have HR443_1 := Aside0.mk hi443_1
                        have HC443_1 := Aside0.mk hl443_1
                        clear hi443_1 hl443_1
                        replace p443 := eq_true p443
                        replace q443 := eq_true q443
                        have p444 : 0 ≤ (x33_2 : Int) := of_decide_eq_true (by first | (with_reducible assumption) | assumption)
                        have q444 : x33_2 < (l1_1.length : Int) := of_decide_eq_true (by first | (with_reducible assumption) | assumption)
                        obtain ⟨ad444, A444_1, c444_1, e444, hx444_0, hx444_1, hl444_1, hi444_1⟩ := at_T63 HR1_1.out x33_2 p444 q444
                        have hw444_1 := hx444_1
                        have hw444_0 := hx444_0
                        cases e444
                        replace hx444_0 := (HB.out.cell (World.block_lt_of_cell? w _ hx444_0)).trans hx444_0
                        replace hx444_1 := (HB.out.cell (World.block_lt_of_cell? w _ hx444_1)).trans hx444_1
                        have HR444_1 := Aside0.mk hi444_1
                        have HC444_1 := Aside0.mk hl444_1
                        clear hi444_1 hl444_1
                        replace p444 := eq_true p444
                        replace q444 := eq_true q444
                        have p445 : 0 ≤ (x33_2 : Int) := of_decide_eq_true (by first | (with_reducible assumption) | assumption)
                        have q445 : x33_2 < (l0_1.length : Int) := of_decide_eq_true (by first | (with_reducible assumption) | assumption)
                        obtain ⟨ad445, A445_1, c445_1, e445, hx445_0, hx445_1, hl445_1, hi445_1⟩ := at_T63 HR0_1.out x33_2 p445 q445
                        have hw445_1 := hx445_1
                        have hw445_0 := hx445_0
                        obtain rfl : ad443 = ad445 := (by injection e445)
                        replace hx445_0 := (HB.out.cell (World.block_lt_of_cell? w _ hx445_0)).trans hx445_0
                        replace hx445_1 := (HB.out.cell (World.block_lt_of_cell? w _ hx445_1)).trans hx445_1
                        have HR445_1 := Aside0.mk hi445_1
                        have HC445_1 := Aside0.mk hl445_1
                        clear hi445_1 hl445_1
                        replace p445 := eq_true p445
                        replace q445 := eq_true q445
                        have ea_ := Option.some.inj (hx443_1.symm.trans hx445_1)
                        injection ea_ with ea_ en_ ec_
                        subst ea_
                        subst ec_
                        clear en_
                        have p446 : 0 ≤ (x33_2 : Int) := of_decide_eq_true (by first | (with_reducible assumption) | assumption)
                        have q446 : x33_2 < (l1_1.length : Int) := of_decide_eq_true (by first | (with_reducible assumption) | assumption)
                        obtain ⟨ad446, A446_1, c446_1, e446, hx446_0, hx446_1, hl446_1, hi446_1⟩ := at_T63 HR1_1.out x33_2 p446 q446
                        have hw446_1 := hx446_1
                        have hw446_0 := hx446_0
                        obtain rfl : ad444 = ad446 := (by injection e446)
                        replace hx446_0 := (HB.out.cell (World.block_lt_of_cell? w _ hx446_0)).trans hx446_0
                        replace hx446_1 := (HB.out.cell (World.block_lt_of_cell? w _ hx446_1)).trans hx446_1
                        have HR446_1 := Aside0.mk hi446_1
                        have HC446_1 := Aside0.mk hl446_1
                        clear hi446_1 hl446_1
                        replace p446 := eq_true p446
                        replace q446 := eq_true q446
                        have ea_ := Option.some.inj (hx444_1.symm.trans hx446_1)
                        injection ea_ with ea_ en_ ec_
                        subst ea_
                        subst ec_
                        clear en_
                        have hcv27 := fun n_ : Nat => Kd.C_string (P := Try.prog) (A := A443_1) (c := c443_1) Try.underlying45 Try.underlying5 Try.underlying9 (Kd.C_below HR445_1.out (pw_below_drewN HB.out n_))
                        have hcv28 := fun n_ : Nat => Kd.C_string (P := Try.prog) (A := A444_1) (c := c444_1) Try.underlying45 Try.underlying5 Try.underlying9 (Kd.C_below HR446_1.out (pw_below_drewN HB.out n_))
                        obtain ⟨sq0, sq1, sq2, sq3, sq4, sq5, sq6, sq7, sq8, sq9, sq10, sq11, sq12, sq13⟩ : wr.cell? ⟨gb441, 0, none⟩ = some (.string a0_0) ∧ wr.cell? ⟨gb441, 1, none⟩ = some (.slice (some ad443) l0_1.length c0_1) ∧ wr.cell? ⟨gb441, 2, none⟩ = some (.slice A0_2 l0_2.length c0_2) ∧ wr.cell? ⟨gb442, 0, none⟩ = some (.string a1_0) ∧ wr.cell? ⟨gb442, 1, none⟩ = some (.slice (some ad444) l1_1.length c1_1) ∧ wr.cell? ⟨gb442, 2, none⟩ = some (.slice A1_2 l1_2.length c1_2) ∧ wr.cell? (ad443.add ((x33_2).toNat * 2)) = some (.string ((rd_T63 l0_1 x33_2).f0)) ∧ wr.cell? ⟨(ad443.add ((x33_2).toNat * 2)).block, (ad443.add ((x33_2).toNat * 2)).off + 1, none⟩ = some (.slice A443_1 ((rd_T63 l0_1 x33_2).f1).length c443_1) ∧ wr.cell? (ad444.add ((x33_2).toNat * 2)) = some (.string ((rd_T63 l1_1 x33_2).f0)) ∧ wr.cell? ⟨(ad444.add ((x33_2).toNat * 2)).block, (ad444.add ((x33_2).toNat * 2)).off + 1, none⟩ = some (.slice A444_1 ((rd_T63 l1_1 x33_2).f1).length c444_1) ∧ wr.cell? (ad443.add ((x33_2).toNat * 2)) = some (.string ((rd_T63 l0_1 x33_2).f0)) ∧ wr.cell? ⟨(ad443.add ((x33_2).toNat * 2)).block, (ad443.add ((x33_2).toNat * 2)).off + 1, none⟩ = some (.slice A443_1 ((rd_T63 l0_1 x33_2).f1).length c443_1) ∧ wr.cell? (ad444.add ((x33_2).toNat * 2)) = some (.string ((rd_T63 l1_1 x33_2).f0)) ∧ wr.cell? ⟨(ad444.add ((x33_2).toNat * 2)).block, (ad444.add ((x33_2).toNat * 2)).off + 1, none⟩ = some (.slice A444_1 ((rd_T63 l1_1 x33_2).f1).length c444_1) := ⟨(blk_cell BK441.out 0).trans rfl, (blk_cell BK441.out 1).trans rfl, (blk_cell BK441.out 2).trans rfl, (blk_cell BK442.out 0).trans rfl, (blk_cell BK442.out 1).trans rfl, (blk_cell BK442.out 2).trans rfl, ((HB.out.cell (World.block_lt_of_cell? w _ hw443_0)).trans hw443_0), ((HB.out.cell (World.block_lt_of_cell? w _ hw443_1)).trans hw443_1), ((HB.out.cell (World.block_lt_of_cell? w _ hw444_0)).trans hw444_0), ((HB.out.cell (World.block_lt_of_cell? w _ hw444_1)).trans hw444_1), ((HB.out.cell (World.block_lt_of_cell? w _ hw445_0)).trans hw445_0), ((HB.out.cell (World.block_lt_of_cell? w _ hw445_1)).trans hw445_1), ((HB.out.cell (World.block_lt_of_cell? w _ hw446_0)).trans hw446_0), ((HB.out.cell (World.block_lt_of_cell? w _ hw446_1)).trans hw446_1)⟩
                        go_quiet (fail)
                        try go_wp2
                        go_roundg k2
                        case measure => have := HJ2.out; have := HK2.out; omega
                        case rel => exact ⟨(wrap64 (x33_2 + 1)), (by first | rfl | (simp; done) | (simp [*]; done)), H', ⟨by have := HJ2.out; have := HK2.out; omega⟩, ⟨by (with_reducible repeat (first | refine blk_drewN ?_ _ | refine blk_drew ?_ | refine blk_alloc ?_ _)); exact BK441.out⟩, ⟨by (with_reducible repeat (first | refine blk_drewN ?_ _ | refine blk_drew ?_ | refine blk_alloc ?_ _)); exact BK442.out⟩, ⟨by repeat (first | (with_reducible first | exact HB.out | apply below_alloc | apply pw_below_drewN | apply below_drew1 | refine below_set ?_ GE441.out | refine below_set ?_ GE442.out) | exact HB.out)⟩⟩
                      · rw [if_neg c25] at H
                        have c25b0 : ((strOfNums ((rd_T63 l0_1 x33_2).f1)).toList == (strOfNums ((rd_T63 l1_1 x33_2).f1)).toList) = false := beq_eq_false_iff_ne.mpr c25
                        have c25b1 : ((strOfNums ((rd_T63 l0_1 x33_2).f1)).toList != (strOfNums ((rd_T63 l1_1 x33_2).f1)).toList) = true := bne_iff_ne.mpr c25
                        obtain rfl := Option.some.inj H
                        try go_wp2
                        have p443 : 0 ≤ (x33_2 : Int) := of_decide_eq_true (by first | (with_reducible assumption) | assumption)
                        have q443 : x33_2 < (l0_1.length : Int) := of_decide_eq_true (by first | (with_reducible assumption) | assumption)
                        obtain ⟨ad443, A443_1, c443_1, e443, hx443_0, hx443_1, hl443_1, hi443_1⟩ := at_T63 HR0_1.out x33_2 p443 q443
                        have hw443_1 := hx443_1
                        have hw443_0 := hx443_0
                        cases e443
                        replace hx443_0 := (HB.out.cell (World.block_lt_of_cell? w _ hx443_0)).trans hx443_0
                        replace hx443_1 := (HB.out.cell (World.block_lt_of_cell? w _ hx443_1)).trans hx443_1
                        have HR443_1 := Aside0.mk hi443_1
                        have HC443_1 := Aside0.mk hl443_1
                        clear hi443_1 hl443_1
                        replace p443 := eq_true p443
                        replace q443 := eq_true q443
                        have p444 : 0 ≤ (x33_2 : Int) := of_decide_eq_true (by first | (with_reducible assumption) | assumption)
                        have q444 : x33_2 < (l1_1.length : Int) := of_decide_eq_true (by first | (with_reducible assumption) | assumption)
                        obtain ⟨ad444, A444_1, c444_1, e444, hx444_0, hx444_1, hl444_1, hi444_1⟩ := at_T63 HR1_1.out x33_2 p444 q444
                        have hw444_1 := hx444_1
                        have hw444_0 := hx444_0
                        cases e444
                        replace hx444_0 := (HB.out.cell (World.block_lt_of_cell? w _ hx444_0)).trans hx444_0
                        replace hx444_1 := (HB.out.cell (World.block_lt_of_cell? w _ hx444_1)).trans hx444_1
                        have HR444_1 := Aside0.mk hi444_1
                        have HC444_1 := Aside0.mk hl444_1
                        clear hi444_1 hl444_1
                        replace p444 := eq_true p444
                        replace q444 := eq_true q444
                        have p445 : 0 ≤ (x33_2 : Int) := of_decide_eq_true (by first | (with_reducible assumption) | assumption)
                        have q445 : x33_2 < (l0_1.length : Int) := of_decide_eq_true (by first | (with_reducible assumption) | assumption)
                        obtain ⟨ad445, A445_1, c445_1, e445, hx445_0, hx445_1, hl445_1, hi445_1⟩ := at_T63 HR0_1.out x33_2 p445 q445
                        have hw445_1 := hx445_1
                        have hw445_0 := hx445_0
                        obtain rfl : ad443 = ad445 := (by injection e445)
                        replace hx445_0 := (HB.out.cell (World.block_lt_of_cell? w _ hx445_0)).trans hx445_0
                        replace hx445_1 := (HB.out.cell (World.block_lt_of_cell? w _ hx445_1)).trans hx445_1
                        have HR445_1 := Aside0.mk hi445_1
                        have HC445_1 := Aside0.mk hl445_1
                        clear hi445_1 hl445_1
                        replace p445 := eq_true p445
                        replace q445 := eq_true q445
                        have ea_ := Option.some.inj (hx443_1.symm.trans hx445_1)
                        injection ea_ with ea_ en_ ec_
                        subst ea_
                        subst ec_
                        clear en_
                        have p446 : 0 ≤ (x33_2 : Int) := of_decide_eq_true (by first | (with_reducible assumption) | assumption)
                        have q446 : x33_2 < (l1_1.length : Int) := of_decide_eq_true (by first | (with_reducible assumption) | assumption)
                        obtain ⟨ad446, A446_1, c446_1, e446, hx446_0, hx446_1, hl446_1, hi446_1⟩ := at_T63 HR1_1.out x33_2 p446 q446
                        have hw446_1 := hx446_1
                        have hw446_0 := hx446_0
                        obtain rfl : ad444 = ad446 := (by injection e446)
                        replace hx446_0 := (HB.out.cell (World.block_lt_of_cell? w _ hx446_0)).trans hx446_0
                        replace hx446_1 := (HB.out.cell (World.block_lt_of_cell? w _ hx446_1)).trans hx446_1
                        have HR446_1 := Aside0.mk hi446_1
                        have HC446_1 := Aside0.mk hl446_1
                        clear hi446_1 hl446_1
                        replace p446 := eq_true p446
                        replace q446 := eq_true q446
                        have ea_ := Option.some.inj (hx444_1.symm.trans hx446_1)
                        injection ea_ with ea_ en_ ec_
                        subst ea_
                        subst ec_
                        clear en_
                        have hcv31 := fun n_ : Nat => Kd.C_string (P := Try.prog) (A := A443_1) (c := c443_1) Try.underlying45 Try.underlying5 Try.underlying9 (Kd.C_below HR445_1.out (pw_below_drewN HB.out n_))
                        have hcv32 := fun n_ : Nat => Kd.C_string (P := Try.prog) (A := A444_1) (c := c444_1) Try.underlying45 Try.underlying5 Try.underlying9 (Kd.C_below HR446_1.out (pw_below_drewN HB.out n_))
                        obtain ⟨sq0, sq1, sq2, sq3, sq4, sq5, sq6, sq7, sq8, sq9, sq10, sq11, sq12, sq13⟩ : wr.cell? ⟨gb441, 0, none⟩ = some (.string a0_0) ∧ wr.cell? ⟨gb441, 1, none⟩ = some (.slice (some ad443) l0_1.length c0_1) ∧ wr.cell? ⟨gb441, 2, none⟩ = some (.slice A0_2 l0_2.length c0_2) ∧ wr.cell? ⟨gb442, 0, none⟩ = some (.string a1_0) ∧ wr.cell? ⟨gb442, 1, none⟩ = some (.slice (some ad444) l1_1.length c1_1) ∧ wr.cell? ⟨gb442, 2, none⟩ = some (.slice A1_2 l1_2.length c1_2) ∧ wr.cell? (ad443.add ((x33_2).toNat * 2)) = some (.string ((rd_T63 l0_1 x33_2).f0)) ∧ wr.cell? ⟨(ad443.add ((x33_2).toNat * 2)).block, (ad443.add ((x33_2).toNat * 2)).off + 1, none⟩ = some (.slice A443_1 ((rd_T63 l0_1 x33_2).f1).length c443_1) ∧ wr.cell? (ad444.add ((x33_2).toNat * 2)) = some (.string ((rd_T63 l1_1 x33_2).f0)) ∧ wr.cell? ⟨(ad444.add ((x33_2).toNat * 2)).block, (ad444.add ((x33_2).toNat * 2)).off + 1, none⟩ = some (.slice A444_1 ((rd_T63 l1_1 x33_2).f1).length c444_1) ∧ wr.cell? (ad443.add ((x33_2).toNat * 2)) = some (.string ((rd_T63 l0_1 x33_2).f0)) ∧ wr.cell? ⟨(ad443.add ((x33_2).toNat * 2)).block, (ad443.add ((x33_2).toNat * 2)).off + 1, none⟩ = some (.slice A443_1 ((rd_T63 l0_1 x33_2).f1).length c443_1) ∧ wr.cell? (ad444.add ((x33_2).toNat * 2)) = some (.string ((rd_T63 l1_1 x33_2).f0)) ∧ wr.cell? ⟨(ad444.add ((x33_2).toNat * 2)).block, (ad444.add ((x33_2).toNat * 2)).off + 1, none⟩ = some (.slice A444_1 ((rd_T63 l1_1 x33_2).f1).length c444_1) := ⟨(blk_cell BK441.out 0).trans rfl, (blk_cell BK441.out 1).trans rfl, (blk_cell BK441.out 2).trans rfl, (blk_cell BK442.out 0).trans rfl, (blk_cell BK442.out 1).trans rfl, (blk_cell BK442.out 2).trans rfl, ((HB.out.cell (World.block_lt_of_cell? w _ hw443_0)).trans hw443_0), ((HB.out.cell (World.block_lt_of_cell? w _ hw443_1)).trans hw443_1), ((HB.out.cell (World.block_lt_of_cell? w _ hw444_0)).trans hw444_0), ((HB.out.cell (World.block_lt_of_cell? w _ hw444_1)).trans hw444_1), ((HB.out.cell (World.block_lt_of_cell? w _ hw445_0)).trans hw445_0), ((HB.out.cell (World.block_lt_of_cell? w _ hw445_1)).trans hw445_1), ((HB.out.cell (World.block_lt_of_cell? w _ hw446_0)).trans hw446_0), ((HB.out.cell (World.block_lt_of_cell? w _ hw446_1)).trans hw446_1)⟩
                        go_quiet (fail)
                        try go_wp2
                        go_ret
                        exact ⟨by first | rfl | (simp [errW_none, errW_some] <;> rfl) | (simp [*, errW_none, errW_some] <;> rfl), by repeat (first | (with_reducible first | exact HB.out | apply below_alloc | apply pw_below_drewN | apply below_drew1 | refine below_set ?_ GE441.out | refine below_set ?_ GE442.out) | exact HB.out)⟩
                    · rw [if_neg c24] at H
                      have c24b0 : (((rd_T63 l0_1 x33_2).f0).toList == ((rd_T63 l1_1 x33_2).f0).toList) = false := beq_eq_false_iff_ne.mpr c24
                      have c24b1 : (((rd_T63 l0_1 x33_2).f0).toList != ((rd_T63 l1_1 x33_2).f0).toList) = true := bne_iff_ne.mpr c24
                      obtain rfl := Option.some.inj H
                      try go_wp2
                      have p443 : 0 ≤ (x33_2 : Int) := of_decide_eq_true (by first | (with_reducible assumption) | assumption)
                      have q443 : x33_2 < (l0_1.length : Int) := of_decide_eq_true (by first | (with_reducible assumption) | assumption)
                      obtain ⟨ad443, A443_1, c443_1, e443, hx443_0, hx443_1, hl443_1, hi443_1⟩ := at_T63 HR0_1.out x33_2 p443 q443
                      have hw443_1 := hx443_1
                      have hw443_0 := hx443_0
                      cases e443
                      replace hx443_0 := (HB.out.cell (World.block_lt_of_cell? w _ hx443_0)).trans hx443_0
                      replace hx443_1 := (HB.out.cell (World.block_lt_of_cell? w _ hx443_1)).trans hx443_1
                      have HR443_1 := Aside0.mk hi443_1
                      have HC443_1 := Aside0.mk hl443_1
                      clear hi443_1 hl443_1
                      replace p443 := eq_true p443
                      replace q443 := eq_true q443
                      have p444 : 0 ≤ (x33_2 : Int) := of_decide_eq_true (by first | (with_reducible assumption) | assumption)
                      have q444 : x33_2 < (l1_1.length : Int) := of_decide_eq_true (by first | (with_reducible assumption) | assumption)
                      obtain ⟨ad444, A444_1, c444_1, e444, hx444_0, hx444_1, hl444_1, hi444_1⟩ := at_T63 HR1_1.out x33_2 p444 q444
                      have hw444_1 := hx444_1
                      have hw444_0 := hx444_0
                      cases e444
                      replace hx444_0 := (HB.out.cell (World.block_lt_of_cell? w _ hx444_0)).trans hx444_0
                      replace hx444_1 := (HB.out.cell (World.block_lt_of_cell? w _ hx444_1)).trans hx444_1
                      have HR444_1 := Aside0.mk hi444_1
                      have HC444_1 := Aside0.mk hl444_1
                      clear hi444_1 hl444_1
                      replace p444 := eq_true p444
                      replace q444 := eq_true q444
                      obtain ⟨sq0, sq1, sq2, sq3, sq4, sq5, sq6, sq7, sq8, sq9⟩ : wr.cell? ⟨gb441, 0, none⟩ = some (.string a0_0) ∧ wr.cell? ⟨gb441, 1, none⟩ = some (.slice (some ad443) l0_1.length c0_1) ∧ wr.cell? ⟨gb441, 2, none⟩ = some (.slice A0_2 l0_2.length c0_2) ∧ wr.cell? ⟨gb442, 0, none⟩ = some (.string a1_0) ∧ wr.cell? ⟨gb442, 1, none⟩ = some (.slice (some ad444) l1_1.length c1_1) ∧ wr.cell? ⟨gb442, 2, none⟩ = some (.slice A1_2 l1_2.length c1_2) ∧ wr.cell? (ad443.add ((x33_2).toNat * 2)) = some (.string ((rd_T63 l0_1 x33_2).f0)) ∧ wr.cell? ⟨(ad443.add ((x33_2).toNat * 2)).block, (ad443.add ((x33_2).toNat * 2)).off + 1, none⟩ = some (.slice A443_1 ((rd_T63 l0_1 x33_2).f1).length c443_1) ∧ wr.cell? (ad444.add ((x33_2).toNat * 2)) = some (.string ((rd_T63 l1_1 x33_2).f0)) ∧ wr.cell? ⟨(ad444.add ((x33_2).toNat * 2)).block, (ad444.add ((x33_2).toNat * 2)).off + 1, none⟩ = some (.slice A444_1 ((rd_T63 l1_1 x33_2).f1).length c444_1) := ⟨(blk_cell BK441.out 0).trans rfl, (blk_cell BK441.out 1).trans rfl, (blk_cell BK441.out 2).trans rfl, (blk_cell BK442.out 0).trans rfl, (blk_cell BK442.out 1).trans rfl, (blk_cell BK442.out 2).trans rfl, ((HB.out.cell (World.block_lt_of_cell? w _ hw443_0)).trans hw443_0), ((HB.out.cell (World.block_lt_of_cell? w _ hw443_1)).trans hw443_1), ((HB.out.cell (World.block_lt_of_cell? w _ hw444_0)).trans hw444_0), ((HB.out.cell (World.block_lt_of_cell? w _ hw444_1)).trans hw444_1)⟩
                      go_quiet (fail)
                      try go_wp2
                      go_ret
                      exact ⟨by first | rfl | (simp [errW_none, errW_some] <;> rfl) | (simp [*, errW_none, errW_some] <;> rfl), by repeat (first | (with_reducible first | exact HB.out | apply below_alloc | apply pw_below_drewN | apply below_drew1 | refine below_set ?_ GE441.out | refine below_set ?_ GE442.out) | exact HB.out)⟩
                  · rw [if_neg c23] at H
                    exact absurd H (by simp)
                · rw [if_neg c22] at H
                  exact absurd H (by simp)
              · rw [if_neg c21] at H
                exact absurd H (by simp)
            · rw [if_neg c20] at H
              have c20b0 : decide (x33_2 < (l0_1.length : Int)) = false := decide_eq_false c20
              clear c20
              have H' := Aside0.mk H
              clear H
              have hnb35 := NB441_442.out
              have hnc35 := NB442_441.out
              have hcz36_0 : wr.cell? ⟨gb441, 0, none⟩ = some (.string a0_0) := (blk_cell BK441.out 0).trans rfl
              have hcz36_1 : wr.cell? ⟨gb441, 1, none⟩ = some (.slice A0_1 l0_1.length c0_1) := (blk_cell BK441.out 1).trans rfl
              have hcz36_2 : wr.cell? ⟨gb441, 2, none⟩ = some (.slice A0_2 l0_2.length c0_2) := (blk_cell BK441.out 2).trans rfl
              have hfz36_0 := blk_frozen BK441.out 0
              have hfz36_1 := blk_frozen BK441.out 1
              have hfz36_2 := blk_frozen BK441.out 2
              go_wp2
              go_loopg [70] k2 (fun kq v70 w' => ∃ (x70_3 : Int), v70 = .int .i64 x70_3 ∧ Aside0 (arboretref01_Same.l1 kq (l0_2.length : Int) x70_3 a0_0 l0_1 l0_2 a1_0 l1_1 l1_2 = some r) ∧ Aside0 (kq ≤ k2) ∧ Aside0 (w'.heap[gb441]? = some (.cells #[.string a0_0, (.slice A0_1 l0_1.length c0_1), (.slice A0_2 l0_2.length c0_2)] 27 (0, 0))) ∧ Aside0 (w'.heap[gb442]? = some (.cells #[.string a1_0, (.slice A1_1 l1_1.length c1_1), (.slice A1_2 l1_2.length c1_2)] 27 (0, 0))) ∧ Aside0 (Below w.heap.size w w'))
              case atStart => exact ⟨(0), (by first | rfl | (simp; done) | (simp [*]; done)), H', ⟨Nat.le_refl _⟩, ⟨by (with_reducible repeat (first | refine blk_drewN ?_ _ | refine blk_drew ?_ | refine blk_alloc ?_ _)); exact BK441.out⟩, ⟨by (with_reducible repeat (first | refine blk_drewN ?_ _ | refine blk_drew ?_ | refine blk_alloc ?_ _)); exact BK442.out⟩, ⟨by repeat (first | (with_reducible first | exact HB.out | apply below_alloc | apply pw_below_drewN | apply below_drew1 | refine below_set ?_ GE441.out | refine below_set ?_ GE442.out) | exact HB.out)⟩⟩
              case round =>
                clear H'
                try clear c1
                try clear c2
                try clear p2
                try clear c3
                try clear hcv3
                try clear c4
                try clear p4
                try clear q4
                try clear hx4
                try clear p6
                try clear c20
                try clear c20b0
                try clear c21
                try clear c22
                try clear c23
                try clear c24
                try clear c24b0
                try clear c24b1
                try clear c25
                try clear c25b0
                try clear c25b1
                try clear hcv31
                try clear hcv32
                try clear c35
                try clear hcz36_0
                try clear hcz36_1
                try clear hcz36_2
                try clear hfz36_0
                try clear hfz36_1
                try clear hfz36_2
                try clear hx443_0
                try clear hx443_1
                try clear hx444_0
                try clear hx444_1
                try clear hx445_0
                try clear hx445_1
                try clear hx446_0
                try clear hx446_1
                try clear p443
                try clear p444
                try clear p445
                try clear p446
                try clear q443
                try clear q444
                try clear q445
                try clear q446
                obtain ⟨x70_3, rfl, HA, HK3, BK441, BK442, HB⟩ := hrel
                cases gk with
                | zero => exact absurd HA.out (by simp [arboretref01_Same.l1])
                | succ k3 =>
                  have H := HA.out
                  clear HA
                  simp only [arboretref01_Same.l1] at H
                  by_cases c37 : x70_3 < (l0_2.length : Int)
                  · rw [if_pos c37] at H
                    have c37b0 : decide (x70_3 < (l0_2.length : Int)) = true := decide_eq_true c37
                    clear c37
                    by_cases c38 : 0 ≤ x70_3
                    · rw [if_pos c38] at H
                      have c38b0 : decide (0 ≤ x70_3) = true := decide_eq_true c38
                      clear c38
                      by_cases c39 : x70_3 < (l0_2.length : Int)
                      · rw [if_pos c39] at H
                        have c39b0 : decide (x70_3 < (l0_2.length : Int)) = true := decide_eq_true c39
                        clear c39
                        by_cases c40 : x70_3 < (l1_2.length : Int)
                        · rw [if_pos c40] at H
                          have c40b0 : decide (x70_3 < (l1_2.length : Int)) = true := decide_eq_true c40
                          clear c40
                          replace H := Option.bind_eq_some_iff.mp H
                          obtain ⟨t449, A410, H⟩ := H
                          replace H : (if t449 = true then (arboretref01_Same.l1 k3 (l0_2.length : Int) (wrap64 (x70_3 + 1)) a0_0 l0_1 l0_2 a1_0 l1_1 l1_2) else (some false)) = some r := H
                          have A41 := Aside0.mk A410
                          clear A410
                          by_cases c42 : t449 = true
                          · subst c42
                            have H1 : (arboretref01_Same.l1 k3 (l0_2.length : Int) (wrap64 (x70_3 + 1)) a0_0 l0_1 l0_2 a1_0 l1_1 l1_2) = some r := by rw [if_pos rfl] at H; exact H
                            clear H
                            have H := H1
                            clear H1
                            have H' := Aside0.mk H
                            clear H
                            try go_wp2
                            have n0_ := Aside0.mk (blk_drew BK441.out)
                            have n1_ := Aside0.mk (blk_drew BK442.out)
                            have n2_ := Aside0.mk (below_drew1 HB.out)
                            clear BK441
                            clear BK442
                            clear HB
                            have BK441 := n0_
                            have BK442 := n1_
                            have HB := n2_
                            clear n0_ n1_ n2_
                            have p447 : 0 ≤ (x70_3 : Int) := of_decide_eq_true (by first | (with_reducible assumption) | assumption)
                            have q447 : x70_3 < (l0_2.length : Int) := of_decide_eq_true (by first | (with_reducible assumption) | assumption)
                            obtain ⟨ad447, A447_1, c447_1, A447_2, c447_2, e447, hx447_0, hx447_1, hx447_2, hl447_1, hi447_1, hl447_2, hi447_2⟩ := at_T27 HR0_2.out x70_3 p447 q447
                            have hw447_2 := hx447_2
                            have hw447_1 := hx447_1
                            have hw447_0 := hx447_0
                            cases e447
                            replace hx447_0 := (HB.out.cell (World.block_lt_of_cell? w _ hx447_0)).trans hx447_0
                            replace hx447_1 := (HB.out.cell (World.block_lt_of_cell? w _ hx447_1)).trans hx447_1
                            replace hx447_2 := (HB.out.cell (World.block_lt_of_cell? w _ hx447_2)).trans hx447_2
                            have HR447_1 := Aside0.mk hi447_1
                            have HC447_1 := Aside0.mk hl447_1
                            clear hi447_1 hl447_1
                            have HR447_2 := Aside0.mk hi447_2
                            have HC447_2 := Aside0.mk hl447_2
                            clear hi447_2 hl447_2
                            replace p447 := eq_true p447
                            replace q447 := eq_true q447
                            have p448 : 0 ≤ (x70_3 : Int) := of_decide_eq_true (by first | (with_reducible assumption) | assumption)
                            have q448 : x70_3 < (l1_2.length : Int) := of_decide_eq_true (by first | (with_reducible assumption) | assumption)
                            obtain ⟨ad448, A448_1, c448_1, A448_2, c448_2, e448, hx448_0, hx448_1, hx448_2, hl448_1, hi448_1, hl448_2, hi448_2⟩ := at_T27 HR1_2.out x70_3 p448 q448
                            have hw448_2 := hx448_2
                            have hw448_1 := hx448_1
                            have hw448_0 := hx448_0
                            cases e448
                            replace hx448_0 := (HB.out.cell (World.block_lt_of_cell? w _ hx448_0)).trans hx448_0
                            replace hx448_1 := (HB.out.cell (World.block_lt_of_cell? w _ hx448_1)).trans hx448_1
                            replace hx448_2 := (HB.out.cell (World.block_lt_of_cell? w _ hx448_2)).trans hx448_2
                            have HR448_1 := Aside0.mk hi448_1
                            have HC448_1 := Aside0.mk hl448_1
                            clear hi448_1 hl448_1
                            have HR448_2 := Aside0.mk hi448_2
                            have HC448_2 := Aside0.mk hl448_2
                            clear hi448_2 hl448_2
                            replace p448 := eq_true p448
                            replace q448 := eq_true q448
                            refine start_ (n := 12) (S := fun w' => w'.cell? ⟨gb441, 0, none⟩ = some (.string a0_0) ∧ w'.cell? ⟨gb441, 1, none⟩ = some (.slice A0_1 l0_1.length c0_1) ∧ w'.cell? ⟨gb441, 2, none⟩ = some (.slice (some ad447) l0_2.length c0_2) ∧ w'.cell? ⟨gb442, 0, none⟩ = some (.string a1_0) ∧ w'.cell? ⟨gb442, 1, none⟩ = some (.slice A1_1 l1_1.length c1_1) ∧ w'.cell? ⟨gb442, 2, none⟩ = some (.slice (some ad448) l1_2.length c1_2) ∧ w'.cell? (ad447.add ((x70_3).toNat * 3)) = some (.string ((rd_T27 l0_2 x70_3).f0)) ∧ w'.cell? ⟨(ad447.add ((x70_3).toNat * 3)).block, (ad447.add ((x70_3).toNat * 3)).off + 1, none⟩ = some (.slice A447_1 ((rd_T27 l0_2 x70_3).f1).length c447_1) ∧ w'.cell? ⟨(ad447.add ((x70_3).toNat * 3)).block, (ad447.add ((x70_3).toNat * 3)).off + 2, none⟩ = some (.slice A447_2 ((rd_T27 l0_2 x70_3).f2).length c447_2) ∧ w'.cell? (ad448.add ((x70_3).toNat * 3)) = some (.string ((rd_T27 l1_2 x70_3).f0)) ∧ w'.cell? ⟨(ad448.add ((x70_3).toNat * 3)).block, (ad448.add ((x70_3).toNat * 3)).off + 1, none⟩ = some (.slice A448_1 ((rd_T27 l1_2 x70_3).f1).length c448_1) ∧ w'.cell? ⟨(ad448.add ((x70_3).toNat * 3)).block, (ad448.add ((x70_3).toNat * 3)).off + 2, none⟩ = some (.slice A448_2 ((rd_T27 l1_2 x70_3).f2).length c448_2)) (ds := []) #[false, false, false, false, false, false, false, false, false, false, false, false] (by kernel_rfl) rfl rfl ⟨(blk_cell BK441.out 0).trans rfl, (blk_cell BK441.out 1).trans rfl, (blk_cell BK441.out 2).trans rfl, (blk_cell BK442.out 0).trans rfl, (blk_cell BK442.out 1).trans rfl, (blk_cell BK442.out 2).trans rfl, ((HB.out.cell (World.block_lt_of_cell? w _ hw447_0)).trans hw447_0), ((HB.out.cell (World.block_lt_of_cell? w _ hw447_1)).trans hw447_1), ((HB.out.cell (World.block_lt_of_cell? w _ hw447_2)).trans hw447_2), ((HB.out.cell (World.block_lt_of_cell? w _ hw448_0)).trans hw448_0), ((HB.out.cell (World.block_lt_of_cell? w _ hw448_1)).trans hw448_1), ((HB.out.cell (World.block_lt_of_cell? w _ hw448_2)).trans hw448_2)⟩ (fun hHeld => ?_); refine with_tabW arboretref01_Same.tab12 arboretref01_Same.bits12 (fun HT_ HW_ => ?_)
                            generalize wr.drew = w43 at BK441 BK442 HB HR447_1 HR447_2 HR448_1 HR448_2 hx447_0 hx447_1 hx447_2 hx448_0 hx448_1 hx448_2 hHeld ⊢
                            refine pure_ (i := 0) (N := some 73) (v := ?_) (a' := ?_) #[true, false, false, false, false, false, false, false, false, false, false, false] rfl rfl (any_of HT_.out (by kernel_rfl)) (fun _ _ _ h => h) (Or.inl ⟨by rfl, ?_⟩) ?_ ?_
                            rotate_left
                            · intro w'
                              go_simp
                              with_reducible rfl
                            rotate_left
                            · simp only [Act.put, List.setIfInBounds_toArray, List.set_cons_zero, List.set_cons_succ, i64_w, i32_w]
                              rfl
                            refine pure_ (i := 2) (N := some 75) (v := ?_) (a' := ?_) #[true, false, true, false, false, false, false, false, false, false, false, false] rfl rfl (any_of HT_.out (by kernel_rfl)) (fun _ _ _ h => h) (Or.inl ⟨by rfl, ?_⟩) ?_ ?_
                            rotate_left
                            · intro w'
                              go_simp
                              with_reducible rfl
                            rotate_left
                            · simp only [Act.put, List.setIfInBounds_toArray, List.set_cons_zero, List.set_cons_succ, i64_w, i32_w]
                              rfl
                            refine pure_ (i := 5) (N := some 78) (v := ?_) (a' := ?_) #[true, false, true, false, false, true, false, false, false, false, false, false] rfl rfl (any_of HT_.out (by kernel_rfl)) (fun _ _ _ h => h) (Or.inl ⟨by rfl, ?_⟩) ?_ ?_
                            rotate_left
                            · intro w'
                              go_simp
                              with_reducible rfl
                            rotate_left
                            · simp only [Act.put, List.setIfInBounds_toArray, List.set_cons_zero, List.set_cons_succ, i64_w, i32_w]
                              rfl
                            refine pure_ (i := 7) (N := some 80) (v := ?_) (a' := ?_) #[true, false, true, false, false, true, false, true, false, false, false, false] rfl rfl (any_of HT_.out (by kernel_rfl)) (fun _ _ _ h => h) (Or.inl ⟨by rfl, ?_⟩) ?_ ?_
                            rotate_left
                            · intro w'
                              go_simp
                              with_reducible rfl
                            rotate_left
                            · simp only [Act.put, List.setIfInBounds_toArray, List.set_cons_zero, List.set_cons_succ, i64_w, i32_w]
                              rfl
                            refine take_ (i := 1) (N := some 74) (v := ?_) (a' := ?_) #[true, true, true, false, false, true, false, true, false, false, false, false] rfl rfl (take_ofW HT_.out HW_.out (by kernel_rfl)) (fun _ _ _ h => h) (Or.inl ⟨by rfl, ?_⟩) hHeld ?_ ?_
                            rotate_left
                            · rintro w' ⟨s0, s1, s2, s3, s4, s5, s6, s7, s8, s9, s10, s11⟩
                              go_simp
                              with_reducible rfl
                            rotate_left
                            · simp only [Act.put, List.setIfInBounds_toArray, List.set_cons_zero, List.set_cons_succ, i64_w, i32_w]
                              rfl
                            refine pure_ (i := 3) (N := some 76) (v := ?_) (a' := ?_) #[true, true, true, true, false, true, false, true, false, false, false, false] rfl rfl (any_of HT_.out (by kernel_rfl)) (fun _ _ _ h => h) (Or.inl ⟨by rfl, ?_⟩) ?_ ?_
                            rotate_left
                            · intro w'
                              go_simp
                              with_reducible rfl
                            rotate_left
                            · simp only [Act.put, List.setIfInBounds_toArray, List.set_cons_zero, List.set_cons_succ, i64_w, i32_w]
                              rfl
                            refine take_ (i := 4) (N := some 77) (v := ?_) (a' := ?_) #[true, true, true, true, true, true, false, true, false, false, false, false] rfl rfl (take_ofW HT_.out HW_.out (by kernel_rfl)) (fun _ _ _ h => h) (Or.inl ⟨by rfl, ?_⟩) hHeld ?_ ?_
                            rotate_left
                            · rintro w' ⟨s0, s1, s2, s3, s4, s5, s6, s7, s8, s9, s10, s11⟩
                              go_simp
                              with_reducible rfl
                            rotate_left
                            · simp only [Act.put, List.setIfInBounds_toArray, List.set_cons_zero, List.set_cons_succ, i64_w, i32_w]
                              rfl
                            refine take_ (i := 6) (N := some 79) (v := ?_) (a' := ?_) #[true, true, true, true, true, true, true, true, false, false, false, false] rfl rfl (take_ofW HT_.out HW_.out (by kernel_rfl)) (fun _ _ _ h => h) (Or.inl ⟨by rfl, ?_⟩) hHeld ?_ ?_
                            rotate_left
                            · rintro w' ⟨s0, s1, s2, s3, s4, s5, s6, s7, s8, s9, s10, s11⟩
                              go_simp
                              with_reducible rfl
                            rotate_left
                            · simp only [Act.put, List.setIfInBounds_toArray, List.set_cons_zero, List.set_cons_succ, i64_w, i32_w]
                              rfl
                            refine pure_ (i := 8) (N := some 81) (v := ?_) (a' := ?_) #[true, true, true, true, true, true, true, true, true, false, false, false] rfl rfl (any_of HT_.out (by kernel_rfl)) (fun _ _ _ h => h) (Or.inl ⟨by rfl, ?_⟩) ?_ ?_
                            rotate_left
                            · intro w'
                              go_simp
                              with_reducible rfl
                            rotate_left
                            · simp only [Act.put, List.setIfInBounds_toArray, List.set_cons_zero, List.set_cons_succ, i64_w, i32_w]
                              rfl
                            refine take_ (i := 9) (N := some 82) (v := ?_) (a' := ?_) #[true, true, true, true, true, true, true, true, true, true, false, false] rfl rfl (take_ofW HT_.out HW_.out (by kernel_rfl)) (fun _ _ _ h => h) (Or.inl ⟨by rfl, ?_⟩) hHeld ?_ ?_
                            rotate_left
                            · rintro w' ⟨s0, s1, s2, s3, s4, s5, s6, s7, s8, s9, s10, s11⟩
                              go_simp
                              with_reducible rfl
                            rotate_left
                            · simp only [Act.put, List.setIfInBounds_toArray, List.set_cons_zero, List.set_cons_succ, i64_w, i32_w]
                              rfl
                            refine one_ (i := 10) (N := some 83) #[true, true, true, true, true, true, true, true, true, true, true, false] rfl rfl (one_of HT_.out (by kernel_rfl)) (by decide) (fun K hK => ?_)
                            refine goes_ Try.func54 (by kernel_rfl) rfl #[.agg #[.string ((rd_T27 l0_2 x70_3).f0), .slice A447_1 ((rd_T27 l0_2 x70_3).f1).length c447_1, .slice A447_2 ((rd_T27 l0_2 x70_3).f2).length c447_2], .agg #[.string ((rd_T27 l1_2 x70_3).f0), .slice A448_1 ((rd_T27 l1_2 x70_3).f1).length c448_1, .slice A448_2 ((rd_T27 l1_2 x70_3).f2).length c448_2]] (by rfl) rfl rfl (by (try simp only [List.map_toArray, List.map_cons, List.map_nil]); first | done | rfl | (simp only [List.length_drop, List.length_take]; rfl)) ?_
                            with_reducible refine (ih k3 (by have := HJ2.out; have := HK2.out; have := HK3.out; omega) ((rd_T27 l0_2 x70_3).f0) _ _ ((rd_T27 l0_2 x70_3).f1) _ _ ((rd_T27 l0_2 x70_3).f2) ((rd_T27 l1_2 x70_3).f0) _ _ ((rd_T27 l1_2 x70_3).f1) _ _ ((rd_T27 l1_2 x70_3).f2) true _ ?side1 ?side2 ?side3 ?side4 ?side5 ?side6 ?side7 ?side8 A41.out).mono ?_
                            (case side1 => repeat (first | exact (Kd.C_below HR447_1.out HB.out) | (with_reducible refine Kd.C_alloc ?_ _) | (with_reducible refine Kd.C_drewN ?_ _) | (with_reducible refine Kd.C_drew ?_)))
                            (case side2 => exact HC447_1.out)
                            (case side3 => repeat (first | exact (Kd.C_below HR447_2.out HB.out) | (with_reducible refine Kd.C_alloc ?_ _) | (with_reducible refine Kd.C_drewN ?_ _) | (with_reducible refine Kd.C_drew ?_)))
                            (case side4 => exact HC447_2.out)
                            (case side5 => repeat (first | exact (Kd.C_below HR448_1.out HB.out) | (with_reducible refine Kd.C_alloc ?_ _) | (with_reducible refine Kd.C_drewN ?_ _) | (with_reducible refine Kd.C_drew ?_)))
                            (case side6 => exact HC448_1.out)
                            (case side7 => repeat (first | exact (Kd.C_below HR448_2.out HB.out) | (with_reducible refine Kd.C_alloc ?_ _) | (with_reducible refine Kd.C_drewN ?_ _) | (with_reducible refine Kd.C_drew ?_)))
                            (case side8 => exact HC448_2.out)
                            rintro e w44 ⟨rfl, hb⟩
                            refine ⟨_, rfl, ?_⟩
                            have n0_ := Aside0.mk (blk_below (g := gb441) (o := .cells #[.string a0_0, .slice A0_1 l0_1.length c0_1, .slice (some ad447) l0_2.length c0_2] 27 (0, 0)) (by (with_reducible repeat (first | refine blk_drewN ?_ _ | refine blk_drew ?_ | refine blk_alloc ?_ _)); exact BK441.out) hb)
                            have n1_ := Aside0.mk (blk_below (g := gb442) (o := .cells #[.string a1_0, .slice A1_1 l1_1.length c1_1, .slice (some ad448) l1_2.length c1_2] 27 (0, 0)) (by (with_reducible repeat (first | refine blk_drewN ?_ _ | refine blk_drew ?_ | refine blk_alloc ?_ _)); exact BK442.out) hb)
                            have n2_ := Aside0.mk (below_step (by repeat (first | (with_reducible first | exact HB.out | apply below_alloc | apply pw_below_drewN | apply below_drew1 | refine below_set ?_ GE441.out | refine below_set ?_ GE442.out) | exact HB.out)) hb)
                            clear BK441
                            clear BK442
                            clear HB
                            have BK441 := n0_
                            have BK442 := n1_
                            have HB := n2_
                            clear n0_ n1_ n2_
                            (try clear hb)
                            (try clear hb2)
                            (try clear hk)
                            (try clear hi)
                            refine hK.out _ _ ⟨(blk_cell BK441.out 0).trans rfl, (blk_cell BK441.out 1).trans rfl, (blk_cell BK441.out 2).trans rfl, (blk_cell BK442.out 0).trans rfl, (blk_cell BK442.out 1).trans rfl, (blk_cell BK442.out 2).trans rfl, ((HB.out.cell (World.block_lt_of_cell? w _ hw447_0)).trans hw447_0), ((HB.out.cell (World.block_lt_of_cell? w _ hw447_1)).trans hw447_1), ((HB.out.cell (World.block_lt_of_cell? w _ hw447_2)).trans hw447_2), ((HB.out.cell (World.block_lt_of_cell? w _ hw448_0)).trans hw448_0), ((HB.out.cell (World.block_lt_of_cell? w _ hw448_1)).trans hw448_1), ((HB.out.cell (World.block_lt_of_cell? w _ hw448_2)).trans hw448_2)⟩ (fun hHeld => ?_)
                            clear hK K
                            refine norm_ (a' := ?_) ?_ ?_
                            rotate_left
                            · show Act.put _ (some 83) _ = _
                              simp only [Act.put, List.setIfInBounds_toArray, List.set_cons_zero, List.set_cons_succ, i64_w, i32_w]
                              rfl
                            refine pure_ (i := 11) (N := some 84) (v := ?_) (a' := ?_) #[true, true, true, true, true, true, true, true, true, true, true, true] rfl rfl (any_of HT_.out (by kernel_rfl)) (fun _ _ _ h => h) (Or.inl ⟨by rfl, ?_⟩) ?_ ?_
                            rotate_left
                            · intro w'
                              go_simp
                              with_reducible rfl
                            rotate_left
                            · simp only [Act.put, List.setIfInBounds_toArray, List.set_cons_zero, List.set_cons_succ, i64_w, i32_w]
                              rfl
                            refine done_ (done_of HT_.out (by kernel_rfl)) ?_
                            try go_wp2
                            go_roundg k3
                            case measure => have := HJ2.out; have := HK2.out; have := HK3.out; omega
                            case rel => exact ⟨(wrap64 (x70_3 + 1)), (by first | rfl | (simp; done) | (simp [*]; done)), H', ⟨by have := HJ2.out; have := HK2.out; have := HK3.out; omega⟩, ⟨by (with_reducible repeat (first | refine blk_drewN ?_ _ | refine blk_drew ?_ | refine blk_alloc ?_ _)); exact BK441.out⟩, ⟨by (with_reducible repeat (first | refine blk_drewN ?_ _ | refine blk_drew ?_ | refine blk_alloc ?_ _)); exact BK442.out⟩, ⟨by repeat (first | (with_reducible first | exact HB.out | apply below_alloc | apply pw_below_drewN | apply below_drew1 | refine below_set ?_ GE441.out | refine below_set ?_ GE442.out) | exact HB.out)⟩⟩
                          · replace c42 := Bool.eq_false_iff.mpr c42
                            subst c42
                            have H1 : (some false) = some r := by rw [if_neg (show ¬ (false = true) by decide)] at H; exact H
                            clear H
                            have H := H1
                            clear H1
                            obtain rfl := Option.some.inj H
                            try go_wp2
                            have n0_ := Aside0.mk (blk_drew BK441.out)
                            have n1_ := Aside0.mk (blk_drew BK442.out)
                            have n2_ := Aside0.mk (below_drew1 HB.out)
                            clear BK441
                            clear BK442
                            clear HB
                            have BK441 := n0_
                            have BK442 := n1_
                            have HB := n2_
                            clear n0_ n1_ n2_
                            have p447 : 0 ≤ (x70_3 : Int) := of_decide_eq_true (by first | (with_reducible assumption) | assumption)
                            have q447 : x70_3 < (l0_2.length : Int) := of_decide_eq_true (by first | (with_reducible assumption) | assumption)
                            obtain ⟨ad447, A447_1, c447_1, A447_2, c447_2, e447, hx447_0, hx447_1, hx447_2, hl447_1, hi447_1, hl447_2, hi447_2⟩ := at_T27 HR0_2.out x70_3 p447 q447
                            have hw447_2 := hx447_2
                            have hw447_1 := hx447_1
                            have hw447_0 := hx447_0
                            cases e447
                            replace hx447_0 := (HB.out.cell (World.block_lt_of_cell? w _ hx447_0)).trans hx447_0
                            replace hx447_1 := (HB.out.cell (World.block_lt_of_cell? w _ hx447_1)).trans hx447_1
                            replace hx447_2 := (HB.out.cell (World.block_lt_of_cell? w _ hx447_2)).trans hx447_2
                            have HR447_1 := Aside0.mk hi447_1
                            have HC447_1 := Aside0.mk hl447_1
                            clear hi447_1 hl447_1
                            have HR447_2 := Aside0.mk hi447_2
                            have HC447_2 := Aside0.mk hl447_2
                            clear hi447_2 hl447_2
                            replace p447 := eq_true p447
                            replace q447 := eq_true q447
                            have p448 : 0 ≤ (x70_3 : Int) := of_decide_eq_true (by first | (with_reducible assumption) | assumption)
                            have q448 : x70_3 < (l1_2.length : Int) := of_decide_eq_true (by first | (with_reducible assumption) | assumption)
                            obtain ⟨ad448, A448_1, c448_1, A448_2, c448_2, e448, hx448_0, hx448_1, hx448_2, hl448_1, hi448_1, hl448_2, hi448_2⟩ := at_T27 HR1_2.out x70_3 p448 q448
                            have hw448_2 := hx448_2
                            have hw448_1 := hx448_1
                            have hw448_0 := hx448_0
                            cases e448
                            replace hx448_0 := (HB.out.cell (World.block_lt_of_cell? w _ hx448_0)).trans hx448_0
                            replace hx448_1 := (HB.out.cell (World.block_lt_of_cell? w _ hx448_1)).trans hx448_1
                            replace hx448_2 := (HB.out.cell (World.block_lt_of_cell? w _ hx448_2)).trans hx448_2
                            have HR448_1 := Aside0.mk hi448_1
                            have HC448_1 := Aside0.mk hl448_1
                            clear hi448_1 hl448_1
                            have HR448_2 := Aside0.mk hi448_2
                            have HC448_2 := Aside0.mk hl448_2
                            clear hi448_2 hl448_2
                            replace p448 := eq_true p448
                            replace q448 := eq_true q448
                            refine start_ (n := 12) (S := fun w' => w'.cell? ⟨gb441, 0, none⟩ = some (.string a0_0) ∧ w'.cell? ⟨gb441, 1, none⟩ = some (.slice A0_1 l0_1.length c0_1) ∧ w'.cell? ⟨gb441, 2, none⟩ = some (.slice (some ad447) l0_2.length c0_2) ∧ w'.cell? ⟨gb442, 0, none⟩ = some (.string a1_0) ∧ w'.cell? ⟨gb442, 1, none⟩ = some (.slice A1_1 l1_1.length c1_1) ∧ w'.cell? ⟨gb442, 2, none⟩ = some (.slice (some ad448) l1_2.length c1_2) ∧ w'.cell? (ad447.add ((x70_3).toNat * 3)) = some (.string ((rd_T27 l0_2 x70_3).f0)) ∧ w'.cell? ⟨(ad447.add ((x70_3).toNat * 3)).block, (ad447.add ((x70_3).toNat * 3)).off + 1, none⟩ = some (.slice A447_1 ((rd_T27 l0_2 x70_3).f1).length c447_1) ∧ w'.cell? ⟨(ad447.add ((x70_3).toNat * 3)).block, (ad447.add ((x70_3).toNat * 3)).off + 2, none⟩ = some (.slice A447_2 ((rd_T27 l0_2 x70_3).f2).length c447_2) ∧ w'.cell? (ad448.add ((x70_3).toNat * 3)) = some (.string ((rd_T27 l1_2 x70_3).f0)) ∧ w'.cell? ⟨(ad448.add ((x70_3).toNat * 3)).block, (ad448.add ((x70_3).toNat * 3)).off + 1, none⟩ = some (.slice A448_1 ((rd_T27 l1_2 x70_3).f1).length c448_1) ∧ w'.cell? ⟨(ad448.add ((x70_3).toNat * 3)).block, (ad448.add ((x70_3).toNat * 3)).off + 2, none⟩ = some (.slice A448_2 ((rd_T27 l1_2 x70_3).f2).length c448_2)) (ds := []) #[false, false, false, false, false, false, false, false, false, false, false, false] (by kernel_rfl) rfl rfl ⟨(blk_cell BK441.out 0).trans rfl, (blk_cell BK441.out 1).trans rfl, (blk_cell BK441.out 2).trans rfl, (blk_cell BK442.out 0).trans rfl, (blk_cell BK442.out 1).trans rfl, (blk_cell BK442.out 2).trans rfl, ((HB.out.cell (World.block_lt_of_cell? w _ hw447_0)).trans hw447_0), ((HB.out.cell (World.block_lt_of_cell? w _ hw447_1)).trans hw447_1), ((HB.out.cell (World.block_lt_of_cell? w _ hw447_2)).trans hw447_2), ((HB.out.cell (World.block_lt_of_cell? w _ hw448_0)).trans hw448_0), ((HB.out.cell (World.block_lt_of_cell? w _ hw448_1)).trans hw448_1), ((HB.out.cell (World.block_lt_of_cell? w _ hw448_2)).trans hw448_2)⟩ (fun hHeld => ?_); refine with_tabW arboretref01_Same.tab12 arboretref01_Same.bits12 (fun HT_ HW_ => ?_)
                            generalize wr.drew = w45 at BK441 BK442 HB HR447_1 HR447_2 HR448_1 HR448_2 hx447_0 hx447_1 hx447_2 hx448_0 hx448_1 hx448_2 hHeld ⊢
                            refine pure_ (i := 0) (N := some 73) (v := ?_) (a' := ?_) #[true, false, false, false, false, false, false, false, false, false, false, false] rfl rfl (any_of HT_.out (by kernel_rfl)) (fun _ _ _ h => h) (Or.inl ⟨by rfl, ?_⟩) ?_ ?_
                            rotate_left
                            · intro w'
                              go_simp
                              with_reducible rfl
                            rotate_left
                            · simp only [Act.put, List.setIfInBounds_toArray, List.set_cons_zero, List.set_cons_succ, i64_w, i32_w]
                              rfl
                            refine pure_ (i := 2) (N := some 75) (v := ?_) (a' := ?_) #[true, false, true, false, false, false, false, false, false, false, false, false] rfl rfl (any_of HT_.out (by kernel_rfl)) (fun _ _ _ h => h) (Or.inl ⟨by rfl, ?_⟩) ?_ ?_
                            rotate_left
                            · intro w'
                              go_simp
                              with_reducible rfl
                            rotate_left
                            · simp only [Act.put, List.setIfInBounds_toArray, List.set_cons_zero, List.set_cons_succ, i64_w, i32_w]
                              rfl
                            refine pure_ (i := 5) (N := some 78) (v := ?_) (a' := ?_) #[true, false, true, false, false, true, false, false, false, false, false, false] rfl rfl (any_of HT_.out (by kernel_rfl)) (fun _ _ _ h => h) (Or.inl ⟨by rfl, ?_⟩) ?_ ?_
                            rotate_left
                            · intro w'
                              go_simp
                              with_reducible rfl
                            rotate_left
                            · simp only [Act.put, List.setIfInBounds_toArray, List.set_cons_zero, List.set_cons_succ, i64_w, i32_w]
                              rfl
                            refine pure_ (i := 7) (N := some 80) (v := ?_) (a' := ?_) #[true, false, true, false, false, true, false, true, false, false, false, false] rfl rfl (any_of HT_.out (by kernel_rfl)) (fun _ _ _ h => h) (Or.inl ⟨by rfl, ?_⟩) ?_ ?_
                            rotate_left
                            · intro w'
                              go_simp
                              with_reducible rfl
                            rotate_left
                            · simp only [Act.put, List.setIfInBounds_toArray, List.set_cons_zero, List.set_cons_succ, i64_w, i32_w]
                              rfl
                            refine take_ (i := 1) (N := some 74) (v := ?_) (a' := ?_) #[true, true, true, false, false, true, false, true, false, false, false, false] rfl rfl (take_ofW HT_.out HW_.out (by kernel_rfl)) (fun _ _ _ h => h) (Or.inl ⟨by rfl, ?_⟩) hHeld ?_ ?_
                            rotate_left
                            · rintro w' ⟨s0, s1, s2, s3, s4, s5, s6, s7, s8, s9, s10, s11⟩
                              go_simp
                              with_reducible rfl
                            rotate_left
                            · simp only [Act.put, List.setIfInBounds_toArray, List.set_cons_zero, List.set_cons_succ, i64_w, i32_w]
                              rfl
                            refine pure_ (i := 3) (N := some 76) (v := ?_) (a' := ?_) #[true, true, true, true, false, true, false, true, false, false, false, false] rfl rfl (any_of HT_.out (by kernel_rfl)) (fun _ _ _ h => h) (Or.inl ⟨by rfl, ?_⟩) ?_ ?_
                            rotate_left
                            · intro w'
                              go_simp
                              with_reducible rfl
                            rotate_left
                            · simp only [Act.put, List.setIfInBounds_toArray, List.set_cons_zero, List.set_cons_succ, i64_w, i32_w]
                              rfl
                            refine take_ (i := 4) (N := some 77) (v := ?_) (a' := ?_) #[true, true, true, true, true, true, false, true, false, false, false, false] rfl rfl (take_ofW HT_.out HW_.out (by kernel_rfl)) (fun _ _ _ h => h) (Or.inl ⟨by rfl, ?_⟩) hHeld ?_ ?_
                            rotate_left
                            · rintro w' ⟨s0, s1, s2, s3, s4, s5, s6, s7, s8, s9, s10, s11⟩
                              go_simp
                              with_reducible rfl
                            rotate_left
                            · simp only [Act.put, List.setIfInBounds_toArray, List.set_cons_zero, List.set_cons_succ, i64_w, i32_w]
                              rfl
                            refine take_ (i := 6) (N := some 79) (v := ?_) (a' := ?_) #[true, true, true, true, true, true, true, true, false, false, false, false] rfl rfl (take_ofW HT_.out HW_.out (by kernel_rfl)) (fun _ _ _ h => h) (Or.inl ⟨by rfl, ?_⟩) hHeld ?_ ?_
                            rotate_left
                            · rintro w' ⟨s0, s1, s2, s3, s4, s5, s6, s7, s8, s9, s10, s11⟩
                              go_simp
                              with_reducible rfl
                            rotate_left
                            · simp only [Act.put, List.setIfInBounds_toArray, List.set_cons_zero, List.set_cons_succ, i64_w, i32_w]
                              rfl
                            refine pure_ (i := 8) (N := some 81) (v := ?_) (a' := ?_) #[true, true, true, true, true, true, true, true, true, false, false, false] rfl rfl (any_of HT_.out (by kernel_rfl)) (fun _ _ _ h => h) (Or.inl ⟨by rfl, ?_⟩) ?_ ?_
                            rotate_left
                            · intro w'
                              go_simp
                              with_reducible rfl
                            rotate_left
                            · simp only [Act.put, List.setIfInBounds_toArray, List.set_cons_zero, List.set_cons_succ, i64_w, i32_w]
                              rfl
                            refine take_ (i := 9) (N := some 82) (v := ?_) (a' := ?_) #[true, true, true, true, true, true, true, true, true, true, false, false] rfl rfl (take_ofW HT_.out HW_.out (by kernel_rfl)) (fun _ _ _ h => h) (Or.inl ⟨by rfl, ?_⟩) hHeld ?_ ?_
                            rotate_left
                            · rintro w' ⟨s0, s1, s2, s3, s4, s5, s6, s7, s8, s9, s10, s11⟩
                              go_simp
                              with_reducible rfl
                            rotate_left
                            · simp only [Act.put, List.setIfInBounds_toArray, List.set_cons_zero, List.set_cons_succ, i64_w, i32_w]
                              rfl
                            refine one_ (i := 10) (N := some 83) #[true, true, true, true, true, true, true, true, true, true, true, false] rfl rfl (one_of HT_.out (by kernel_rfl)) (by decide) (fun K hK => ?_)
                            refine goes_ Try.func54 (by kernel_rfl) rfl #[.agg #[.string ((rd_T27 l0_2 x70_3).f0), .slice A447_1 ((rd_T27 l0_2 x70_3).f1).length c447_1, .slice A447_2 ((rd_T27 l0_2 x70_3).f2).length c447_2], .agg #[.string ((rd_T27 l1_2 x70_3).f0), .slice A448_1 ((rd_T27 l1_2 x70_3).f1).length c448_1, .slice A448_2 ((rd_T27 l1_2 x70_3).f2).length c448_2]] (by rfl) rfl rfl (by (try simp only [List.map_toArray, List.map_cons, List.map_nil]); first | done | rfl | (simp only [List.length_drop, List.length_take]; rfl)) ?_
                            with_reducible refine (ih k3 (by have := HJ2.out; have := HK2.out; have := HK3.out; omega) ((rd_T27 l0_2 x70_3).f0) _ _ ((rd_T27 l0_2 x70_3).f1) _ _ ((rd_T27 l0_2 x70_3).f2) ((rd_T27 l1_2 x70_3).f0) _ _ ((rd_T27 l1_2 x70_3).f1) _ _ ((rd_T27 l1_2 x70_3).f2) false _ ?side1 ?side2 ?side3 ?side4 ?side5 ?side6 ?side7 ?side8 A41.out).mono ?_
                            (case side1 => repeat (first | exact (Kd.C_below HR447_1.out HB.out) | (with_reducible refine Kd.C_alloc ?_ _) | (with_reducible refine Kd.C_drewN ?_ _) | (with_reducible refine Kd.C_drew ?_)))
                            (case side2 => exact HC447_1.out)
                            (case side3 => repeat (first | exact (Kd.C_below HR447_2.out HB.out) | (with_reducible refine Kd.C_alloc ?_ _) | (with_reducible refine Kd.C_drewN ?_ _) | (with_reducible refine Kd.C_drew ?_)))
                            (case side4 => exact HC447_2.out)
                            (case side5 => repeat (first | exact (Kd.C_below HR448_1.out HB.out) | (with_reducible refine Kd.C_alloc ?_ _) | (with_reducible refine Kd.C_drewN ?_ _) | (with_reducible refine Kd.C_drew ?_)))
                            (case side6 => exact HC448_1.out)
                            (case side7 => repeat (first | exact (Kd.C_below HR448_2.out HB.out) | (with_reducible refine Kd.C_alloc ?_ _) | (with_reducible refine Kd.C_drewN ?_ _) | (with_reducible refine Kd.C_drew ?_)))
                            (case side8 => exact HC448_2.out)
                            rintro e w46 ⟨rfl, hb⟩
                            refine ⟨_, rfl, ?_⟩
                            have n0_ := Aside0.mk (blk_below (g := gb441) (o := .cells #[.string a0_0, .slice A0_1 l0_1.length c0_1, .slice (some ad447) l0_2.length c0_2] 27 (0, 0)) (by (with_reducible repeat (first | refine blk_drewN ?_ _ | refine blk_drew ?_ | refine blk_alloc ?_ _)); exact BK441.out) hb)
                            have n1_ := Aside0.mk (blk_below (g := gb442) (o := .cells #[.string a1_0, .slice A1_1 l1_1.length c1_1, .slice (some ad448) l1_2.length c1_2] 27 (0, 0)) (by (with_reducible repeat (first | refine blk_drewN ?_ _ | refine blk_drew ?_ | refine blk_alloc ?_ _)); exact BK442.out) hb)
                            have n2_ := Aside0.mk (below_step (by repeat (first | (with_reducible first | exact HB.out | apply below_alloc | apply pw_below_drewN | apply below_drew1 | refine below_set ?_ GE441.out | refine below_set ?_ GE442.out) | exact HB.out)) hb)
                            clear BK441
                            clear BK442
                            clear HB
                            have BK441 := n0_
                            have BK442 := n1_
                            have HB := n2_
                            clear n0_ n1_ n2_
                            (try clear hb)
                            (try clear hb2)
                            (try clear hk)
                            (try clear hi)
                            refine hK.out _ _ ⟨(blk_cell BK441.out 0).trans rfl, (blk_cell BK441.out 1).trans rfl, (blk_cell BK441.out 2).trans rfl, (blk_cell BK442.out 0).trans rfl, (blk_cell BK442.out 1).trans rfl, (blk_cell BK442.out 2).trans rfl, ((HB.out.cell (World.block_lt_of_cell? w _ hw447_0)).trans hw447_0), ((HB.out.cell (World.block_lt_of_cell? w _ hw447_1)).trans hw447_1), ((HB.out.cell (World.block_lt_of_cell? w _ hw447_2)).trans hw447_2), ((HB.out.cell (World.block_lt_of_cell? w _ hw448_0)).trans hw448_0), ((HB.out.cell (World.block_lt_of_cell? w _ hw448_1)).trans hw448_1), ((HB.out.cell (World.block_lt_of_cell? w _ hw448_2)).trans hw448_2)⟩ (fun hHeld => ?_)
                            clear hK K
                            refine norm_ (a' := ?_) ?_ ?_
                            rotate_left
                            · show Act.put _ (some 83) _ = _
                              simp only [Act.put, List.setIfInBounds_toArray, List.set_cons_zero, List.set_cons_succ, i64_w, i32_w]
                              rfl
                            refine pure_ (i := 11) (N := some 84) (v := ?_) (a' := ?_) #[true, true, true, true, true, true, true, true, true, true, true, true] rfl rfl (any_of HT_.out (by kernel_rfl)) (fun _ _ _ h => h) (Or.inl ⟨by rfl, ?_⟩) ?_ ?_
                            rotate_left
                            · intro w'
                              go_simp
                              with_reducible rfl
                            rotate_left
                            · simp only [Act.put, List.setIfInBounds_toArray, List.set_cons_zero, List.set_cons_succ, i64_w, i32_w]
                              rfl
                            refine done_ (done_of HT_.out (by kernel_rfl)) ?_
                            try go_wp2
                            go_ret
                            exact ⟨by first | rfl | (simp [errW_none, errW_some] <;> rfl) | (simp [*, errW_none, errW_some] <;> rfl), by repeat (first | (with_reducible first | exact HB.out | apply below_alloc | apply pw_below_drewN | apply below_drew1 | refine below_set ?_ GE441.out | refine below_set ?_ GE442.out) | exact HB.out)⟩
                        · rw [if_neg c40] at H
                          exact absurd H (by simp)
                      · rw [if_neg c39] at H
                        exact absurd H (by simp)
                    · rw [if_neg c38] at H
                      exact absurd H (by simp)
                  · rw [if_neg c37] at H
                    have c37b0 : decide (x70_3 < (l0_2.length : Int)) = false := decide_eq_false c37
                    clear c37
                    obtain rfl := Option.some.inj H
                    go_wp2
                    go_ret
                    exact ⟨by first | rfl | (simp [errW_none, errW_some] <;> rfl) | (simp [*, errW_none, errW_some] <;> rfl), by repeat (first | (with_reducible first | exact HB.out | apply below_alloc | apply pw_below_drewN | apply below_drew1 | refine below_set ?_ GE441.out | refine below_set ?_ GE442.out) | exact HB.out)⟩
end Go.Proofs.Ytkopmkinlanhoaa.PE

namespace Go.Proofs.Ytkopmkinlanhoaa.PE
open Go.RowKit Go.Proofs.YtkopmkinlanhoaaW.PrintWords Go.Proofs.YtkopmkinlanhoaaW.PrintLast Go.Proofs.YtkopmkinlanhoaaW.PrintMore
attribute [local go_sem] max2_int min2_int max_two min_two max_three min_three max_four min_four   -- for this text's walks alone
set_option linter.unusedVariables false
set_option linter.unusedSimpArgs false
attribute [local go_sem high] eqA82
mutual
def arboretref01_SameTree.j0 : Nat → Bool → Int → List (S82) → ByteArray → List (S63) → List (S27) → Int → List (S82) → ByteArray → List (S63) → List (S27) → Option (Bool)
  | 0, _, _, _, _, _, _, _, _, _, _, _ => none
  | k + 1, x19, x451000, x451001, x451002, x451003, x451004, x452000, x452001, x452002, x452003, x452004 => if x19 = true then (some false) else (arboretref01_SameTree.l0 k (x451001.length : Int) 0 x451000 x451001 x451002 x451003 x451004 x452000 x452001 x452002 x452003 x452004)
def arboretref01_SameTree.l0 : Nat → Int → Int → Int → List (S82) → ByteArray → List (S63) → List (S27) → Int → List (S82) → ByteArray → List (S63) → List (S27) → Option (Bool)
  | 0, _, _, _, _, _, _, _, _, _, _, _, _ => none
  | k + 1, x22, x23, x451000, x451001, x451002, x451003, x451004, x452000, x452001, x452002, x452003, x452004 => if x23 < x22 then (if 0 ≤ x23 then (if x23 < (x451001.length : Int) then (if x23 < (x452001.length : Int) then (if (!(((rd_T82 x451001 x23).f0) == ((rd_T82 x452001 x23).f0)) || (!(((rd_T82 x451001 x23).f1) == ((rd_T82 x452001 x23).f1)))) = true then (some false) else (arboretref01_SameTree.l0 k x22 (wrap64 (x23 + 1)) x451000 x451001 x451002 x451003 x451004 x452000 x452001 x452002 x452003 x452004)) else (none)) else (none)) else (none)) else ((arboretref01_Same.f k x451002 x451003 x451004 x452002 x452003 x452004).bind fun t454 => (some t454))
end
def arboretref01_SameTree.f (k : Nat) (a0_0 : Int) (l0_1 : List (S82)) (a0_2 : ByteArray) (l0_3 : List (S63)) (l0_4 : List (S27)) (a1_0 : Int) (l1_1 : List (S82)) (a1_2 : ByteArray) (l1_3 : List (S63)) (l1_4 : List (S27)) : Option (Bool) := if a0_0 = a1_0 then (arboretref01_SameTree.j0 k ((l0_1.length : Int) != (l1_1.length : Int)) a0_0 l0_1 a0_2 l0_3 l0_4 a1_0 l1_1 a1_2 l1_3 l1_4) else (arboretref01_SameTree.j0 k true a0_0 l0_1 a0_2 l0_3 l0_4 a1_0 l1_1 a1_2 l1_3 l1_4)
set_option maxHeartbeats 8000000 in
set_option maxRecDepth 100000 in
theorem arboretref01_SameTree.calls (k : Nat) (a0_0 : Int) (A0_1 : Option Addr) (c0_1 : Nat) (l0_1 : List (S82)) (a0_2 : ByteArray) (A0_3 : Option Addr) (c0_3 : Nat) (l0_3 : List (S63)) (A0_4 : Option Addr) (c0_4 : Nat) (l0_4 : List (S27)) (a1_0 : Int) (A1_1 : Option Addr) (c1_1 : Nat) (l1_1 : List (S82)) (a1_2 : ByteArray) (A1_3 : Option Addr) (c1_3 : Nat) (l1_3 : List (S63)) (A1_4 : Option Addr) (c1_4 : Nat) (l1_4 : List (S27)) (r : Bool) (w : World) (hr0_1 : Kd.C k82 w A0_1 l0_1.length l0_1) (hc0_1 : l0_1.length ≤ c0_1) (hr0_3 : Kd.C k63 w A0_3 l0_3.length l0_3) (hc0_3 : l0_3.length ≤ c0_3) (hr0_4 : Kd.C k27 w A0_4 l0_4.length l0_4) (hc0_4 : l0_4.length ≤ c0_4) (hr1_1 : Kd.C k82 w A1_1 l1_1.length l1_1) (hc1_1 : l1_1.length ≤ c1_1) (hr1_3 : Kd.C k63 w A1_3 l1_3.length l1_3) (hc1_3 : l1_3.length ≤ c1_3) (hr1_4 : Kd.C k27 w A1_4 l1_4.length l1_4) (hc1_4 : l1_4.length ≤ c1_4) (h : arboretref01_SameTree.f k a0_0 l0_1 a0_2 l0_3 l0_4 a1_0 l1_1 a1_2 l1_3 l1_4 = some r) :
    Calls Try.prog 25 #[.agg #[.int .u32 a0_0, .slice A0_1 l0_1.length c0_1, .string a0_2, .slice A0_3 l0_3.length c0_3, .slice A0_4 l0_4.length c0_4], .agg #[.int .u32 a1_0, .slice A1_1 l1_1.length c1_1, .string a1_2, .slice A1_3 l1_3.length c1_3, .slice A1_4 l1_4.length c1_4]] w fun e w' => e = .returned (.bool r) ∧ Below w.heap.size w w' := by
  have hu29 := Try.underlying29
  have hu82 := Try.underlying82
  have hu27 := Try.underlying27
  have HR0_1 := Aside0.mk hr0_1
  have HC0_1 := Aside0.mk hc0_1
  clear hr0_1 hc0_1
  have HR0_3 := Aside0.mk hr0_3
  have HC0_3 := Aside0.mk hc0_3
  clear hr0_3 hc0_3
  have HR0_4 := Aside0.mk hr0_4
  have HC0_4 := Aside0.mk hc0_4
  clear hr0_4 hc0_4
  have HR1_1 := Aside0.mk hr1_1
  have HC1_1 := Aside0.mk hc1_1
  clear hr1_1 hc1_1
  have HR1_3 := Aside0.mk hr1_3
  have HC1_3 := Aside0.mk hc1_3
  clear hr1_3 hc1_3
  have HR1_4 := Aside0.mk hr1_4
  have HC1_4 := Aside0.mk hc1_4
  clear hr1_4 hc1_4
  have HB := Aside0.mk (Below.refl w.heap.size w)
  have H : (if a0_0 = a1_0 then (arboretref01_SameTree.j0 k ((l0_1.length : Int) != (l1_1.length : Int)) a0_0 l0_1 a0_2 l0_3 l0_4 a1_0 l1_1 a1_2 l1_3 l1_4) else (arboretref01_SameTree.j0 k true a0_0 l0_1 a0_2 l0_3 l0_4 a1_0 l1_1 a1_2 l1_3 l1_4)) = some r := h
  clear h
  have HC3 := Aside0.mk H
  clear H
  go_enter Try.func25, Try.ntmps25
  go_upto_region 1 with (first | ((with_reducible refine gate_dst (N := 2) rfl ?_); (try (refine gate_guard (by rfl) ?_; dsimp only)); refine box_event ?hg (N := 2) ?hd (cs := #[.int .u32 a0_0, .slice A0_1 l0_1.length c0_1, .string a0_2, .slice A0_3 l0_3.length c0_3, .slice A0_4 l0_4.length c0_4]) (t := 29) ?hr ?_; (case hd => rfl); (case hg => rfl); (case hr => first | (go_simp; done) | (go_simp; rfl)); intro gb450 hg w4 hbox hb; have n0_ := Aside0.mk (below_step (by repeat (first | (with_reducible first | exact HB.out | apply below_alloc | apply pw_below_drewN | apply below_drew1) | exact HB.out)) hb); have n1_ := Aside0.mk (hbox); have n2_ := Aside0.mk ((by rw [hg]; exact (below_size (by repeat (first | (with_reducible first | exact HB.out | apply below_alloc | apply pw_below_drewN | apply below_drew1) | exact HB.out))) : w.heap.size ≤ gb450)); have n3_ := Aside0.mk ((by rw [hg]; exact (below_size (by repeat (first | (with_reducible first | exact HB.out | apply below_alloc | apply pw_below_drewN | apply below_drew1) | exact HB.out))) : w.heap.size ≤ gb450)); clear HB; have HB := n0_; have BK450 := n1_; have GW450 := n2_; have GE450 := n3_; clear n0_ n1_ n2_ n3_; clear hb hbox hg) | ((with_reducible refine gate_dst (N := 3) rfl ?_); (try (refine gate_guard (by rfl) ?_; dsimp only)); refine box_event ?hg (N := 3) ?hd (cs := #[.int .u32 a1_0, .slice A1_1 l1_1.length c1_1, .string a1_2, .slice A1_3 l1_3.length c1_3, .slice A1_4 l1_4.length c1_4]) (t := 29) ?hr ?_; (case hd => rfl); (case hg => rfl); (case hr => first | (go_simp; done) | (go_simp; rfl)); intro gb451 hg w5 hbox hb; have n0_ := Aside0.mk (blk_below (g := gb450) (o := .cells #[.int .u32 a0_0, .slice A0_1 l0_1.length c0_1, .string a0_2, .slice A0_3 l0_3.length c0_3, .slice A0_4 l0_4.length c0_4] 29 (0, 0)) (by (with_reducible repeat (first | refine blk_drewN ?_ _ | refine blk_drew ?_ | refine blk_alloc ?_ _)); exact BK450.out) hb); have n1_ := Aside0.mk (below_step (by repeat (first | (with_reducible first | exact HB.out | apply below_alloc | apply pw_below_drewN | apply below_drew1 | refine below_set ?_ GE450.out) | exact HB.out)) hb); have n2_ := Aside0.mk (hbox); have n3_ := Aside0.mk ((by rw [hg]; exact (below_size (by repeat (first | (with_reducible first | exact HB.out | apply below_alloc | apply pw_below_drewN | apply below_drew1 | refine below_set ?_ GE450.out) | exact HB.out))) : w.heap.size ≤ gb451)); have n4_ := Aside0.mk ((by rw [hg]; exact (below_size (by repeat (first | (with_reducible first | exact HB.out | apply below_alloc | apply pw_below_drewN | apply below_drew1 | refine below_set ?_ GE450.out) | exact HB.out))) : w.heap.size ≤ gb451)); have n5_ := Aside0.mk ((by rw [hg]; exact Nat.ne_of_lt (blk_lt (g := gb450) (o := .cells #[.int .u32 a0_0, .slice A0_1 l0_1.length c0_1, .string a0_2, .slice A0_3 l0_3.length c0_3, .slice A0_4 l0_4.length c0_4] 29 (0, 0)) (by (with_reducible repeat (first | refine blk_drewN ?_ _ | refine blk_drew ?_ | refine blk_alloc ?_ _)); exact BK450.out)) : gb450 ≠ gb451)); have n6_ := Aside0.mk ((by rw [hg]; exact Nat.ne_of_gt (blk_lt (g := gb450) (o := .cells #[.int .u32 a0_0, .slice A0_1 l0_1.length c0_1, .string a0_2, .slice A0_3 l0_3.length c0_3, .slice A0_4 l0_4.length c0_4] 29 (0, 0)) (by (with_reducible repeat (first | refine blk_drewN ?_ _ | refine blk_drew ?_ | refine blk_alloc ?_ _)); exact BK450.out)) : gb451 ≠ gb450)); clear BK450; clear HB; have BK450 := n0_; have HB := n1_; have BK451 := n2_; have GW451 := n3_; have GE451 := n4_; have NB450_451 := n5_; have NB451_450 := n6_; clear n0_ n1_ n2_ n3_ n4_ n5_ n6_; clear hb hbox hg))
  repeat (go_quiet (first | ((with_reducible refine gate_dst (N := 2) rfl ?_); (try (refine gate_guard (by rfl) ?_; dsimp only)); refine box_event ?hg (N := 2) ?hd (cs := #[.int .u32 a0_0, .slice A0_1 l0_1.length c0_1, .string a0_2, .slice A0_3 l0_3.length c0_3, .slice A0_4 l0_4.length c0_4]) (t := 29) ?hr ?_; (case hd => rfl); (case hg => rfl); (case hr => first | (go_simp; done) | (go_simp; rfl)); intro gb450 hg w4 hbox hb; have n0_ := Aside0.mk (below_step (by repeat (first | (with_reducible first | exact HB.out | apply below_alloc | apply pw_below_drewN | apply below_drew1) | exact HB.out)) hb); have n1_ := Aside0.mk (hbox); have n2_ := Aside0.mk ((by rw [hg]; exact (below_size (by repeat (first | (with_reducible first | exact HB.out | apply below_alloc | apply pw_below_drewN | apply below_drew1) | exact HB.out))) : w.heap.size ≤ gb450)); have n3_ := Aside0.mk ((by rw [hg]; exact (below_size (by repeat (first | (with_reducible first | exact HB.out | apply below_alloc | apply pw_below_drewN | apply below_drew1) | exact HB.out))) : w.heap.size ≤ gb450)); clear HB; have HB := n0_; have BK450 := n1_; have GW450 := n2_; have GE450 := n3_; clear n0_ n1_ n2_ n3_; clear hb hbox hg) | ((with_reducible refine gate_dst (N := 3) rfl ?_); (try (refine gate_guard (by rfl) ?_; dsimp only)); refine box_event ?hg (N := 3) ?hd (cs := #[.int .u32 a1_0, .slice A1_1 l1_1.length c1_1, .string a1_2, .slice A1_3 l1_3.length c1_3, .slice A1_4 l1_4.length c1_4]) (t := 29) ?hr ?_; (case hd => rfl); (case hg => rfl); (case hr => first | (go_simp; done) | (go_simp; rfl)); intro gb451 hg w5 hbox hb; have n0_ := Aside0.mk (blk_below (g := gb450) (o := .cells #[.int .u32 a0_0, .slice A0_1 l0_1.length c0_1, .string a0_2, .slice A0_3 l0_3.length c0_3, .slice A0_4 l0_4.length c0_4] 29 (0, 0)) (by (with_reducible repeat (first | refine blk_drewN ?_ _ | refine blk_drew ?_ | refine blk_alloc ?_ _)); exact BK450.out) hb); have n1_ := Aside0.mk (below_step (by repeat (first | (with_reducible first | exact HB.out | apply below_alloc | apply pw_below_drewN | apply below_drew1 | refine below_set ?_ GE450.out) | exact HB.out)) hb); have n2_ := Aside0.mk (hbox); have n3_ := Aside0.mk ((by rw [hg]; exact (below_size (by repeat (first | (with_reducible first | exact HB.out | apply below_alloc | apply pw_below_drewN | apply below_drew1 | refine below_set ?_ GE450.out) | exact HB.out))) : w.heap.size ≤ gb451)); have n4_ := Aside0.mk ((by rw [hg]; exact (below_size (by repeat (first | (with_reducible first | exact HB.out | apply below_alloc | apply pw_below_drewN | apply below_drew1 | refine below_set ?_ GE450.out) | exact HB.out))) : w.heap.size ≤ gb451)); have n5_ := Aside0.mk ((by rw [hg]; exact Nat.ne_of_lt (blk_lt (g := gb450) (o := .cells #[.int .u32 a0_0, .slice A0_1 l0_1.length c0_1, .string a0_2, .slice A0_3 l0_3.length c0_3, .slice A0_4 l0_4.length c0_4] 29 (0, 0)) (by (with_reducible repeat (first | refine blk_drewN ?_ _ | refine blk_drew ?_ | refine blk_alloc ?_ _)); exact BK450.out)) : gb450 ≠ gb451)); have n6_ := Aside0.mk ((by rw [hg]; exact Nat.ne_of_gt (blk_lt (g := gb450) (o := .cells #[.int .u32 a0_0, .slice A0_1 l0_1.length c0_1, .string a0_2, .slice A0_3 l0_3.length c0_3, .slice A0_4 l0_4.length c0_4] 29 (0, 0)) (by (with_reducible repeat (first | refine blk_drewN ?_ _ | refine blk_drew ?_ | refine blk_alloc ?_ _)); exact BK450.out)) : gb451 ≠ gb450)); clear BK450; clear HB; have BK450 := n0_; have HB := n1_; have BK451 := n2_; have GW451 := n3_; have GE451 := n4_; have NB450_451 := n5_; have NB451_450 := n6_; clear n0_ n1_ n2_ n3_ n4_ n5_ n6_; clear hb hbox hg)); go_upto_region 1 with (first | ((with_reducible refine gate_dst (N := 2) rfl ?_); (try (refine gate_guard (by rfl) ?_; dsimp only)); refine box_event ?hg (N := 2) ?hd (cs := #[.int .u32 a0_0, .slice A0_1 l0_1.length c0_1, .string a0_2, .slice A0_3 l0_3.length c0_3, .slice A0_4 l0_4.length c0_4]) (t := 29) ?hr ?_; (case hd => rfl); (case hg => rfl); (case hr => first | (go_simp; done) | (go_simp; rfl)); intro gb450 hg w4 hbox hb; have n0_ := Aside0.mk (below_step (by repeat (first | (with_reducible first | exact HB.out | apply below_alloc | apply pw_below_drewN | apply below_drew1) | exact HB.out)) hb); have n1_ := Aside0.mk (hbox); have n2_ := Aside0.mk ((by rw [hg]; exact (below_size (by repeat (first | (with_reducible first | exact HB.out | apply below_alloc | apply pw_below_drewN | apply below_drew1) | exact HB.out))) : w.heap.size ≤ gb450)); have n3_ := Aside0.mk ((by rw [hg]; exact (below_size (by repeat (first | (with_reducible first | exact HB.out | apply below_alloc | apply pw_below_drewN | apply below_drew1) | exact HB.out))) : w.heap.size ≤ gb450)); clear HB; have HB := n0_; have BK450 := n1_; have GW450 := n2_; have GE450 := n3_; clear n0_ n1_ n2_ n3_; clear hb hbox hg) | ((with_reducible refine gate_dst (N := 3) rfl ?_); (try (refine gate_guard (by rfl) ?_; dsimp only)); refine box_event ?hg (N := 3) ?hd (cs := #[.int .u32 a1_0, .slice A1_1 l1_1.length c1_1, .string a1_2, .slice A1_3 l1_3.length c1_3, .slice A1_4 l1_4.length c1_4]) (t := 29) ?hr ?_; (case hd => rfl); (case hg => rfl); (case hr => first | (go_simp; done) | (go_simp; rfl)); intro gb451 hg w5 hbox hb; have n0_ := Aside0.mk (blk_below (g := gb450) (o := .cells #[.int .u32 a0_0, .slice A0_1 l0_1.length c0_1, .string a0_2, .slice A0_3 l0_3.length c0_3, .slice A0_4 l0_4.length c0_4] 29 (0, 0)) (by (with_reducible repeat (first | refine blk_drewN ?_ _ | refine blk_drew ?_ | refine blk_alloc ?_ _)); exact BK450.out) hb); have n1_ := Aside0.mk (below_step (by repeat (first | (with_reducible first | exact HB.out | apply below_alloc | apply pw_below_drewN | apply below_drew1 | refine below_set ?_ GE450.out) | exact HB.out)) hb); have n2_ := Aside0.mk (hbox); have n3_ := Aside0.mk ((by rw [hg]; exact (below_size (by repeat (first | (with_reducible first | exact HB.out | apply below_alloc | apply pw_below_drewN | apply below_drew1 | refine below_set ?_ GE450.out) | exact HB.out))) : w.heap.size ≤ gb451)); have n4_ := Aside0.mk ((by rw [hg]; exact (below_size (by repeat (first | (with_reducible first | exact HB.out | apply below_alloc | apply pw_below_drewN | apply below_drew1 | refine below_set ?_ GE450.out) | exact HB.out))) : w.heap.size ≤ gb451)); have n5_ := Aside0.mk ((by rw [hg]; exact Nat.ne_of_lt (blk_lt (g := gb450) (o := .cells #[.int .u32 a0_0, .slice A0_1 l0_1.length c0_1, .string a0_2, .slice A0_3 l0_3.length c0_3, .slice A0_4 l0_4.length c0_4] 29 (0, 0)) (by (with_reducible repeat (first | refine blk_drewN ?_ _ | refine blk_drew ?_ | refine blk_alloc ?_ _)); exact BK450.out)) : gb450 ≠ gb451)); have n6_ := Aside0.mk ((by rw [hg]; exact Nat.ne_of_gt (blk_lt (g := gb450) (o := .cells #[.int .u32 a0_0, .slice A0_1 l0_1.length c0_1, .string a0_2, .slice A0_3 l0_3.length c0_3, .slice A0_4 l0_4.length c0_4] 29 (0, 0)) (by (with_reducible repeat (first | refine blk_drewN ?_ _ | refine blk_drew ?_ | refine blk_alloc ?_ _)); exact BK450.out)) : gb451 ≠ gb450)); clear BK450; clear HB; have BK450 := n0_; have HB := n1_; have BK451 := n2_; have GW451 := n3_; have GE451 := n4_; have NB450_451 := n5_; have NB451_450 := n6_; clear n0_ n1_ n2_ n3_ n4_ n5_ n6_; clear hb hbox hg)))
  (try simp only [Act.put, List.setIfInBounds_toArray, List.set_cons_zero, List.set_cons_succ])
  go_cut [19] (fun v19 wc => ∃ (kq : Nat) (x19_2 : Bool), v19 = .bool x19_2 ∧ Aside0 (arboretref01_SameTree.j0 kq x19_2 a0_0 l0_1 a0_2 l0_3 l0_4 a1_0 l1_1 a1_2 l1_3 l1_4 = some r) ∧ Aside0 (kq ≤ k) ∧ Aside0 (wc.heap[gb450]? = some (.cells #[.int .u32 a0_0, (.slice A0_1 l0_1.length c0_1), .string a0_2, (.slice A0_3 l0_3.length c0_3), (.slice A0_4 l0_4.length c0_4)] 29 (0, 0))) ∧ Aside0 (wc.heap[gb451]? = some (.cells #[.int .u32 a1_0, (.slice A1_1 l1_1.length c1_1), .string a1_2, (.slice A1_3 l1_3.length c1_3), (.slice A1_4 l1_4.length c1_4)] 29 (0, 0))) ∧ Aside0 (Below w.heap.size w wc))
  case first =>
    have H := HC3.out
    clear HC3
    by_cases c6 : a0_0 = a1_0
    · rw [if_pos c6] at H
      have c6b0 : (a0_0 == a1_0) = true := beq_iff_eq.mpr c6
      have c6b1 : (a0_0 != a1_0) = false := bne_eq_false_iff_eq.mpr c6
      clear c6
      (first | rw [c6b0] | (simp only [i64_w, i32_w]; rw [c6b0]) | skip)
      have H' := Aside0.mk H
      clear H
      have hnb7 := NB450_451.out
      have hnc7 := NB451_450.out
      have hcz8_0 : w5.cell? ⟨gb450, 0, none⟩ = some (.int .u32 a0_0) := (blk_cell BK450.out 0).trans rfl
      have hcz8_1 : w5.cell? ⟨gb450, 1, none⟩ = some (.slice A0_1 l0_1.length c0_1) := (blk_cell BK450.out 1).trans rfl
      have hcz8_2 : w5.cell? ⟨gb450, 2, none⟩ = some (.string a0_2) := (blk_cell BK450.out 2).trans rfl
      have hcz8_3 : w5.cell? ⟨gb450, 3, none⟩ = some (.slice A0_3 l0_3.length c0_3) := (blk_cell BK450.out 3).trans rfl
      have hcz8_4 : w5.cell? ⟨gb450, 4, none⟩ = some (.slice A0_4 l0_4.length c0_4) := (blk_cell BK450.out 4).trans rfl
      have hfz8_0 := blk_frozen BK450.out 0
      have hfz8_1 := blk_frozen BK450.out 1
      have hfz8_2 := blk_frozen BK450.out 2
      have hfz8_3 := blk_frozen BK450.out 3
      have hfz8_4 := blk_frozen BK450.out 4
      have hcz9_0 : w5.cell? ⟨gb451, 0, none⟩ = some (.int .u32 a1_0) := (blk_cell BK451.out 0).trans rfl
      have hcz9_1 : w5.cell? ⟨gb451, 1, none⟩ = some (.slice A1_1 l1_1.length c1_1) := (blk_cell BK451.out 1).trans rfl
      have hcz9_2 : w5.cell? ⟨gb451, 2, none⟩ = some (.string a1_2) := (blk_cell BK451.out 2).trans rfl
      have hcz9_3 : w5.cell? ⟨gb451, 3, none⟩ = some (.slice A1_3 l1_3.length c1_3) := (blk_cell BK451.out 3).trans rfl
      have hcz9_4 : w5.cell? ⟨gb451, 4, none⟩ = some (.slice A1_4 l1_4.length c1_4) := (blk_cell BK451.out 4).trans rfl
      have hfz9_0 := blk_frozen BK451.out 0
      have hfz9_1 := blk_frozen BK451.out 1
      have hfz9_2 := blk_frozen BK451.out 2
      have hfz9_3 := blk_frozen BK451.out 3
      have hfz9_4 := blk_frozen BK451.out 4
      go_wp2
      repeat (go_quiet (fail); try go_wp2)
      go_meet
      case rel => exact ⟨_, (((l0_1.length : Int) != (l1_1.length : Int))), (by first | rfl | (simp; done) | (simp [*]; done)), H', ⟨by first | omega | exact Nat.le_refl _⟩, ⟨by (with_reducible repeat (first | refine blk_drewN ?_ _ | refine blk_drew ?_ | refine blk_alloc ?_ _)); exact BK450.out⟩, ⟨by (with_reducible repeat (first | refine blk_drewN ?_ _ | refine blk_drew ?_ | refine blk_alloc ?_ _)); exact BK451.out⟩, ⟨by repeat (first | (with_reducible first | exact HB.out | apply below_alloc | apply pw_below_drewN | apply below_drew1 | refine below_set ?_ GE450.out | refine below_set ?_ GE451.out) | exact HB.out)⟩⟩
    · rw [if_neg c6] at H
      have c6b0 : (a0_0 == a1_0) = false := beq_eq_false_iff_ne.mpr c6
      have c6b1 : (a0_0 != a1_0) = true := bne_iff_ne.mpr c6
      (first | rw [c6b0] | (simp only [i64_w, i32_w]; rw [c6b0]) | skip)
      have H' := Aside0.mk H
      clear H
      have hnb10 := NB450_451.out
      have hnc10 := NB451_450.out
      have hcz11_0 : w5.cell? ⟨gb450, 0, none⟩ = some (.int .u32 a0_0) := (blk_cell BK450.out 0).trans rfl
      have hcz11_1 : w5.cell? ⟨gb450, 1, none⟩ = some (.slice A0_1 l0_1.length c0_1) := (blk_cell BK450.out 1).trans rfl
      have hcz11_2 : w5.cell? ⟨gb450, 2, none⟩ = some (.string a0_2) := (blk_cell BK450.out 2).trans rfl
      have hcz11_3 : w5.cell? ⟨gb450, 3, none⟩ = some (.slice A0_3 l0_3.length c0_3) := (blk_cell BK450.out 3).trans rfl
      have hcz11_4 : w5.cell? ⟨gb450, 4, none⟩ = some (.slice A0_4 l0_4.length c0_4) := (blk_cell BK450.out 4).trans rfl
      have hfz11_0 := blk_frozen BK450.out 0
      have hfz11_1 := blk_frozen BK450.out 1
      have hfz11_2 := blk_frozen BK450.out 2
      have hfz11_3 := blk_frozen BK450.out 3
      have hfz11_4 := blk_frozen BK450.out 4
      have hcz12_0 : w5.cell? ⟨gb451, 0, none⟩ = some (.int .u32 a1_0) := (blk_cell BK451.out 0).trans rfl
      have hcz12_1 : w5.cell? ⟨gb451, 1, none⟩ = some (.slice A1_1 l1_1.length c1_1) := (blk_cell BK451.out 1).trans rfl
      have hcz12_2 : w5.cell? ⟨gb451, 2, none⟩ = some (.string a1_2) := (blk_cell BK451.out 2).trans rfl
      have hcz12_3 : w5.cell? ⟨gb451, 3, none⟩ = some (.slice A1_3 l1_3.length c1_3) := (blk_cell BK451.out 3).trans rfl
      have hcz12_4 : w5.cell? ⟨gb451, 4, none⟩ = some (.slice A1_4 l1_4.length c1_4) := (blk_cell BK451.out 4).trans rfl
      have hfz12_0 := blk_frozen BK451.out 0
      have hfz12_1 := blk_frozen BK451.out 1
      have hfz12_2 := blk_frozen BK451.out 2
      have hfz12_3 := blk_frozen BK451.out 3
      have hfz12_4 := blk_frozen BK451.out 4
      go_wp2
      repeat (go_quiet (fail); try go_wp2)
      go_meet
      case rel => exact ⟨_, (true), (by first | rfl | (simp; done) | (simp [*]; done)), H', ⟨by first | omega | exact Nat.le_refl _⟩, ⟨by (with_reducible repeat (first | refine blk_drewN ?_ _ | refine blk_drew ?_ | refine blk_alloc ?_ _)); exact BK450.out⟩, ⟨by (with_reducible repeat (first | refine blk_drewN ?_ _ | refine blk_drew ?_ | refine blk_alloc ?_ _)); exact BK451.out⟩, ⟨by repeat (first | (with_reducible first | exact HB.out | apply below_alloc | apply pw_below_drewN | apply below_drew1 | refine below_set ?_ GE450.out | refine below_set ?_ GE451.out) | exact HB.out)⟩⟩
  case rest =>
    clear HC3
    try clear c1
    try clear c2
    try clear p2
    try clear c6
    try clear c6b0
    try clear c6b1
    try clear c7
    try clear c10
    try clear hcz11_0
    try clear hcz11_1
    try clear hcz11_2
    try clear hcz11_3
    try clear hcz11_4
    try clear hcz12_0
    try clear hcz12_1
    try clear hcz12_2
    try clear hcz12_3
    try clear hcz12_4
    try clear hcz8_0
    try clear hcz8_1
    try clear hcz8_2
    try clear hcz8_3
    try clear hcz8_4
    try clear hcz9_0
    try clear hcz9_1
    try clear hcz9_2
    try clear hcz9_3
    try clear hcz9_4
    try clear hfz11_0
    try clear hfz11_1
    try clear hfz11_2
    try clear hfz11_3
    try clear hfz11_4
    try clear hfz12_0
    try clear hfz12_1
    try clear hfz12_2
    try clear hfz12_3
    try clear hfz12_4
    try clear hfz8_0
    try clear hfz8_1
    try clear hfz8_2
    try clear hfz8_3
    try clear hfz8_4
    try clear hfz9_0
    try clear hfz9_1
    try clear hfz9_2
    try clear hfz9_3
    try clear hfz9_4
    obtain ⟨kq, x19_2, rfl, HA, HJ2, BK450, BK451, HB⟩ := hcut
    cases kq with
    | zero => exact absurd HA.out (by simp [arboretref01_SameTree.j0])
    | succ kj2 =>
      have H := HA.out
      clear HA
      simp only [arboretref01_SameTree.j0] at H
      by_cases c13 : x19_2 = true
      · subst c13
        have H1 : (some false) = some r := by rw [if_pos rfl] at H; exact H
        clear H
        have H := H1
        clear H1
        obtain rfl := Option.some.inj H
        go_wp2
        repeat (go_quiet (fail); try go_wp2)
        go_ret
        exact ⟨by first | rfl | (simp [errW_none, errW_some] <;> rfl) | (simp [*, errW_none, errW_some] <;> rfl), by repeat (first | (with_reducible first | exact HB.out | apply below_alloc | apply pw_below_drewN | apply below_drew1 | refine below_set ?_ GE450.out | refine below_set ?_ GE451.out) | exact HB.out)⟩
      · replace c13 := Bool.eq_false_iff.mpr c13
        subst c13
        have H1 : (arboretref01_SameTree.l0 kj2 (l0_1.length : Int) 0 a0_0 l0_1 a0_2 l0_3 l0_4 a1_0 l1_1 a1_2 l1_3 l1_4) = some r := by rw [if_neg (show ¬ (false = true) by decide)] at H; exact H
        clear H
        have H := H1
        clear H1
        have H' := Aside0.mk H
        clear H
        have hnb14 := NB450_451.out
        have hnc14 := NB451_450.out
        have hcz15_0 : wc.cell? ⟨gb450, 0, none⟩ = some (.int .u32 a0_0) := (blk_cell BK450.out 0).trans rfl
        have hcz15_1 : wc.cell? ⟨gb450, 1, none⟩ = some (.slice A0_1 l0_1.length c0_1) := (blk_cell BK450.out 1).trans rfl
        have hcz15_2 : wc.cell? ⟨gb450, 2, none⟩ = some (.string a0_2) := (blk_cell BK450.out 2).trans rfl
        have hcz15_3 : wc.cell? ⟨gb450, 3, none⟩ = some (.slice A0_3 l0_3.length c0_3) := (blk_cell BK450.out 3).trans rfl
        have hcz15_4 : wc.cell? ⟨gb450, 4, none⟩ = some (.slice A0_4 l0_4.length c0_4) := (blk_cell BK450.out 4).trans rfl
        have hfz15_0 := blk_frozen BK450.out 0
        have hfz15_1 := blk_frozen BK450.out 1
        have hfz15_2 := blk_frozen BK450.out 2
        have hfz15_3 := blk_frozen BK450.out 3
        have hfz15_4 := blk_frozen BK450.out 4
        go_wp2
        repeat (go_quiet (fail); try go_wp2)
        go_loopg [23] kj2 (fun kq v23 w' => ∃ (x23_2 : Int), v23 = .int .i64 x23_2 ∧ Aside0 (arboretref01_SameTree.l0 kq (l0_1.length : Int) x23_2 a0_0 l0_1 a0_2 l0_3 l0_4 a1_0 l1_1 a1_2 l1_3 l1_4 = some r) ∧ Aside0 (kq ≤ kj2) ∧ Aside0 (w'.heap[gb450]? = some (.cells #[.int .u32 a0_0, (.slice A0_1 l0_1.length c0_1), .string a0_2, (.slice A0_3 l0_3.length c0_3), (.slice A0_4 l0_4.length c0_4)] 29 (0, 0))) ∧ Aside0 (w'.heap[gb451]? = some (.cells #[.int .u32 a1_0, (.slice A1_1 l1_1.length c1_1), .string a1_2, (.slice A1_3 l1_3.length c1_3), (.slice A1_4 l1_4.length c1_4)] 29 (0, 0))) ∧ Aside0 (Below w.heap.size w w'))
        case atStart => exact ⟨(0), (by first | rfl | (simp; done) | (simp [*]; done)), H', ⟨Nat.le_refl _⟩, ⟨by (with_reducible repeat (first | refine blk_drewN ?_ _ | refine blk_drew ?_ | refine blk_alloc ?_ _)); exact BK450.out⟩, ⟨by (with_reducible repeat (first | refine blk_drewN ?_ _ | refine blk_drew ?_ | refine blk_alloc ?_ _)); exact BK451.out⟩, ⟨by repeat (first | (with_reducible first | exact HB.out | apply below_alloc | apply pw_below_drewN | apply below_drew1 | refine below_set ?_ GE450.out | refine below_set ?_ GE451.out) | exact HB.out)⟩⟩
        case round =>
          clear H'
          try clear c1
          try clear c2
          try clear p2
          try clear c6
          try clear c6b0
          try clear c6b1
          try clear c7
          try clear c10
          try clear c13
          try clear c14
          try clear hcz11_0
          try clear hcz11_1
          try clear hcz11_2
          try clear hcz11_3
          try clear hcz11_4
          try clear hcz12_0
          try clear hcz12_1
          try clear hcz12_2
          try clear hcz12_3
          try clear hcz12_4
          try clear hcz15_0
          try clear hcz15_1
          try clear hcz15_2
          try clear hcz15_3
          try clear hcz15_4
          try clear hcz8_0
          try clear hcz8_1
          try clear hcz8_2
          try clear hcz8_3
          try clear hcz8_4
          try clear hcz9_0
          try clear hcz9_1
          try clear hcz9_2
          try clear hcz9_3
          try clear hcz9_4
          try clear hfz11_0
          try clear hfz11_1
          try clear hfz11_2
          try clear hfz11_3
          try clear hfz11_4
          try clear hfz12_0
          try clear hfz12_1
          try clear hfz12_2
          try clear hfz12_3
          try clear hfz12_4
          try clear hfz15_0
          try clear hfz15_1
          try clear hfz15_2
          try clear hfz15_3
          try clear hfz15_4
          try clear hfz8_0
          try clear hfz8_1
          try clear hfz8_2
          try clear hfz8_3
          try clear hfz8_4
          try clear hfz9_0
          try clear hfz9_1
          try clear hfz9_2
          try clear hfz9_3
          try clear hfz9_4
          try clear p2
          obtain ⟨x23_2, rfl, HA, HK2, BK450, BK451, HB⟩ := hrel
          cases gk with
          | zero => exact absurd HA.out (by simp [arboretref01_SameTree.l0])
          | succ k2 =>
            have H := HA.out
            clear HA
            simp only [arboretref01_SameTree.l0] at H
            by_cases c16 : x23_2 < (l0_1.length : Int)
            · rw [if_pos c16] at H
              have c16b0 : decide (x23_2 < (l0_1.length : Int)) = true := decide_eq_true c16
              clear c16
              by_cases c17 : 0 ≤ x23_2
              · rw [if_pos c17] at H
                have c17b0 : decide (0 ≤ x23_2) = true := decide_eq_true c17
                clear c17
                by_cases c18 : x23_2 < (l0_1.length : Int)
                · rw [if_pos c18] at H
                  have c18b0 : decide (x23_2 < (l0_1.length : Int)) = true := decide_eq_true c18
                  clear c18
                  by_cases c19 : x23_2 < (l1_1.length : Int)
                  · rw [if_pos c19] at H
                    have c19b0 : decide (x23_2 < (l1_1.length : Int)) = true := decide_eq_true c19
                    clear c19
                    by_cases c20 : (!(((rd_T82 l0_1 x23_2).f0) == ((rd_T82 l1_1 x23_2).f0)) || (!(((rd_T82 l0_1 x23_2).f1) == ((rd_T82 l1_1 x23_2).f1)))) = true
                    · rw [if_pos c20] at H
                      have c20b0 : (!(((rd_T82 l0_1 x23_2).f0) == ((rd_T82 l1_1 x23_2).f0)) || (!(((rd_T82 l0_1 x23_2).f1) == ((rd_T82 l1_1 x23_2).f1)))) = true := c20
                      clear c20
                      obtain rfl := Option.some.inj H
                      have hnb21 := NB450_451.out
                      have hnc21 := NB451_450.out
                      have hcz22_0 : wr.cell? ⟨gb450, 0, none⟩ = some (.int .u32 a0_0) := (blk_cell BK450.out 0).trans rfl
                      have hcz22_1 : wr.cell? ⟨gb450, 1, none⟩ = some (.slice A0_1 l0_1.length c0_1) := (blk_cell BK450.out 1).trans rfl
                      have hcz22_2 : wr.cell? ⟨gb450, 2, none⟩ = some (.string a0_2) := (blk_cell BK450.out 2).trans rfl
                      have hcz22_3 : wr.cell? ⟨gb450, 3, none⟩ = some (.slice A0_3 l0_3.length c0_3) := (blk_cell BK450.out 3).trans rfl
                      have hcz22_4 : wr.cell? ⟨gb450, 4, none⟩ = some (.slice A0_4 l0_4.length c0_4) := (blk_cell BK450.out 4).trans rfl
                      have hfz22_0 := blk_frozen BK450.out 0
                      have hfz22_1 := blk_frozen BK450.out 1
                      have hfz22_2 := blk_frozen BK450.out 2
                      have hfz22_3 := blk_frozen BK450.out 3
                      have hfz22_4 := blk_frozen BK450.out 4
                      have p452 : 0 ≤ (x23_2 : Int) := of_decide_eq_true (by first | (with_reducible assumption) | assumption)
                      have q452 : x23_2 < (l0_1.length : Int) := of_decide_eq_true (by first | (with_reducible assumption) | assumption)
                      obtain ⟨ad452, e452, hx452_0, hx452_1⟩ := at_T82 HR0_1.out x23_2 p452 q452
                      cases e452
                      replace hx452_0 := (HB.out.cell (World.block_lt_of_cell? w _ hx452_0)).trans hx452_0
                      replace hx452_1 := (HB.out.cell (World.block_lt_of_cell? w _ hx452_1)).trans hx452_1
                      replace p452 := eq_true p452
                      replace q452 := eq_true q452
                      have hcz23_0 : wr.cell? ⟨gb451, 0, none⟩ = some (.int .u32 a1_0) := (blk_cell BK451.out 0).trans rfl
                      have hcz23_1 : wr.cell? ⟨gb451, 1, none⟩ = some (.slice A1_1 l1_1.length c1_1) := (blk_cell BK451.out 1).trans rfl
                      have hcz23_2 : wr.cell? ⟨gb451, 2, none⟩ = some (.string a1_2) := (blk_cell BK451.out 2).trans rfl
                      have hcz23_3 : wr.cell? ⟨gb451, 3, none⟩ = some (.slice A1_3 l1_3.length c1_3) := (blk_cell BK451.out 3).trans rfl
                      have hcz23_4 : wr.cell? ⟨gb451, 4, none⟩ = some (.slice A1_4 l1_4.length c1_4) := (blk_cell BK451.out 4).trans rfl
                      have hfz23_0 := blk_frozen BK451.out 0
                      have hfz23_1 := blk_frozen BK451.out 1
                      have hfz23_2 := blk_frozen BK451.out 2
                      have hfz23_3 := blk_frozen BK451.out 3
                      have hfz23_4 := blk_frozen BK451.out 4
                      have p453 : 0 ≤ (x23_2 : Int) := of_decide_eq_true (by first | (with_reducible assumption) | assumption)
                      have q453 : x23_2 < (l1_1.length : Int) := of_decide_eq_true (by first | (with_reducible assumption) | assumption)
                      obtain ⟨ad453, e453, hx453_0, hx453_1⟩ := at_T82 HR1_1.out x23_2 p453 q453
                      cases e453
                      replace hx453_0 := (HB.out.cell (World.block_lt_of_cell? w _ hx453_0)).trans hx453_0
                      replace hx453_1 := (HB.out.cell (World.block_lt_of_cell? w _ hx453_1)).trans hx453_1
                      replace p453 := eq_true p453
                      replace q453 := eq_true q453
                      go_wp2
                      repeat (go_quiet (fail); try go_wp2)
                      go_ret
                      exact ⟨by first | rfl | (simp [errW_none, errW_some] <;> rfl) | (simp [*, errW_none, errW_some] <;> rfl), by repeat (first | (with_reducible first | exact HB.out | apply below_alloc | apply pw_below_drewN | apply below_drew1 | refine below_set ?_ GE450.out | refine below_set ?_ GE451.out) | exact HB.out)⟩
                    · rw [if_neg c20] at H
                      have c20b0 : (!(((rd_T82 l0_1 x23_2).f0) == ((rd_T82 l1_1 x23_2).f0)) || (!(((rd_T82 l0_1 x23_2).f1) == ((rd_T82 l1_1 x23_2).f1)))) = false := by simpa using c20
                      clear c20
                      have H' := Aside0.mk H
                      clear H
                      have hnb24 := NB450_451.out
                      have hnc24 := NB451_450.out
                      have hcz25_0 : wr.cell? ⟨gb450, 0, none⟩ = some (.int .u32 a0_0) := (blk_cell BK450.out 0).trans rfl
                      have hcz25_1 : wr.cell? ⟨gb450, 1, none⟩ = some (.slice A0_1 l0_1.length c0_1) := (blk_cell BK450.out 1).trans rfl
                      have hcz25_2 : wr.cell? ⟨gb450, 2, none⟩ = some (.string a0_2) := (blk_cell BK450.out 2).trans rfl
                      have hcz25_3 : wr.cell? ⟨gb450, 3, none⟩ = some (.slice A0_3 l0_3.length c0_3) := (blk_cell BK450.out 3).trans rfl
                      have hcz25_4 : wr.cell? ⟨gb450, 4, none⟩ = some (.slice A0_4 l0_4.length c0_4) := (blk_cell BK450.out 4).trans rfl
                      have hfz25_0 := blk_frozen BK450.out 0
                      have hfz25_1 := blk_frozen BK450.out 1
                      have hfz25_2 := blk_frozen BK450.out 2
                      have hfz25_3 := blk_frozen BK450.out 3
                      have hfz25_4 := blk_frozen BK450.out 4
                      have p452 : 0 ≤ (x23_2 : Int) := of_decide_eq_true (by first | (with_reducible assumption) | assumption)
                      have q452 : x23_2 < (l0_1.length : Int) := of_decide_eq_true (by first | (with_reducible assumption) | assumption)
                      obtain ⟨ad452, e452, hx452_0, hx452_1⟩ := at_T82 HR0_1.out x23_2 p452 q452
                      cases e452
                      replace hx452_0 := (HB.out.cell (World.block_lt_of_cell? w _ hx452_0)).trans hx452_0
                      replace hx452_1 := (HB.out.cell (World.block_lt_of_cell? w _ hx452_1)).trans hx452_1
                      replace p452 := eq_true p452
                      replace q452 := eq_true q452
                      have hcz26_0 : wr.cell? ⟨gb451, 0, none⟩ = some (.int .u32 a1_0) := (blk_cell BK451.out 0).trans rfl
                      have hcz26_1 : wr.cell? ⟨gb451, 1, none⟩ = some (.slice A1_1 l1_1.length c1_1) := (blk_cell BK451.out 1).trans rfl
                      have hcz26_2 : wr.cell? ⟨gb451, 2, none⟩ = some (.string a1_2) := (blk_cell BK451.out 2).trans rfl
                      have hcz26_3 : wr.cell? ⟨gb451, 3, none⟩ = some (.slice A1_3 l1_3.length c1_3) := (blk_cell BK451.out 3).trans rfl
                      have hcz26_4 : wr.cell? ⟨gb451, 4, none⟩ = some (.slice A1_4 l1_4.length c1_4) := (blk_cell BK451.out 4).trans rfl
                      have hfz26_0 := blk_frozen BK451.out 0
                      have hfz26_1 := blk_frozen BK451.out 1
                      have hfz26_2 := blk_frozen BK451.out 2
                      have hfz26_3 := blk_frozen BK451.out 3
                      have hfz26_4 := blk_frozen BK451.out 4
                      have p453 : 0 ≤ (x23_2 : Int) := of_decide_eq_true (by first | (with_reducible assumption) | assumption)
                      have q453 : x23_2 < (l1_1.length : Int) := of_decide_eq_true (by first | (with_reducible assumption) | assumption)
                      obtain ⟨ad453, e453, hx453_0, hx453_1⟩ := at_T82 HR1_1.out x23_2 p453 q453
                      cases e453
                      replace hx453_0 := (HB.out.cell (World.block_lt_of_cell? w _ hx453_0)).trans hx453_0
                      replace hx453_1 := (HB.out.cell (World.block_lt_of_cell? w _ hx453_1)).trans hx453_1
                      replace p453 := eq_true p453
                      replace q453 := eq_true q453
                      go_wp2
                      repeat (go_quiet (fail); try go_wp2)
                      go_roundg k2
                      case measure => have := HJ2.out; have := HK2.out; omega
                      case rel => exact ⟨(wrap64 (x23_2 + 1)), (by first | rfl | (simp; done) | (simp [*]; done)), H', ⟨by have := HJ2.out; have := HK2.out; omega⟩, ⟨by (with_reducible repeat (first | refine blk_drewN ?_ _ | refine blk_drew ?_ | refine blk_alloc ?_ _)); exact BK450.out⟩, ⟨by (with_reducible repeat (first | refine blk_drewN ?_ _ | refine blk_drew ?_ | refine blk_alloc ?_ _)); exact BK451.out⟩, ⟨by repeat (first | (with_reducible first | exact HB.out | apply below_alloc | apply pw_below_drewN | apply below_drew1 | refine below_set ?_ GE450.out | refine below_set ?_ GE451.out) | exact HB.out)⟩⟩
                  · rw [if_neg c19] at H
                    exact absurd H (by simp)
                · rw [if_neg c18] at H
                  exact absurd H (by simp)
              · rw [if_neg c17] at H
                exact absurd H (by simp)
            · rw [if_neg c16] at H
              have c16b0 : decide (x23_2 < (l0_1.length : Int)) = false := decide_eq_false c16
              clear c16
              replace H := Option.bind_eq_some_iff.mp H
              obtain ⟨t454, A270, H⟩ := H
              replace H : (some t454) = some r := H
              have A27 := Aside0.mk A270
              clear A270
              obtain rfl := Option.some.inj H
              have hnb28 := NB450_451.out
              have hnc28 := NB451_450.out
              have hcz29_0 : wr.cell? ⟨gb450, 0, none⟩ = some (.int .u32 a0_0) := (blk_cell BK450.out 0).trans rfl
              have hcz29_1 : wr.cell? ⟨gb450, 1, none⟩ = some (.slice A0_1 l0_1.length c0_1) := (blk_cell BK450.out 1).trans rfl
              have hcz29_2 : wr.cell? ⟨gb450, 2, none⟩ = some (.string a0_2) := (blk_cell BK450.out 2).trans rfl
              have hcz29_3 : wr.cell? ⟨gb450, 3, none⟩ = some (.slice A0_3 l0_3.length c0_3) := (blk_cell BK450.out 3).trans rfl
              have hcz29_4 : wr.cell? ⟨gb450, 4, none⟩ = some (.slice A0_4 l0_4.length c0_4) := (blk_cell BK450.out 4).trans rfl
              have hfz29_0 := blk_frozen BK450.out 0
              have hfz29_1 := blk_frozen BK450.out 1
              have hfz29_2 := blk_frozen BK450.out 2
              have hfz29_3 := blk_frozen BK450.out 3
              have hfz29_4 := blk_frozen BK450.out 4
              have hcz30_0 : wr.cell? ⟨gb451, 0, none⟩ = some (.int .u32 a1_0) := (blk_cell BK451.out 0).trans rfl
              have hcz30_1 : wr.cell? ⟨gb451, 1, none⟩ = some (.slice A1_1 l1_1.length c1_1) := (blk_cell BK451.out 1).trans rfl
              have hcz30_2 : wr.cell? ⟨gb451, 2, none⟩ = some (.string a1_2) := (blk_cell BK451.out 2).trans rfl
              have hcz30_3 : wr.cell? ⟨gb451, 3, none⟩ = some (.slice A1_3 l1_3.length c1_3) := (blk_cell BK451.out 3).trans rfl
              have hcz30_4 : wr.cell? ⟨gb451, 4, none⟩ = some (.slice A1_4 l1_4.length c1_4) := (blk_cell BK451.out 4).trans rfl
              have hfz30_0 := blk_frozen BK451.out 0
              have hfz30_1 := blk_frozen BK451.out 1
              have hfz30_2 := blk_frozen BK451.out 2
              have hfz30_3 := blk_frozen BK451.out 3
              have hfz30_4 := blk_frozen BK451.out 4
              go_wp2_with (first | (go_at_call 54; (with_reducible refine (arboretref01_Same.calls k2 a0_2 _ _ l0_3 _ _ l0_4 a1_2 _ _ l1_3 _ _ l1_4 t454 _ ?side1 ?side2 ?side3 ?side4 ?side5 ?side6 ?side7 ?side8 A27.out).mono ?_); (case side1 => repeat (first | exact (Kd.C_below HR0_3.out HB.out) | (with_reducible refine Kd.C_alloc ?_ _) | (with_reducible refine Kd.C_drewN ?_ _) | (with_reducible refine Kd.C_drew ?_))); (case side2 => exact HC0_3.out); (case side3 => repeat (first | exact (Kd.C_below HR0_4.out HB.out) | (with_reducible refine Kd.C_alloc ?_ _) | (with_reducible refine Kd.C_drewN ?_ _) | (with_reducible refine Kd.C_drew ?_))); (case side4 => exact HC0_4.out); (case side5 => repeat (first | exact (Kd.C_below HR1_3.out HB.out) | (with_reducible refine Kd.C_alloc ?_ _) | (with_reducible refine Kd.C_drewN ?_ _) | (with_reducible refine Kd.C_drew ?_))); (case side6 => exact HC1_3.out); (case side7 => repeat (first | exact (Kd.C_below HR1_4.out HB.out) | (with_reducible refine Kd.C_alloc ?_ _) | (with_reducible refine Kd.C_drewN ?_ _) | (with_reducible refine Kd.C_drew ?_))); (case side8 => exact HC1_4.out); rintro e w31 ⟨rfl, hb⟩; have n0_ := Aside0.mk (blk_below (g := gb450) (o := .cells #[.int .u32 a0_0, .slice A0_1 l0_1.length c0_1, .string a0_2, .slice A0_3 l0_3.length c0_3, .slice A0_4 l0_4.length c0_4] 29 (0, 0)) (by (with_reducible repeat (first | refine blk_drewN ?_ _ | refine blk_drew ?_ | refine blk_alloc ?_ _)); exact BK450.out) hb); have n1_ := Aside0.mk (blk_below (g := gb451) (o := .cells #[.int .u32 a1_0, .slice A1_1 l1_1.length c1_1, .string a1_2, .slice A1_3 l1_3.length c1_3, .slice A1_4 l1_4.length c1_4] 29 (0, 0)) (by (with_reducible repeat (first | refine blk_drewN ?_ _ | refine blk_drew ?_ | refine blk_alloc ?_ _)); exact BK451.out) hb); have n2_ := Aside0.mk (below_step (by repeat (first | (with_reducible first | exact HB.out | apply below_alloc | apply pw_below_drewN | apply below_drew1 | refine below_set ?_ GE450.out | refine below_set ?_ GE451.out) | exact HB.out)) hb); clear BK450; clear BK451; clear HB; have BK450 := n0_; have BK451 := n1_; have HB := n2_; clear n0_ n1_ n2_; (try clear hb); (try clear hb2); (try clear hk); (try clear hi)))
              repeat (go_quiet (first | (go_at_call 54; (with_reducible refine (arboretref01_Same.calls k2 a0_2 _ _ l0_3 _ _ l0_4 a1_2 _ _ l1_3 _ _ l1_4 t454 _ ?side1 ?side2 ?side3 ?side4 ?side5 ?side6 ?side7 ?side8 A27.out).mono ?_); (case side1 => repeat (first | exact (Kd.C_below HR0_3.out HB.out) | (with_reducible refine Kd.C_alloc ?_ _) | (with_reducible refine Kd.C_drewN ?_ _) | (with_reducible refine Kd.C_drew ?_))); (case side2 => exact HC0_3.out); (case side3 => repeat (first | exact (Kd.C_below HR0_4.out HB.out) | (with_reducible refine Kd.C_alloc ?_ _) | (with_reducible refine Kd.C_drewN ?_ _) | (with_reducible refine Kd.C_drew ?_))); (case side4 => exact HC0_4.out); (case side5 => repeat (first | exact (Kd.C_below HR1_3.out HB.out) | (with_reducible refine Kd.C_alloc ?_ _) | (with_reducible refine Kd.C_drewN ?_ _) | (with_reducible refine Kd.C_drew ?_))); (case side6 => exact HC1_3.out); (case side7 => repeat (first | exact (Kd.C_below HR1_4.out HB.out) | (with_reducible refine Kd.C_alloc ?_ _) | (with_reducible refine Kd.C_drewN ?_ _) | (with_reducible refine Kd.C_drew ?_))); (case side8 => exact HC1_4.out); rintro e w31 ⟨rfl, hb⟩; have n0_ := Aside0.mk (blk_below (g := gb450) (o := .cells #[.int .u32 a0_0, .slice A0_1 l0_1.length c0_1, .string a0_2, .slice A0_3 l0_3.length c0_3, .slice A0_4 l0_4.length c0_4] 29 (0, 0)) (by (with_reducible repeat (first | refine blk_drewN ?_ _ | refine blk_drew ?_ | refine blk_alloc ?_ _)); exact BK450.out) hb); have n1_ := Aside0.mk (blk_below (g := gb451) (o := .cells #[.int .u32 a1_0, .slice A1_1 l1_1.length c1_1, .string a1_2, .slice A1_3 l1_3.length c1_3, .slice A1_4 l1_4.length c1_4] 29 (0, 0)) (by (with_reducible repeat (first | refine blk_drewN ?_ _ | refine blk_drew ?_ | refine blk_alloc ?_ _)); exact BK451.out) hb); have n2_ := Aside0.mk (below_step (by repeat (first | (with_reducible first | exact HB.out | apply below_alloc | apply pw_below_drewN | apply below_drew1 | refine below_set ?_ GE450.out | refine below_set ?_ GE451.out) | exact HB.out)) hb); clear BK450; clear BK451; clear HB; have BK450 := n0_; have BK451 := n1_; have HB := n2_; clear n0_ n1_ n2_; (try clear hb); (try clear hb2); (try clear hk); (try clear hi))); try go_wp2_with (first | (go_at_call 54; (with_reducible refine (arboretref01_Same.calls k2 a0_2 _ _ l0_3 _ _ l0_4 a1_2 _ _ l1_3 _ _ l1_4 t454 _ ?side1 ?side2 ?side3 ?side4 ?side5 ?side6 ?side7 ?side8 A27.out).mono ?_); (case side1 => repeat (first | exact (Kd.C_below HR0_3.out HB.out) | (with_reducible refine Kd.C_alloc ?_ _) | (with_reducible refine Kd.C_drewN ?_ _) | (with_reducible refine Kd.C_drew ?_))); (case side2 => exact HC0_3.out); (case side3 => repeat (first | exact (Kd.C_below HR0_4.out HB.out) | (with_reducible refine Kd.C_alloc ?_ _) | (with_reducible refine Kd.C_drewN ?_ _) | (with_reducible refine Kd.C_drew ?_))); (case side4 => exact HC0_4.out); (case side5 => repeat (first | exact (Kd.C_below HR1_3.out HB.out) | (with_reducible refine Kd.C_alloc ?_ _) | (with_reducible refine Kd.C_drewN ?_ _) | (with_reducible refine Kd.C_drew ?_))); (case side6 => exact HC1_3.out); (case side7 => repeat (first | exact (Kd.C_below HR1_4.out HB.out) | (with_reducible refine Kd.C_alloc ?_ _) | (with_reducible refine Kd.C_drewN ?_ _) | (with_reducible refine Kd.C_drew ?_))); (case side8 => exact HC1_4.out); rintro e w31 ⟨rfl, hb⟩; have n0_ := Aside0.mk (blk_below (g := gb450) (o := .cells #[.int .u32 a0_0, .slice A0_1 l0_1.length c0_1, .string a0_2, .slice A0_3 l0_3.length c0_3, .slice A0_4 l0_4.length c0_4] 29 (0, 0)) (by (with_reducible repeat (first | refine blk_drewN ?_ _ | refine blk_drew ?_ | refine blk_alloc ?_ _)); exact BK450.out) hb); have n1_ := Aside0.mk (blk_below (g := gb451) (o := .cells #[.int .u32 a1_0, .slice A1_1 l1_1.length c1_1, .string a1_2, .slice A1_3 l1_3.length c1_3, .slice A1_4 l1_4.length c1_4] 29 (0, 0)) (by (with_reducible repeat (first | refine blk_drewN ?_ _ | refine blk_drew ?_ | refine blk_alloc ?_ _)); exact BK451.out) hb); have n2_ := Aside0.mk (below_step (by repeat (first | (with_reducible first | exact HB.out | apply below_alloc | apply pw_below_drewN | apply below_drew1 | refine below_set ?_ GE450.out | refine below_set ?_ GE451.out) | exact HB.out)) hb); clear BK450; clear BK451; clear HB; have BK450 := n0_; have BK451 := n1_; have HB := n2_; clear n0_ n1_ n2_; (try clear hb); (try clear hb2); (try clear hk); (try clear hi))))
              go_ret
              exact ⟨by first | rfl | (simp [errW_none, errW_some] <;> rfl) | (simp [*, errW_none, errW_some] <;> rfl), by repeat (first | (with_reducible first | exact HB.out | apply below_alloc | apply pw_below_drewN | apply below_drew1 | refine below_set ?_ GE450.out | refine below_set ?_ GE451.out) | exact HB.out)⟩
end Go.Proofs.Ytkopmkinlanhoaa.PE

namespace Go.Proofs.Ytkopmkinlanhoaa.PE
open Go.RowKit Go.Proofs.YtkopmkinlanhoaaW.PrintWords Go.Proofs.YtkopmkinlanhoaaW.PrintLast Go.Proofs.YtkopmkinlanhoaaW.PrintMore
attribute [local go_sem] max2_int min2_int max_two min_two max_three min_three max_four min_four   -- for this text's walks alone
set_option linter.unusedVariables false
set_option linter.unusedSimpArgs false
set_option maxRecDepth 100000 in
theorem words_part.yes (ad : Addr) (m c : Nat) (i q : Int) (w : World) (h0 : 0 ≤ i) (h1 : i ≤ (m : Int)) (h2 : q ≤ (m : Int) - i) (hq : 0 < q) (hc : m ≤ c) (hm : m ≤ 9223372036854775807) :
    Calls Try.prog 62 #[.slice (some ad) m c, .int .i64 i, .int .i64 q] w fun e w' => e = .returned (.slice (if c = i.toNat then some ad else (some ad).map (·.add (i.toNat * 1))) ((i + q).toNat - i.toNat) (c - i.toNat)) ∧ w' = w := by
  have f1 : decide (i < 0) = false := by simp; omega
  have f2 : decide ((m : Int) < i) = false := by simp; omega
  have f3 : decide ((m : Int) - i < q) = false := by simp; omega
  obtain ⟨i0, hi0, _, hsz, _⟩ := info_parts info5
  have hcut := cut_mid 45 5 .i64 .i64 Try.underlying45 hi0 1 hsz (some ad) m c i (i + q) h0 (by omega) (by omega) hc
  go_enter Try.func62, Try.ntmps62
  go_wp2
  go_ret
  exact ⟨rfl, rfl⟩
set_option maxRecDepth 100000 in
theorem words_part.no (B : Option Addr) (m c : Nat) (i q : Int) (w : World) (h : i < 0 ∨ (m : Int) < i ∨ (m : Int) - i < q) (hq : 0 < q) (hq1 : q ≤ 100) (hm : m ≤ 9223372036854775807) :
    Calls Try.prog 62 #[.slice B m c, .int .i64 i, .int .i64 q] w fun e w' => e = .returned (.slice none 0 0) ∧ w' = w := by
  by_cases a1 : i < 0
  · have f1 : decide (i < 0) = true := by simp; omega
    clear h
    go_enter Try.func62, Try.ntmps62
    go_wp2
    go_ret
    exact ⟨rfl, rfl⟩
  · have f1 : decide (i < 0) = false := by simp; omega
    by_cases a2 : (m : Int) < i
    · have f2 : decide ((m : Int) < i) = true := by simp; omega
      clear h
      go_enter Try.func62, Try.ntmps62
      go_wp2
      go_ret
      exact ⟨rfl, rfl⟩
    · have f2 : decide ((m : Int) < i) = false := by simp; omega
      have f3 : decide ((m : Int) - i < q) = true := by simp; omega
      clear h
      go_enter Try.func62, Try.ntmps62
      go_wp2
      go_ret
      exact ⟨rfl, rfl⟩
end Go.Proofs.Ytkopmkinlanhoaa.PE

namespace Go.Proofs.Ytkopmkinlanhoaa.PE
open Go.RowKit Go.Proofs.YtkopmkinlanhoaaW.PrintWords Go.Proofs.YtkopmkinlanhoaaW.PrintLast Go.Proofs.YtkopmkinlanhoaaW.PrintMore
attribute [local go_sem] max2_int min2_int max_two min_two max_three min_three max_four min_four   -- for this text's walks alone
set_option linter.unusedVariables false
set_option linter.unusedSimpArgs false
def words_number.l0 : Nat → Int → List Int → Int → Int → Option (Int)
  | 0, _, _, _, _ => none
  | k + 1, x3, x6, x7, x8 => if x8 < x7 then (if 0 ≤ x8 then (if x8 < (x6.length : Int) then (words_number.l0 k (Go.bits .or .u64 (IntKind.u64.wrap (x3 * 256)) (IntKind.u64.wrap (rd x6 x8))) x6 x7 (wrap64 (x8 + 1))) else (none)) else (none)) else (some x3)
def words_number.f (k : Nat) (l0 : List Int) : Option (Int) := words_number.l0 k 0 l0 (l0.length : Int) 0
set_option maxHeartbeats 8000000 in
set_option maxRecDepth 100000 in
theorem words_number.calls (k : Nat) (A0 : Option Addr) (c0 : Nat) (l0 : List Int) (r : Int) (w : World) (hr0 : Kd.C (Kd.int .u8) w A0 l0.length l0) (hc0 : l0.length ≤ c0) (h : words_number.f k l0 = some r) :
    Calls Try.prog 63 #[.slice A0 l0.length c0] w fun e w' => e = .returned (.int .u64 r) ∧ Drawn0 w w' := by
  have HR0 := Aside0.mk hr0
  have HC0 := Aside0.mk hc0
  clear hr0 hc0
  have H : (words_number.l0 k 0 l0 (l0.length : Int) 0) = some r := h
  clear h
  have H' := Aside0.mk H
  clear H
  go_enter Try.func63, Try.ntmps63
  go_wp2
  go_loopg [3, 8] k (fun kq v3 v8 w' => ∃ (x3_1 : Int) (x8_1 : Int), v3 = .int .u64 x3_1 ∧ v8 = .int .i64 x8_1 ∧ Aside0 (words_number.l0 kq x3_1 l0 (l0.length : Int) x8_1 = some r) ∧ Aside0 (kq ≤ k) ∧ Drawn0 w w')
  case atStart => exact ⟨(0), (0), (by first | rfl | (simp; done) | (simp [*]; done)), (by first | rfl | (simp; done) | (simp [*]; done)), H', ⟨Nat.le_refl _⟩, by repeat (first | exact Drawn0.refl _ | apply Drawn0.step)⟩
  case round =>
    clear H'
    obtain ⟨x3_1, x8_1, rfl, rfl, HA, HK1, ⟨m1, rfl⟩⟩ := hrel
    cases gk with
    | zero => exact absurd HA.out (by simp [words_number.l0])
    | succ k1 =>
      have H := HA.out
      clear HA
      simp only [words_number.l0] at H
      by_cases c2 : x8_1 < (l0.length : Int)
      · rw [if_pos c2] at H
        have c2b0 : decide (x8_1 < (l0.length : Int)) = true := decide_eq_true c2
        clear c2
        by_cases c3 : 0 ≤ x8_1
        · rw [if_pos c3] at H
          have c3b0 : decide (0 ≤ x8_1) = true := decide_eq_true c3
          clear c3
          by_cases c4 : x8_1 < (l0.length : Int)
          · rw [if_pos c4] at H
            have c4b0 : decide (x8_1 < (l0.length : Int)) = true := decide_eq_true c4
            clear c4
            have H' := Aside0.mk H
            clear H
            have p107 : 0 ≤ (x8_1 : Int) := of_decide_eq_true (by first | (with_reducible assumption) | assumption)
            have q107 : x8_1 < (l0.length : Int) := of_decide_eq_true (by first | (with_reducible assumption) | assumption)
            obtain ⟨ad107, e107, hx107_0⟩ := Kd.at_int HR0.out x8_1 p107 q107
            cases e107
            replace p107 := eq_true p107
            replace q107 := eq_true q107
            go_wp2
            go_roundg k1
            case measure => have := HK1.out; omega
            case rel => exact ⟨(Go.bits .or .u64 (IntKind.u64.wrap (x3_1 * 256)) (IntKind.u64.wrap (rd l0 x8_1))), (wrap64 (x8_1 + 1)), (by first | rfl | (simp; done) | (simp [*]; done)), (by first | rfl | (simp; done) | (simp [*]; done)), H', ⟨by have := HK1.out; omega⟩, by repeat (first | exact Drawn0.refl _ | apply Drawn0.step)⟩
          · rw [if_neg c4] at H
            exact absurd H (by simp)
        · rw [if_neg c3] at H
          exact absurd H (by simp)
      · rw [if_neg c2] at H
        have c2b0 : decide (x8_1 < (l0.length : Int)) = false := decide_eq_false c2
        clear c2
        obtain rfl := Option.some.inj H
        go_wp2
        go_ret
        exact ⟨by first | rfl | (simp; done) | (simp [*]; done), by repeat (first | exact Drawn0.refl _ | apply Drawn0.step)⟩
end Go.Proofs.Ytkopmkinlanhoaa.PE

namespace Go.Proofs.Ytkopmkinlanhoaa.PE
open Go.RowKit Go.Proofs.YtkopmkinlanhoaaW.PrintWords Go.Proofs.YtkopmkinlanhoaaW.PrintLast Go.Proofs.YtkopmkinlanhoaaW.PrintMore
attribute [local go_sem] max2_int min2_int max_two min_two max_three min_three max_four min_four   -- for this text's walks alone
set_option linter.unusedVariables false
set_option linter.unusedSimpArgs false
def numb (l : List Int) : Int := l.foldl (fun v c => Go.bits .or .u64 (IntKind.u64.wrap (v * 256)) (IntKind.u64.wrap c)) 0
theorem numb_loop (l : List Int) (hl : l.length ≤ 9223372036854775806) (d : Nat) : ∀ (k : Nat) (v : Int) (i : Nat), i + d = l.length → d < k →
    words_number.l0 k v l (l.length : Int) (i : Int) = some ((l.drop i).foldl (fun v c => Go.bits .or .u64 (IntKind.u64.wrap (v * 256)) (IntKind.u64.wrap c)) v) := by
  induction d with
  | zero =>
    intro k v i hi hk
    obtain ⟨k, rfl⟩ : ∃ m, k = m + 1 := ⟨k - 1, by omega⟩
    simp only [words_number.l0]
    rw [if_neg (by omega), List.drop_of_length_le (by omega)]
    rfl
  | succ d ih =>
    intro k v i hi hk
    obtain ⟨k, rfl⟩ : ∃ m, k = m + 1 := ⟨k - 1, by omega⟩
    simp only [words_number.l0]
    have hw : wrap64 ((i : Int) + 1) = ((i + 1 : Nat) : Int) := by unfold wrap64; omega
    rw [if_pos (by omega), if_pos (by omega), if_pos (by omega), hw, ih k _ (i + 1) (by omega) (by omega), List.drop_eq_getElem_cons (by omega : i < l.length), List.foldl_cons]
    simp [rd, List.getD_eq_getElem?_getD, List.getElem?_eq_getElem (by omega : i < l.length)]
theorem numb_f (l : List Int) (hl : l.length ≤ 9223372036854775806) : words_number.f (l.length + 1) l = some (numb l) := by
  have h := numb_loop l hl l.length (l.length + 1) 0 0 (by omega) (by omega)
  simpa [words_number.f, numb] using h
def words_Get.f (l0 : List Int) (a1 : Int) : Option (Int × Bool) := if 0 ≤ a1 ∧ 4 ≤ (l0.length : Int) - a1 then (some (numb ((l0.take (a1 + 4).toNat).drop a1.toNat) % 4294967296, true)) else (some (0, false))
set_option maxRecDepth 100000 in
theorem words_Get.calls (A0 : Option Addr) (c0 : Nat) (l0 : List Int) (a1 : Int) (r1 : Int) (r2 : Bool) (w : World) (hr0 : Kd.C (Kd.int .u8) w A0 l0.length l0) (hc0 : l0.length ≤ c0) (h : words_Get.f l0 a1 = some (r1, r2)) :
    Calls Try.prog 34 #[.slice A0 l0.length c0, .int .i64 a1] w fun e w' => e = .returned (.tuple #[.int .u32 r1, .bool r2]) ∧ Drawn0 w w' := by
  have hm : l0.length ≤ 9223372036854775807 := hr0.2.1
  unfold words_Get.f at h
  by_cases c : 0 ≤ a1 ∧ 4 ≤ (l0.length : Int) - a1
  · rw [if_pos c] at h
    simp only [Option.some.injEq, Prod.mk.injEq] at h
    obtain ⟨rfl, rfl⟩ := h
    obtain ⟨ad, rfl, _⟩ := hr0.2.2 (by omega)
    have hmid := Kd.C_mid (lo := a1.toNat) (hi := (a1 + 4).toNat) hr0 (by omega) (by omega) hc0
    have hlen : ((l0.take (a1 + 4).toNat).drop a1.toNat).length = 4 := by simp; omega
    obtain ⟨y, hy⟩ : ∃ y, y = (l0.take (a1 + 4).toNat).drop a1.toNat := ⟨_, rfl⟩
    rw [← hy] at hmid hlen
    have hsub : (a1 + 4).toNat - a1.toNat = y.length := by rw [hlen]; omega
    have h0 := c.1
    have h1 := c.2
    have hno : c0 ≠ a1.toNat := by omega
    have Hp := words_part.yes ad l0.length c0 a1 4 w h0 (by omega) h1 (by decide) hc0 hm
    rw [if_neg hno, hsub] at Hp
    rw [if_neg hno] at hmid
    have hq : y.length ≤ c0 - a1.toNat := by rw [hlen]; omega
    have Hn := words_number.calls (y.length + 1) ((some ad).map (·.add (a1.toNat * 1))) (c0 - a1.toNat) y (numb y) w hmid hq (numb_f y (by rw [hlen]; decide))
    have Hy := Aside0.mk hy
    clear hy c h0 h1 hno hmid hq hr0 hsub hlen
    obtain ⟨B, hB⟩ : ∃ B, B = ad.add (a1.toNat * 1) := ⟨_, rfl⟩
    simp only [Option.map_some] at Hp Hn
    rw [← hB] at Hp Hn
    clear hB
    have q := fun w' : World => run_neq_slice_nil_any (P := Try.prog) w' 45 5 (some B) y.length (c0 - a1.toNat) 0 0 Try.underlying45
    simp only [Option.isNone_some, Bool.not_false] at q
    go_enter Try.func34, Try.ntmps34
    go_wp2_with (first | (go_at_call 62; refine Hp.mono ?_; rintro e w' ⟨rfl, rfl⟩) | (go_at_call 63; refine Hn.mono ?_; rintro e w' ⟨rfl, ⟨nd, rfl⟩⟩))
    go_ret2
    exact ⟨by rw [Hy.out]; rfl, ⟨⟨_, rfl⟩⟩⟩
  · rw [if_neg c] at h
    simp only [Option.some.injEq, Prod.mk.injEq] at h
    obtain ⟨rfl, rfl⟩ := h
    have Hn := words_number.calls 1 none 0 [] 0 w ⟨rfl, by decide, fun h0 => absurd h0 (by decide)⟩ (Nat.le_refl 0) (by decide)
    have q := fun w' : World => run_neq_slice_nil_any (P := Try.prog) w' 45 5 none 0 0 0 0 Try.underlying45
    simp only [Option.isNone_none, Bool.not_true] at q
    simp only [List.length_nil] at Hn
    have Hp := words_part.no A0 l0.length c0 a1 4 w (by omega) (by decide) (by decide) hm
    clear c hr0
    go_enter Try.func34, Try.ntmps34
    go_wp2_with (first | (go_at_call 62; refine Hp.mono ?_; rintro e w' ⟨rfl, rfl⟩) | (go_at_call 63; refine Hn.mono ?_; rintro e w' ⟨rfl, ⟨nd, rfl⟩⟩))
    go_ret2
    exact ⟨rfl, ⟨⟨_, rfl⟩⟩⟩
end Go.Proofs.Ytkopmkinlanhoaa.PE

namespace Go.Proofs.Ytkopmkinlanhoaa.PE
open Go.RowKit Go.Proofs.YtkopmkinlanhoaaW.PrintWords Go.Proofs.YtkopmkinlanhoaaW.PrintLast Go.Proofs.YtkopmkinlanhoaaW.PrintMore
attribute [local go_sem] max2_int min2_int max_two min_two max_three min_three max_four min_four   -- for this text's walks alone
set_option linter.unusedVariables false
set_option linter.unusedSimpArgs false
def words_Get64.f (l0 : List Int) (a1 : Int) : Option (Int × Bool) := if 0 ≤ a1 ∧ 8 ≤ (l0.length : Int) - a1 then (some (numb ((l0.take (a1 + 8).toNat).drop a1.toNat), true)) else (some (0, false))
set_option maxRecDepth 100000 in
theorem words_Get64.calls (A0 : Option Addr) (c0 : Nat) (l0 : List Int) (a1 : Int) (r1 : Int) (r2 : Bool) (w : World) (hr0 : Kd.C (Kd.int .u8) w A0 l0.length l0) (hc0 : l0.length ≤ c0) (h : words_Get64.f l0 a1 = some (r1, r2)) :
    Calls Try.prog 68 #[.slice A0 l0.length c0, .int .i64 a1] w fun e w' => e = .returned (.tuple #[.int .u64 r1, .bool r2]) ∧ Drawn0 w w' := by
  have hm : l0.length ≤ 9223372036854775807 := hr0.2.1
  unfold words_Get64.f at h
  by_cases c : 0 ≤ a1 ∧ 8 ≤ (l0.length : Int) - a1
  · rw [if_pos c] at h
    simp only [Option.some.injEq, Prod.mk.injEq] at h
    obtain ⟨rfl, rfl⟩ := h
    obtain ⟨ad, rfl, _⟩ := hr0.2.2 (by omega)
    have hmid := Kd.C_mid (lo := a1.toNat) (hi := (a1 + 8).toNat) hr0 (by omega) (by omega) hc0
    have hlen : ((l0.take (a1 + 8).toNat).drop a1.toNat).length = 8 := by simp; omega
    obtain ⟨y, hy⟩ : ∃ y, y = (l0.take (a1 + 8).toNat).drop a1.toNat := ⟨_, rfl⟩
    rw [← hy] at hmid hlen
    have hsub : (a1 + 8).toNat - a1.toNat = y.length := by rw [hlen]; omega
    have h0 := c.1
    have h1 := c.2
    have hno : c0 ≠ a1.toNat := by omega
    have Hp := words_part.yes ad l0.length c0 a1 8 w h0 (by omega) h1 (by decide) hc0 hm
    rw [if_neg hno, hsub] at Hp
    rw [if_neg hno] at hmid
    have hq : y.length ≤ c0 - a1.toNat := by rw [hlen]; omega
    have Hn := words_number.calls (y.length + 1) ((some ad).map (·.add (a1.toNat * 1))) (c0 - a1.toNat) y (numb y) w hmid hq (numb_f y (by rw [hlen]; decide))
    have Hy := Aside0.mk hy
    clear hy c h0 h1 hno hmid hq hr0 hsub hlen
    obtain ⟨B, hB⟩ : ∃ B, B = ad.add (a1.toNat * 1) := ⟨_, rfl⟩
    simp only [Option.map_some] at Hp Hn
    rw [← hB] at Hp Hn
    clear hB
    have q := fun w' : World => run_neq_slice_nil_any (P := Try.prog) w' 45 5 (some B) y.length (c0 - a1.toNat) 0 0 Try.underlying45
    simp only [Option.isNone_some, Bool.not_false] at q
    go_enter Try.func68, Try.ntmps68
    go_wp2_with (first | (go_at_call 62; refine Hp.mono ?_; rintro e w' ⟨rfl, rfl⟩) | (go_at_call 63; refine Hn.mono ?_; rintro e w' ⟨rfl, ⟨nd, rfl⟩⟩))
    go_ret2
    exact ⟨by rw [Hy.out]; rfl, ⟨⟨_, rfl⟩⟩⟩
  · rw [if_neg c] at h
    simp only [Option.some.injEq, Prod.mk.injEq] at h
    obtain ⟨rfl, rfl⟩ := h
    have Hn := words_number.calls 1 none 0 [] 0 w ⟨rfl, by decide, fun h0 => absurd h0 (by decide)⟩ (Nat.le_refl 0) (by decide)
    have q := fun w' : World => run_neq_slice_nil_any (P := Try.prog) w' 45 5 none 0 0 0 0 Try.underlying45
    simp only [Option.isNone_none, Bool.not_true] at q
    simp only [List.length_nil] at Hn
    have Hp := words_part.no A0 l0.length c0 a1 8 w (by omega) (by decide) (by decide) hm
    clear c hr0
    go_enter Try.func68, Try.ntmps68
    go_wp2_with (first | (go_at_call 62; refine Hp.mono ?_; rintro e w' ⟨rfl, rfl⟩) | (go_at_call 63; refine Hn.mono ?_; rintro e w' ⟨rfl, ⟨nd, rfl⟩⟩))
    go_ret2
    exact ⟨rfl, ⟨⟨_, rfl⟩⟩⟩
end Go.Proofs.Ytkopmkinlanhoaa.PE

namespace Go.Proofs.Ytkopmkinlanhoaa.PE
open Go.RowKit Go.Proofs.YtkopmkinlanhoaaW.PrintWords Go.Proofs.YtkopmkinlanhoaaW.PrintLast Go.Proofs.YtkopmkinlanhoaaW.PrintMore
attribute [local go_sem] max2_int min2_int max_two min_two max_three min_three max_four min_four   -- for this text's walks alone
set_option linter.unusedVariables false
set_option linter.unusedSimpArgs false
mutual
def decode_reserves.l0 : Nat → List Int → Int → List (S82) → Option ((List (S82)) × Int)
  | 0, _, _, _ => none
  | k + 1, x0, x1, x6 => (words_Get64.f x0 x1).bind fun bt108 => ((words_Get64.f x0 (wrap64 (x1 + 8))).bind fun bt110 => (if bt110.2 = true then (if bt108.1 = 0 then (decode_reserves.j1 k x0 x1 x6 bt108.1 bt110.1 (bt110.1 == 0)) else (decode_reserves.j1 k x0 x1 x6 bt108.1 bt110.1 false)) else (some (([] : List (S82)), 4))))
def decode_reserves.j1 : Nat → List Int → Int → List (S82) → Int → Int → Bool → Option ((List (S82)) × Int)
  | 0, _, _, _, _, _, _ => none
  | k + 1, x0, x1, x6, x7, x9, x29 => if x29 = true then (if (x6.length : Int) > 64 then (some (([] : List (S82)), 7)) else (some (x6, 0))) else (if x6.length < 8796093022208 then (decode_reserves.l0 k x0 (wrap64 (x1 + 16)) (x6 ++ [(⟨x7, x9⟩ : S82)])) else (none))
end
def decode_reserves.f (k : Nat) (l0 : List Int) (a1 : Int) : Option ((List (S82)) × Int) := decode_reserves.l0 k l0 a1 ([] : List (S82))
set_option maxHeartbeats 8000000 in
set_option maxRecDepth 100000 in
theorem decode_reserves.calls (k : Nat) (A0 : Option Addr) (c0 : Nat) (l0 : List Int) (a1 : Int) (r1 : List (S82)) (r2 : Int) (w : World) (hr0 : Kd.C (Kd.int .u8) w A0 l0.length l0) (hc0 : l0.length ≤ c0) (h : decode_reserves.f k l0 a1 = some (r1, r2)) :
    Calls Try.prog 42 #[.slice A0 l0.length c0, .int .i64 a1] w fun e w' => ∃ v0_ : Value, e = .returned (.tuple #[v0_, .int .i64 r2]) ∧ Kd.R k82 82 w' w.heap.size (fun _ => True) v0_ r1 ∧ Below w.heap.size w w' := by
  have hu82 := Try.underlying82
  have HR0 := Aside0.mk hr0
  have HC0 := Aside0.mk hc0
  clear hr0 hc0
  have HB := Aside0.mk (Below.refl w.heap.size w)
  have H : (decode_reserves.l0 k l0 a1 ([] : List (S82))) = some (r1, r2) := h
  clear h
  have H' := Aside0.mk H
  clear H
  go_enter Try.func42, Try.ntmps42
  go_wp2
  go_loopg [1, 6] k (fun kq v1 v6 w' => ∃ (x1_1 : Int) (x6_1 : List (S82)), v1 = .int .i64 x1_1 ∧ Aside0 (decode_reserves.l0 kq l0 x1_1 x6_1 = some (r1, r2)) ∧ Aside0 (kq ≤ k) ∧ Aside0 (Kd.R k82 82 w' w.heap.size (fun _ => True) v6 x6_1) ∧ Aside0 (Below w.heap.size w w'))
  case atStart => exact ⟨(a1), (([] : List (S82))), (by first | rfl | (simp; done) | (simp [*]; done)), H', ⟨Nat.le_refl _⟩, ⟨by first | exact Kd.R_nil _ _ _ _ _ | exact Kd.N_nil _ _ _ _ _ | exact Kd.V_nil _ _ _ _ _ | exact Kd.Q_nil _ _ _ _ _ | exact Kd.S_nil _ _ _ _ _⟩, ⟨by repeat (first | (with_reducible first | exact HB.out | apply below_alloc | apply pw_below_drewN | apply below_drew1) | exact HB.out)⟩⟩
  case round =>
    clear H'
    try clear p2
    obtain ⟨x1_1, x6_1, rfl, HA, HK1, HO_6, HB⟩ := hrel
    cases gk with
    | zero => exact absurd HA.out (by simp [decode_reserves.l0])
    | succ k1 =>
      have H := HA.out
      clear HA
      simp only [decode_reserves.l0] at H
      replace H := Option.bind_eq_some_iff.mp H
      obtain ⟨⟨t108, t109⟩, A30, H⟩ := H
      replace H : ((words_Get64.f l0 (wrap64 (x1_1 + 8))).bind fun bt110 => (if bt110.2 = true then (if t108 = 0 then (decode_reserves.j1 k1 l0 x1_1 x6_1 t108 bt110.1 (bt110.1 == 0)) else (decode_reserves.j1 k1 l0 x1_1 x6_1 t108 bt110.1 false)) else (some (([] : List (S82)), 4)))) = some (r1, r2) := H
      have A3 := Aside0.mk A30
      clear A30
      replace H := Option.bind_eq_some_iff.mp H
      obtain ⟨⟨t110, t111⟩, A40, H⟩ := H
      replace H : (if t111 = true then (if t108 = 0 then (decode_reserves.j1 k1 l0 x1_1 x6_1 t108 t110 (t110 == 0)) else (decode_reserves.j1 k1 l0 x1_1 x6_1 t108 t110 false)) else (some (([] : List (S82)), 4))) = some (r1, r2) := H
      have A4 := Aside0.mk A40
      clear A40
      by_cases c5 : t111 = true
      · subst c5
        have H1 : (if t108 = 0 then (decode_reserves.j1 k1 l0 x1_1 x6_1 t108 t110 (t110 == 0)) else (decode_reserves.j1 k1 l0 x1_1 x6_1 t108 t110 false)) = some (r1, r2) := by rw [if_pos rfl] at H; exact H
        clear H
        have H := H1
        clear H1
        have HC6 := Aside0.mk H
        clear H
        go_upto_region 7 with (first | ((with_reducible refine gate_callee (f := 68) rfl ?_); refine goesL_ (some 16) rfl rfl Try.func68 (by kernel_rfl) rfl #[.slice A0 l0.length c0, .int .i64 x1_1] rfl (by (try simp only [List.map_toArray, List.map_cons, List.map_nil]); first | done | rfl | (simp only [List.length_drop, List.length_take]; rfl)) ?_; (with_reducible refine (words_Get64.calls _ _ l0 x1_1 t108 t109 _ ?side1 ?side2 A3.out).mono ?_); (case side1 => repeat (first | exact (Kd.C_below HR0.out HB.out) | (with_reducible refine Kd.C_alloc ?_ _) | (with_reducible refine Kd.C_drewN ?_ _) | (with_reducible refine Kd.C_drew ?_))); (case side2 => exact HC0.out); rintro e w' ⟨rfl, ⟨nd, rfl⟩⟩; refine ⟨_, rfl, ?_⟩) | ((with_reducible refine gate_callee (f := 68) rfl ?_); refine goesL_ (some 23) rfl rfl Try.func68 (by kernel_rfl) rfl #[.slice A0 l0.length c0, .int .i64 (wrap64 (x1_1 + 8))] rfl (by (try simp only [List.map_toArray, List.map_cons, List.map_nil]); first | done | rfl | (simp only [List.length_drop, List.length_take]; rfl)) ?_; (with_reducible refine (words_Get64.calls _ _ l0 (wrap64 (x1_1 + 8)) t110 true _ ?side1 ?side2 A4.out).mono ?_); (case side1 => repeat (first | exact (Kd.C_below HR0.out (by repeat (first | (with_reducible first | exact HB.out | apply below_alloc | apply pw_below_drewN | apply below_drew1) | exact HB.out))) | (with_reducible refine Kd.C_alloc ?_ _) | (with_reducible refine Kd.C_drewN ?_ _) | (with_reducible refine Kd.C_drew ?_))); (case side2 => exact HC0.out); rintro e w' ⟨rfl, ⟨nd, rfl⟩⟩; refine ⟨_, rfl, ?_⟩))
        (try simp only [Act.put, List.setIfInBounds_toArray, List.set_cons_zero, List.set_cons_succ])
        go_cut [29] (fun v29 wc => ∃ (kq : Nat) (x29_5 : Bool), v29 = .bool x29_5 ∧ Aside0 (decode_reserves.j1 kq l0 x1_1 x6_1 t108 t110 x29_5 = some (r1, r2)) ∧ Aside0 (kq ≤ k1) ∧ Aside0 (Kd.R k82 82 wc w.heap.size (fun _ => True) u6 x6_1) ∧ Aside0 (Below w.heap.size w wc))
        case first =>
          have H := HC6.out
          clear HC6
          by_cases c7 : t108 = 0
          · rw [if_pos c7] at H
            have c7b0 : (t108 == 0) = true := beq_iff_eq.mpr c7
            have c7b1 : (t108 != 0) = false := bne_eq_false_iff_eq.mpr c7
            clear c7
            (first | rw [c7b0] | (simp only [i64_w, i32_w]; rw [c7b0]) | skip)
            have H' := Aside0.mk H
            clear H
            go_wp2
            go_meet
            case rel => exact ⟨_, ((t110 == 0)), (by first | rfl | (simp; done) | (simp [*]; done)), H', ⟨by have := HK1.out; first | omega | exact Nat.le_refl _⟩, ⟨by (with_reducible repeat (first | apply Kd.R_alloc | apply Kd.R_drewN | apply Kd.R_drew)); exact HO_6.out⟩, ⟨by repeat (first | (with_reducible first | exact HB.out | apply below_alloc | apply pw_below_drewN | apply below_drew1) | exact HB.out)⟩⟩
          · rw [if_neg c7] at H
            have c7b0 : (t108 == 0) = false := beq_eq_false_iff_ne.mpr c7
            have c7b1 : (t108 != 0) = true := bne_iff_ne.mpr c7
            (first | rw [c7b0] | (simp only [i64_w, i32_w]; rw [c7b0]) | skip)
            have H' := Aside0.mk H
            clear H
            go_wp2
            go_meet
            case rel => exact ⟨_, (false), (by first | rfl | (simp; done) | (simp [*]; done)), H', ⟨by have := HK1.out; first | omega | exact Nat.le_refl _⟩, ⟨by (with_reducible repeat (first | apply Kd.R_alloc | apply Kd.R_drewN | apply Kd.R_drew)); exact HO_6.out⟩, ⟨by repeat (first | (with_reducible first | exact HB.out | apply below_alloc | apply pw_below_drewN | apply below_drew1) | exact HB.out)⟩⟩
        case rest =>
          clear HC6
          try clear p2
          try clear c4
          try clear c5
          try clear c6
          try clear p6
          try clear c7
          try clear c7b0
          try clear c7b1
          try clear p2
          obtain ⟨kq, x29_5, rfl, HA, HJ5, HO_6, HB⟩ := hcut
          cases kq with
          | zero => exact absurd HA.out (by simp [decode_reserves.j1])
          | succ kj5 =>
            have H := HA.out
            clear HA
            simp only [decode_reserves.j1] at H
            by_cases c8 : x29_5 = true
            · subst c8
              have H1 : (if (x6_1.length : Int) > 64 then (some (([] : List (S82)), 7)) else (some (x6_1, 0))) = some (r1, r2) := by rw [if_pos rfl] at H; exact H
              clear H
              have H := H1
              clear H1
              by_cases c9 : (x6_1.length : Int) > 64
              · rw [if_pos c9] at H
                have c9b0 : decide (64 < (x6_1.length : Int)) = true := decide_eq_true c9
                have c9b1 : decide (64 < x6_1.length) = true := decide_eq_true (by omega)
                clear c9
                simp only [Option.some.injEq, Prod.mk.injEq] at H
                obtain ⟨rfl, rfl⟩ := H
                obtain ⟨Ao10, co10, eo10⟩ := Kd.R_slice HO_6.out
                subst eo10
                go_wp2
                go_ret2
                exact ⟨_, by first | rfl | (simp [errW_none, errW_some] <;> rfl) | (simp [*, errW_none, errW_some] <;> rfl), by first | exact Kd.R_nil _ _ _ _ _ | exact Kd.N_nil _ _ _ _ _ | exact Kd.V_nil _ _ _ _ _ | exact Kd.Q_nil _ _ _ _ _ | exact Kd.S_nil _ _ _ _ _, by repeat (first | (with_reducible first | exact HB.out | apply below_alloc | apply pw_below_drewN | apply below_drew1) | exact HB.out)⟩
              · rw [if_neg c9] at H
                have c9b0 : decide (64 < (x6_1.length : Int)) = false := decide_eq_false c9
                have c9b1 : decide (64 < x6_1.length) = false := decide_eq_false (by omega)
                clear c9
                simp only [Option.some.injEq, Prod.mk.injEq] at H
                obtain ⟨rfl, rfl⟩ := H
                obtain ⟨Ao11, co11, eo11⟩ := Kd.R_slice HO_6.out
                subst eo11
                go_wp2
                go_ret2
                exact ⟨_, by first | rfl | (simp [errW_none, errW_some] <;> rfl) | (simp [*, errW_none, errW_some] <;> rfl), by (with_reducible repeat (first | apply Kd.R_alloc | apply Kd.R_drewN | apply Kd.R_drew)); exact HO_6.out, by repeat (first | (with_reducible first | exact HB.out | apply below_alloc | apply pw_below_drewN | apply below_drew1) | exact HB.out)⟩
            · replace c8 := Bool.eq_false_iff.mpr c8
              subst c8
              have H1 : (if x6_1.length < 8796093022208 then (decode_reserves.l0 kj5 l0 (wrap64 (x1_1 + 16)) (x6_1 ++ [(⟨t108, t110⟩ : S82)])) else (none)) = some (r1, r2) := by rw [if_neg (show ¬ (false = true) by decide)] at H; exact H
              clear H
              have H := H1
              clear H1
              by_cases c12 : x6_1.length < 8796093022208
              · rw [if_pos c12] at H
                have LMc12 := Aside0.mk c12
                clear c12
                obtain ⟨y112, hy112⟩ : ∃ y_ : List (S82), y_ = (x6_1 ++ [(⟨t108, t110⟩ : S82)]) := ⟨_, rfl⟩
                replace H : (decode_reserves.l0 kj5 l0 (wrap64 (x1_1 + 16)) y112) = some (r1, r2) := by first | (rw [hy112]; with_reducible exact H) | (have H2_ := (Option.bind_some _ _).symm.trans H; rw [hy112]; with_reducible exact H2_) | (have H2_ := (Option.bind_some _ _).symm.trans H; with_reducible exact H2_) | with_reducible exact H | (rw [hy112]; exact H) | exact H
                have Ny112 := Aside0.mk hy112
                clear hy112
                have H' := Aside0.mk H
                clear H
                go_wp2_with (first | ((with_reducible refine gate_builtin (b := .append) (xs := #[.tmp 40, .tmp 44]) rfl ?_); at_builtin; refine Kd.R_append k82 (w0 := w) w.heap.size rfl (.tmp 40) (.tmp 44) 23 82 (.agg #[(.int .u64 0), (.int .u64 0)]) 16 rfl Try.underlying23 info82 rfl (by decide) (by omega) u6 x6_1 (⟨t108, t110⟩ : S82) [.int .u64 t108, .int .u64 t110] (fun _ => True) (fun _ => False) rfl rfl ?aP (fun _ hk => hk.elim) ?aF ?aO ?aB ?aS ?aL ?_; (case aP => exact k82_mkM _ _ _ (⟨t108, t110⟩ : S82)); (case aB => exact (by repeat (first | (with_reducible first | exact HB.out | apply below_alloc | apply pw_below_drewN | apply below_drew1) | exact HB.out))); (case aF => exact (fun _ _ => trivial)); (case aO => exact (by (with_reducible repeat (first | apply Kd.R_alloc | apply Kd.R_drewN | apply Kd.R_drew)); exact HO_6.out)); (case aS => exact (below_size (by repeat (first | (with_reducible first | exact HB.out | apply below_alloc | apply pw_below_drewN | apply below_drew1) | exact HB.out)))); (case aL => have := LMc12.out; omega); intro v113 w13 ho hb hg hat; rw [← Ny112.out] at ho; have n0_ := Aside0.mk (hb); have n1_ := Aside0.mk (ho); clear HB; clear HO_6; have HB := n0_; have HO114 := n1_; clear n0_ n1_; clear ho hb hg hat))
                go_roundg kj5
                case measure => have := HK1.out; have := HJ5.out; omega
                case rel => exact ⟨(wrap64 (x1_1 + 16)), (y112), (by first | rfl | (simp; done) | (simp [*]; done)), H', ⟨by have := HK1.out; have := HJ5.out; omega⟩, ⟨by (with_reducible repeat (first | apply Kd.R_alloc | apply Kd.R_drewN | apply Kd.R_drew)); exact HO114.out⟩, ⟨by repeat (first | (with_reducible first | exact HB.out | apply below_alloc | apply pw_below_drewN | apply below_drew1) | exact HB.out)⟩⟩
              · rw [if_neg c12] at H
                exact absurd H (by simp)
      · replace c5 := Bool.eq_false_iff.mpr c5
        subst c5
        have H1 : (some (([] : List (S82)), 4)) = some (r1, r2) := by rw [if_neg (show ¬ (false = true) by decide)] at H; exact H
        clear H
        have H := H1
        clear H1
        simp only [Option.some.injEq, Prod.mk.injEq] at H
        obtain ⟨rfl, rfl⟩ := H
        go_wp2_with (first | ((with_reducible refine gate_callee (f := 68) rfl ?_); refine goesL_ (some 16) rfl rfl Try.func68 (by kernel_rfl) rfl #[.slice A0 l0.length c0, .int .i64 x1_1] rfl (by (try simp only [List.map_toArray, List.map_cons, List.map_nil]); first | done | rfl | (simp only [List.length_drop, List.length_take]; rfl)) ?_; (with_reducible refine (words_Get64.calls _ _ l0 x1_1 t108 t109 _ ?side1 ?side2 A3.out).mono ?_); (case side1 => repeat (first | exact (Kd.C_below HR0.out HB.out) | (with_reducible refine Kd.C_alloc ?_ _) | (with_reducible refine Kd.C_drewN ?_ _) | (with_reducible refine Kd.C_drew ?_))); (case side2 => exact HC0.out); rintro e w' ⟨rfl, ⟨nd, rfl⟩⟩; refine ⟨_, rfl, ?_⟩) | ((with_reducible refine gate_callee (f := 68) rfl ?_); refine goesL_ (some 23) rfl rfl Try.func68 (by kernel_rfl) rfl #[.slice A0 l0.length c0, .int .i64 (wrap64 (x1_1 + 8))] rfl (by (try simp only [List.map_toArray, List.map_cons, List.map_nil]); first | done | rfl | (simp only [List.length_drop, List.length_take]; rfl)) ?_; (with_reducible refine (words_Get64.calls _ _ l0 (wrap64 (x1_1 + 8)) t110 false _ ?side1 ?side2 A4.out).mono ?_); (case side1 => repeat (first | exact (Kd.C_below HR0.out (by repeat (first | (with_reducible first | exact HB.out | apply below_alloc | apply pw_below_drewN | apply below_drew1) | exact HB.out))) | (with_reducible refine Kd.C_alloc ?_ _) | (with_reducible refine Kd.C_drewN ?_ _) | (with_reducible refine Kd.C_drew ?_))); (case side2 => exact HC0.out); rintro e w' ⟨rfl, ⟨nd, rfl⟩⟩; refine ⟨_, rfl, ?_⟩))
        go_ret2
        exact ⟨_, by first | rfl | (simp [errW_none, errW_some] <;> rfl) | (simp [*, errW_none, errW_some] <;> rfl), by first | exact Kd.R_nil _ _ _ _ _ | exact Kd.N_nil _ _ _ _ _ | exact Kd.V_nil _ _ _ _ _ | exact Kd.Q_nil _ _ _ _ _ | exact Kd.S_nil _ _ _ _ _, by repeat (first | (with_reducible first | exact HB.out | apply below_alloc | apply pw_below_drewN | apply below_drew1) | exact HB.out)⟩
end Go.Proofs.Ytkopmkinlanhoaa.PE

namespace Go.Proofs.Ytkopmkinlanhoaa.PE
open Go.RowKit Go.Proofs.YtkopmkinlanhoaaW.PrintWords Go.Proofs.YtkopmkinlanhoaaW.PrintLast Go.Proofs.YtkopmkinlanhoaaW.PrintMore
attribute [local go_sem] max2_int min2_int max_two min_two max_three min_three max_four min_four   -- for this text's walks alone
set_option linter.unusedVariables false
set_option linter.unusedSimpArgs false
mutual
def tree_Count.l0 : Nat → Int → Int → List (S27) → Int → Int → Option (Int × Int)
  | 0, _, _, _, _, _ => none
  | k + 1, x4, x5, x14, x15, x16 => if x16 < x15 then (if 0 ≤ x16 then (if x16 < (x14.length : Int) then ((tree_Count.f k ((rd_T27 x14 x16).f0) ((rd_T27 x14 x16).f1) ((rd_T27 x14 x16).f2)).bind fun bt150 => (tree_Count.l0 k (wrap64 (x4 + bt150.1)) (wrap64 (x5 + bt150.2)) x14 x15 (wrap64 (x16 + 1)))) else (none)) else (none)) else (some (x4, x5))
def tree_Count.f : Nat → ByteArray → List (S63) → List (S27) → Option (Int × Int)
  | 0, _, _, _ => none
  | k + 1, a0_0, l0_1, l0_2 => tree_Count.l0 k 1 (l0_1.length : Int) l0_2 (l0_2.length : Int) 0
end
set_option maxHeartbeats 8000000 in
set_option maxRecDepth 100000 in
theorem tree_Count.calls (k : Nat) : ∀ (a0_0 : ByteArray) (A0_1 : Option Addr) (c0_1 : Nat) (l0_1 : List (S63)) (A0_2 : Option Addr) (c0_2 : Nat) (l0_2 : List (S27)) (r1 : Int) (r2 : Int) (w : World) (hr0_1 : Kd.C k63 w A0_1 l0_1.length l0_1) (hc0_1 : l0_1.length ≤ c0_1) (hr0_2 : Kd.C k27 w A0_2 l0_2.length l0_2) (hc0_2 : l0_2.length ≤ c0_2) (h : tree_Count.f k a0_0 l0_1 l0_2 = some (r1, r2)),
    Calls Try.prog 45 #[.agg #[.string a0_0, .slice A0_1 l0_1.length c0_1, .slice A0_2 l0_2.length c0_2]] w fun e w' => e = .returned (.tuple #[.int .i64 r1, .int .i64 r2]) ∧ Below w.heap.size w w' := by
  induction k using Nat.strongRecOn with
  | _ k ih =>
  intro a0_0 A0_1 c0_1 l0_1 A0_2 c0_2 l0_2 r1 r2 w hr0_1 hc0_1 hr0_2 hc0_2 h
  cases k with
  | zero => exact absurd h (by simp [tree_Count.f])
  | succ k =>
  simp only [tree_Count.f] at h
  have hu27 := Try.underlying27
  have HR0_1 := Aside0.mk hr0_1
  have HC0_1 := Aside0.mk hc0_1
  clear hr0_1 hc0_1
  have HR0_2 := Aside0.mk hr0_2
  have HC0_2 := Aside0.mk hc0_2
  clear hr0_2 hc0_2
  have HB := Aside0.mk (Below.refl w.heap.size w)
  have H : (tree_Count.l0 k 1 (l0_1.length : Int) l0_2 (l0_2.length : Int) 0) = some (r1, r2) := h
  clear h
  have H' := Aside0.mk H
  clear H
  go_enter Try.func45, Try.ntmps45
  go_wp2_with (first | ((with_reducible refine gate_dst (N := 1) rfl ?_); refine box_event ?hg (N := 1) ?hd (cs := #[.string a0_0, .slice A0_1 l0_1.length c0_1, .slice A0_2 l0_2.length c0_2]) (t := 27) ?hr ?_; (case hd => rfl); (case hg => rfl); (case hr => first | (go_simp; done) | (go_simp; rfl)); intro gb147 hg w2 hbox hb; have n0_ := Aside0.mk (below_step (by repeat (first | (with_reducible first | exact HB.out | apply below_alloc | apply pw_below_drewN | apply below_drew1) | exact HB.out)) hb); have n1_ := Aside0.mk (hbox); have n2_ := Aside0.mk ((by rw [hg]; exact (below_size (by repeat (first | (with_reducible first | exact HB.out | apply below_alloc | apply pw_below_drewN | apply below_drew1) | exact HB.out))) : w.heap.size ≤ gb147)); have n3_ := Aside0.mk ((by rw [hg]; exact (below_size (by repeat (first | (with_reducible first | exact HB.out | apply below_alloc | apply pw_below_drewN | apply below_drew1) | exact HB.out))) : w.heap.size ≤ gb147)); clear HB; have HB := n0_; have BK147 := n1_; have GW147 := n2_; have GE147 := n3_; clear n0_ n1_ n2_ n3_; clear hb hbox hg; have hcz3_0 : w2.cell? ⟨gb147, 0, none⟩ = some (.string a0_0) := (blk_cell BK147.out 0).trans rfl; have hcz3_1 : w2.cell? ⟨gb147, 1, none⟩ = some (.slice A0_1 l0_1.length c0_1) := (blk_cell BK147.out 1).trans rfl; have hcz3_2 : w2.cell? ⟨gb147, 2, none⟩ = some (.slice A0_2 l0_2.length c0_2) := (blk_cell BK147.out 2).trans rfl; have hfz3_0 := blk_frozen BK147.out 0; have hfz3_1 := blk_frozen BK147.out 1; have hfz3_2 := blk_frozen BK147.out 2))
  repeat (go_quiet (first | ((with_reducible refine gate_dst (N := 1) rfl ?_); refine box_event ?hg (N := 1) ?hd (cs := #[.string a0_0, .slice A0_1 l0_1.length c0_1, .slice A0_2 l0_2.length c0_2]) (t := 27) ?hr ?_; (case hd => rfl); (case hg => rfl); (case hr => first | (go_simp; done) | (go_simp; rfl)); intro gb147 hg w2 hbox hb; have n0_ := Aside0.mk (below_step (by repeat (first | (with_reducible first | exact HB.out | apply below_alloc | apply pw_below_drewN | apply below_drew1) | exact HB.out)) hb); have n1_ := Aside0.mk (hbox); have n2_ := Aside0.mk ((by rw [hg]; exact (below_size (by repeat (first | (with_reducible first | exact HB.out | apply below_alloc | apply pw_below_drewN | apply below_drew1) | exact HB.out))) : w.heap.size ≤ gb147)); have n3_ := Aside0.mk ((by rw [hg]; exact (below_size (by repeat (first | (with_reducible first | exact HB.out | apply below_alloc | apply pw_below_drewN | apply below_drew1) | exact HB.out))) : w.heap.size ≤ gb147)); clear HB; have HB := n0_; have BK147 := n1_; have GW147 := n2_; have GE147 := n3_; clear n0_ n1_ n2_ n3_; clear hb hbox hg; have hcz3_0 : w2.cell? ⟨gb147, 0, none⟩ = some (.string a0_0) := (blk_cell BK147.out 0).trans rfl; have hcz3_1 : w2.cell? ⟨gb147, 1, none⟩ = some (.slice A0_1 l0_1.length c0_1) := (blk_cell BK147.out 1).trans rfl; have hcz3_2 : w2.cell? ⟨gb147, 2, none⟩ = some (.slice A0_2 l0_2.length c0_2) := (blk_cell BK147.out 2).trans rfl; have hfz3_0 := blk_frozen BK147.out 0; have hfz3_1 := blk_frozen BK147.out 1; have hfz3_2 := blk_frozen BK147.out 2)); try go_wp2_with (first | ((with_reducible refine gate_dst (N := 1) rfl ?_); refine box_event ?hg (N := 1) ?hd (cs := #[.string a0_0, .slice A0_1 l0_1.length c0_1, .slice A0_2 l0_2.length c0_2]) (t := 27) ?hr ?_; (case hd => rfl); (case hg => rfl); (case hr => first | (go_simp; done) | (go_simp; rfl)); intro gb147 hg w2 hbox hb; have n0_ := Aside0.mk (below_step (by repeat (first | (with_reducible first | exact HB.out | apply below_alloc | apply pw_below_drewN | apply below_drew1) | exact HB.out)) hb); have n1_ := Aside0.mk (hbox); have n2_ := Aside0.mk ((by rw [hg]; exact (below_size (by repeat (first | (with_reducible first | exact HB.out | apply below_alloc | apply pw_below_drewN | apply below_drew1) | exact HB.out))) : w.heap.size ≤ gb147)); have n3_ := Aside0.mk ((by rw [hg]; exact (below_size (by repeat (first | (with_reducible first | exact HB.out | apply below_alloc | apply pw_below_drewN | apply below_drew1) | exact HB.out))) : w.heap.size ≤ gb147)); clear HB; have HB := n0_; have BK147 := n1_; have GW147 := n2_; have GE147 := n3_; clear n0_ n1_ n2_ n3_; clear hb hbox hg; have hcz3_0 : w2.cell? ⟨gb147, 0, none⟩ = some (.string a0_0) := (blk_cell BK147.out 0).trans rfl; have hcz3_1 : w2.cell? ⟨gb147, 1, none⟩ = some (.slice A0_1 l0_1.length c0_1) := (blk_cell BK147.out 1).trans rfl; have hcz3_2 : w2.cell? ⟨gb147, 2, none⟩ = some (.slice A0_2 l0_2.length c0_2) := (blk_cell BK147.out 2).trans rfl; have hfz3_0 := blk_frozen BK147.out 0; have hfz3_1 := blk_frozen BK147.out 1; have hfz3_2 := blk_frozen BK147.out 2)))
  go_loopg [4, 5, 16] k (fun kq v4 v5 v16 w' => ∃ (x4_1 : Int) (x5_1 : Int) (x16_1 : Int), v4 = .int .i64 x4_1 ∧ v5 = .int .i64 x5_1 ∧ v16 = .int .i64 x16_1 ∧ Aside0 (tree_Count.l0 kq x4_1 x5_1 l0_2 (l0_2.length : Int) x16_1 = some (r1, r2)) ∧ Aside0 (kq ≤ k) ∧ Aside0 (w'.heap[gb147]? = some (.cells #[.string a0_0, (.slice A0_1 l0_1.length c0_1), (.slice A0_2 l0_2.length c0_2)] 27 (0, 0))) ∧ Aside0 (Below w.heap.size w w'))
  case atStart => exact ⟨(1), ((l0_1.length : Int)), (0), (by first | rfl | (simp; done) | (simp [*]; done)), (by first | rfl | (simp; done) | (simp [*]; done)), (by first | rfl | (simp; done) | (simp [*]; done)), H', ⟨Nat.le_refl _⟩, ⟨by (with_reducible repeat (first | refine blk_drewN ?_ _ | refine blk_drew ?_ | refine blk_alloc ?_ _)); exact BK147.out⟩, ⟨by repeat (first | (with_reducible first | exact HB.out | apply below_alloc | apply pw_below_drewN | apply below_drew1 | refine below_set ?_ GE147.out) | exact HB.out)⟩⟩
  case round =>
    clear H'
    try clear p2
    try clear hcz3_0
    try clear hcz3_1
    try clear hcz3_2
    try clear hfz3_0
    try clear hfz3_1
    try clear hfz3_2
    obtain ⟨x4_1, x5_1, x16_1, rfl, rfl, rfl, HA, HK1, BK147, HB⟩ := hrel
    cases gk with
    | zero => exact absurd HA.out (by simp [tree_Count.l0])
    | succ k1 =>
      have H := HA.out
      clear HA
      simp only [tree_Count.l0] at H
      by_cases c4 : x16_1 < (l0_2.length : Int)
      · rw [if_pos c4] at H
        have c4b0 : decide (x16_1 < (l0_2.length : Int)) = true := decide_eq_true c4
        clear c4
        by_cases c5 : 0 ≤ x16_1
        · rw [if_pos c5] at H
          have c5b0 : decide (0 ≤ x16_1) = true := decide_eq_true c5
          clear c5
          by_cases c6 : x16_1 < (l0_2.length : Int)
          · rw [if_pos c6] at H
            have c6b0 : decide (x16_1 < (l0_2.length : Int)) = true := decide_eq_true c6
            clear c6
            replace H := Option.bind_eq_some_iff.mp H
            obtain ⟨⟨t150, t151⟩, A70, H⟩ := H
            replace H : (tree_Count.l0 k1 (wrap64 (x4_1 + t150)) (wrap64 (x5_1 + t151)) l0_2 (l0_2.length : Int) (wrap64 (x16_1 + 1))) = some (r1, r2) := H
            have A7 := Aside0.mk A70
            clear A70
            have H' := Aside0.mk H
            clear H
            have p148 : 0 ≤ (x16_1 : Int) := of_decide_eq_true (by first | (with_reducible assumption) | assumption)
            have q148 : x16_1 < (l0_2.length : Int) := of_decide_eq_true (by first | (with_reducible assumption) | assumption)
            obtain ⟨ad148, A148_1, c148_1, A148_2, c148_2, e148, hx148_0, hx148_1, hx148_2, hl148_1, hi148_1, hl148_2, hi148_2⟩ := at_T27 HR0_2.out x16_1 p148 q148
            cases e148
            replace hx148_0 := (HB.out.cell (World.block_lt_of_cell? w _ hx148_0)).trans hx148_0
            replace hx148_1 := (HB.out.cell (World.block_lt_of_cell? w _ hx148_1)).trans hx148_1
            replace hx148_2 := (HB.out.cell (World.block_lt_of_cell? w _ hx148_2)).trans hx148_2
            have HR148_1 := Aside0.mk hi148_1
            have HC148_1 := Aside0.mk hl148_1
            clear hi148_1 hl148_1
            have HR148_2 := Aside0.mk hi148_2
            have HC148_2 := Aside0.mk hl148_2
            clear hi148_2 hl148_2
            replace p148 := eq_true p148
            replace q148 := eq_true q148
            go_wp2_with (first | ((with_reducible refine gate_dst (N := 7) rfl ?_); refine box_event ?hg (N := 7) ?hd (cs := #[.string (⟨#[]⟩ : ByteArray), .slice none 0 0, .slice none 0 0]) (t := 27) ?hr ?_; (case hd => rfl); (case hg => rfl); (case hr => first | (go_simp; done) | (go_simp; rfl)); intro gb149 hg w8 hbox hb; have n0_ := Aside0.mk (blk_below (g := gb147) (o := .cells #[.string a0_0, .slice A0_1 l0_1.length c0_1, .slice (some ad148) l0_2.length c0_2] 27 (0, 0)) (by (with_reducible repeat (first | refine blk_drewN ?_ _ | refine blk_drew ?_ | refine blk_alloc ?_ _)); exact BK147.out) hb); have n1_ := Aside0.mk (below_step (by repeat (first | (with_reducible first | exact HB.out | apply below_alloc | apply pw_below_drewN | apply below_drew1 | refine below_set ?_ GE147.out) | exact HB.out)) hb); have n2_ := Aside0.mk (hbox); have n3_ := Aside0.mk ((by rw [hg]; exact (below_size (by repeat (first | (with_reducible first | exact HB.out | apply below_alloc | apply pw_below_drewN | apply below_drew1 | refine below_set ?_ GE147.out) | exact HB.out))) : w.heap.size ≤ gb149)); have n4_ := Aside0.mk ((by rw [hg]; exact (below_size (by repeat (first | (with_reducible first | exact HB.out | apply below_alloc | apply pw_below_drewN | apply below_drew1 | refine below_set ?_ GE147.out) | exact HB.out))) : w.heap.size ≤ gb149)); have n5_ := Aside0.mk ((by rw [hg]; exact Nat.ne_of_lt (blk_lt (g := gb147) (o := .cells #[.string a0_0, .slice A0_1 l0_1.length c0_1, .slice (some ad148) l0_2.length c0_2] 27 (0, 0)) (by (with_reducible repeat (first | refine blk_drewN ?_ _ | refine blk_drew ?_ | refine blk_alloc ?_ _)); exact BK147.out)) : gb147 ≠ gb149)); have n6_ := Aside0.mk ((by rw [hg]; exact Nat.ne_of_gt (blk_lt (g := gb147) (o := .cells #[.string a0_0, .slice A0_1 l0_1.length c0_1, .slice (some ad148) l0_2.length c0_2] 27 (0, 0)) (by (with_reducible repeat (first | refine blk_drewN ?_ _ | refine blk_drew ?_ | refine blk_alloc ?_ _)); exact BK147.out)) : gb149 ≠ gb147)); clear BK147; clear HB; have BK147 := n0_; have HB := n1_; have BK149 := n2_; have GW149 := n3_; have GE149 := n4_; have NB147_149 := n5_; have NB149_147 := n6_; clear n0_ n1_ n2_ n3_ n4_ n5_ n6_; clear hb hbox hg; have hnb9 := NB149_147.out; have hnc9 := NB147_149.out; have hcz10_0 : w8.cell? ⟨gb149, 0, none⟩ = some (.string (⟨#[]⟩ : ByteArray)) := (blk_cell BK149.out 0).trans rfl; have hcz10_1 : w8.cell? ⟨gb149, 1, none⟩ = some (.slice none 0 0) := (blk_cell BK149.out 1).trans rfl; have hcz10_2 : w8.cell? ⟨gb149, 2, none⟩ = some (.slice none 0 0) := (blk_cell BK149.out 2).trans rfl; have hfz10_0 := blk_frozen BK149.out 0; have hfz10_1 := blk_frozen BK149.out 1; have hfz10_2 := blk_frozen BK149.out 2) | (go_at_call 45; (with_reducible refine (ih k1 (by have := HK1.out; omega) ((rd_T27 l0_2 x16_1).f0) _ _ ((rd_T27 l0_2 x16_1).f1) _ _ ((rd_T27 l0_2 x16_1).f2) t150 t151 _ ?side1 ?side2 ?side3 ?side4 A7.out).mono ?_); (case side1 => exact Kd.C_below HR148_1.out (by repeat (first | (with_reducible first | exact HB.out | apply below_alloc | apply pw_below_drewN | apply below_drew1 | refine below_set ?_ GE147.out | refine below_set ?_ GE149.out) | exact HB.out))); (case side2 => exact HC148_1.out); (case side3 => exact Kd.C_below HR148_2.out (by repeat (first | (with_reducible first | exact HB.out | apply below_alloc | apply pw_below_drewN | apply below_drew1 | refine below_set ?_ GE147.out | refine below_set ?_ GE149.out) | exact HB.out))); (case side4 => exact HC148_2.out); rintro e w11 ⟨rfl, hb⟩; have n0_ := Aside0.mk (blk_below (g := gb147) (o := .cells #[.string a0_0, .slice A0_1 l0_1.length c0_1, .slice (some ad148) l0_2.length c0_2] 27 (0, 0)) (by (with_reducible repeat (first | refine blk_drewN ?_ _ | refine blk_drew ?_ | refine blk_alloc ?_ _)); refine blk_far ?_ NB147_149.out _; (with_reducible repeat (first | refine blk_drewN ?_ _ | refine blk_drew ?_ | refine blk_alloc ?_ _)); refine blk_far ?_ NB147_149.out _; (with_reducible repeat (first | refine blk_drewN ?_ _ | refine blk_drew ?_ | refine blk_alloc ?_ _)); refine blk_far ?_ NB147_149.out _; (with_reducible repeat (first | refine blk_drewN ?_ _ | refine blk_drew ?_ | refine blk_alloc ?_ _)); exact BK147.out) hb); have n1_ := Aside0.mk (blk_below (g := gb149) (o := .cells #[.string ((rd_T27 l0_2 x16_1).f0), .slice A148_1 ((rd_T27 l0_2 x16_1).f1).length c148_1, .slice A148_2 ((rd_T27 l0_2 x16_1).f2).length c148_2] 27 (0, 0)) (by (with_reducible repeat (first | refine blk_drewN ?_ _ | refine blk_drew ?_ | refine blk_alloc ?_ _)); refine blk_put (cs := #[.string ((rd_T27 l0_2 x16_1).f0), .slice A148_1 ((rd_T27 l0_2 x16_1).f1).length c148_1, .slice none 0 0]) ?_ 2 _ rfl; (with_reducible repeat (first | refine blk_drewN ?_ _ | refine blk_drew ?_ | refine blk_alloc ?_ _)); refine blk_put (cs := #[.string ((rd_T27 l0_2 x16_1).f0), .slice none 0 0, .slice none 0 0]) ?_ 1 _ rfl; (with_reducible repeat (first | refine blk_drewN ?_ _ | refine blk_drew ?_ | refine blk_alloc ?_ _)); refine blk_put (cs := #[.string (⟨#[]⟩ : ByteArray), .slice none 0 0, .slice none 0 0]) ?_ 0 _ rfl; (with_reducible repeat (first | refine blk_drewN ?_ _ | refine blk_drew ?_ | refine blk_alloc ?_ _)); exact BK149.out) hb); have n2_ := Aside0.mk (below_step (by repeat (first | (with_reducible first | exact HB.out | apply below_alloc | apply pw_below_drewN | apply below_drew1 | refine below_set ?_ GE147.out | refine below_set ?_ GE149.out) | exact HB.out)) hb); clear BK147; clear BK149; clear HB; have BK147 := n0_; have BK149 := n1_; have HB := n2_; clear n0_ n1_ n2_; (try clear hb); (try clear hb2); (try clear hk); (try clear hi)))
            repeat (go_quiet (first | ((with_reducible refine gate_dst (N := 7) rfl ?_); refine box_event ?hg (N := 7) ?hd (cs := #[.string (⟨#[]⟩ : ByteArray), .slice none 0 0, .slice none 0 0]) (t := 27) ?hr ?_; (case hd => rfl); (case hg => rfl); (case hr => first | (go_simp; done) | (go_simp; rfl)); intro gb149 hg w8 hbox hb; have n0_ := Aside0.mk (blk_below (g := gb147) (o := .cells #[.string a0_0, .slice A0_1 l0_1.length c0_1, .slice (some ad148) l0_2.length c0_2] 27 (0, 0)) (by (with_reducible repeat (first | refine blk_drewN ?_ _ | refine blk_drew ?_ | refine blk_alloc ?_ _)); exact BK147.out) hb); have n1_ := Aside0.mk (below_step (by repeat (first | (with_reducible first | exact HB.out | apply below_alloc | apply pw_below_drewN | apply below_drew1 | refine below_set ?_ GE147.out) | exact HB.out)) hb); have n2_ := Aside0.mk (hbox); have n3_ := Aside0.mk ((by rw [hg]; exact (below_size (by repeat (first | (with_reducible first | exact HB.out | apply below_alloc | apply pw_below_drewN | apply below_drew1 | refine below_set ?_ GE147.out) | exact HB.out))) : w.heap.size ≤ gb149)); have n4_ := Aside0.mk ((by rw [hg]; exact (below_size (by repeat (first | (with_reducible first | exact HB.out | apply below_alloc | apply pw_below_drewN | apply below_drew1 | refine below_set ?_ GE147.out) | exact HB.out))) : w.heap.size ≤ gb149)); have n5_ := Aside0.mk ((by rw [hg]; exact Nat.ne_of_lt (blk_lt (g := gb147) (o := .cells #[.string a0_0, .slice A0_1 l0_1.length c0_1, .slice (some ad148) l0_2.length c0_2] 27 (0, 0)) (by (with_reducible repeat (first | refine blk_drewN ?_ _ | refine blk_drew ?_ | refine blk_alloc ?_ _)); exact BK147.out)) : gb147 ≠ gb149)); have n6_ := Aside0.mk ((by rw [hg]; exact Nat.ne_of_gt (blk_lt (g := gb147) (o := .cells #[.string a0_0, .slice A0_1 l0_1.length c0_1, .slice (some ad148) l0_2.length c0_2] 27 (0, 0)) (by (with_reducible repeat (first | refine blk_drewN ?_ _ | refine blk_drew ?_ | refine blk_alloc ?_ _)); exact BK147.out)) : gb149 ≠ gb147)); clear BK147; clear HB; have BK147 := n0_; have HB := n1_; have BK149 := n2_; have GW149 := n3_; have GE149 := n4_; have NB147_149 := n5_; have NB149_147 := n6_; clear n0_ n1_ n2_ n3_ n4_ n5_ n6_; clear hb hbox hg; have hnb9 := NB149_147.out; have hnc9 := NB147_149.out; have hcz10_0 : w8.cell? ⟨gb149, 0, none⟩ = some (.string (⟨#[]⟩ : ByteArray)) := (blk_cell BK149.out 0).trans rfl; have hcz10_1 : w8.cell? ⟨gb149, 1, none⟩ = some (.slice none 0 0) := (blk_cell BK149.out 1).trans rfl; have hcz10_2 : w8.cell? ⟨gb149, 2, none⟩ = some (.slice none 0 0) := (blk_cell BK149.out 2).trans rfl; have hfz10_0 := blk_frozen BK149.out 0; have hfz10_1 := blk_frozen BK149.out 1; have hfz10_2 := blk_frozen BK149.out 2) | (go_at_call 45; (with_reducible refine (ih k1 (by have := HK1.out; omega) ((rd_T27 l0_2 x16_1).f0) _ _ ((rd_T27 l0_2 x16_1).f1) _ _ ((rd_T27 l0_2 x16_1).f2) t150 t151 _ ?side1 ?side2 ?side3 ?side4 A7.out).mono ?_); (case side1 => exact Kd.C_below HR148_1.out (by repeat (first | (with_reducible first | exact HB.out | apply below_alloc | apply pw_below_drewN | apply below_drew1 | refine below_set ?_ GE147.out | refine below_set ?_ GE149.out) | exact HB.out))); (case side2 => exact HC148_1.out); (case side3 => exact Kd.C_below HR148_2.out (by repeat (first | (with_reducible first | exact HB.out | apply below_alloc | apply pw_below_drewN | apply below_drew1 | refine below_set ?_ GE147.out | refine below_set ?_ GE149.out) | exact HB.out))); (case side4 => exact HC148_2.out); rintro e w11 ⟨rfl, hb⟩; have n0_ := Aside0.mk (blk_below (g := gb147) (o := .cells #[.string a0_0, .slice A0_1 l0_1.length c0_1, .slice (some ad148) l0_2.length c0_2] 27 (0, 0)) (by (with_reducible repeat (first | refine blk_drewN ?_ _ | refine blk_drew ?_ | refine blk_alloc ?_ _)); refine blk_far ?_ NB147_149.out _; (with_reducible repeat (first | refine blk_drewN ?_ _ | refine blk_drew ?_ | refine blk_alloc ?_ _)); refine blk_far ?_ NB147_149.out _; (with_reducible repeat (first | refine blk_drewN ?_ _ | refine blk_drew ?_ | refine blk_alloc ?_ _)); refine blk_far ?_ NB147_149.out _; (with_reducible repeat (first | refine blk_drewN ?_ _ | refine blk_drew ?_ | refine blk_alloc ?_ _)); exact BK147.out) hb); have n1_ := Aside0.mk (blk_below (g := gb149) (o := .cells #[.string ((rd_T27 l0_2 x16_1).f0), .slice A148_1 ((rd_T27 l0_2 x16_1).f1).length c148_1, .slice A148_2 ((rd_T27 l0_2 x16_1).f2).length c148_2] 27 (0, 0)) (by (with_reducible repeat (first | refine blk_drewN ?_ _ | refine blk_drew ?_ | refine blk_alloc ?_ _)); refine blk_put (cs := #[.string ((rd_T27 l0_2 x16_1).f0), .slice A148_1 ((rd_T27 l0_2 x16_1).f1).length c148_1, .slice none 0 0]) ?_ 2 _ rfl; (with_reducible repeat (first | refine blk_drewN ?_ _ | refine blk_drew ?_ | refine blk_alloc ?_ _)); refine blk_put (cs := #[.string ((rd_T27 l0_2 x16_1).f0), .slice none 0 0, .slice none 0 0]) ?_ 1 _ rfl; (with_reducible repeat (first | refine blk_drewN ?_ _ | refine blk_drew ?_ | refine blk_alloc ?_ _)); refine blk_put (cs := #[.string (⟨#[]⟩ : ByteArray), .slice none 0 0, .slice none 0 0]) ?_ 0 _ rfl; (with_reducible repeat (first | refine blk_drewN ?_ _ | refine blk_drew ?_ | refine blk_alloc ?_ _)); exact BK149.out) hb); have n2_ := Aside0.mk (below_step (by repeat (first | (with_reducible first | exact HB.out | apply below_alloc | apply pw_below_drewN | apply below_drew1 | refine below_set ?_ GE147.out | refine below_set ?_ GE149.out) | exact HB.out)) hb); clear BK147; clear BK149; clear HB; have BK147 := n0_; have BK149 := n1_; have HB := n2_; clear n0_ n1_ n2_; (try clear hb); (try clear hb2); (try clear hk); (try clear hi))); try go_wp2_with (first | ((with_reducible refine gate_dst (N := 7) rfl ?_); refine box_event ?hg (N := 7) ?hd (cs := #[.string (⟨#[]⟩ : ByteArray), .slice none 0 0, .slice none 0 0]) (t := 27) ?hr ?_; (case hd => rfl); (case hg => rfl); (case hr => first | (go_simp; done) | (go_simp; rfl)); intro gb149 hg w8 hbox hb; have n0_ := Aside0.mk (blk_below (g := gb147) (o := .cells #[.string a0_0, .slice A0_1 l0_1.length c0_1, .slice (some ad148) l0_2.length c0_2] 27 (0, 0)) (by (with_reducible repeat (first | refine blk_drewN ?_ _ | refine blk_drew ?_ | refine blk_alloc ?_ _)); exact BK147.out) hb); have n1_ := Aside0.mk (below_step (by repeat (first | (with_reducible first | exact HB.out | apply below_alloc | apply pw_below_drewN | apply below_drew1 | refine below_set ?_ GE147.out) | exact HB.out)) hb); have n2_ := Aside0.mk (hbox); have n3_ := Aside0.mk ((by rw [hg]; exact (below_size (by repeat (first | (with_reducible first | exact HB.out | apply below_alloc | apply pw_below_drewN | apply below_drew1 | refine below_set ?_ GE147.out) | exact HB.out))) : w.heap.size ≤ gb149)); have n4_ := Aside0.mk ((by rw [hg]; exact (below_size (by repeat (first | (with_reducible first | exact HB.out | apply below_alloc | apply pw_below_drewN | apply below_drew1 | refine below_set ?_ GE147.out) | exact HB.out))) : w.heap.size ≤ gb149)); have n5_ := Aside0.mk ((by rw [hg]; exact Nat.ne_of_lt (blk_lt (g := gb147) (o := .cells #[.string a0_0, .slice A0_1 l0_1.length c0_1, .slice (some ad148) l0_2.length c0_2] 27 (0, 0)) (by (with_reducible repeat (first | refine blk_drewN ?_ _ | refine blk_drew ?_ | refine blk_alloc ?_ _)); exact BK147.out)) : gb147 ≠ gb149)); have n6_ := Aside0.mk ((by rw [hg]; exact Nat.ne_of_gt (blk_lt (g := gb147) (o := .cells #[.string a0_0, .slice A0_1 l0_1.length c0_1, .slice (some ad148) l0_2.length c0_2] 27 (0, 0)) (by (with_reducible repeat (first | refine blk_drewN ?_ _ | refine blk_drew ?_ | refine blk_alloc ?_ _)); exact BK147.out)) : gb149 ≠ gb147)); clear BK147; clear HB; have BK147 := n0_; have HB := n1_; have BK149 := n2_; have GW149 := n3_; have GE149 := n4_; have NB147_149 := n5_; have NB149_147 := n6_; clear n0_ n1_ n2_ n3_ n4_ n5_ n6_; clear hb hbox hg; have hnb9 := NB149_147.out; have hnc9 := NB147_149.out; have hcz10_0 : w8.cell? ⟨gb149, 0, none⟩ = some (.string (⟨#[]⟩ : ByteArray)) := (blk_cell BK149.out 0).trans rfl; have hcz10_1 : w8.cell? ⟨gb149, 1, none⟩ = some (.slice none 0 0) := (blk_cell BK149.out 1).trans rfl; have hcz10_2 : w8.cell? ⟨gb149, 2, none⟩ = some (.slice none 0 0) := (blk_cell BK149.out 2).trans rfl; have hfz10_0 := blk_frozen BK149.out 0; have hfz10_1 := blk_frozen BK149.out 1; have hfz10_2 := blk_frozen BK149.out 2) | (go_at_call 45; (with_reducible refine (ih k1 (by have := HK1.out; omega) ((rd_T27 l0_2 x16_1).f0) _ _ ((rd_T27 l0_2 x16_1).f1) _ _ ((rd_T27 l0_2 x16_1).f2) t150 t151 _ ?side1 ?side2 ?side3 ?side4 A7.out).mono ?_); (case side1 => exact Kd.C_below HR148_1.out (by repeat (first | (with_reducible first | exact HB.out | apply below_alloc | apply pw_below_drewN | apply below_drew1 | refine below_set ?_ GE147.out | refine below_set ?_ GE149.out) | exact HB.out))); (case side2 => exact HC148_1.out); (case side3 => exact Kd.C_below HR148_2.out (by repeat (first | (with_reducible first | exact HB.out | apply below_alloc | apply pw_below_drewN | apply below_drew1 | refine below_set ?_ GE147.out | refine below_set ?_ GE149.out) | exact HB.out))); (case side4 => exact HC148_2.out); rintro e w11 ⟨rfl, hb⟩; have n0_ := Aside0.mk (blk_below (g := gb147) (o := .cells #[.string a0_0, .slice A0_1 l0_1.length c0_1, .slice (some ad148) l0_2.length c0_2] 27 (0, 0)) (by (with_reducible repeat (first | refine blk_drewN ?_ _ | refine blk_drew ?_ | refine blk_alloc ?_ _)); refine blk_far ?_ NB147_149.out _; (with_reducible repeat (first | refine blk_drewN ?_ _ | refine blk_drew ?_ | refine blk_alloc ?_ _)); refine blk_far ?_ NB147_149.out _; (with_reducible repeat (first | refine blk_drewN ?_ _ | refine blk_drew ?_ | refine blk_alloc ?_ _)); refine blk_far ?_ NB147_149.out _; (with_reducible repeat (first | refine blk_drewN ?_ _ | refine blk_drew ?_ | refine blk_alloc ?_ _)); exact BK147.out) hb); have n1_ := Aside0.mk (blk_below (g := gb149) (o := .cells #[.string ((rd_T27 l0_2 x16_1).f0), .slice A148_1 ((rd_T27 l0_2 x16_1).f1).length c148_1, .slice A148_2 ((rd_T27 l0_2 x16_1).f2).length c148_2] 27 (0, 0)) (by (with_reducible repeat (first | refine blk_drewN ?_ _ | refine blk_drew ?_ | refine blk_alloc ?_ _)); refine blk_put (cs := #[.string ((rd_T27 l0_2 x16_1).f0), .slice A148_1 ((rd_T27 l0_2 x16_1).f1).length c148_1, .slice none 0 0]) ?_ 2 _ rfl; (with_reducible repeat (first | refine blk_drewN ?_ _ | refine blk_drew ?_ | refine blk_alloc ?_ _)); refine blk_put (cs := #[.string ((rd_T27 l0_2 x16_1).f0), .slice none 0 0, .slice none 0 0]) ?_ 1 _ rfl; (with_reducible repeat (first | refine blk_drewN ?_ _ | refine blk_drew ?_ | refine blk_alloc ?_ _)); refine blk_put (cs := #[.string (⟨#[]⟩ : ByteArray), .slice none 0 0, .slice none 0 0]) ?_ 0 _ rfl; (with_reducible repeat (first | refine blk_drewN ?_ _ | refine blk_drew ?_ | refine blk_alloc ?_ _)); exact BK149.out) hb); have n2_ := Aside0.mk (below_step (by repeat (first | (with_reducible first | exact HB.out | apply below_alloc | apply pw_below_drewN | apply below_drew1 | refine below_set ?_ GE147.out | refine below_set ?_ GE149.out) | exact HB.out)) hb); clear BK147; clear BK149; clear HB; have BK147 := n0_; have BK149 := n1_; have HB := n2_; clear n0_ n1_ n2_; (try clear hb); (try clear hb2); (try clear hk); (try clear hi))))
            go_roundg k1
            case measure => have := HK1.out; omega
            case rel => exact ⟨(wrap64 (x4_1 + t150)), (wrap64 (x5_1 + t151)), (wrap64 (x16_1 + 1)), (by first | rfl | (simp; done) | (simp [*]; done)), (by first | rfl | (simp; done) | (simp [*]; done)), (by first | rfl | (simp; done) | (simp [*]; done)), H', ⟨by have := HK1.out; omega⟩, ⟨by (with_reducible repeat (first | refine blk_drewN ?_ _ | refine blk_drew ?_ | refine blk_alloc ?_ _)); exact BK147.out⟩, ⟨by repeat (first | (with_reducible first | exact HB.out | apply below_alloc | apply pw_below_drewN | apply below_drew1 | refine below_set ?_ GE147.out | refine below_set ?_ GE149.out) | exact HB.out)⟩⟩
          · rw [if_neg c6] at H
            exact absurd H (by simp)
        · rw [if_neg c5] at H
          exact absurd H (by simp)
      · rw [if_neg c4] at H
        have c4b0 : decide (x16_1 < (l0_2.length : Int)) = false := decide_eq_false c4
        clear c4
        simp only [Option.some.injEq, Prod.mk.injEq] at H
        obtain ⟨rfl, rfl⟩ := H
        go_wp2
        repeat (go_quiet (fail); try go_wp2)
        go_ret2
        exact ⟨by first | rfl | (simp [errW_none, errW_some] <;> rfl) | (simp [*, errW_none, errW_some] <;> rfl), by repeat (first | (with_reducible first | exact HB.out | apply below_alloc | apply pw_below_drewN | apply below_drew1 | refine below_set ?_ GE147.out) | exact HB.out)⟩
end Go.Proofs.Ytkopmkinlanhoaa.PE

namespace Go.Proofs.Ytkopmkinlanhoaa.PE
open Go.RowKit Go.Proofs.YtkopmkinlanhoaaW.PrintWords Go.Proofs.YtkopmkinlanhoaaW.PrintLast Go.Proofs.YtkopmkinlanhoaaW.PrintMore
attribute [local go_sem] max2_int min2_int max_two min_two max_three min_three max_four min_four   -- for this text's walks alone
set_option linter.unusedVariables false
set_option linter.unusedSimpArgs false
attribute [local go_sem high] eqA82
def api_Reserve_91.l0 : Nat → List (S82) → Int → Int → Int → Int → Option (Int)
  | 0, _, _, _, _, _ => none
  | k + 1, x0, x7, x8, x396000, x396001 => if x8 < x7 then (if 0 ≤ x8 then (if x8 < (x0.length : Int) then (if (x396000 == ((rd_T82 x0 x8).f0) && (x396001 == ((rd_T82 x0 x8).f1))) = true then (some x8) else (api_Reserve_91.l0 k x0 x7 (wrap64 (x8 + 1)) x396000 x396001)) else (none)) else (none)) else (some (-1))
def api_Reserve_91.f (k : Nat) (l0 : List (S82)) (a1_0 : Int) (a1_1 : Int) : Option (Int) := api_Reserve_91.l0 k l0 (l0.length : Int) 0 a1_0 a1_1
set_option maxHeartbeats 8000000 in
set_option maxRecDepth 100000 in
theorem api_Reserve_91.calls (k : Nat) (A0 : Option Addr) (c0 : Nat) (l0 : List (S82)) (a1_0 : Int) (a1_1 : Int) (r : Int) (w : World) (hr0 : Kd.C k82 w A0 l0.length l0) (hc0 : l0.length ≤ c0) (h : api_Reserve_91.f k l0 a1_0 a1_1 = some r) :
    Calls Try.prog 91 #[.slice A0 l0.length c0, .agg #[.int .u64 a1_0, .int .u64 a1_1]] w fun e w' => e = .returned (.int .i64 r) ∧ Below w.heap.size w w' := by
  have hu82 := Try.underlying82
  have HR0 := Aside0.mk hr0
  have HC0 := Aside0.mk hc0
  clear hr0 hc0
  have HB := Aside0.mk (Below.refl w.heap.size w)
  have H : (api_Reserve_91.l0 k l0 (l0.length : Int) 0 a1_0 a1_1) = some r := h
  clear h
  have H' := Aside0.mk H
  clear H
  go_enter Try.func91, Try.ntmps91
  go_wp2_with (first | ((with_reducible refine gate_dst (N := 3) rfl ?_); refine box_event ?hg (N := 3) ?hd (cs := #[.int .u64 a1_0, .int .u64 a1_1]) (t := 82) ?hr ?_; (case hd => rfl); (case hg => rfl); (case hr => first | (go_simp; done) | (go_simp; rfl)); intro gb395 hg w3 hbox hb; have n0_ := Aside0.mk (below_step (by repeat (first | (with_reducible first | exact HB.out | apply below_alloc | apply pw_below_drewN | apply below_drew1) | exact HB.out)) hb); have n1_ := Aside0.mk (hbox); have n2_ := Aside0.mk ((by rw [hg]; exact (below_size (by repeat (first | (with_reducible first | exact HB.out | apply below_alloc | apply pw_below_drewN | apply below_drew1) | exact HB.out))) : w.heap.size ≤ gb395)); have n3_ := Aside0.mk ((by rw [hg]; exact (below_size (by repeat (first | (with_reducible first | exact HB.out | apply below_alloc | apply pw_below_drewN | apply below_drew1) | exact HB.out))) : w.heap.size ≤ gb395)); clear HB; have HB := n0_; have BK395 := n1_; have GW395 := n2_; have GE395 := n3_; clear n0_ n1_ n2_ n3_; clear hb hbox hg))
  repeat (go_quiet (first | ((with_reducible refine gate_dst (N := 3) rfl ?_); refine box_event ?hg (N := 3) ?hd (cs := #[.int .u64 a1_0, .int .u64 a1_1]) (t := 82) ?hr ?_; (case hd => rfl); (case hg => rfl); (case hr => first | (go_simp; done) | (go_simp; rfl)); intro gb395 hg w3 hbox hb; have n0_ := Aside0.mk (below_step (by repeat (first | (with_reducible first | exact HB.out | apply below_alloc | apply pw_below_drewN | apply below_drew1) | exact HB.out)) hb); have n1_ := Aside0.mk (hbox); have n2_ := Aside0.mk ((by rw [hg]; exact (below_size (by repeat (first | (with_reducible first | exact HB.out | apply below_alloc | apply pw_below_drewN | apply below_drew1) | exact HB.out))) : w.heap.size ≤ gb395)); have n3_ := Aside0.mk ((by rw [hg]; exact (below_size (by repeat (first | (with_reducible first | exact HB.out | apply below_alloc | apply pw_below_drewN | apply below_drew1) | exact HB.out))) : w.heap.size ≤ gb395)); clear HB; have HB := n0_; have BK395 := n1_; have GW395 := n2_; have GE395 := n3_; clear n0_ n1_ n2_ n3_; clear hb hbox hg)); try go_wp2_with (first | ((with_reducible refine gate_dst (N := 3) rfl ?_); refine box_event ?hg (N := 3) ?hd (cs := #[.int .u64 a1_0, .int .u64 a1_1]) (t := 82) ?hr ?_; (case hd => rfl); (case hg => rfl); (case hr => first | (go_simp; done) | (go_simp; rfl)); intro gb395 hg w3 hbox hb; have n0_ := Aside0.mk (below_step (by repeat (first | (with_reducible first | exact HB.out | apply below_alloc | apply pw_below_drewN | apply below_drew1) | exact HB.out)) hb); have n1_ := Aside0.mk (hbox); have n2_ := Aside0.mk ((by rw [hg]; exact (below_size (by repeat (first | (with_reducible first | exact HB.out | apply below_alloc | apply pw_below_drewN | apply below_drew1) | exact HB.out))) : w.heap.size ≤ gb395)); have n3_ := Aside0.mk ((by rw [hg]; exact (below_size (by repeat (first | (with_reducible first | exact HB.out | apply below_alloc | apply pw_below_drewN | apply below_drew1) | exact HB.out))) : w.heap.size ≤ gb395)); clear HB; have HB := n0_; have BK395 := n1_; have GW395 := n2_; have GE395 := n3_; clear n0_ n1_ n2_ n3_; clear hb hbox hg)))
  go_loopg [8] k (fun kq v8 w' => ∃ (x8_1 : Int), v8 = .int .i64 x8_1 ∧ Aside0 (api_Reserve_91.l0 kq l0 (l0.length : Int) x8_1 a1_0 a1_1 = some r) ∧ Aside0 (kq ≤ k) ∧ Aside0 (w'.heap[gb395]? = some (.cells #[.int .u64 a1_0, .int .u64 a1_1] 82 (0, 0))) ∧ Aside0 (Below w.heap.size w w'))
  case atStart => exact ⟨(0), (by first | rfl | (simp; done) | (simp [*]; done)), H', ⟨Nat.le_refl _⟩, ⟨by (with_reducible repeat (first | refine blk_drewN ?_ _ | refine blk_drew ?_ | refine blk_alloc ?_ _)); exact BK395.out⟩, ⟨by repeat (first | (with_reducible first | exact HB.out | apply below_alloc | apply pw_below_drewN | apply below_drew1 | refine below_set ?_ GE395.out) | exact HB.out)⟩⟩
  case round =>
    clear H'
    try clear p2
    obtain ⟨x8_1, rfl, HA, HK1, BK395, HB⟩ := hrel
    cases gk with
    | zero => exact absurd HA.out (by simp [api_Reserve_91.l0])
    | succ k1 =>
      have H := HA.out
      clear HA
      simp only [api_Reserve_91.l0] at H
      by_cases c4 : x8_1 < (l0.length : Int)
      · rw [if_pos c4] at H
        have c4b0 : decide (x8_1 < (l0.length : Int)) = true := decide_eq_true c4
        clear c4
        by_cases c5 : 0 ≤ x8_1
        · rw [if_pos c5] at H
          have c5b0 : decide (0 ≤ x8_1) = true := decide_eq_true c5
          clear c5
          by_cases c6 : x8_1 < (l0.length : Int)
          · rw [if_pos c6] at H
            have c6b0 : decide (x8_1 < (l0.length : Int)) = true := decide_eq_true c6
            clear c6
            by_cases c7 : (a1_0 == ((rd_T82 l0 x8_1).f0) && (a1_1 == ((rd_T82 l0 x8_1).f1))) = true
            · rw [if_pos c7] at H
              have c7b0 : (a1_0 == ((rd_T82 l0 x8_1).f0) && (a1_1 == ((rd_T82 l0 x8_1).f1))) = true := c7
              (try (have c7b1 : decide (a1_0 = ((rd_T82 l0 x8_1).f0) && (a1_1 == ((rd_T82 l0 x8_1).f1))) = true := by simpa using c7))
              (try (have c7b2 : (a1_0 == ((rd_T82 l0 x8_1).f0) && (a1_1 == ((rd_T82 l0 x8_1).f1))) = true := by simpa using c7))
              clear c7
              obtain rfl := Option.some.inj H
              have hcz8_0 : wr.cell? ⟨gb395, 0, none⟩ = some (.int .u64 a1_0) := (blk_cell BK395.out 0).trans rfl
              have hcz8_1 : wr.cell? ⟨gb395, 1, none⟩ = some (.int .u64 a1_1) := (blk_cell BK395.out 1).trans rfl
              have hfz8_0 := blk_frozen BK395.out 0
              have hfz8_1 := blk_frozen BK395.out 1
              have p396 : 0 ≤ (x8_1 : Int) := of_decide_eq_true (by first | (with_reducible assumption) | assumption)
              have q396 : x8_1 < (l0.length : Int) := of_decide_eq_true (by first | (with_reducible assumption) | assumption)
              obtain ⟨ad396, e396, hx396_0, hx396_1⟩ := at_T82 HR0.out x8_1 p396 q396
              cases e396
              replace hx396_0 := (HB.out.cell (World.block_lt_of_cell? w _ hx396_0)).trans hx396_0
              replace hx396_1 := (HB.out.cell (World.block_lt_of_cell? w _ hx396_1)).trans hx396_1
              replace p396 := eq_true p396
              replace q396 := eq_true q396
              go_wp2
              repeat (go_quiet (fail); try go_wp2)
              go_ret
              exact ⟨by first | rfl | (simp [errW_none, errW_some] <;> rfl) | (simp [*, errW_none, errW_some] <;> rfl), by repeat (first | (with_reducible first | exact HB.out | apply below_alloc | apply pw_below_drewN | apply below_drew1 | refine below_set ?_ GE395.out) | exact HB.out)⟩
            · rw [if_neg c7] at H
              have c7b0 : (a1_0 == ((rd_T82 l0 x8_1).f0) && (a1_1 == ((rd_T82 l0 x8_1).f1))) = false := by simpa using c7
              (try (have c7b1 : decide (a1_0 = ((rd_T82 l0 x8_1).f0) && (a1_1 == ((rd_T82 l0 x8_1).f1))) = false := by simpa using c7))
              (try (have c7b2 : (a1_0 == ((rd_T82 l0 x8_1).f0) && (a1_1 == ((rd_T82 l0 x8_1).f1))) = false := by simpa using c7))
              (try (have c7b3 : ¬ (a1_0 = ((rd_T82 l0 x8_1).f0) && (a1_1 == ((rd_T82 l0 x8_1).f1))) := by simpa using c7))
              clear c7
              have H' := Aside0.mk H
              clear H
              have hcz9_0 : wr.cell? ⟨gb395, 0, none⟩ = some (.int .u64 a1_0) := (blk_cell BK395.out 0).trans rfl
              have hcz9_1 : wr.cell? ⟨gb395, 1, none⟩ = some (.int .u64 a1_1) := (blk_cell BK395.out 1).trans rfl
              have hfz9_0 := blk_frozen BK395.out 0
              have hfz9_1 := blk_frozen BK395.out 1
              have p396 : 0 ≤ (x8_1 : Int) := of_decide_eq_true (by first | (with_reducible assumption) | assumption)
              have q396 : x8_1 < (l0.length : Int) := of_decide_eq_true (by first | (with_reducible assumption) | assumption)
              obtain ⟨ad396, e396, hx396_0, hx396_1⟩ := at_T82 HR0.out x8_1 p396 q396
              cases e396
              replace hx396_0 := (HB.out.cell (World.block_lt_of_cell? w _ hx396_0)).trans hx396_0
              replace hx396_1 := (HB.out.cell (World.block_lt_of_cell? w _ hx396_1)).trans hx396_1
              replace p396 := eq_true p396
              replace q396 := eq_true q396
              go_wp2
              repeat (go_quiet (fail); try go_wp2)
              go_roundg k1
              case measure => have := HK1.out; omega
              case rel => exact ⟨(wrap64 (x8_1 + 1)), (by first | rfl | (simp; done) | (simp [*]; done)), H', ⟨by have := HK1.out; omega⟩, ⟨by (with_reducible repeat (first | refine blk_drewN ?_ _ | refine blk_drew ?_ | refine blk_alloc ?_ _)); exact BK395.out⟩, ⟨by repeat (first | (with_reducible first | exact HB.out | apply below_alloc | apply pw_below_drewN | apply below_drew1 | refine below_set ?_ GE395.out) | exact HB.out)⟩⟩
          · rw [if_neg c6] at H
            exact absurd H (by simp)
        · rw [if_neg c5] at H
          exact absurd H (by simp)
      · rw [if_neg c4] at H
        have c4b0 : decide (x8_1 < (l0.length : Int)) = false := decide_eq_false c4
        clear c4
        obtain rfl := Option.some.inj H
        go_wp2
        repeat (go_quiet (fail); try go_wp2)
        go_ret
        exact ⟨by first | rfl | (simp [errW_none, errW_some] <;> rfl) | (simp [*, errW_none, errW_some] <;> rfl), by repeat (first | (with_reducible first | exact HB.out | apply below_alloc | apply pw_below_drewN | apply below_drew1 | refine below_set ?_ GE395.out) | exact HB.out)⟩
end Go.Proofs.Ytkopmkinlanhoaa.PE

namespace Go.Proofs.Ytkopmkinlanhoaa.PE
open Go.RowKit Go.Proofs.YtkopmkinlanhoaaW.PrintWords Go.Proofs.YtkopmkinlanhoaaW.PrintLast Go.Proofs.YtkopmkinlanhoaaW.PrintMore
attribute [local go_sem] max2_int min2_int max_two min_two max_three min_three max_four min_four   -- for this text's walks alone
set_option linter.unusedVariables false
set_option linter.unusedSimpArgs false
def api_Reserve_73.f (k : Nat) (l0 : List (S82)) (a1_0 : Int) (a1_1 : Int) : Option (Bool) := (api_Reserve_91.f k l0 a1_0 a1_1).bind fun t398 => (some (decide (t398 ≥ 0)))
set_option maxHeartbeats 8000000 in
set_option maxRecDepth 100000 in
theorem api_Reserve_73.calls (k : Nat) (A0 : Option Addr) (c0 : Nat) (l0 : List (S82)) (a1_0 : Int) (a1_1 : Int) (r : Bool) (w : World) (hr0 : Kd.C k82 w A0 l0.length l0) (hc0 : l0.length ≤ c0) (h : api_Reserve_73.f k l0 a1_0 a1_1 = some r) :
    Calls Try.prog 73 #[.slice A0 l0.length c0, .agg #[.int .u64 a1_0, .int .u64 a1_1]] w fun e w' => e = .returned (.bool r) ∧ Below w.heap.size w w' := by
  have hu82 := Try.underlying82
  have HR0 := Aside0.mk hr0
  have HC0 := Aside0.mk hc0
  clear hr0 hc0
  have HB := Aside0.mk (Below.refl w.heap.size w)
  have H : ((api_Reserve_91.f k l0 a1_0 a1_1).bind fun t398 => (some (decide (t398 ≥ 0)))) = some r := h
  clear h
  replace H := Option.bind_eq_some_iff.mp H
  obtain ⟨t398, A30, H⟩ := H
  replace H : (some (decide (t398 ≥ 0))) = some r := H
  have A3 := Aside0.mk A30
  clear A30
  obtain rfl := Option.some.inj H
  go_enter Try.func73, Try.ntmps73
  go_wp2_with (first | ((with_reducible refine gate_dst (N := 3) rfl ?_); refine box_event ?hg (N := 3) ?hd (cs := #[.int .u64 a1_0, .int .u64 a1_1]) (t := 82) ?hr ?_; (case hd => rfl); (case hg => rfl); (case hr => first | (go_simp; done) | (go_simp; rfl)); intro gb397 hg w4 hbox hb; have n0_ := Aside0.mk (below_step (by repeat (first | (with_reducible first | exact HB.out | apply below_alloc | apply pw_below_drewN | apply below_drew1) | exact HB.out)) hb); have n1_ := Aside0.mk (hbox); have n2_ := Aside0.mk ((by rw [hg]; exact (below_size (by repeat (first | (with_reducible first | exact HB.out | apply below_alloc | apply pw_below_drewN | apply below_drew1) | exact HB.out))) : w.heap.size ≤ gb397)); have n3_ := Aside0.mk ((by rw [hg]; exact (below_size (by repeat (first | (with_reducible first | exact HB.out | apply below_alloc | apply pw_below_drewN | apply below_drew1) | exact HB.out))) : w.heap.size ≤ gb397)); clear HB; have HB := n0_; have BK397 := n1_; have GW397 := n2_; have GE397 := n3_; clear n0_ n1_ n2_ n3_; clear hb hbox hg; have hcz5_0 : w4.cell? ⟨gb397, 0, none⟩ = some (.int .u64 a1_0) := (blk_cell BK397.out 0).trans rfl; have hcz5_1 : w4.cell? ⟨gb397, 1, none⟩ = some (.int .u64 a1_1) := (blk_cell BK397.out 1).trans rfl; have hfz5_0 := blk_frozen BK397.out 0; have hfz5_1 := blk_frozen BK397.out 1) | ((with_reducible refine gate_callee (f := 91) rfl ?_); refine goesL_ (some 7) rfl rfl Try.func91 (by kernel_rfl) rfl #[.slice A0 l0.length c0, .agg #[.int .u64 a1_0, .int .u64 a1_1]] rfl (by (try simp only [List.map_toArray, List.map_cons, List.map_nil]); first | done | rfl | (simp only [List.length_drop, List.length_take]; rfl)) ?_; (with_reducible refine (api_Reserve_91.calls k _ _ l0 a1_0 a1_1 t398 _ ?side1 ?side2 A3.out).mono ?_); (case side1 => repeat (first | exact (Kd.C_below HR0.out HB.out) | (with_reducible refine Kd.C_alloc ?_ _) | (with_reducible refine Kd.C_drewN ?_ _) | (with_reducible refine Kd.C_drew ?_))); (case side2 => exact HC0.out); rintro e w6 ⟨rfl, hb⟩; refine ⟨_, rfl, ?_⟩; have n0_ := Aside0.mk (blk_below (g := gb397) (o := .cells #[.int .u64 a1_0, .int .u64 a1_1] 82 (0, 0)) (by (with_reducible repeat (first | refine blk_drewN ?_ _ | refine blk_drew ?_ | refine blk_alloc ?_ _)); exact BK397.out) hb); have n1_ := Aside0.mk (below_step (by repeat (first | (with_reducible first | exact HB.out | apply below_alloc | apply pw_below_drewN | apply below_drew1 | refine below_set ?_ GE397.out) | exact HB.out)) hb); clear BK397; clear HB; have BK397 := n0_; have HB := n1_; clear n0_ n1_; (try clear hb); (try clear hb2); (try clear hk); (try clear hi)))
  go_ret
  exact ⟨by first | rfl | (simp [errW_none, errW_some] <;> rfl) | (simp [*, errW_none, errW_some] <;> rfl), by repeat (first | (with_reducible first | exact HB.out | apply below_alloc | apply pw_below_drewN | apply below_drew1 | refine below_set ?_ GE397.out) | exact HB.out)⟩
end Go.Proofs.Ytkopmkinlanhoaa.PE

namespace Go.Proofs.Ytkopmkinlanhoaa.PE
open Go.RowKit Go.Proofs.YtkopmkinlanhoaaW.PrintWords Go.Proofs.YtkopmkinlanhoaaW.PrintLast Go.Proofs.YtkopmkinlanhoaaW.PrintMore
attribute [local go_sem] max2_int min2_int max_two min_two max_three min_three max_four min_four   -- for this text's walks alone
set_option linter.unusedVariables false
set_option linter.unusedSimpArgs false
def strings_IndexByte.f (a0 : ByteArray) (a1 : Int) : Option (Int) := some (Lib.indexByte a0.data.toList a1.toNat.toUInt8)
theorem strings_IndexByte.calls (a0 : ByteArray) (a1 : Int) (r : Int) (w : World) (h : strings_IndexByte.f a0 a1 = some r) :
    Calls Try.prog 109 #[.string a0, .int .u8 a1] w fun e w' => e = .returned (.int .i64 r) ∧ Drawn0 w w' := by
  have hr : Lib.indexByte a0.data.toList a1.toNat.toUInt8 = r := by
    unfold strings_IndexByte.f at h
    injection h
  refine (Try.strings_IndexByte a0 a1 w).mono ?_
  rintro e w' ⟨rfl, rfl⟩
  exact ⟨by rw [hr], Drawn0.refl _⟩
end Go.Proofs.Ytkopmkinlanhoaa.PE

namespace Go.Proofs.Ytkopmkinlanhoaa.PE
open Go.RowKit Go.Proofs.YtkopmkinlanhoaaW.PrintWords Go.Proofs.YtkopmkinlanhoaaW.PrintLast Go.Proofs.YtkopmkinlanhoaaW.PrintMore
attribute [local go_sem] max2_int min2_int max_two min_two max_three min_three max_four min_four   -- for this text's walks alone
set_option linter.unusedVariables false
set_option linter.unusedSimpArgs false
def name_letter.f (a0 : Int) : Option (Bool) := if a0 ≥ 97 then (if a0 ≤ 122 then (some true) else (if a0 ≥ 65 then (some (decide (a0 ≤ 90))) else (some false))) else (if a0 ≥ 65 then (some (decide (a0 ≤ 90))) else (some false))
set_option maxHeartbeats 8000000 in
set_option maxRecDepth 100000 in
theorem name_letter.calls (a0 : Int) (r : Bool) (w : World) (h : name_letter.f a0 = some r) :
    Calls Try.prog 99 #[.int .u8 a0] w fun e w' => e = .returned (.bool r) ∧ Drawn0 w w' := by
  have H : (if a0 ≥ 97 then (if a0 ≤ 122 then (some true) else (if a0 ≥ 65 then (some (decide (a0 ≤ 90))) else (some false))) else (if a0 ≥ 65 then (some (decide (a0 ≤ 90))) else (some false))) = some r := h
  clear h
  by_cases c2 : a0 ≥ 97
  · rw [if_pos c2] at H
    have c2b0 : decide (97 ≤ a0) = true := decide_eq_true c2
    clear c2
    by_cases c3 : a0 ≤ 122
    · rw [if_pos c3] at H
      have c3b0 : decide (a0 ≤ 122) = true := decide_eq_true c3
      clear c3
      obtain rfl := Option.some.inj H
      go_enter Try.func99, Try.ntmps99
      go_wp2
      go_ret
      exact ⟨by first | rfl | (simp; done) | (simp [*]; done), by repeat (first | exact Drawn0.refl _ | apply Drawn0.step)⟩
    · rw [if_neg c3] at H
      have c3b0 : decide (a0 ≤ 122) = false := decide_eq_false c3
      clear c3
      by_cases c4 : a0 ≥ 65
      · rw [if_pos c4] at H
        have c4b0 : decide (65 ≤ a0) = true := decide_eq_true c4
        clear c4
        obtain rfl := Option.some.inj H
        go_enter Try.func99, Try.ntmps99
        go_wp2
        go_ret
        exact ⟨by first | rfl | (simp; done) | (simp [*]; done), by repeat (first | exact Drawn0.refl _ | apply Drawn0.step)⟩
      · rw [if_neg c4] at H
        have c4b0 : decide (65 ≤ a0) = false := decide_eq_false c4
        clear c4
        obtain rfl := Option.some.inj H
        go_enter Try.func99, Try.ntmps99
        go_wp2
        go_ret
        exact ⟨by first | rfl | (simp; done) | (simp [*]; done), by repeat (first | exact Drawn0.refl _ | apply Drawn0.step)⟩
  · rw [if_neg c2] at H
    have c2b0 : decide (97 ≤ a0) = false := decide_eq_false c2
    clear c2
    by_cases c5 : a0 ≥ 65
    · rw [if_pos c5] at H
      have c5b0 : decide (65 ≤ a0) = true := decide_eq_true c5
      clear c5
      obtain rfl := Option.some.inj H
      go_enter Try.func99, Try.ntmps99
      go_wp2
      go_ret
      exact ⟨by first | rfl | (simp; done) | (simp [*]; done), by repeat (first | exact Drawn0.refl _ | apply Drawn0.step)⟩
    · rw [if_neg c5] at H
      have c5b0 : decide (65 ≤ a0) = false := decide_eq_false c5
      clear c5
      obtain rfl := Option.some.inj H
      go_enter Try.func99, Try.ntmps99
      go_wp2
      go_ret
      exact ⟨by first | rfl | (simp; done) | (simp [*]; done), by repeat (first | exact Drawn0.refl _ | apply Drawn0.step)⟩
end Go.Proofs.Ytkopmkinlanhoaa.PE

namespace Go.Proofs.Ytkopmkinlanhoaa.PE
open Go.RowKit Go.Proofs.YtkopmkinlanhoaaW.PrintWords Go.Proofs.YtkopmkinlanhoaaW.PrintLast Go.Proofs.YtkopmkinlanhoaaW.PrintMore
attribute [local go_sem] max2_int min2_int max_two min_two max_three min_three max_four min_four   -- for this text's walks alone
set_option linter.unusedVariables false
set_option linter.unusedSimpArgs false
def name_plain.f (a0 : Int) : Option (Bool) := (name_letter.f a0).bind fun t101 => (if t101 = true then (some true) else (if a0 ≥ 48 then (if a0 ≤ 57 then (some true) else ((strings_IndexByte.f (⟨#[44, 46, 95, 43, 45]⟩ : ByteArray) a0).bind fun t102 => (some (decide (t102 ≥ 0))))) else ((strings_IndexByte.f (⟨#[44, 46, 95, 43, 45]⟩ : ByteArray) a0).bind fun t103 => (some (decide (t103 ≥ 0))))))
set_option maxHeartbeats 8000000 in
set_option maxRecDepth 100000 in
theorem name_plain.calls (a0 : Int) (r : Bool) (w : World) (h : name_plain.f a0 = some r) :
    Calls Try.prog 108 #[.int .u8 a0] w fun e w' => e = .returned (.bool r) ∧ Drawn0 w w' := by
  have H : ((name_letter.f a0).bind fun t101 => (if t101 = true then (some true) else (if a0 ≥ 48 then (if a0 ≤ 57 then (some true) else ((strings_IndexByte.f (⟨#[44, 46, 95, 43, 45]⟩ : ByteArray) a0).bind fun t102 => (some (decide (t102 ≥ 0))))) else ((strings_IndexByte.f (⟨#[44, 46, 95, 43, 45]⟩ : ByteArray) a0).bind fun t103 => (some (decide (t103 ≥ 0))))))) = some r := h
  clear h
  replace H := Option.bind_eq_some_iff.mp H
  obtain ⟨t101, A20, H⟩ := H
  replace H : (if t101 = true then (some true) else (if a0 ≥ 48 then (if a0 ≤ 57 then (some true) else ((strings_IndexByte.f (⟨#[44, 46, 95, 43, 45]⟩ : ByteArray) a0).bind fun t102 => (some (decide (t102 ≥ 0))))) else ((strings_IndexByte.f (⟨#[44, 46, 95, 43, 45]⟩ : ByteArray) a0).bind fun t103 => (some (decide (t103 ≥ 0)))))) = some r := H
  have A2 := Aside0.mk A20
  clear A20
  by_cases c3 : t101 = true
  · subst c3
    have H1 : (some true) = some r := by rw [if_pos rfl] at H; exact H
    clear H
    have H := H1
    clear H1
    obtain rfl := Option.some.inj H
    go_enter Try.func108, Try.ntmps108
    go_wp2_with (first | ((with_reducible refine gate_callee (f := 99) rfl ?_); refine goesL_ (some 4) rfl rfl Try.func99 (by kernel_rfl) rfl #[.int .u8 a0] rfl (by (try simp only [List.map_toArray, List.map_cons, List.map_nil]); first | done | rfl | (simp only [List.length_drop, List.length_take]; rfl)) ?_; (with_reducible refine (name_letter.calls a0 true _ A2.out).mono ?_); rintro e w' ⟨rfl, ⟨nd, rfl⟩⟩; refine ⟨_, rfl, ?_⟩))
    go_ret
    exact ⟨by first | rfl | (simp; done) | (simp [*]; done), by repeat (first | exact Drawn0.refl _ | apply Drawn0.step)⟩
  · replace c3 := Bool.eq_false_iff.mpr c3
    subst c3
    have H1 : (if a0 ≥ 48 then (if a0 ≤ 57 then (some true) else ((strings_IndexByte.f (⟨#[44, 46, 95, 43, 45]⟩ : ByteArray) a0).bind fun t102 => (some (decide (t102 ≥ 0))))) else ((strings_IndexByte.f (⟨#[44, 46, 95, 43, 45]⟩ : ByteArray) a0).bind fun t103 => (some (decide (t103 ≥ 0))))) = some r := by rw [if_neg (show ¬ (false = true) by decide)] at H; exact H
    clear H
    have H := H1
    clear H1
    by_cases c4 : a0 ≥ 48
    · rw [if_pos c4] at H
      have c4b0 : decide (48 ≤ a0) = true := decide_eq_true c4
      clear c4
      by_cases c5 : a0 ≤ 57
      · rw [if_pos c5] at H
        have c5b0 : decide (a0 ≤ 57) = true := decide_eq_true c5
        clear c5
        obtain rfl := Option.some.inj H
        go_enter Try.func108, Try.ntmps108
        go_wp2_with (first | ((with_reducible refine gate_callee (f := 99) rfl ?_); refine goesL_ (some 4) rfl rfl Try.func99 (by kernel_rfl) rfl #[.int .u8 a0] rfl (by (try simp only [List.map_toArray, List.map_cons, List.map_nil]); first | done | rfl | (simp only [List.length_drop, List.length_take]; rfl)) ?_; (with_reducible refine (name_letter.calls a0 false _ A2.out).mono ?_); rintro e w' ⟨rfl, ⟨nd, rfl⟩⟩; refine ⟨_, rfl, ?_⟩))
        go_ret
        exact ⟨by first | rfl | (simp; done) | (simp [*]; done), by repeat (first | exact Drawn0.refl _ | apply Drawn0.step)⟩
      · rw [if_neg c5] at H
        have c5b0 : decide (a0 ≤ 57) = false := decide_eq_false c5
        clear c5
        replace H := Option.bind_eq_some_iff.mp H
        obtain ⟨t102, A60, H⟩ := H
        replace H : (some (decide (t102 ≥ 0))) = some r := H
        have A6 := Aside0.mk A60
        clear A60
        obtain rfl := Option.some.inj H
        go_enter Try.func108, Try.ntmps108
        go_wp2_with (first | ((with_reducible refine gate_callee (f := 99) rfl ?_); refine goesL_ (some 4) rfl rfl Try.func99 (by kernel_rfl) rfl #[.int .u8 a0] rfl (by (try simp only [List.map_toArray, List.map_cons, List.map_nil]); first | done | rfl | (simp only [List.length_drop, List.length_take]; rfl)) ?_; (with_reducible refine (name_letter.calls a0 false _ A2.out).mono ?_); rintro e w' ⟨rfl, ⟨nd, rfl⟩⟩; refine ⟨_, rfl, ?_⟩) | (go_at_call 109; (with_reducible refine (strings_IndexByte.calls (⟨#[44, 46, 95, 43, 45]⟩ : ByteArray) a0 t102 _ A6.out).mono ?_); rintro e w' ⟨rfl, ⟨nd, rfl⟩⟩))
        go_ret
        exact ⟨by first | rfl | (simp; done) | (simp [*]; done), by repeat (first | exact Drawn0.refl _ | apply Drawn0.step)⟩
    · rw [if_neg c4] at H
      have c4b0 : decide (48 ≤ a0) = false := decide_eq_false c4
      clear c4
      replace H := Option.bind_eq_some_iff.mp H
      obtain ⟨t103, A70, H⟩ := H
      replace H : (some (decide (t103 ≥ 0))) = some r := H
      have A7 := Aside0.mk A70
      clear A70
      obtain rfl := Option.some.inj H
      go_enter Try.func108, Try.ntmps108
      go_wp2_with (first | ((with_reducible refine gate_callee (f := 99) rfl ?_); refine goesL_ (some 4) rfl rfl Try.func99 (by kernel_rfl) rfl #[.int .u8 a0] rfl (by (try simp only [List.map_toArray, List.map_cons, List.map_nil]); first | done | rfl | (simp only [List.length_drop, List.length_take]; rfl)) ?_; (with_reducible refine (name_letter.calls a0 false _ A2.out).mono ?_); rintro e w' ⟨rfl, ⟨nd, rfl⟩⟩; refine ⟨_, rfl, ?_⟩) | (go_at_call 109; (with_reducible refine (strings_IndexByte.calls (⟨#[44, 46, 95, 43, 45]⟩ : ByteArray) a0 t103 _ A7.out).mono ?_); rintro e w' ⟨rfl, ⟨nd, rfl⟩⟩))
      go_ret
      exact ⟨by first | rfl | (simp; done) | (simp [*]; done), by repeat (first | exact Drawn0.refl _ | apply Drawn0.step)⟩
end Go.Proofs.Ytkopmkinlanhoaa.PE

namespace Go.Proofs.Ytkopmkinlanhoaa.PE
open Go.RowKit Go.Proofs.YtkopmkinlanhoaaW.PrintWords Go.Proofs.YtkopmkinlanhoaaW.PrintLast Go.Proofs.YtkopmkinlanhoaaW.PrintMore
attribute [local go_sem] max2_int min2_int max_two min_two max_three min_three max_four min_four   -- for this text's walks alone
set_option linter.unusedVariables false
set_option linter.unusedSimpArgs false
def name_all.l0 : Nat → ByteArray → ByteArray → Int → Int → Option (Bool)
  | 0, _, _, _, _ => none
  | k + 1, x0, x1, x7, x8 => if x8 < x7 then (if 0 ≤ x8 then (if x8 < (x0.size : Int) then ((name_plain.f (bt x0 x8)).bind fun t104 => (if t104 = true then (name_all.l0 k x0 x1 x7 (wrap64 (x8 + 1))) else ((strings_IndexByte.f x1 (bt x0 x8)).bind fun t105 => (if t105 < 0 then (some false) else (name_all.l0 k x0 x1 x7 (wrap64 (x8 + 1))))))) else (none)) else (none)) else (if (x0.size : Int) ≥ 1 then (some (decide ((x0.size : Int) ≤ 31))) else (some false))
def name_all.f (k : Nat) (a0 : ByteArray) (a1 : ByteArray) : Option (Bool) := name_all.l0 k a0 a1 (a0.size : Int) 0
theorem name_all.mono_l : ∀ k, (∀ y0 y1 y2 y3, LeO (name_all.l0 k y0 y1 y2 y3) (name_all.l0 (k + 1) y0 y1 y2 y3))
  | 0 => fun _ _ _ _ r h => by simp [name_all.l0] at h
  | k + 1 => by
    have ih0 := name_all.mono_l k
    · intro y0 y1 y2 y3
      unfold name_all.l0
      repeat' first
      | (with_reducible exact ih0 _ _ _ _)
      | (with_reducible exact LeO.refl _)
      | (with_reducible exact LeO.none _)
      | (with_reducible refine LeO.ite ?_ ?_)
      | (with_reducible refine LeO.bind ?_ (fun _ => ?_))
      | exact ih0 _ _ _ _
      | exact LeO.none _
      | refine LeO.ite ?_ ?_
      | refine LeO.bind ?_ (fun _ => ?_)
theorem name_all.mono : ∀ a0 a1 k, LeO (name_all.f k a0 a1) (name_all.f (k + 1) a0 a1) := by
  intro a0 a1 k
  have ih0 := name_all.mono_l k
  unfold name_all.f
  repeat' first
      | (with_reducible exact ih0 _ _ _ _)
      | (with_reducible exact LeO.refl _)
      | (with_reducible exact LeO.none _)
      | (with_reducible refine LeO.ite ?_ ?_)
      | (with_reducible refine LeO.bind ?_ (fun _ => ?_))
      | exact ih0 _ _ _ _
      | exact LeO.none _
      | refine LeO.ite ?_ ?_
      | refine LeO.bind ?_ (fun _ => ?_)
set_option maxHeartbeats 8000000 in
set_option maxRecDepth 100000 in
theorem name_all.calls (k : Nat) (a0 : ByteArray) (a1 : ByteArray) (r : Bool) (w : World) (h : name_all.f k a0 a1 = some r) :
    Calls Try.prog 98 #[.string a0, .string a1] w fun e w' => e = .returned (.bool r) ∧ Drawn0 w w' := by
  have H : (name_all.l0 k a0 a1 (a0.size : Int) 0) = some r := h
  clear h
  have H' := Aside0.mk H
  clear H
  go_enter Try.func98, Try.ntmps98
  go_wp2
  go_loopg [8] k (fun kq v8 w' => ∃ (x8_1 : Int), v8 = .int .i64 x8_1 ∧ Aside0 (name_all.l0 kq a0 a1 (a0.size : Int) x8_1 = some r) ∧ Aside0 (kq ≤ k) ∧ Drawn0 w w')
  case atStart => exact ⟨(0), (by first | rfl | (simp; done) | (simp [*]; done)), H', ⟨Nat.le_refl _⟩, by repeat (first | exact Drawn0.refl _ | apply Drawn0.step)⟩
  case round =>
    clear H'
    try clear p2
    obtain ⟨x8_1, rfl, HA, HK1, ⟨m1, rfl⟩⟩ := hrel
    cases gk with
    | zero => exact absurd HA.out (by simp [name_all.l0])
    | succ k1 =>
      have H := HA.out
      clear HA
      simp only [name_all.l0] at H
      by_cases c3 : x8_1 < (a0.size : Int)
      · rw [if_pos c3] at H
        have c3b0 : decide (x8_1 < (a0.size : Int)) = true := decide_eq_true c3
        clear c3
        by_cases c4 : 0 ≤ x8_1
        · rw [if_pos c4] at H
          have c4b0 : decide (0 ≤ x8_1) = true := decide_eq_true c4
          clear c4
          by_cases c5 : x8_1 < (a0.size : Int)
          · rw [if_pos c5] at H
            have c5b0 : decide (x8_1 < (a0.size : Int)) = true := decide_eq_true c5
            clear c5
            replace H := Option.bind_eq_some_iff.mp H
            obtain ⟨t104, A70, H⟩ := H
            replace H : (if t104 = true then (name_all.l0 k1 a0 a1 (a0.size : Int) (wrap64 (x8_1 + 1))) else ((strings_IndexByte.f a1 (bt a0 x8_1)).bind fun t105 => (if t105 < 0 then (some false) else (name_all.l0 k1 a0 a1 (a0.size : Int) (wrap64 (x8_1 + 1)))))) = some r := H
            have A7 := Aside0.mk A70
            clear A70
            by_cases c8 : t104 = true
            · subst c8
              have H1 : (name_all.l0 k1 a0 a1 (a0.size : Int) (wrap64 (x8_1 + 1))) = some r := by rw [if_pos rfl] at H; exact H
              clear H
              have H := H1
              clear H1
              have H' := Aside0.mk H
              clear H
              have p6 : 0 ≤ (x8_1 : Int) := of_decide_eq_true (by first | (with_reducible assumption) | assumption)
              have q6 : x8_1 < (a0.size : Int) := of_decide_eq_true (by first | (with_reducible assumption) | assumption)
              have hx6 := bt_at a0 x8_1
              replace p6 := eq_true p6
              replace q6 := eq_true q6
              go_wp2_with (first | ((with_reducible refine gate_callee (f := 108) rfl ?_); refine goesL_ (some 14) rfl rfl Try.func108 (by kernel_rfl) rfl #[.int .u8 (bt a0 x8_1)] rfl (by (try simp only [List.map_toArray, List.map_cons, List.map_nil]); first | done | rfl | (simp only [List.length_drop, List.length_take]; rfl)) ?_; (with_reducible refine (name_plain.calls (bt a0 x8_1) true _ A7.out).mono ?_); rintro e w' ⟨rfl, ⟨nd, rfl⟩⟩; refine ⟨_, rfl, ?_⟩))
              go_roundg k1
              case measure => have := HK1.out; omega
              case rel => exact ⟨(wrap64 (x8_1 + 1)), (by first | rfl | (simp; done) | (simp [*]; done)), H', ⟨by have := HK1.out; omega⟩, by repeat (first | exact Drawn0.refl _ | apply Drawn0.step)⟩
            · replace c8 := Bool.eq_false_iff.mpr c8
              subst c8
              have H1 : ((strings_IndexByte.f a1 (bt a0 x8_1)).bind fun t105 => (if t105 < 0 then (some false) else (name_all.l0 k1 a0 a1 (a0.size : Int) (wrap64 (x8_1 + 1))))) = some r := by rw [if_neg (show ¬ (false = true) by decide)] at H; exact H
              clear H
              have H := H1
              clear H1
              replace H := Option.bind_eq_some_iff.mp H
              obtain ⟨t105, A100, H⟩ := H
              replace H : (if t105 < 0 then (some false) else (name_all.l0 k1 a0 a1 (a0.size : Int) (wrap64 (x8_1 + 1)))) = some r := H
              have A10 := Aside0.mk A100
              clear A100
              by_cases c11 : t105 < 0
              · rw [if_pos c11] at H
                have c11b0 : decide (t105 < 0) = true := decide_eq_true c11
                clear c11
                obtain rfl := Option.some.inj H
                have p6 : 0 ≤ (x8_1 : Int) := of_decide_eq_true (by first | (with_reducible assumption) | assumption)
                have q6 : x8_1 < (a0.size : Int) := of_decide_eq_true (by first | (with_reducible assumption) | assumption)
                have hx6 := bt_at a0 x8_1
                replace p6 := eq_true p6
                replace q6 := eq_true q6
                go_wp2_with (first | ((with_reducible refine gate_callee (f := 108) rfl ?_); refine goesL_ (some 14) rfl rfl Try.func108 (by kernel_rfl) rfl #[.int .u8 (bt a0 x8_1)] rfl (by (try simp only [List.map_toArray, List.map_cons, List.map_nil]); first | done | rfl | (simp only [List.length_drop, List.length_take]; rfl)) ?_; (with_reducible refine (name_plain.calls (bt a0 x8_1) false _ A7.out).mono ?_); rintro e w' ⟨rfl, ⟨nd, rfl⟩⟩; refine ⟨_, rfl, ?_⟩; have p9 : 0 ≤ (x8_1 : Int) := of_decide_eq_true (by first | (with_reducible assumption) | assumption); have q9 : x8_1 < (a0.size : Int) := of_decide_eq_true (by first | (with_reducible assumption) | assumption); have hx9 := bt_at a0 x8_1; replace p9 := eq_true p9; replace q9 := eq_true q9) | (go_at_call 109; (with_reducible refine (strings_IndexByte.calls a1 (bt a0 x8_1) t105 _ A10.out).mono ?_); rintro e w' ⟨rfl, ⟨nd, rfl⟩⟩))
                go_ret
                exact ⟨by first | rfl | (simp; done) | (simp [*]; done), by repeat (first | exact Drawn0.refl _ | apply Drawn0.step)⟩
              · rw [if_neg c11] at H
                have c11b0 : decide (t105 < 0) = false := decide_eq_false c11
                clear c11
                have H' := Aside0.mk H
                clear H
                have p6 : 0 ≤ (x8_1 : Int) := of_decide_eq_true (by first | (with_reducible assumption) | assumption)
                have q6 : x8_1 < (a0.size : Int) := of_decide_eq_true (by first | (with_reducible assumption) | assumption)
                have hx6 := bt_at a0 x8_1
                replace p6 := eq_true p6
                replace q6 := eq_true q6
                go_wp2_with (first | ((with_reducible refine gate_callee (f := 108) rfl ?_); refine goesL_ (some 14) rfl rfl Try.func108 (by kernel_rfl) rfl #[.int .u8 (bt a0 x8_1)] rfl (by (try simp only [List.map_toArray, List.map_cons, List.map_nil]); first | done | rfl | (simp only [List.length_drop, List.length_take]; rfl)) ?_; (with_reducible refine (name_plain.calls (bt a0 x8_1) false _ A7.out).mono ?_); rintro e w' ⟨rfl, ⟨nd, rfl⟩⟩; refine ⟨_, rfl, ?_⟩; have p9 : 0 ≤ (x8_1 : Int) := of_decide_eq_true (by first | (with_reducible assumption) | assumption); have q9 : x8_1 < (a0.size : Int) := of_decide_eq_true (by first | (with_reducible assumption) | assumption); have hx9 := bt_at a0 x8_1; replace p9 := eq_true p9; replace q9 := eq_true q9) | (go_at_call 109; (with_reducible refine (strings_IndexByte.calls a1 (bt a0 x8_1) t105 _ A10.out).mono ?_); rintro e w' ⟨rfl, ⟨nd, rfl⟩⟩))
                go_roundg k1
                case measure => have := HK1.out; omega
                case rel => exact ⟨(wrap64 (x8_1 + 1)), (by first | rfl | (simp; done) | (simp [*]; done)), H', ⟨by have := HK1.out; omega⟩, by repeat (first | exact Drawn0.refl _ | apply Drawn0.step)⟩
          · rw [if_neg c5] at H
            exact absurd H (by simp)
        · rw [if_neg c4] at H
          exact absurd H (by simp)
      · rw [if_neg c3] at H
        have c3b0 : decide (x8_1 < (a0.size : Int)) = false := decide_eq_false c3
        clear c3
        by_cases c12 : (a0.size : Int) ≥ 1
        · rw [if_pos c12] at H
          have c12b0 : decide (1 ≤ (a0.size : Int)) = true := decide_eq_true c12
          have c12b1 : decide (1 ≤ a0.size) = true := decide_eq_true (by omega)
          clear c12
          obtain rfl := Option.some.inj H
          go_wp2
          go_ret
          exact ⟨by first | rfl | (simp; done) | (simp [*]; done), by repeat (first | exact Drawn0.refl _ | apply Drawn0.step)⟩
        · rw [if_neg c12] at H
          have c12b0 : decide (1 ≤ (a0.size : Int)) = false := decide_eq_false c12
          have c12b1 : decide (1 ≤ a0.size) = false := decide_eq_false (by omega)
          clear c12
          obtain rfl := Option.some.inj H
          go_wp2
          go_ret
          exact ⟨by first | rfl | (simp; done) | (simp [*]; done), by repeat (first | exact Drawn0.refl _ | apply Drawn0.step)⟩
end Go.Proofs.Ytkopmkinlanhoaa.PE

namespace Go.Proofs.Ytkopmkinlanhoaa.PE
open Go.RowKit Go.Proofs.YtkopmkinlanhoaaW.PrintWords Go.Proofs.YtkopmkinlanhoaaW.PrintLast Go.Proofs.YtkopmkinlanhoaaW.PrintMore
attribute [local go_sem] max2_int min2_int max_two min_two max_three min_three max_four min_four   -- for this text's walks alone
set_option linter.unusedVariables false
set_option linter.unusedSimpArgs false
def name_Prop.f (k : Nat) (a0 : ByteArray) : Option (Bool) := (name_all.f k a0 (⟨#[63, 35]⟩ : ByteArray)).bind fun t106 => (some t106)
theorem name_Prop.mono : ∀ a0 k, LeO (name_Prop.f k a0) (name_Prop.f (k + 1) a0) := by
  intro a0 k
  unfold name_Prop.f
  repeat' first
      | (with_reducible exact name_all.mono _ _ _)
      | (with_reducible exact LeO.refl _)
      | (with_reducible exact LeO.none _)
      | (with_reducible refine LeO.ite ?_ ?_)
      | (with_reducible refine LeO.bind ?_ (fun _ => ?_))
      | exact name_all.mono _ _ _
      | exact LeO.none _
      | refine LeO.ite ?_ ?_
      | refine LeO.bind ?_ (fun _ => ?_)
set_option maxHeartbeats 8000000 in
set_option maxRecDepth 100000 in
theorem name_Prop.calls (k : Nat) (a0 : ByteArray) (r : Bool) (w : World) (h : name_Prop.f k a0 = some r) :
    Calls Try.prog 86 #[.string a0] w fun e w' => e = .returned (.bool r) ∧ Drawn0 w w' := by
  have H : ((name_all.f k a0 (⟨#[63, 35]⟩ : ByteArray)).bind fun t106 => (some t106)) = some r := h
  clear h
  replace H := Option.bind_eq_some_iff.mp H
  obtain ⟨t106, A20, H⟩ := H
  replace H : (some t106) = some r := H
  have A2 := Aside0.mk A20
  clear A20
  obtain rfl := Option.some.inj H
  go_enter Try.func86, Try.ntmps86
  go_wp2_with (first | ((with_reducible refine gate_callee (f := 98) rfl ?_); refine goesL_ (some 4) rfl rfl Try.func98 (by kernel_rfl) rfl #[.string a0, .string (⟨#[63, 35]⟩ : ByteArray)] rfl (by (try simp only [List.map_toArray, List.map_cons, List.map_nil]); first | done | rfl | (simp only [List.length_drop, List.length_take]; rfl)) ?_; (with_reducible refine (name_all.calls k a0 (⟨#[63, 35]⟩ : ByteArray) t106 _ A2.out).mono ?_); rintro e w' ⟨rfl, ⟨nd, rfl⟩⟩; refine ⟨_, rfl, ?_⟩))
  go_ret
  exact ⟨by first | rfl | (simp; done) | (simp [*]; done), by repeat (first | exact Drawn0.refl _ | apply Drawn0.step)⟩
end Go.Proofs.Ytkopmkinlanhoaa.PE

namespace Go.Proofs.Ytkopmkinlanhoaa.PE
open Go.RowKit Go.Proofs.YtkopmkinlanhoaaW.PrintWords Go.Proofs.YtkopmkinlanhoaaW.PrintLast Go.Proofs.YtkopmkinlanhoaaW.PrintMore
attribute [local go_sem] max2_int min2_int max_two min_two max_three min_three max_four min_four   -- for this text's walks alone
set_option linter.unusedVariables false
set_option linter.unusedSimpArgs false
def stringslite_Index.f (a0 : ByteArray) (a1 : ByteArray) : Option (Int) := match a1.data.toList with | [c] => some (Lib.indexByte a0.data.toList c) | _ => none
theorem stringslite_Index.calls (a0 : ByteArray) (a1 : ByteArray) (r : Int) (w : World) (h : stringslite_Index.f a0 a1 = some r) :
    Calls Try.prog 116 #[.string a0, .string a1] w fun e w' => e = .returned (.int .i64 r) ∧ Drawn0 w w' := by
  unfold stringslite_Index.f at h
  split at h
  · next c hc =>
    have ha : a1 = ⟨#[c]⟩ := by
      obtain ⟨⟨l⟩⟩ := a1
      simp only at hc
      rw [hc]
    subst ha
    injection h with hr
    refine (Try.stringslite_Index_one a0 c w).mono ?_
    rintro e w' ⟨rfl, rfl⟩
    exact ⟨by rw [hr], Drawn0.refl _⟩
  · cases h
end Go.Proofs.Ytkopmkinlanhoaa.PE

namespace Go.Proofs.Ytkopmkinlanhoaa.PE
open Go.RowKit Go.Proofs.YtkopmkinlanhoaaW.PrintWords Go.Proofs.YtkopmkinlanhoaaW.PrintLast Go.Proofs.YtkopmkinlanhoaaW.PrintMore
attribute [local go_sem] max2_int min2_int max_two min_two max_three min_three max_four min_four   -- for this text's walks alone
set_option linter.unusedVariables false
set_option linter.unusedSimpArgs false
def stringslite_Cut.f (a0 : ByteArray) (a1 : ByteArray) : Option (ByteArray × ByteArray × Bool) := (stringslite_Index.f a0 a1).bind fun t136 => (if t136 ≥ 0 then (if 0 ≤ t136 then (if t136 ≤ (a0.size : Int) then (if 0 ≤ (wrap64 (t136 + (a1.size : Int))) then (if (wrap64 (t136 + (a1.size : Int))) ≤ (a0.size : Int) then (some (a0.extract 0 (t136 : Int).toNat, a0.extract ((wrap64 (t136 + (a1.size : Int))) : Int).toNat a0.size, true)) else (none)) else (none)) else (none)) else (none)) else (some (a0, (⟨#[]⟩ : ByteArray), false)))
set_option maxHeartbeats 8000000 in
set_option maxRecDepth 100000 in
theorem stringslite_Cut.calls (a0 : ByteArray) (a1 : ByteArray) (r1 : ByteArray) (r2 : ByteArray) (r3 : Bool) (w : World) (h : stringslite_Cut.f a0 a1 = some (r1, r2, r3)) :
    Calls Try.prog 107 #[.string a0, .string a1] w fun e w' => e = .returned (.tuple #[.string r1, .string r2, .bool r3]) ∧ Drawn0 w w' := by
  have H : ((stringslite_Index.f a0 a1).bind fun t136 => (if t136 ≥ 0 then (if 0 ≤ t136 then (if t136 ≤ (a0.size : Int) then (if 0 ≤ (wrap64 (t136 + (a1.size : Int))) then (if (wrap64 (t136 + (a1.size : Int))) ≤ (a0.size : Int) then (some (a0.extract 0 (t136 : Int).toNat, a0.extract ((wrap64 (t136 + (a1.size : Int))) : Int).toNat a0.size, true)) else (none)) else (none)) else (none)) else (none)) else (some (a0, (⟨#[]⟩ : ByteArray), false)))) = some (r1, r2, r3) := h
  clear h
  replace H := Option.bind_eq_some_iff.mp H
  obtain ⟨t136, A30, H⟩ := H
  replace H : (if t136 ≥ 0 then (if 0 ≤ t136 then (if t136 ≤ (a0.size : Int) then (if 0 ≤ (wrap64 (t136 + (a1.size : Int))) then (if (wrap64 (t136 + (a1.size : Int))) ≤ (a0.size : Int) then (some (a0.extract 0 (t136 : Int).toNat, a0.extract ((wrap64 (t136 + (a1.size : Int))) : Int).toNat a0.size, true)) else (none)) else (none)) else (none)) else (none)) else (some (a0, (⟨#[]⟩ : ByteArray), false))) = some (r1, r2, r3) := H
  have A3 := Aside0.mk A30
  clear A30
  by_cases c4 : t136 ≥ 0
  · rw [if_pos c4] at H
    have c4b0 : decide (0 ≤ t136) = true := decide_eq_true c4
    clear c4
    by_cases c5 : 0 ≤ t136
    · rw [if_pos c5] at H
      have c5b0 := eq_true c5
      have c5b1 : decide (0 ≤ t136) = true := decide_eq_true c5
      clear c5
      by_cases c6 : t136 ≤ (a0.size : Int)
      · rw [if_pos c6] at H
        have c6b0 := eq_true c6
        have c6b1 : decide (t136 ≤ (a0.size : Int)) = true := decide_eq_true c6
        clear c6
        obtain ⟨ji7, hji7⟩ : ∃ j_ : Int, (wrap64 (t136 + (a1.size : Int))) = j_ := ⟨_, rfl⟩
        replace H : (if 0 ≤ (ji7) then (if (ji7) ≤ (a0.size : Int) then (some (a0.extract 0 (t136 : Int).toNat, a0.extract ((ji7) : Int).toNat a0.size, true)) else (none)) else (none)) = some (r1, r2, r3) := by first | (rw [hji7] at H; exact H) | (simp only [hji7] at H ⊢; exact H)
        (try rw [hji7] at A3)
        have hji7w : (IntKind.i64.wrap (t136 + (a1.size : Int))) = ji7 := (i64_w _).trans hji7
        by_cases c8 : 0 ≤ (ji7)
        · rw [if_pos c8] at H
          have c8b0 := eq_true c8
          have c8b1 : decide (0 ≤ (ji7)) = true := decide_eq_true c8
          clear c8
          by_cases c9 : (ji7) ≤ (a0.size : Int)
          · rw [if_pos c9] at H
            have c9b0 := eq_true c9
            have c9b1 : decide ((ji7) ≤ (a0.size : Int)) = true := decide_eq_true c9
            clear c9
            simp only [Option.some.injEq, Prod.mk.injEq] at H
            obtain ⟨rfl, rfl, rfl⟩ := H
            go_enter Try.func107, Try.ntmps107
            go_wp2_with (first | (go_at_call 116; (with_reducible refine (stringslite_Index.calls a0 a1 t136 _ A3.out).mono ?_); rintro e w' ⟨rfl, ⟨nd, rfl⟩⟩; (try first | exact ⟨rfl, _, World.drewN_drewN _ _ _⟩ | exact ⟨rfl, _, Eq.trans (World.drewN_drewN _ _ _) (congrArg (World.drewN _) (Nat.add_assoc _ _ _))⟩)))
            repeat (go_quiet (first | (go_at_call 116; (with_reducible refine (stringslite_Index.calls a0 a1 t136 _ A3.out).mono ?_); rintro e w' ⟨rfl, ⟨nd, rfl⟩⟩; (try first | exact ⟨rfl, _, World.drewN_drewN _ _ _⟩ | exact ⟨rfl, _, Eq.trans (World.drewN_drewN _ _ _) (congrArg (World.drewN _) (Nat.add_assoc _ _ _))⟩))); try go_wp2_with (first | (go_at_call 116; (with_reducible refine (stringslite_Index.calls a0 a1 t136 _ A3.out).mono ?_); rintro e w' ⟨rfl, ⟨nd, rfl⟩⟩; (try first | exact ⟨rfl, _, World.drewN_drewN _ _ _⟩ | exact ⟨rfl, _, Eq.trans (World.drewN_drewN _ _ _) (congrArg (World.drewN _) (Nat.add_assoc _ _ _))⟩))))
            go_ret3
            exact ⟨by first | rfl | (simp; done) | (simp only [← hji7] <;> (first | rfl | simp)) | (simp [*]; done), by repeat (first | exact Drawn0.refl _ | apply Drawn0.step)⟩
          · rw [if_neg c9] at H
            exact absurd H (by simp)
        · rw [if_neg c8] at H
          exact absurd H (by simp)
      · rw [if_neg c6] at H
        exact absurd H (by simp)
    · rw [if_neg c5] at H
      exact absurd H (by simp)
  · rw [if_neg c4] at H
    have c4b0 : decide (0 ≤ t136) = false := decide_eq_false c4
    clear c4
    simp only [Option.some.injEq, Prod.mk.injEq] at H
    obtain ⟨rfl, rfl, rfl⟩ := H
    go_enter Try.func107, Try.ntmps107
    go_wp2_with (first | (go_at_call 116; (with_reducible refine (stringslite_Index.calls a0 a1 t136 _ A3.out).mono ?_); rintro e w' ⟨rfl, ⟨nd, rfl⟩⟩; (try first | exact ⟨rfl, _, World.drewN_drewN _ _ _⟩ | exact ⟨rfl, _, Eq.trans (World.drewN_drewN _ _ _) (congrArg (World.drewN _) (Nat.add_assoc _ _ _))⟩)))
    repeat (go_quiet (first | (go_at_call 116; (with_reducible refine (stringslite_Index.calls a0 a1 t136 _ A3.out).mono ?_); rintro e w' ⟨rfl, ⟨nd, rfl⟩⟩; (try first | exact ⟨rfl, _, World.drewN_drewN _ _ _⟩ | exact ⟨rfl, _, Eq.trans (World.drewN_drewN _ _ _) (congrArg (World.drewN _) (Nat.add_assoc _ _ _))⟩))); try go_wp2_with (first | (go_at_call 116; (with_reducible refine (stringslite_Index.calls a0 a1 t136 _ A3.out).mono ?_); rintro e w' ⟨rfl, ⟨nd, rfl⟩⟩; (try first | exact ⟨rfl, _, World.drewN_drewN _ _ _⟩ | exact ⟨rfl, _, Eq.trans (World.drewN_drewN _ _ _) (congrArg (World.drewN _) (Nat.add_assoc _ _ _))⟩))))
    go_ret3
    exact ⟨by first | rfl | (simp; done) | (simp [*]; done), by repeat (first | exact Drawn0.refl _ | apply Drawn0.step)⟩
end Go.Proofs.Ytkopmkinlanhoaa.PE

namespace Go.Proofs.Ytkopmkinlanhoaa.PE
open Go.RowKit Go.Proofs.YtkopmkinlanhoaaW.PrintWords Go.Proofs.YtkopmkinlanhoaaW.PrintLast Go.Proofs.YtkopmkinlanhoaaW.PrintMore
attribute [local go_sem] max2_int min2_int max_two min_two max_three min_three max_four min_four   -- for this text's walks alone
set_option linter.unusedVariables false
set_option linter.unusedSimpArgs false
def strings_Cut.f (a0 : ByteArray) (a1 : ByteArray) : Option (ByteArray × ByteArray × Bool) := (stringslite_Cut.f a0 a1).bind fun bt137 => (some (bt137.1, bt137.2.1, bt137.2.2))
set_option maxHeartbeats 8000000 in
set_option maxRecDepth 100000 in
theorem strings_Cut.calls (a0 : ByteArray) (a1 : ByteArray) (r1 : ByteArray) (r2 : ByteArray) (r3 : Bool) (w : World) (h : strings_Cut.f a0 a1 = some (r1, r2, r3)) :
    Calls Try.prog 97 #[.string a0, .string a1] w fun e w' => e = .returned (.tuple #[.string r1, .string r2, .bool r3]) ∧ Drawn0 w w' := by
  have H : ((stringslite_Cut.f a0 a1).bind fun bt137 => (some (bt137.1, bt137.2.1, bt137.2.2))) = some (r1, r2, r3) := h
  clear h
  replace H := Option.bind_eq_some_iff.mp H
  obtain ⟨⟨t137, t138, t139⟩, A30, H⟩ := H
  replace H : (some (t137, t138, t139)) = some (r1, r2, r3) := H
  have A3 := Aside0.mk A30
  clear A30
  simp only [Option.some.injEq, Prod.mk.injEq] at H
  obtain ⟨rfl, rfl, rfl⟩ := H
  go_enter Try.func97, Try.ntmps97
  go_wp2_with (first | ((with_reducible refine gate_callee (f := 107) rfl ?_); refine goesL_ (some 9) rfl rfl Try.func107 (by kernel_rfl) rfl #[.string a0, .string a1] rfl (by (try simp only [List.map_toArray, List.map_cons, List.map_nil]); first | done | rfl | (simp only [List.length_drop, List.length_take]; rfl)) ?_; (with_reducible refine (stringslite_Cut.calls a0 a1 t137 t138 t139 _ A3.out).mono ?_); rintro e w' ⟨rfl, ⟨nd, rfl⟩⟩; refine ⟨_, rfl, ?_⟩))
  go_ret3
  exact ⟨by first | rfl | (simp; done) | (simp [*]; done), by repeat (first | exact Drawn0.refl _ | apply Drawn0.step)⟩
end Go.Proofs.Ytkopmkinlanhoaa.PE

namespace Go.Proofs.Ytkopmkinlanhoaa.PE
open Go.RowKit Go.Proofs.YtkopmkinlanhoaaW.PrintWords Go.Proofs.YtkopmkinlanhoaaW.PrintLast Go.Proofs.YtkopmkinlanhoaaW.PrintMore
attribute [local go_sem] max2_int min2_int max_two min_two max_three min_three max_four min_four   -- for this text's walks alone
set_option linter.unusedVariables false
set_option linter.unusedSimpArgs false
def name_Node.f (k : Nat) (a0 : ByteArray) : Option (Bool) := (strings_Cut.f a0 (⟨#[64]⟩ : ByteArray)).bind fun bt140 => ((name_all.f k bt140.1 (⟨#[]⟩ : ByteArray)).bind fun t143 => (if t143 = true then (if 0 < (bt140.1.size : Int) then ((name_letter.f (bt bt140.1 0)).bind fun t144 => (if t144 = true then (if bt140.2.2 = true then ((name_all.f k bt140.2.1 (⟨#[]⟩ : ByteArray)).bind fun t145 => (some t145)) else (some true)) else (if (bt bt140.1 0) = 95 then (if bt140.2.2 = true then ((name_all.f k bt140.2.1 (⟨#[]⟩ : ByteArray)).bind fun t146 => (some t146)) else (some true)) else (some false)))) else (none)) else (some false)))
theorem name_Node.mono : ∀ a0 k, LeO (name_Node.f k a0) (name_Node.f (k + 1) a0) := by
  intro a0 k
  unfold name_Node.f
  repeat' first
      | (with_reducible exact name_all.mono _ _ _)
      | (with_reducible exact LeO.refl _)
      | (with_reducible exact LeO.none _)
      | (with_reducible refine LeO.ite ?_ ?_)
      | (with_reducible refine LeO.bind ?_ (fun _ => ?_))
      | exact name_all.mono _ _ _
      | exact LeO.none _
      | refine LeO.ite ?_ ?_
      | refine LeO.bind ?_ (fun _ => ?_)
set_option maxHeartbeats 8000000 in
set_option maxRecDepth 100000 in
theorem name_Node.calls (k : Nat) (a0 : ByteArray) (r : Bool) (w : World) (h : name_Node.f k a0 = some r) :
    Calls Try.prog 85 #[.string a0] w fun e w' => e = .returned (.bool r) ∧ Drawn0 w w' := by
  have H : ((strings_Cut.f a0 (⟨#[64]⟩ : ByteArray)).bind fun bt140 => ((name_all.f k bt140.1 (⟨#[]⟩ : ByteArray)).bind fun t143 => (if t143 = true then (if 0 < (bt140.1.size : Int) then ((name_letter.f (bt bt140.1 0)).bind fun t144 => (if t144 = true then (if bt140.2.2 = true then ((name_all.f k bt140.2.1 (⟨#[]⟩ : ByteArray)).bind fun t145 => (some t145)) else (some true)) else (if (bt bt140.1 0) = 95 then (if bt140.2.2 = true then ((name_all.f k bt140.2.1 (⟨#[]⟩ : ByteArray)).bind fun t146 => (some t146)) else (some true)) else (some false)))) else (none)) else (some false)))) = some r := h
  clear h
  replace H := Option.bind_eq_some_iff.mp H
  obtain ⟨⟨t140, t141, t142⟩, A20, H⟩ := H
  replace H : ((name_all.f k t140 (⟨#[]⟩ : ByteArray)).bind fun t143 => (if t143 = true then (if 0 < (t140.size : Int) then ((name_letter.f (bt t140 0)).bind fun t144 => (if t144 = true then (if t142 = true then ((name_all.f k t141 (⟨#[]⟩ : ByteArray)).bind fun t145 => (some t145)) else (some true)) else (if (bt t140 0) = 95 then (if t142 = true then ((name_all.f k t141 (⟨#[]⟩ : ByteArray)).bind fun t146 => (some t146)) else (some true)) else (some false)))) else (none)) else (some false))) = some r := H
  have A2 := Aside0.mk A20
  clear A20
  replace H := Option.bind_eq_some_iff.mp H
  obtain ⟨t143, A30, H⟩ := H
  replace H : (if t143 = true then (if 0 < (t140.size : Int) then ((name_letter.f (bt t140 0)).bind fun t144 => (if t144 = true then (if t142 = true then ((name_all.f k t141 (⟨#[]⟩ : ByteArray)).bind fun t145 => (some t145)) else (some true)) else (if (bt t140 0) = 95 then (if t142 = true then ((name_all.f k t141 (⟨#[]⟩ : ByteArray)).bind fun t146 => (some t146)) else (some true)) else (some false)))) else (none)) else (some false)) = some r := H
  have A3 := Aside0.mk A30
  clear A30
  by_cases c4 : t143 = true
  · subst c4
    have H1 : (if 0 < (t140.size : Int) then ((name_letter.f (bt t140 0)).bind fun t144 => (if t144 = true then (if t142 = true then ((name_all.f k t141 (⟨#[]⟩ : ByteArray)).bind fun t145 => (some t145)) else (some true)) else (if (bt t140 0) = 95 then (if t142 = true then ((name_all.f k t141 (⟨#[]⟩ : ByteArray)).bind fun t146 => (some t146)) else (some true)) else (some false)))) else (none)) = some r := by rw [if_pos rfl] at H; exact H
    clear H
    have H := H1
    clear H1
    by_cases c5 : 0 < (t140.size : Int)
    · rw [if_pos c5] at H
      have c5b0 : decide (0 < (t140.size : Int)) = true := decide_eq_true c5
      have c5b1 : decide (0 < t140.size) = true := decide_eq_true (by omega)
      clear c5
      replace H := Option.bind_eq_some_iff.mp H
      obtain ⟨t144, A70, H⟩ := H
      replace H : (if t144 = true then (if t142 = true then ((name_all.f k t141 (⟨#[]⟩ : ByteArray)).bind fun t145 => (some t145)) else (some true)) else (if (bt t140 0) = 95 then (if t142 = true then ((name_all.f k t141 (⟨#[]⟩ : ByteArray)).bind fun t146 => (some t146)) else (some true)) else (some false))) = some r := H
      have A7 := Aside0.mk A70
      clear A70
      by_cases c8 : t144 = true
      · subst c8
        have H1 : (if t142 = true then ((name_all.f k t141 (⟨#[]⟩ : ByteArray)).bind fun t145 => (some t145)) else (some true)) = some r := by rw [if_pos rfl] at H; exact H
        clear H
        have H := H1
        clear H1
        by_cases c9 : t142 = true
        · subst c9
          have H1 : ((name_all.f k t141 (⟨#[]⟩ : ByteArray)).bind fun t145 => (some t145)) = some r := by rw [if_pos rfl] at H; exact H
          clear H
          have H := H1
          clear H1
          replace H := Option.bind_eq_some_iff.mp H
          obtain ⟨t145, A100, H⟩ := H
          replace H : (some t145) = some r := H
          have A10 := Aside0.mk A100
          clear A100
          obtain rfl := Option.some.inj H
          go_enter Try.func85, Try.ntmps85
          go_wp2_with (first | ((with_reducible refine gate_callee (f := 97) rfl ?_); refine goesL_ (some 8) rfl rfl Try.func97 (by kernel_rfl) rfl #[.string a0, .string (⟨#[64]⟩ : ByteArray)] rfl (by (try simp only [List.map_toArray, List.map_cons, List.map_nil]); first | done | rfl | (simp only [List.length_drop, List.length_take]; rfl)) ?_; (with_reducible refine (strings_Cut.calls a0 (⟨#[64]⟩ : ByteArray) t140 t141 true _ A2.out).mono ?_); rintro e w' ⟨rfl, ⟨nd, rfl⟩⟩; refine ⟨_, rfl, ?_⟩) | ((with_reducible refine gate_callee (f := 98) rfl ?_); refine goesL_ (some 13) rfl rfl Try.func98 (by kernel_rfl) rfl #[.string t140, .string (⟨#[]⟩ : ByteArray)] rfl (by (try simp only [List.map_toArray, List.map_cons, List.map_nil]); first | done | rfl | (simp only [List.length_drop, List.length_take]; rfl)) ?_; (with_reducible refine (name_all.calls k t140 (⟨#[]⟩ : ByteArray) true _ A3.out).mono ?_); rintro e w' ⟨rfl, ⟨nd, rfl⟩⟩; refine ⟨_, rfl, ?_⟩; have p6 : 0 ≤ (0 : Int) := (by omega); have q6 : 0 < t140.size := (by have : (0 : Int) < (t140.size : Int) := of_decide_eq_true (by first | (with_reducible assumption) | assumption); omega); have hx6 : ∀ h : 0 < t140.size, ((t140[0]'h).toNat : Int) = bt t140 0 := bt_at t140 0; clear p6; have qi6 : (0 < (t140.size : Int)) = True := eq_true (of_decide_eq_true (by first | (with_reducible assumption) | assumption)); replace q6 := eq_true q6) | (go_at_call 99; (with_reducible refine (name_letter.calls (bt t140 0) true _ A7.out).mono ?_); rintro e w' ⟨rfl, ⟨nd, rfl⟩⟩) | (go_at_call 98; (with_reducible refine (name_all.calls k t141 (⟨#[]⟩ : ByteArray) t145 _ A10.out).mono ?_); rintro e w' ⟨rfl, ⟨nd, rfl⟩⟩))
          go_ret
          exact ⟨by first | rfl | (simp; done) | (simp [*]; done), by repeat (first | exact Drawn0.refl _ | apply Drawn0.step)⟩
        · replace c9 := Bool.eq_false_iff.mpr c9
          subst c9
          have H1 : (some true) = some r := by rw [if_neg (show ¬ (false = true) by decide)] at H; exact H
          clear H
          have H := H1
          clear H1
          obtain rfl := Option.some.inj H
          go_enter Try.func85, Try.ntmps85
          go_wp2_with (first | ((with_reducible refine gate_callee (f := 97) rfl ?_); refine goesL_ (some 8) rfl rfl Try.func97 (by kernel_rfl) rfl #[.string a0, .string (⟨#[64]⟩ : ByteArray)] rfl (by (try simp only [List.map_toArray, List.map_cons, List.map_nil]); first | done | rfl | (simp only [List.length_drop, List.length_take]; rfl)) ?_; (with_reducible refine (strings_Cut.calls a0 (⟨#[64]⟩ : ByteArray) t140 t141 false _ A2.out).mono ?_); rintro e w' ⟨rfl, ⟨nd, rfl⟩⟩; refine ⟨_, rfl, ?_⟩) | ((with_reducible refine gate_callee (f := 98) rfl ?_); refine goesL_ (some 13) rfl rfl Try.func98 (by kernel_rfl) rfl #[.string t140, .string (⟨#[]⟩ : ByteArray)] rfl (by (try simp only [List.map_toArray, List.map_cons, List.map_nil]); first | done | rfl | (simp only [List.length_drop, List.length_take]; rfl)) ?_; (with_reducible refine (name_all.calls k t140 (⟨#[]⟩ : ByteArray) true _ A3.out).mono ?_); rintro e w' ⟨rfl, ⟨nd, rfl⟩⟩; refine ⟨_, rfl, ?_⟩; have p6 : 0 ≤ (0 : Int) := (by omega); have q6 : 0 < t140.size := (by have : (0 : Int) < (t140.size : Int) := of_decide_eq_true (by first | (with_reducible assumption) | assumption); omega); have hx6 : ∀ h : 0 < t140.size, ((t140[0]'h).toNat : Int) = bt t140 0 := bt_at t140 0; clear p6; have qi6 : (0 < (t140.size : Int)) = True := eq_true (of_decide_eq_true (by first | (with_reducible assumption) | assumption)); replace q6 := eq_true q6) | (go_at_call 99; (with_reducible refine (name_letter.calls (bt t140 0) true _ A7.out).mono ?_); rintro e w' ⟨rfl, ⟨nd, rfl⟩⟩))
          go_ret
          exact ⟨by first | rfl | (simp; done) | (simp [*]; done), by repeat (first | exact Drawn0.refl _ | apply Drawn0.step)⟩
      · replace c8 := Bool.eq_false_iff.mpr c8
        subst c8
        have H1 : (if (bt t140 0) = 95 then (if t142 = true then ((name_all.f k t141 (⟨#[]⟩ : ByteArray)).bind fun t146 => (some t146)) else (some true)) else (some false)) = some r := by rw [if_neg (show ¬ (false = true) by decide)] at H; exact H
        clear H
        have H := H1
        clear H1
        by_cases c12 : (bt t140 0) = 95
        · rw [if_pos c12] at H
          have c12b0 : ((bt t140 0) == 95) = true := beq_iff_eq.mpr c12
          have c12b1 : ((bt t140 0) != 95) = false := bne_eq_false_iff_eq.mpr c12
          clear c12
          by_cases c13 : t142 = true
          · subst c13
            have H1 : ((name_all.f k t141 (⟨#[]⟩ : ByteArray)).bind fun t146 => (some t146)) = some r := by rw [if_pos rfl] at H; exact H
            clear H
            have H := H1
            clear H1
            replace H := Option.bind_eq_some_iff.mp H
            obtain ⟨t146, A140, H⟩ := H
            replace H : (some t146) = some r := H
            have A14 := Aside0.mk A140
            clear A140
            obtain rfl := Option.some.inj H
            go_enter Try.func85, Try.ntmps85
            go_wp2_with (first | ((with_reducible refine gate_callee (f := 97) rfl ?_); refine goesL_ (some 8) rfl rfl Try.func97 (by kernel_rfl) rfl #[.string a0, .string (⟨#[64]⟩ : ByteArray)] rfl (by (try simp only [List.map_toArray, List.map_cons, List.map_nil]); first | done | rfl | (simp only [List.length_drop, List.length_take]; rfl)) ?_; (with_reducible refine (strings_Cut.calls a0 (⟨#[64]⟩ : ByteArray) t140 t141 true _ A2.out).mono ?_); rintro e w' ⟨rfl, ⟨nd, rfl⟩⟩; refine ⟨_, rfl, ?_⟩) | ((with_reducible refine gate_callee (f := 98) rfl ?_); refine goesL_ (some 13) rfl rfl Try.func98 (by kernel_rfl) rfl #[.string t140, .string (⟨#[]⟩ : ByteArray)] rfl (by (try simp only [List.map_toArray, List.map_cons, List.map_nil]); first | done | rfl | (simp only [List.length_drop, List.length_take]; rfl)) ?_; (with_reducible refine (name_all.calls k t140 (⟨#[]⟩ : ByteArray) true _ A3.out).mono ?_); rintro e w' ⟨rfl, ⟨nd, rfl⟩⟩; refine ⟨_, rfl, ?_⟩; have p6 : 0 ≤ (0 : Int) := (by omega); have q6 : 0 < t140.size := (by have : (0 : Int) < (t140.size : Int) := of_decide_eq_true (by first | (with_reducible assumption) | assumption); omega); have hx6 : ∀ h : 0 < t140.size, ((t140[0]'h).toNat : Int) = bt t140 0 := bt_at t140 0; clear p6; have qi6 : (0 < (t140.size : Int)) = True := eq_true (of_decide_eq_true (by first | (with_reducible assumption) | assumption)); replace q6 := eq_true q6) | (go_at_call 99; (with_reducible refine (name_letter.calls (bt t140 0) false _ A7.out).mono ?_); rintro e w' ⟨rfl, ⟨nd, rfl⟩⟩; have p11 : 0 ≤ (0 : Int) := (by omega); have q11 : 0 < t140.size := (by have : (0 : Int) < (t140.size : Int) := of_decide_eq_true (by first | (with_reducible assumption) | assumption); omega); have hx11 : ∀ h : 0 < t140.size, ((t140[0]'h).toNat : Int) = bt t140 0 := bt_at t140 0; clear p11; have qi11 : (0 < (t140.size : Int)) = True := eq_true (of_decide_eq_true (by first | (with_reducible assumption) | assumption)); replace q11 := eq_true q11) | (go_at_call 98; (with_reducible refine (name_all.calls k t141 (⟨#[]⟩ : ByteArray) t146 _ A14.out).mono ?_); rintro e w' ⟨rfl, ⟨nd, rfl⟩⟩))
            go_ret
            exact ⟨by first | rfl | (simp; done) | (simp [*]; done), by repeat (first | exact Drawn0.refl _ | apply Drawn0.step)⟩
          · replace c13 := Bool.eq_false_iff.mpr c13
            subst c13
            have H1 : (some true) = some r := by rw [if_neg (show ¬ (false = true) by decide)] at H; exact H
            clear H
            have H := H1
            clear H1
            obtain rfl := Option.some.inj H
            go_enter Try.func85, Try.ntmps85
            go_wp2_with (first | ((with_reducible refine gate_callee (f := 97) rfl ?_); refine goesL_ (some 8) rfl rfl Try.func97 (by kernel_rfl) rfl #[.string a0, .string (⟨#[64]⟩ : ByteArray)] rfl (by (try simp only [List.map_toArray, List.map_cons, List.map_nil]); first | done | rfl | (simp only [List.length_drop, List.length_take]; rfl)) ?_; (with_reducible refine (strings_Cut.calls a0 (⟨#[64]⟩ : ByteArray) t140 t141 false _ A2.out).mono ?_); rintro e w' ⟨rfl, ⟨nd, rfl⟩⟩; refine ⟨_, rfl, ?_⟩) | ((with_reducible refine gate_callee (f := 98) rfl ?_); refine goesL_ (some 13) rfl rfl Try.func98 (by kernel_rfl) rfl #[.string t140, .string (⟨#[]⟩ : ByteArray)] rfl (by (try simp only [List.map_toArray, List.map_cons, List.map_nil]); first | done | rfl | (simp only [List.length_drop, List.length_take]; rfl)) ?_; (with_reducible refine (name_all.calls k t140 (⟨#[]⟩ : ByteArray) true _ A3.out).mono ?_); rintro e w' ⟨rfl, ⟨nd, rfl⟩⟩; refine ⟨_, rfl, ?_⟩; have p6 : 0 ≤ (0 : Int) := (by omega); have q6 : 0 < t140.size := (by have : (0 : Int) < (t140.size : Int) := of_decide_eq_true (by first | (with_reducible assumption) | assumption); omega); have hx6 : ∀ h : 0 < t140.size, ((t140[0]'h).toNat : Int) = bt t140 0 := bt_at t140 0; clear p6; have qi6 : (0 < (t140.size : Int)) = True := eq_true (of_decide_eq_true (by first | (with_reducible assumption) | assumption)); replace q6 := eq_true q6) | (go_at_call 99; (with_reducible refine (name_letter.calls (bt t140 0) false _ A7.out).mono ?_); rintro e w' ⟨rfl, ⟨nd, rfl⟩⟩; have p11 : 0 ≤ (0 : Int) := (by omega); have q11 : 0 < t140.size := (by have : (0 : Int) < (t140.size : Int) := of_decide_eq_true (by first | (with_reducible assumption) | assumption); omega); have hx11 : ∀ h : 0 < t140.size, ((t140[0]'h).toNat : Int) = bt t140 0 := bt_at t140 0; clear p11; have qi11 : (0 < (t140.size : Int)) = True := eq_true (of_decide_eq_true (by first | (with_reducible assumption) | assumption)); replace q11 := eq_true q11))
            go_ret
            exact ⟨by first | rfl | (simp; done) | (simp [*]; done), by repeat (first | exact Drawn0.refl _ | apply Drawn0.step)⟩
        · rw [if_neg c12] at H
          have c12b0 : ((bt t140 0) == 95) = false := beq_eq_false_iff_ne.mpr c12
          have c12b1 : ((bt t140 0) != 95) = true := bne_iff_ne.mpr c12
          obtain rfl := Option.some.inj H
          go_enter Try.func85, Try.ntmps85
          go_wp2_with (first | ((with_reducible refine gate_callee (f := 97) rfl ?_); refine goesL_ (some 8) rfl rfl Try.func97 (by kernel_rfl) rfl #[.string a0, .string (⟨#[64]⟩ : ByteArray)] rfl (by (try simp only [List.map_toArray, List.map_cons, List.map_nil]); first | done | rfl | (simp only [List.length_drop, List.length_take]; rfl)) ?_; (with_reducible refine (strings_Cut.calls a0 (⟨#[64]⟩ : ByteArray) t140 t141 t142 _ A2.out).mono ?_); rintro e w' ⟨rfl, ⟨nd, rfl⟩⟩; refine ⟨_, rfl, ?_⟩) | ((with_reducible refine gate_callee (f := 98) rfl ?_); refine goesL_ (some 13) rfl rfl Try.func98 (by kernel_rfl) rfl #[.string t140, .string (⟨#[]⟩ : ByteArray)] rfl (by (try simp only [List.map_toArray, List.map_cons, List.map_nil]); first | done | rfl | (simp only [List.length_drop, List.length_take]; rfl)) ?_; (with_reducible refine (name_all.calls k t140 (⟨#[]⟩ : ByteArray) true _ A3.out).mono ?_); rintro e w' ⟨rfl, ⟨nd, rfl⟩⟩; refine ⟨_, rfl, ?_⟩; have p6 : 0 ≤ (0 : Int) := (by omega); have q6 : 0 < t140.size := (by have : (0 : Int) < (t140.size : Int) := of_decide_eq_true (by first | (with_reducible assumption) | assumption); omega); have hx6 : ∀ h : 0 < t140.size, ((t140[0]'h).toNat : Int) = bt t140 0 := bt_at t140 0; clear p6; have qi6 : (0 < (t140.size : Int)) = True := eq_true (of_decide_eq_true (by first | (with_reducible assumption) | assumption)); replace q6 := eq_true q6) | (go_at_call 99; (with_reducible refine (name_letter.calls (bt t140 0) false _ A7.out).mono ?_); rintro e w' ⟨rfl, ⟨nd, rfl⟩⟩; have p11 : 0 ≤ (0 : Int) := (by omega); have q11 : 0 < t140.size := (by have : (0 : Int) < (t140.size : Int) := of_decide_eq_true (by first | (with_reducible assumption) | assumption); omega); have hx11 : ∀ h : 0 < t140.size, ((t140[0]'h).toNat : Int) = bt t140 0 := bt_at t140 0; clear p11; have qi11 : (0 < (t140.size : Int)) = True := eq_true (of_decide_eq_true (by first | (with_reducible assumption) | assumption)); replace q11 := eq_true q11))
          go_ret
          exact ⟨by first | rfl | (simp; done) | (simp [*]; done), by repeat (first | exact Drawn0.refl _ | apply Drawn0.step)⟩
    · rw [if_neg c5] at H
      exact absurd H (by simp)
  · replace c4 := Bool.eq_false_iff.mpr c4
    subst c4
    have H1 : (some false) = some r := by rw [if_neg (show ¬ (false = true) by decide)] at H; exact H
    clear H
    have H := H1
    clear H1
    obtain rfl := Option.some.inj H
    go_enter Try.func85, Try.ntmps85
    go_wp2_with (first | ((with_reducible refine gate_callee (f := 97) rfl ?_); refine goesL_ (some 8) rfl rfl Try.func97 (by kernel_rfl) rfl #[.string a0, .string (⟨#[64]⟩ : ByteArray)] rfl (by (try simp only [List.map_toArray, List.map_cons, List.map_nil]); first | done | rfl | (simp only [List.length_drop, List.length_take]; rfl)) ?_; (with_reducible refine (strings_Cut.calls a0 (⟨#[64]⟩ : ByteArray) t140 t141 t142 _ A2.out).mono ?_); rintro e w' ⟨rfl, ⟨nd, rfl⟩⟩; refine ⟨_, rfl, ?_⟩) | ((with_reducible refine gate_callee (f := 98) rfl ?_); refine goesL_ (some 13) rfl rfl Try.func98 (by kernel_rfl) rfl #[.string t140, .string (⟨#[]⟩ : ByteArray)] rfl (by (try simp only [List.map_toArray, List.map_cons, List.map_nil]); first | done | rfl | (simp only [List.length_drop, List.length_take]; rfl)) ?_; (with_reducible refine (name_all.calls k t140 (⟨#[]⟩ : ByteArray) false _ A3.out).mono ?_); rintro e w' ⟨rfl, ⟨nd, rfl⟩⟩; refine ⟨_, rfl, ?_⟩))
    go_ret
    exact ⟨by first | rfl | (simp; done) | (simp [*]; done), by repeat (first | exact Drawn0.refl _ | apply Drawn0.step)⟩
end Go.Proofs.Ytkopmkinlanhoaa.PE
