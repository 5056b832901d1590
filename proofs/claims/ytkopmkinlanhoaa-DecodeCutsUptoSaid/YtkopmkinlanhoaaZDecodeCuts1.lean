/- DecodeCuts: texts of this session's, and what the kit's print laid for this seat, as far as the law's row uses them (Shelf, PEx0, PEx_words_Pad, PEx_arboretlaw03_size, PEx_arboretlaw03_Few, PEx_arboretref01_Cut, PEx_arboretref01_stands, PEx_arboretref01_Node, PEx_arboretref01_Prop, PEx_arboretref01_wrong, PEx_arboretref01_Count). -/
import Derived.Shelf.Small.Strs
import Derived.Shelf.Strings.Search1
import Derived.Shelf.Strings.Search2
import Derived.Shelf.Strings.Cut
import Derived.Shelf.LaysM
import Derived.Shelf.Strings.Shaped
import Derived.Shelf.Sort.Plain
import Derived.Shelf.Slices.CompactS
import Derived.Shelf.Slices.In.SortNone
import Derived.Shelf.Bytes.SlIndexSmall
import Derived.Ground.SlbNamesProg
import Derived.Shelf.Bytes.SlCountOne
import Derived.Shelf.Bytes.SlIndexAt
import Derived.Shelf.Bytes.SlEqualAll
import Derived.Shelf.Bytes.Small
import Derived.Shelf.Bytes.IndexByte
import Derived.Test.YtkopmkinlanhoaaProg
import Derived.WalkSpells
import Derived.Sort.OwnSorted
import Derived.Maps.Own
import Derived.Maps.OwnSet
import Derived.Maps.Views
import Derived.Test.YtkopmkinlanhoaaZDecodeCuts0
set_option linter.unusedVariables false
set_option linter.unusedSimpArgs false
namespace Go.Proofs
open Go.Shelf
def Try.lays137_ren : Go.Shelf.Ren := ⟨fun | 137 => 109 | 217 => 117 | 266 => 132 | n => n, fun | 9 => 9 | 5 => 5 | 3 => 3 | n => n, fun | n => n⟩
theorem Try.lays137 : Go.Proofs.Lays.n137 Try.prog Try.lays137_ren := {
  mixed := by kernel_rfl
  f137 := Try.func109.trans (congrArg some (by kernel_rfl))
  f217 := Try.func117.trans (congrArg some (by kernel_rfl))
  f266 := Try.func132.trans (congrArg some (by kernel_rfl))
  t3 := Try.underlying3
  a3 := Try.isAgg3
  z3 := Try.sizeOf3
  v3 := Try.zeroValue3
  t5 := Try.underlying5
  a5 := Try.isAgg5
  z5 := Try.sizeOf5
  v5 := Try.zeroValue5
  t9 := Try.underlying9
  a9 := Try.isAgg9
  z9 := Try.sizeOf9
  v9 := Try.zeroValue9 }
open Go.RowKit in
theorem Try.strings_IndexByte (s : ByteArray) (c : Int) (w : World) :
    Calls Try.prog 109 #[.string s, .int .u8 c] w fun e w' => e = .returned (.int .i64 (Lib.indexByte s.data.toList c.toNat.toUInt8)) ∧ w' = w := Any.strings_IndexByte Try.lays137 s c w
def Try.lays187_ren : Go.Shelf.Ren := ⟨fun | 187 => 95 | 255 => 103 | n => n, fun | 37 => 45 | 5 => 5 | 3 => 3 | n => n, fun | n => n⟩
theorem Try.lays187 : Go.Proofs.Lays.n187 Try.prog Try.lays187_ren := {
  mixed := by kernel_rfl
  f187 := Try.func95.trans (congrArg some (by kernel_rfl))
  f255 := Try.func103.trans (congrArg some (by kernel_rfl))
  t3 := Try.underlying3
  a3 := Try.isAgg3
  z3 := Try.sizeOf3
  v3 := Try.zeroValue3
  t5 := Try.underlying5
  a5 := Try.isAgg5
  z5 := Try.sizeOf5
  v5 := Try.zeroValue5
  t37 := Try.underlying45
  a37 := Try.isAgg45
  z37 := Try.sizeOf45
  v37 := Try.zeroValue45 }
theorem Try.bytes_IndexByte (b o n c : Nat) (xs : List Int) (cv : Int) (w : World) (hx : xs.length = n) (hc : ∀ i, i < n → w.cell? ⟨b, o + i, none⟩ = some (.int .u8 (xs.getD i 0))) :
    Calls Try.prog 95 #[.slice (some ⟨b, o, none⟩) n c, .int .u8 cv] w fun e w' => e = .returned (.int .i64 (Lib.indexByte (Lib.bytesOf xs) cv.toNat.toUInt8)) ∧ w' = w := Any.bytes_IndexByte Try.lays187 b o n c xs cv w hx hc
end Go.Proofs

namespace Go.Proofs.Ytkopmkinlanhoaa.PE
open Go.RowKit Go.Proofs.YtkopmkinlanhoaaW.PrintWords Go.Proofs.YtkopmkinlanhoaaW.PrintLast Go.Proofs.YtkopmkinlanhoaaW.PrintMore
attribute [local go_sem] max2_int min2_int max_two min_two max_three min_three max_four min_four   -- for this text's walks alone
set_option linter.unusedVariables false
set_option linter.unusedSimpArgs false
def errW : Option Int → Value
  | none => .nilIface
  | some c => .iface 0 (.int .i64 c)
theorem errW_none : errW none = .nilIface := rfl
theorem errW_some (c : Int) : errW (some c) = .iface 0 (.int .i64 c) := rfl
theorem info5 : (Try.prog.info? 5).map (fun i => (i.zero, i.size, i.bytes)) = some (some (.int .u8 0), 1, 1) := by kernel_rfl
theorem info9 : (Try.prog.info? 9).map (fun i => (i.zero, i.size, i.bytes)) = some (some (.string ⟨#[]⟩), 1, 16) := by kernel_rfl
structure S82 where
  f0 : Int
  f1 : Int
def z82 : S82 := ⟨(0 : Int), (0 : Int)⟩
def k82 : Kd S82 := Kd.iso (Kd.pair (Kd.int .u64) (Kd.int .u64)) (fun x : S82 => (x.f0, x.f1))
theorem k82_open {w : World} {x : S82} {cs : List Value} (h : k82.K w x cs) : cs = [.int .u64 x.f0, .int .u64 x.f1] := by
  obtain ⟨_, _, rfl, rfl, rfl⟩ := h
  exact rfl
def rd_T82 (xs : List S82) (i : Int) : S82 := xs.getD i.toNat z82
theorem at_T82 {w : World} {A : Option Addr} {n : Nat} {xs : List S82} (h : Kd.C k82 w A n xs) (i : Int) (h0 : 0 ≤ i) (h1 : i < n) : ∃ ad , A = some ad ∧ w.cell? (ad.add (i.toNat * 2)) = some (.int .u64 (rd_T82 xs i).f0) ∧ w.cell? ⟨(ad.add (i.toNat * 2)).block, (ad.add (i.toNat * 2)).off + 1, none⟩ = some (.int .u64 (rd_T82 xs i).f1) := by
  obtain ⟨ad, c, e, _, hK, hc0⟩ := Kd.C_get h z82 i h0 h1
  have hc : ∀ j u, c[j]? = some u → w.cell? (ad.add (i.toNat * 2 + j)) = some u := hc0
  obtain rfl := k82_open hK
  exact ⟨ad, e, hc 0 _ rfl, by rw [← add_field _ _ 1 (by omega)]; exact hc 1 _ rfl⟩
structure S63 where
  f0 : ByteArray
  f1 : (List Int)
def z63 : S63 := ⟨(⟨#[]⟩ : ByteArray), ([] : List Int)⟩
def k63 : Kd S63 := Kd.iso (Kd.pair Kd.string (Kd.slice 5 (Kd.int .u8))) (fun x : S63 => (x.f0, x.f1))
theorem k63_open {w : World} {x : S63} {cs : List Value} (h : k63.K w x cs) : ∃ A1 c1, cs = [.string x.f0, .slice A1 x.f1.length c1] ∧ x.f1.length ≤ c1 ∧ (Kd.int .u8).C w A1 x.f1.length x.f1 := by
  obtain ⟨_, _, rfl, rfl, ⟨A1, c1, rfl, l1, g1⟩⟩ := h
  exact ⟨A1, c1, rfl, l1, g1⟩
def rd_T63 (xs : List S63) (i : Int) : S63 := xs.getD i.toNat z63
theorem at_T63 {w : World} {A : Option Addr} {n : Nat} {xs : List S63} (h : Kd.C k63 w A n xs) (i : Int) (h0 : 0 ≤ i) (h1 : i < n) : ∃ ad A1 c1, A = some ad ∧ w.cell? (ad.add (i.toNat * 2)) = some (.string (rd_T63 xs i).f0) ∧ w.cell? ⟨(ad.add (i.toNat * 2)).block, (ad.add (i.toNat * 2)).off + 1, none⟩ = some (.slice A1 (rd_T63 xs i).f1.length c1) ∧ (rd_T63 xs i).f1.length ≤ c1 ∧ (Kd.int .u8).C w A1 (rd_T63 xs i).f1.length (rd_T63 xs i).f1 := by
  obtain ⟨ad, c, e, _, hK, hc0⟩ := Kd.C_get h z63 i h0 h1
  have hc : ∀ j u, c[j]? = some u → w.cell? (ad.add (i.toNat * 2 + j)) = some u := hc0
  obtain ⟨A1, c1, rfl, l1, g1⟩ := k63_open hK
  exact ⟨ad, A1, c1, e, hc 0 _ rfl, by rw [← add_field _ _ 1 (by omega)]; exact hc 1 _ rfl, l1, g1⟩
structure S27 where
  f0 : ByteArray
  f1 : (List S63)
  f2 : (List S27)
def z27 : S27 := ⟨(⟨#[]⟩ : ByteArray), ([] : List S63), ([] : List S27)⟩
def F27 (d : Kd S27) : Kd S27 := Kd.iso (Kd.pair Kd.string (Kd.pair (Kd.slice 63 k63) (Kd.slice 27 d))) (fun x : S27 => (x.f0, x.f1, x.f2))
theorem mono27 : Kd.Mono F27 := Kd.mono_iso _ (Kd.mono_pair (Kd.mono_const _) (Kd.mono_pair (Kd.mono_const _) (Kd.mono_slice 27 Kd.mono_id)))
theorem sub27 : Kd.Sub F27 [5, 27, 63] := Kd.sub_iso _ (Kd.sub_pair (Kd.sub_const _ (by decide)) (Kd.sub_pair (Kd.sub_const _ (by decide)) (Kd.sub_slice 27 (by decide) Kd.sub_id)))
theorem sz27 : ∀ n, (Kd.upto F27 3 [5, 27, 63] n).sz = 3 := Kd.upto_sz (fun _ => rfl)
def k27 : Kd S27 := Kd.fix F27 3 [5, 27, 63] sz27 (Kd.upto_E sub27)
theorem k27_open {w : World} {x : S27} {cs : List Value} (h : k27.K w x cs) : ∃ A1 c1 A2 c2, cs = [.string x.f0, .slice A1 x.f1.length c1, .slice A2 x.f2.length c2] ∧ x.f1.length ≤ c1 ∧ k63.C w A1 x.f1.length x.f1 ∧ x.f2.length ≤ c2 ∧ k27.C w A2 x.f2.length x.f2 := by
  obtain ⟨n, h⟩ := h
  cases n with
  | zero => exact h.elim
  | succ n =>
    obtain ⟨_, _, rfl, rfl, ⟨_, _, rfl, ⟨A1, c1, rfl, l1, g1⟩, ⟨A2, c2, rfl, l2, g2⟩⟩⟩ := h
    exact ⟨A1, c1, A2, c2, rfl, l1, g1, l2, Kd.fix_C g2⟩
theorem k27_mk (w : World) (x : S27) {A1 : Option Addr} {c1 : Nat} (l1 : x.f1.length ≤ c1) (g1 : k63.C w A1 x.f1.length x.f1) {A2 : Option Addr} {c2 : Nat} (l2 : x.f2.length ≤ c2) (g2 : k27.C w A2 x.f2.length x.f2) : k27.K w x [.string x.f0, .slice A1 x.f1.length c1, .slice A2 x.f2.length c2] := by
  obtain ⟨n2, q2⟩ := Kd.fix_C_back mono27 g2
  have r2 := Kd.upto_C_le mono27 sz27 (show n2 ≤ n2 by omega) q2
  exact ⟨n2 + 1, ⟨[.string x.f0], [.slice A1 x.f1.length c1, .slice A2 x.f2.length c2], rfl, rfl, ⟨[.slice A1 x.f1.length c1], [.slice A2 x.f2.length c2], rfl, ⟨A1, c1, rfl, l1, g1⟩, ⟨A2, c2, rfl, l2, r2⟩⟩⟩⟩
def rd_T27 (xs : List S27) (i : Int) : S27 := xs.getD i.toNat z27
theorem at_T27 {w : World} {A : Option Addr} {n : Nat} {xs : List S27} (h : Kd.C k27 w A n xs) (i : Int) (h0 : 0 ≤ i) (h1 : i < n) : ∃ ad A1 c1 A2 c2, A = some ad ∧ w.cell? (ad.add (i.toNat * 3)) = some (.string (rd_T27 xs i).f0) ∧ w.cell? ⟨(ad.add (i.toNat * 3)).block, (ad.add (i.toNat * 3)).off + 1, none⟩ = some (.slice A1 (rd_T27 xs i).f1.length c1) ∧ w.cell? ⟨(ad.add (i.toNat * 3)).block, (ad.add (i.toNat * 3)).off + 2, none⟩ = some (.slice A2 (rd_T27 xs i).f2.length c2) ∧ (rd_T27 xs i).f1.length ≤ c1 ∧ k63.C w A1 (rd_T27 xs i).f1.length (rd_T27 xs i).f1 ∧ (rd_T27 xs i).f2.length ≤ c2 ∧ k27.C w A2 (rd_T27 xs i).f2.length (rd_T27 xs i).f2 := by
  obtain ⟨ad, c, e, _, hK, hc0⟩ := Kd.C_get h z27 i h0 h1
  have hc : ∀ j u, c[j]? = some u → w.cell? (ad.add (i.toNat * 3 + j)) = some u := hc0
  obtain ⟨A1, c1, A2, c2, rfl, l1, g1, l2, g2⟩ := k27_open hK
  exact ⟨ad, A1, c1, A2, c2, e, hc 0 _ rfl, by rw [← add_field _ _ 1 (by omega)]; exact hc 1 _ rfl, by rw [← add_field _ _ 2 (by omega)]; exact hc 2 _ rfl, l1, g1, l2, g2⟩
structure S29 where
  f0 : Int
  f1 : (List S82)
  f2 : S27
def z29 : S29 := ⟨(0 : Int), ([] : List S82), z27⟩
def k29 : Kd S29 := Kd.iso (Kd.pair (Kd.int .u32) (Kd.pair (Kd.slice 82 k82) k27)) (fun x : S29 => (x.f0, x.f1, x.f2))
theorem k29_open {w : World} {x : S29} {cs : List Value} (h : k29.K w x cs) : ∃ A1 c1 A3 c3 A4 c4, cs = [.int .u32 x.f0, .slice A1 x.f1.length c1, .string x.f2.f0, .slice A3 x.f2.f1.length c3, .slice A4 x.f2.f2.length c4] ∧ x.f1.length ≤ c1 ∧ k82.C w A1 x.f1.length x.f1 ∧ x.f2.f1.length ≤ c3 ∧ k63.C w A3 x.f2.f1.length x.f2.f1 ∧ x.f2.f2.length ≤ c4 ∧ k27.C w A4 x.f2.f2.length x.f2.f2 := by
  obtain ⟨_, _, rfl, rfl, ⟨_, _, rfl, ⟨A1, c1, rfl, l1, g1⟩, s2⟩⟩ := h
  obtain ⟨A3, c3, A4, c4, rfl, l3, g3, l4, g4⟩ := k27_open s2
  exact ⟨A1, c1, A3, c3, A4, c4, rfl, l1, g1, l3, g3, l4, g4⟩
end Go.Proofs.Ytkopmkinlanhoaa.PE

namespace Go.Proofs.Ytkopmkinlanhoaa.PE
open Go.RowKit Go.Proofs.YtkopmkinlanhoaaW.PrintWords Go.Proofs.YtkopmkinlanhoaaW.PrintLast Go.Proofs.YtkopmkinlanhoaaW.PrintMore
attribute [local go_sem] max2_int min2_int max_two min_two max_three min_three max_four min_four   -- for this text's walks alone
set_option linter.unusedVariables false
set_option linter.unusedSimpArgs false
def words_Pad.f (a0 : Int) : Option (Int) := if a0 < 0 then (some 0) else (some (Int.tmod (wrap64 (4 - (Int.tmod a0 4))) 4))
end Go.Proofs.Ytkopmkinlanhoaa.PE

namespace Go.Proofs.Ytkopmkinlanhoaa.PE
open Go.RowKit Go.Proofs.YtkopmkinlanhoaaW.PrintWords Go.Proofs.YtkopmkinlanhoaaW.PrintLast Go.Proofs.YtkopmkinlanhoaaW.PrintMore
attribute [local go_sem] max2_int min2_int max_two min_two max_three min_three max_four min_four   -- for this text's walks alone
set_option linter.unusedVariables false
set_option linter.unusedSimpArgs false
mutual
def arboretlaw03_size.l0 : Nat → Int → Int → Int → Int → ByteArray → List (S63) → List (S27) → Option (Int)
  | 0, _, _, _, _, _, _, _ => none
  | k + 1, x1, x5, x14, x15, x166000, x166001, x166002 => if x15 < x14 then (if 0 ≤ x15 then (if x15 < (x166001.length : Int) then (arboretlaw03_size.l0 k x1 (wrap64 ((wrap64 ((wrap64 (x5 + 1)) + (((rd_T63 x166001 x15).f0).size : Int))) + (((rd_T63 x166001 x15).f1).length : Int))) x14 (wrap64 (x15 + 1)) x166000 x166001 x166002) else (none)) else (none)) else (arboretlaw03_size.l1 k x1 x5 (x166002.length : Int) 0 x166000 x166001 x166002)
def arboretlaw03_size.l1 : Nat → Int → Int → Int → Int → ByteArray → List (S63) → List (S27) → Option (Int)
  | 0, _, _, _, _, _, _, _ => none
  | k + 1, x1, x5, x39, x40, x166000, x166001, x166002 => if x40 < x39 then (if x1 > 20 then (some 1048576) else (if x5 > 100000 then (some 1048576) else (if 0 ≤ x40 then (if x40 < (x166002.length : Int) then ((arboretlaw03_size.f k ((rd_T27 x166002 x40).f0) ((rd_T27 x166002 x40).f1) ((rd_T27 x166002 x40).f2) (wrap64 (x1 + 1))).bind fun t169 => (arboretlaw03_size.l1 k x1 (wrap64 (x5 + t169)) x39 (wrap64 (x40 + 1)) x166000 x166001 x166002)) else (none)) else (none)))) else (some x5)
def arboretlaw03_size.f : Nat → ByteArray → List (S63) → List (S27) → Int → Option (Int)
  | 0, _, _, _, _ => none
  | k + 1, a0_0, l0_1, l0_2, a1 => arboretlaw03_size.l0 k a1 (wrap64 (1 + (a0_0.size : Int))) (l0_1.length : Int) 0 a0_0 l0_1 l0_2
end
theorem arboretlaw03_size.mono_l : ∀ k, (∀ y0 y1 y2 y3, LeO (arboretlaw03_size.f k y0 y1 y2 y3) (arboretlaw03_size.f (k + 1) y0 y1 y2 y3)) ∧ (∀ y0 y1 y2 y3 y4 y5 y6, LeO (arboretlaw03_size.l0 k y0 y1 y2 y3 y4 y5 y6) (arboretlaw03_size.l0 (k + 1) y0 y1 y2 y3 y4 y5 y6)) ∧ (∀ y0 y1 y2 y3 y4 y5 y6, LeO (arboretlaw03_size.l1 k y0 y1 y2 y3 y4 y5 y6) (arboretlaw03_size.l1 (k + 1) y0 y1 y2 y3 y4 y5 y6))
  | 0 => ⟨fun _ _ _ _ r h => by simp [arboretlaw03_size.f] at h, fun _ _ _ _ _ _ _ r h => by simp [arboretlaw03_size.l0] at h, fun _ _ _ _ _ _ _ r h => by simp [arboretlaw03_size.l1] at h⟩
  | k + 1 => by
    obtain ⟨ih0, ih1, ih2⟩ := arboretlaw03_size.mono_l k
    refine ⟨?_, ?_, ?_⟩
    · intro y0 y1 y2 y3
      unfold arboretlaw03_size.f
      repeat' first
      | (with_reducible exact ih0 _ _ _ _)
      | (with_reducible exact ih1 _ _ _ _ _ _ _)
      | (with_reducible exact ih2 _ _ _ _ _ _ _)
      | (with_reducible exact LeO.refl _)
      | (with_reducible exact LeO.none _)
      | (with_reducible refine LeO.ite ?_ ?_)
      | (with_reducible refine LeO.bind ?_ (fun _ => ?_))
      | exact ih0 _ _ _ _
      | exact ih1 _ _ _ _ _ _ _
      | exact ih2 _ _ _ _ _ _ _
      | exact LeO.none _
      | refine LeO.ite ?_ ?_
      | refine LeO.bind ?_ (fun _ => ?_)
    · intro y0 y1 y2 y3 y4 y5 y6
      unfold arboretlaw03_size.l0
      repeat' first
      | (with_reducible exact ih0 _ _ _ _)
      | (with_reducible exact ih1 _ _ _ _ _ _ _)
      | (with_reducible exact ih2 _ _ _ _ _ _ _)
      | (with_reducible exact LeO.refl _)
      | (with_reducible exact LeO.none _)
      | (with_reducible refine LeO.ite ?_ ?_)
      | (with_reducible refine LeO.bind ?_ (fun _ => ?_))
      | exact ih0 _ _ _ _
      | exact ih1 _ _ _ _ _ _ _
      | exact ih2 _ _ _ _ _ _ _
      | exact LeO.none _
      | refine LeO.ite ?_ ?_
      | refine LeO.bind ?_ (fun _ => ?_)
    · intro y0 y1 y2 y3 y4 y5 y6
      unfold arboretlaw03_size.l1
      repeat' first
      | (with_reducible exact ih0 _ _ _ _)
      | (with_reducible exact ih1 _ _ _ _ _ _ _)
      | (with_reducible exact ih2 _ _ _ _ _ _ _)
      | (with_reducible exact LeO.refl _)
      | (with_reducible exact LeO.none _)
      | (with_reducible refine LeO.ite ?_ ?_)
      | (with_reducible refine LeO.bind ?_ (fun _ => ?_))
      | exact ih0 _ _ _ _
      | exact ih1 _ _ _ _ _ _ _
      | exact ih2 _ _ _ _ _ _ _
      | exact LeO.none _
      | refine LeO.ite ?_ ?_
      | refine LeO.bind ?_ (fun _ => ?_)
theorem arboretlaw03_size.mono : ∀ a0 a1 a2 a3 k, LeO (arboretlaw03_size.f k a0 a1 a2 a3) (arboretlaw03_size.f (k + 1) a0 a1 a2 a3) := by
  intro a0 a1 a2 a3 k
  obtain ⟨ih0, ih1, ih2⟩ := arboretlaw03_size.mono_l k
  exact ih0 a0 a1 a2 a3
set_option maxHeartbeats 8000000 in
set_option maxRecDepth 100000 in
theorem arboretlaw03_size.calls (k : Nat) : ∀ (a0_0 : ByteArray) (A0_1 : Option Addr) (c0_1 : Nat) (l0_1 : List (S63)) (A0_2 : Option Addr) (c0_2 : Nat) (l0_2 : List (S27)) (a1 : Int) (r : Int) (w : World) (hr0_1 : Kd.C k63 w A0_1 l0_1.length l0_1) (hc0_1 : l0_1.length ≤ c0_1) (hr0_2 : Kd.C k27 w A0_2 l0_2.length l0_2) (hc0_2 : l0_2.length ≤ c0_2) (h : arboretlaw03_size.f k a0_0 l0_1 l0_2 a1 = some r),
    Calls Try.prog 36 #[.agg #[.string a0_0, .slice A0_1 l0_1.length c0_1, .slice A0_2 l0_2.length c0_2], .int .i64 a1] w fun e w' => e = .returned (.int .i64 r) ∧ Below w.heap.size w w' := by
  induction k using Nat.strongRecOn with
  | _ k ih =>
  intro a0_0 A0_1 c0_1 l0_1 A0_2 c0_2 l0_2 a1 r w hr0_1 hc0_1 hr0_2 hc0_2 h
  cases k with
  | zero => exact absurd h (by simp [arboretlaw03_size.f])
  | succ k =>
  simp only [arboretlaw03_size.f] at h
  have hu27 := Try.underlying27
  have HR0_1 := Aside0.mk hr0_1
  have HC0_1 := Aside0.mk hc0_1
  clear hr0_1 hc0_1
  have HR0_2 := Aside0.mk hr0_2
  have HC0_2 := Aside0.mk hc0_2
  clear hr0_2 hc0_2
  have HB := Aside0.mk (Below.refl w.heap.size w)
  have H : (arboretlaw03_size.l0 k a1 (wrap64 (1 + (a0_0.size : Int))) (l0_1.length : Int) 0 a0_0 l0_1 l0_2) = some r := h
  clear h
  have H' := Aside0.mk H
  clear H
  go_enter Try.func36, Try.ntmps36
  go_wp2_with (first | ((with_reducible refine gate_dst (N := 2) rfl ?_); refine box_event ?hg (N := 2) ?hd (cs := #[.string a0_0, .slice A0_1 l0_1.length c0_1, .slice A0_2 l0_2.length c0_2]) (t := 27) ?hr ?_; (case hd => rfl); (case hg => rfl); (case hr => first | (go_simp; done) | (go_simp; rfl)); intro gb165 hg w3 hbox hb; have n0_ := Aside0.mk (below_step (by repeat (first | (with_reducible first | exact HB.out | apply below_alloc | apply pw_below_drewN | apply below_drew1) | exact HB.out)) hb); have n1_ := Aside0.mk (hbox); have n2_ := Aside0.mk ((by rw [hg]; exact (below_size (by repeat (first | (with_reducible first | exact HB.out | apply below_alloc | apply pw_below_drewN | apply below_drew1) | exact HB.out))) : w.heap.size ≤ gb165)); have n3_ := Aside0.mk ((by rw [hg]; exact (below_size (by repeat (first | (with_reducible first | exact HB.out | apply below_alloc | apply pw_below_drewN | apply below_drew1) | exact HB.out))) : w.heap.size ≤ gb165)); clear HB; have HB := n0_; have BK165 := n1_; have GW165 := n2_; have GE165 := n3_; clear n0_ n1_ n2_ n3_; clear hb hbox hg; have hcz4_0 : w3.cell? ⟨gb165, 0, none⟩ = some (.string a0_0) := (blk_cell BK165.out 0).trans rfl; have hcz4_1 : w3.cell? ⟨gb165, 1, none⟩ = some (.slice A0_1 l0_1.length c0_1) := (blk_cell BK165.out 1).trans rfl; have hcz4_2 : w3.cell? ⟨gb165, 2, none⟩ = some (.slice A0_2 l0_2.length c0_2) := (blk_cell BK165.out 2).trans rfl; have hfz4_0 := blk_frozen BK165.out 0; have hfz4_1 := blk_frozen BK165.out 1; have hfz4_2 := blk_frozen BK165.out 2))
  repeat (go_quiet (first | ((with_reducible refine gate_dst (N := 2) rfl ?_); refine box_event ?hg (N := 2) ?hd (cs := #[.string a0_0, .slice A0_1 l0_1.length c0_1, .slice A0_2 l0_2.length c0_2]) (t := 27) ?hr ?_; (case hd => rfl); (case hg => rfl); (case hr => first | (go_simp; done) | (go_simp; rfl)); intro gb165 hg w3 hbox hb; have n0_ := Aside0.mk (below_step (by repeat (first | (with_reducible first | exact HB.out | apply below_alloc | apply pw_below_drewN | apply below_drew1) | exact HB.out)) hb); have n1_ := Aside0.mk (hbox); have n2_ := Aside0.mk ((by rw [hg]; exact (below_size (by repeat (first | (with_reducible first | exact HB.out | apply below_alloc | apply pw_below_drewN | apply below_drew1) | exact HB.out))) : w.heap.size ≤ gb165)); have n3_ := Aside0.mk ((by rw [hg]; exact (below_size (by repeat (first | (with_reducible first | exact HB.out | apply below_alloc | apply pw_below_drewN | apply below_drew1) | exact HB.out))) : w.heap.size ≤ gb165)); clear HB; have HB := n0_; have BK165 := n1_; have GW165 := n2_; have GE165 := n3_; clear n0_ n1_ n2_ n3_; clear hb hbox hg; have hcz4_0 : w3.cell? ⟨gb165, 0, none⟩ = some (.string a0_0) := (blk_cell BK165.out 0).trans rfl; have hcz4_1 : w3.cell? ⟨gb165, 1, none⟩ = some (.slice A0_1 l0_1.length c0_1) := (blk_cell BK165.out 1).trans rfl; have hcz4_2 : w3.cell? ⟨gb165, 2, none⟩ = some (.slice A0_2 l0_2.length c0_2) := (blk_cell BK165.out 2).trans rfl; have hfz4_0 := blk_frozen BK165.out 0; have hfz4_1 := blk_frozen BK165.out 1; have hfz4_2 := blk_frozen BK165.out 2)); try go_wp2_with (first | ((with_reducible refine gate_dst (N := 2) rfl ?_); refine box_event ?hg (N := 2) ?hd (cs := #[.string a0_0, .slice A0_1 l0_1.length c0_1, .slice A0_2 l0_2.length c0_2]) (t := 27) ?hr ?_; (case hd => rfl); (case hg => rfl); (case hr => first | (go_simp; done) | (go_simp; rfl)); intro gb165 hg w3 hbox hb; have n0_ := Aside0.mk (below_step (by repeat (first | (with_reducible first | exact HB.out | apply below_alloc | apply pw_below_drewN | apply below_drew1) | exact HB.out)) hb); have n1_ := Aside0.mk (hbox); have n2_ := Aside0.mk ((by rw [hg]; exact (below_size (by repeat (first | (with_reducible first | exact HB.out | apply below_alloc | apply pw_below_drewN | apply below_drew1) | exact HB.out))) : w.heap.size ≤ gb165)); have n3_ := Aside0.mk ((by rw [hg]; exact (below_size (by repeat (first | (with_reducible first | exact HB.out | apply below_alloc | apply pw_below_drewN | apply below_drew1) | exact HB.out))) : w.heap.size ≤ gb165)); clear HB; have HB := n0_; have BK165 := n1_; have GW165 := n2_; have GE165 := n3_; clear n0_ n1_ n2_ n3_; clear hb hbox hg; have hcz4_0 : w3.cell? ⟨gb165, 0, none⟩ = some (.string a0_0) := (blk_cell BK165.out 0).trans rfl; have hcz4_1 : w3.cell? ⟨gb165, 1, none⟩ = some (.slice A0_1 l0_1.length c0_1) := (blk_cell BK165.out 1).trans rfl; have hcz4_2 : w3.cell? ⟨gb165, 2, none⟩ = some (.slice A0_2 l0_2.length c0_2) := (blk_cell BK165.out 2).trans rfl; have hfz4_0 := blk_frozen BK165.out 0; have hfz4_1 := blk_frozen BK165.out 1; have hfz4_2 := blk_frozen BK165.out 2)))
  go_loopg [5, 15] k (fun kq v5 v15 w' => ∃ (x5_1 : Int) (x15_1 : Int), v5 = .int .i64 x5_1 ∧ v15 = .int .i64 x15_1 ∧ Aside0 (arboretlaw03_size.l0 kq a1 x5_1 (l0_1.length : Int) x15_1 a0_0 l0_1 l0_2 = some r) ∧ Aside0 (kq ≤ k) ∧ Aside0 (w'.heap[gb165]? = some (.cells #[.string a0_0, (.slice A0_1 l0_1.length c0_1), (.slice A0_2 l0_2.length c0_2)] 27 (0, 0))) ∧ Aside0 (Below w.heap.size w w'))
  case atStart => exact ⟨(wrap64 (1 + (a0_0.size : Int))), (0), (by first | rfl | (simp; done) | (simp [*]; done)), (by first | rfl | (simp; done) | (simp [*]; done)), H', ⟨Nat.le_refl _⟩, ⟨by (with_reducible repeat (first | refine blk_drewN ?_ _ | refine blk_drew ?_ | refine blk_alloc ?_ _)); exact BK165.out⟩, ⟨by repeat (first | (with_reducible first | exact HB.out | apply below_alloc | apply pw_below_drewN | apply below_drew1 | refine below_set ?_ GE165.out) | exact HB.out)⟩⟩
  case round =>
    clear H'
    try clear p2
    try clear c3
    try clear hcz4_0
    try clear hcz4_1
    try clear hcz4_2
    try clear hfz4_0
    try clear hfz4_1
    try clear hfz4_2
    obtain ⟨x5_1, x15_1, rfl, rfl, HA, HK1, BK165, HB⟩ := hrel
    cases gk with
    | zero => exact absurd HA.out (by simp [arboretlaw03_size.l0])
    | succ k1 =>
      have H := HA.out
      clear HA
      simp only [arboretlaw03_size.l0] at H
      by_cases c5 : x15_1 < (l0_1.length : Int)
      · rw [if_pos c5] at H
        have c5b0 : decide (x15_1 < (l0_1.length : Int)) = true := decide_eq_true c5
        clear c5
        by_cases c6 : 0 ≤ x15_1
        · rw [if_pos c6] at H
          have c6b0 : decide (0 ≤ x15_1) = true := decide_eq_true c6
          clear c6
          by_cases c7 : x15_1 < (l0_1.length : Int)
          · rw [if_pos c7] at H
            have c7b0 : decide (x15_1 < (l0_1.length : Int)) = true := decide_eq_true c7
            clear c7
            have H' := Aside0.mk H
            clear H
            have hcz8_0 : wr.cell? ⟨gb165, 0, none⟩ = some (.string a0_0) := (blk_cell BK165.out 0).trans rfl
            have hcz8_1 : wr.cell? ⟨gb165, 1, none⟩ = some (.slice A0_1 l0_1.length c0_1) := (blk_cell BK165.out 1).trans rfl
            have hcz8_2 : wr.cell? ⟨gb165, 2, none⟩ = some (.slice A0_2 l0_2.length c0_2) := (blk_cell BK165.out 2).trans rfl
            have hfz8_0 := blk_frozen BK165.out 0
            have hfz8_1 := blk_frozen BK165.out 1
            have hfz8_2 := blk_frozen BK165.out 2
            have p166 : 0 ≤ (x15_1 : Int) := of_decide_eq_true (by first | (with_reducible assumption) | assumption)
            have q166 : x15_1 < (l0_1.length : Int) := of_decide_eq_true (by first | (with_reducible assumption) | assumption)
            obtain ⟨ad166, A166_1, c166_1, e166, hx166_0, hx166_1, hl166_1, hi166_1⟩ := at_T63 HR0_1.out x15_1 p166 q166
            cases e166
            replace hx166_0 := (HB.out.cell (World.block_lt_of_cell? w _ hx166_0)).trans hx166_0
            replace hx166_1 := (HB.out.cell (World.block_lt_of_cell? w _ hx166_1)).trans hx166_1
            have HR166_1 := Aside0.mk hi166_1
            have HC166_1 := Aside0.mk hl166_1
            clear hi166_1 hl166_1
            replace p166 := eq_true p166
            replace q166 := eq_true q166
            have p167 : 0 ≤ (x15_1 : Int) := of_decide_eq_true (by first | (with_reducible assumption) | assumption)
            have q167 : x15_1 < (l0_1.length : Int) := of_decide_eq_true (by first | (with_reducible assumption) | assumption)
            obtain ⟨ad167, A167_1, c167_1, e167, hx167_0, hx167_1, hl167_1, hi167_1⟩ := at_T63 HR0_1.out x15_1 p167 q167
            obtain rfl : ad166 = ad167 := (by injection e167)
            replace hx167_0 := (HB.out.cell (World.block_lt_of_cell? w _ hx167_0)).trans hx167_0
            replace hx167_1 := (HB.out.cell (World.block_lt_of_cell? w _ hx167_1)).trans hx167_1
            have HR167_1 := Aside0.mk hi167_1
            have HC167_1 := Aside0.mk hl167_1
            clear hi167_1 hl167_1
            replace p167 := eq_true p167
            replace q167 := eq_true q167
            have ea_ := Option.some.inj (hx166_1.symm.trans hx167_1)
            injection ea_ with ea_ en_ ec_
            subst ea_
            subst ec_
            clear en_
            go_wp2
            repeat (go_quiet (fail); try go_wp2)
            go_roundg k1
            case measure => have := HK1.out; omega
            case rel => exact ⟨(wrap64 ((wrap64 ((wrap64 (x5_1 + 1)) + (((rd_T63 l0_1 x15_1).f0).size : Int))) + (((rd_T63 l0_1 x15_1).f1).length : Int))), (wrap64 (x15_1 + 1)), (by first | rfl | (simp; done) | (simp [*]; done)), (by first | rfl | (simp; done) | (simp [*]; done)), H', ⟨by have := HK1.out; omega⟩, ⟨by (with_reducible repeat (first | refine blk_drewN ?_ _ | refine blk_drew ?_ | refine blk_alloc ?_ _)); exact BK165.out⟩, ⟨by repeat (first | (with_reducible first | exact HB.out | apply below_alloc | apply pw_below_drewN | apply below_drew1 | refine below_set ?_ GE165.out) | exact HB.out)⟩⟩
          · rw [if_neg c7] at H
            exact absurd H (by simp)
        · rw [if_neg c6] at H
          exact absurd H (by simp)
      · rw [if_neg c5] at H
        have c5b0 : decide (x15_1 < (l0_1.length : Int)) = false := decide_eq_false c5
        clear c5
        have H' := Aside0.mk H
        clear H
        have hcz9_0 : wr.cell? ⟨gb165, 0, none⟩ = some (.string a0_0) := (blk_cell BK165.out 0).trans rfl
        have hcz9_1 : wr.cell? ⟨gb165, 1, none⟩ = some (.slice A0_1 l0_1.length c0_1) := (blk_cell BK165.out 1).trans rfl
        have hcz9_2 : wr.cell? ⟨gb165, 2, none⟩ = some (.slice A0_2 l0_2.length c0_2) := (blk_cell BK165.out 2).trans rfl
        have hfz9_0 := blk_frozen BK165.out 0
        have hfz9_1 := blk_frozen BK165.out 1
        have hfz9_2 := blk_frozen BK165.out 2
        go_wp2
        repeat (go_quiet (fail); try go_wp2)
        go_loopg [5, 40] k1 (fun kq v5 v40 w' => ∃ (x5_2 : Int) (x40_2 : Int), v5 = .int .i64 x5_2 ∧ v40 = .int .i64 x40_2 ∧ Aside0 (arboretlaw03_size.l1 kq a1 x5_2 (l0_2.length : Int) x40_2 a0_0 l0_1 l0_2 = some r) ∧ Aside0 (kq ≤ k1) ∧ Aside0 (w'.heap[gb165]? = some (.cells #[.string a0_0, (.slice A0_1 l0_1.length c0_1), (.slice A0_2 l0_2.length c0_2)] 27 (0, 0))) ∧ Aside0 (Below w.heap.size w w'))
        case atStart => exact ⟨(x5_1), (0), (by first | rfl | (simp; done) | (simp [*]; done)), (by first | rfl | (simp; done) | (simp [*]; done)), H', ⟨Nat.le_refl _⟩, ⟨by (with_reducible repeat (first | refine blk_drewN ?_ _ | refine blk_drew ?_ | refine blk_alloc ?_ _)); exact BK165.out⟩, ⟨by repeat (first | (with_reducible first | exact HB.out | apply below_alloc | apply pw_below_drewN | apply below_drew1 | refine below_set ?_ GE165.out) | exact HB.out)⟩⟩
        case round =>
          clear H'
          try clear c1
          try clear p1
          try clear q1
          try clear hx1
          try clear p2
          try clear c3
          try clear c5
          try clear c5b0
          try clear c6
          try clear c6b0
          try clear p6
          try clear c7
          try clear c7b0
          try clear hcz4_0
          try clear hcz4_1
          try clear hcz4_2
          try clear hcz8_0
          try clear hcz8_1
          try clear hcz8_2
          try clear hcz9_0
          try clear hcz9_1
          try clear hcz9_2
          try clear hfz4_0
          try clear hfz4_1
          try clear hfz4_2
          try clear hfz8_0
          try clear hfz8_1
          try clear hfz8_2
          try clear hfz9_0
          try clear hfz9_1
          try clear hfz9_2
          try clear hx166_0
          try clear hx166_1
          try clear hx167_0
          try clear hx167_1
          try clear p166
          try clear p167
          try clear p2
          try clear q166
          try clear q167
          obtain ⟨x5_2, x40_2, rfl, rfl, HA, HK2, BK165, HB⟩ := hrel
          cases gk with
          | zero => exact absurd HA.out (by simp [arboretlaw03_size.l1])
          | succ k2 =>
            have H := HA.out
            clear HA
            simp only [arboretlaw03_size.l1] at H
            by_cases c10 : x40_2 < (l0_2.length : Int)
            · rw [if_pos c10] at H
              have c10b0 : decide (x40_2 < (l0_2.length : Int)) = true := decide_eq_true c10
              clear c10
              by_cases c11 : a1 > 20
              · rw [if_pos c11] at H
                have c11b0 : decide (20 < a1) = true := decide_eq_true c11
                clear c11
                obtain rfl := Option.some.inj H
                go_wp2
                repeat (go_quiet (fail); try go_wp2)
                go_ret
                exact ⟨by first | rfl | (simp [errW_none, errW_some] <;> rfl) | (simp [*, errW_none, errW_some] <;> rfl), by repeat (first | (with_reducible first | exact HB.out | apply below_alloc | apply pw_below_drewN | apply below_drew1 | refine below_set ?_ GE165.out) | exact HB.out)⟩
              · rw [if_neg c11] at H
                have c11b0 : decide (20 < a1) = false := decide_eq_false c11
                clear c11
                by_cases c12 : x5_2 > 100000
                · rw [if_pos c12] at H
                  have c12b0 : decide (100000 < x5_2) = true := decide_eq_true c12
                  clear c12
                  obtain rfl := Option.some.inj H
                  go_wp2
                  repeat (go_quiet (fail); try go_wp2)
                  go_ret
                  exact ⟨by first | rfl | (simp [errW_none, errW_some] <;> rfl) | (simp [*, errW_none, errW_some] <;> rfl), by repeat (first | (with_reducible first | exact HB.out | apply below_alloc | apply pw_below_drewN | apply below_drew1 | refine below_set ?_ GE165.out) | exact HB.out)⟩
                · rw [if_neg c12] at H
                  have c12b0 : decide (100000 < x5_2) = false := decide_eq_false c12
                  clear c12
                  by_cases c13 : 0 ≤ x40_2
                  · rw [if_pos c13] at H
                    have c13b0 : decide (0 ≤ x40_2) = true := decide_eq_true c13
                    clear c13
                    by_cases c14 : x40_2 < (l0_2.length : Int)
                    · rw [if_pos c14] at H
                      have c14b0 : decide (x40_2 < (l0_2.length : Int)) = true := decide_eq_true c14
                      clear c14
                      replace H := Option.bind_eq_some_iff.mp H
                      obtain ⟨t169, A150, H⟩ := H
                      replace H : (arboretlaw03_size.l1 k2 a1 (wrap64 (x5_2 + t169)) (l0_2.length : Int) (wrap64 (x40_2 + 1)) a0_0 l0_1 l0_2) = some r := H
                      have A15 := Aside0.mk A150
                      clear A150
                      have H' := Aside0.mk H
                      clear H
                      have hcz16_0 : wr.cell? ⟨gb165, 0, none⟩ = some (.string a0_0) := (blk_cell BK165.out 0).trans rfl
                      have hcz16_1 : wr.cell? ⟨gb165, 1, none⟩ = some (.slice A0_1 l0_1.length c0_1) := (blk_cell BK165.out 1).trans rfl
                      have hcz16_2 : wr.cell? ⟨gb165, 2, none⟩ = some (.slice A0_2 l0_2.length c0_2) := (blk_cell BK165.out 2).trans rfl
                      have hfz16_0 := blk_frozen BK165.out 0
                      have hfz16_1 := blk_frozen BK165.out 1
                      have hfz16_2 := blk_frozen BK165.out 2
                      have p168 : 0 ≤ (x40_2 : Int) := of_decide_eq_true (by first | (with_reducible assumption) | assumption)
                      have q168 : x40_2 < (l0_2.length : Int) := of_decide_eq_true (by first | (with_reducible assumption) | assumption)
                      obtain ⟨ad168, A168_1, c168_1, A168_2, c168_2, e168, hx168_0, hx168_1, hx168_2, hl168_1, hi168_1, hl168_2, hi168_2⟩ := at_T27 HR0_2.out x40_2 p168 q168
                      cases e168
                      replace hx168_0 := (HB.out.cell (World.block_lt_of_cell? w _ hx168_0)).trans hx168_0
                      replace hx168_1 := (HB.out.cell (World.block_lt_of_cell? w _ hx168_1)).trans hx168_1
                      replace hx168_2 := (HB.out.cell (World.block_lt_of_cell? w _ hx168_2)).trans hx168_2
                      have HR168_1 := Aside0.mk hi168_1
                      have HC168_1 := Aside0.mk hl168_1
                      clear hi168_1 hl168_1
                      have HR168_2 := Aside0.mk hi168_2
                      have HC168_2 := Aside0.mk hl168_2
                      clear hi168_2 hl168_2
                      replace p168 := eq_true p168
                      replace q168 := eq_true q168
                      go_wp2_with (first | (go_at_call 36; (with_reducible refine (ih k2 (by have := HK1.out; have := HK2.out; omega) ((rd_T27 l0_2 x40_2).f0) _ _ ((rd_T27 l0_2 x40_2).f1) _ _ ((rd_T27 l0_2 x40_2).f2) (wrap64 (a1 + 1)) t169 _ ?side1 ?side2 ?side3 ?side4 A15.out).mono ?_); (case side1 => repeat (first | exact (Kd.C_below HR168_1.out HB.out) | (with_reducible refine Kd.C_alloc ?_ _) | (with_reducible refine Kd.C_drewN ?_ _) | (with_reducible refine Kd.C_drew ?_))); (case side2 => exact HC168_1.out); (case side3 => repeat (first | exact (Kd.C_below HR168_2.out HB.out) | (with_reducible refine Kd.C_alloc ?_ _) | (with_reducible refine Kd.C_drewN ?_ _) | (with_reducible refine Kd.C_drew ?_))); (case side4 => exact HC168_2.out); rintro e w17 ⟨rfl, hb⟩; have n0_ := Aside0.mk (blk_below (g := gb165) (o := .cells #[.string a0_0, .slice A0_1 l0_1.length c0_1, .slice (some ad168) l0_2.length c0_2] 27 (0, 0)) (by (with_reducible repeat (first | refine blk_drewN ?_ _ | refine blk_drew ?_ | refine blk_alloc ?_ _)); exact BK165.out) hb); have n1_ := Aside0.mk (below_step (by repeat (first | (with_reducible first | exact HB.out | apply below_alloc | apply pw_below_drewN | apply below_drew1 | refine below_set ?_ GE165.out) | exact HB.out)) hb); clear BK165; clear HB; have BK165 := n0_; have HB := n1_; clear n0_ n1_; (try clear hb); (try clear hb2); (try clear hk); (try clear hi)))
                      repeat (go_quiet (first | (go_at_call 36; (with_reducible refine (ih k2 (by have := HK1.out; have := HK2.out; omega) ((rd_T27 l0_2 x40_2).f0) _ _ ((rd_T27 l0_2 x40_2).f1) _ _ ((rd_T27 l0_2 x40_2).f2) (wrap64 (a1 + 1)) t169 _ ?side1 ?side2 ?side3 ?side4 A15.out).mono ?_); (case side1 => repeat (first | exact (Kd.C_below HR168_1.out HB.out) | (with_reducible refine Kd.C_alloc ?_ _) | (with_reducible refine Kd.C_drewN ?_ _) | (with_reducible refine Kd.C_drew ?_))); (case side2 => exact HC168_1.out); (case side3 => repeat (first | exact (Kd.C_below HR168_2.out HB.out) | (with_reducible refine Kd.C_alloc ?_ _) | (with_reducible refine Kd.C_drewN ?_ _) | (with_reducible refine Kd.C_drew ?_))); (case side4 => exact HC168_2.out); rintro e w17 ⟨rfl, hb⟩; have n0_ := Aside0.mk (blk_below (g := gb165) (o := .cells #[.string a0_0, .slice A0_1 l0_1.length c0_1, .slice (some ad168) l0_2.length c0_2] 27 (0, 0)) (by (with_reducible repeat (first | refine blk_drewN ?_ _ | refine blk_drew ?_ | refine blk_alloc ?_ _)); exact BK165.out) hb); have n1_ := Aside0.mk (below_step (by repeat (first | (with_reducible first | exact HB.out | apply below_alloc | apply pw_below_drewN | apply below_drew1 | refine below_set ?_ GE165.out) | exact HB.out)) hb); clear BK165; clear HB; have BK165 := n0_; have HB := n1_; clear n0_ n1_; (try clear hb); (try clear hb2); (try clear hk); (try clear hi))); try go_wp2_with (first | (go_at_call 36; (with_reducible refine (ih k2 (by have := HK1.out; have := HK2.out; omega) ((rd_T27 l0_2 x40_2).f0) _ _ ((rd_T27 l0_2 x40_2).f1) _ _ ((rd_T27 l0_2 x40_2).f2) (wrap64 (a1 + 1)) t169 _ ?side1 ?side2 ?side3 ?side4 A15.out).mono ?_); (case side1 => repeat (first | exact (Kd.C_below HR168_1.out HB.out) | (with_reducible refine Kd.C_alloc ?_ _) | (with_reducible refine Kd.C_drewN ?_ _) | (with_reducible refine Kd.C_drew ?_))); (case side2 => exact HC168_1.out); (case side3 => repeat (first | exact (Kd.C_below HR168_2.out HB.out) | (with_reducible refine Kd.C_alloc ?_ _) | (with_reducible refine Kd.C_drewN ?_ _) | (with_reducible refine Kd.C_drew ?_))); (case side4 => exact HC168_2.out); rintro e w17 ⟨rfl, hb⟩; have n0_ := Aside0.mk (blk_below (g := gb165) (o := .cells #[.string a0_0, .slice A0_1 l0_1.length c0_1, .slice (some ad168) l0_2.length c0_2] 27 (0, 0)) (by (with_reducible repeat (first | refine blk_drewN ?_ _ | refine blk_drew ?_ | refine blk_alloc ?_ _)); exact BK165.out) hb); have n1_ := Aside0.mk (below_step (by repeat (first | (with_reducible first | exact HB.out | apply below_alloc | apply pw_below_drewN | apply below_drew1 | refine below_set ?_ GE165.out) | exact HB.out)) hb); clear BK165; clear HB; have BK165 := n0_; have HB := n1_; clear n0_ n1_; (try clear hb); (try clear hb2); (try clear hk); (try clear hi))))
                      go_roundg k2
                      case measure => have := HK1.out; have := HK2.out; omega
                      case rel => exact ⟨(wrap64 (x5_2 + t169)), (wrap64 (x40_2 + 1)), (by first | rfl | (simp; done) | (simp [*]; done)), (by first | rfl | (simp; done) | (simp [*]; done)), H', ⟨by have := HK1.out; have := HK2.out; omega⟩, ⟨by (with_reducible repeat (first | refine blk_drewN ?_ _ | refine blk_drew ?_ | refine blk_alloc ?_ _)); exact BK165.out⟩, ⟨by repeat (first | (with_reducible first | exact HB.out | apply below_alloc | apply pw_below_drewN | apply below_drew1 | refine below_set ?_ GE165.out) | exact HB.out)⟩⟩
                    · rw [if_neg c14] at H
                      exact absurd H (by simp)
                  · rw [if_neg c13] at H
                    exact absurd H (by simp)
            · rw [if_neg c10] at H
              have c10b0 : decide (x40_2 < (l0_2.length : Int)) = false := decide_eq_false c10
              clear c10
              obtain rfl := Option.some.inj H
              go_wp2
              repeat (go_quiet (fail); try go_wp2)
              go_ret
              exact ⟨by first | rfl | (simp [errW_none, errW_some] <;> rfl) | (simp [*, errW_none, errW_some] <;> rfl), by repeat (first | (with_reducible first | exact HB.out | apply below_alloc | apply pw_below_drewN | apply below_drew1 | refine below_set ?_ GE165.out) | exact HB.out)⟩
end Go.Proofs.Ytkopmkinlanhoaa.PE

namespace Go.Proofs.Ytkopmkinlanhoaa.PE
open Go.RowKit Go.Proofs.YtkopmkinlanhoaaW.PrintWords Go.Proofs.YtkopmkinlanhoaaW.PrintLast Go.Proofs.YtkopmkinlanhoaaW.PrintMore
attribute [local go_sem] max2_int min2_int max_two min_two max_three min_three max_four min_four   -- for this text's walks alone
set_option linter.unusedVariables false
set_option linter.unusedSimpArgs false
def arboretlaw03_Few.f (k : Nat) (a0_0 : Int) (l0_1 : List (S82)) (a0_2 : ByteArray) (l0_3 : List (S63)) (l0_4 : List (S27)) : Option (Bool) := (arboretlaw03_size.f k a0_2 l0_3 l0_4 0).bind fun t171 => (if t171 ≤ 100000 then (some (decide ((l0_1.length : Int) ≤ 200))) else (some false))
theorem arboretlaw03_Few.mono : ∀ a0 a1 a2 a3 a4 k, LeO (arboretlaw03_Few.f k a0 a1 a2 a3 a4) (arboretlaw03_Few.f (k + 1) a0 a1 a2 a3 a4) := by
  intro a0 a1 a2 a3 a4 k
  unfold arboretlaw03_Few.f
  repeat' first
      | (with_reducible exact arboretlaw03_size.mono _ _ _ _ _)
      | (with_reducible exact LeO.refl _)
      | (with_reducible exact LeO.none _)
      | (with_reducible refine LeO.ite ?_ ?_)
      | (with_reducible refine LeO.bind ?_ (fun _ => ?_))
      | exact arboretlaw03_size.mono _ _ _ _ _
      | exact LeO.none _
      | refine LeO.ite ?_ ?_
      | refine LeO.bind ?_ (fun _ => ?_)
set_option maxHeartbeats 8000000 in
set_option maxRecDepth 100000 in
theorem arboretlaw03_Few.calls (k : Nat) (a0_0 : Int) (A0_1 : Option Addr) (c0_1 : Nat) (l0_1 : List (S82)) (a0_2 : ByteArray) (A0_3 : Option Addr) (c0_3 : Nat) (l0_3 : List (S63)) (A0_4 : Option Addr) (c0_4 : Nat) (l0_4 : List (S27)) (r : Bool) (w : World) (hr0_1 : Kd.C k82 w A0_1 l0_1.length l0_1) (hc0_1 : l0_1.length ≤ c0_1) (hr0_3 : Kd.C k63 w A0_3 l0_3.length l0_3) (hc0_3 : l0_3.length ≤ c0_3) (hr0_4 : Kd.C k27 w A0_4 l0_4.length l0_4) (hc0_4 : l0_4.length ≤ c0_4) (h : arboretlaw03_Few.f k a0_0 l0_1 a0_2 l0_3 l0_4 = some r) :
    Calls Try.prog 19 #[.agg #[.int .u32 a0_0, .slice A0_1 l0_1.length c0_1, .string a0_2, .slice A0_3 l0_3.length c0_3, .slice A0_4 l0_4.length c0_4]] w fun e w' => e = .returned (.bool r) ∧ Below w.heap.size w w' := by
  have hu29 := Try.underlying29
  have hu27 := Try.underlying27
  have HR0_1 := Aside0.mk hr0_1
  have HC0_1 := Aside0.mk hc0_1
  clear hr0_1 hc0_1
  have HR0_3 := Aside0.mk hr0_3
  have HC0_3 := Aside0.mk hc0_3
  clear hr0_3 hc0_3
  have HR0_4 := Aside0.mk hr0_4
  have HC0_4 := Aside0.mk hc0_4
  clear hr0_4 hc0_4
  have HB := Aside0.mk (Below.refl w.heap.size w)
  have H : ((arboretlaw03_size.f k a0_2 l0_3 l0_4 0).bind fun t171 => (if t171 ≤ 100000 then (some (decide ((l0_1.length : Int) ≤ 200))) else (some false))) = some r := h
  clear h
  replace H := Option.bind_eq_some_iff.mp H
  obtain ⟨t171, A20, H⟩ := H
  replace H : (if t171 ≤ 100000 then (some (decide ((l0_1.length : Int) ≤ 200))) else (some false)) = some r := H
  have A2 := Aside0.mk A20
  clear A20
  by_cases c3 : t171 ≤ 100000
  · rw [if_pos c3] at H
    have c3b0 : decide (t171 ≤ 100000) = true := decide_eq_true c3
    clear c3
    obtain rfl := Option.some.inj H
    go_enter Try.func19, Try.ntmps19
    go_wp2_with (first | ((with_reducible refine gate_dst (N := 1) rfl ?_); (try (refine gate_guard (by rfl) ?_; dsimp only)); refine box_event ?hg (N := 1) ?hd (cs := #[.int .u32 a0_0, .slice A0_1 l0_1.length c0_1, .string a0_2, .slice A0_3 l0_3.length c0_3, .slice A0_4 l0_4.length c0_4]) (t := 29) ?hr ?_; (case hd => rfl); (case hg => rfl); (case hr => first | (go_simp; done) | (go_simp; rfl)); intro gb170 hg w4 hbox hb; have n0_ := Aside0.mk (below_step (by repeat (first | (with_reducible first | exact HB.out | apply below_alloc | apply pw_below_drewN | apply below_drew1) | exact HB.out)) hb); have n1_ := Aside0.mk (hbox); have n2_ := Aside0.mk ((by rw [hg]; exact (below_size (by repeat (first | (with_reducible first | exact HB.out | apply below_alloc | apply pw_below_drewN | apply below_drew1) | exact HB.out))) : w.heap.size ≤ gb170)); have n3_ := Aside0.mk ((by rw [hg]; exact (below_size (by repeat (first | (with_reducible first | exact HB.out | apply below_alloc | apply pw_below_drewN | apply below_drew1) | exact HB.out))) : w.heap.size ≤ gb170)); clear HB; have HB := n0_; have BK170 := n1_; have GW170 := n2_; have GE170 := n3_; clear n0_ n1_ n2_ n3_; clear hb hbox hg; have hcz5_0 : w4.cell? ⟨gb170, 0, none⟩ = some (.int .u32 a0_0) := (blk_cell BK170.out 0).trans rfl; have hcz5_1 : w4.cell? ⟨gb170, 1, none⟩ = some (.slice A0_1 l0_1.length c0_1) := (blk_cell BK170.out 1).trans rfl; have hcz5_2 : w4.cell? ⟨gb170, 2, none⟩ = some (.string a0_2) := (blk_cell BK170.out 2).trans rfl; have hcz5_3 : w4.cell? ⟨gb170, 3, none⟩ = some (.slice A0_3 l0_3.length c0_3) := (blk_cell BK170.out 3).trans rfl; have hcz5_4 : w4.cell? ⟨gb170, 4, none⟩ = some (.slice A0_4 l0_4.length c0_4) := (blk_cell BK170.out 4).trans rfl; have hfz5_0 := blk_frozen BK170.out 0; have hfz5_1 := blk_frozen BK170.out 1; have hfz5_2 := blk_frozen BK170.out 2; have hfz5_3 := blk_frozen BK170.out 3; have hfz5_4 := blk_frozen BK170.out 4) | ((with_reducible refine gate_callee (f := 36) rfl ?_); refine goesL_ (some 5) rfl rfl Try.func36 (by kernel_rfl) rfl #[.agg #[.string a0_2, .slice A0_3 l0_3.length c0_3, .slice A0_4 l0_4.length c0_4], .int .i64 0] rfl (by (try simp only [List.map_toArray, List.map_cons, List.map_nil]); first | done | rfl | (simp only [List.length_drop, List.length_take]; rfl)) ?_; (with_reducible refine (arboretlaw03_size.calls k a0_2 _ _ l0_3 _ _ l0_4 0 t171 _ ?side1 ?side2 ?side3 ?side4 A2.out).mono ?_); (case side1 => repeat (first | exact (Kd.C_below HR0_3.out HB.out) | (with_reducible refine Kd.C_alloc ?_ _) | (with_reducible refine Kd.C_drewN ?_ _) | (with_reducible refine Kd.C_drew ?_))); (case side2 => exact HC0_3.out); (case side3 => repeat (first | exact (Kd.C_below HR0_4.out HB.out) | (with_reducible refine Kd.C_alloc ?_ _) | (with_reducible refine Kd.C_drewN ?_ _) | (with_reducible refine Kd.C_drew ?_))); (case side4 => exact HC0_4.out); rintro e w6 ⟨rfl, hb⟩; refine ⟨_, rfl, ?_⟩; have n0_ := Aside0.mk (blk_below (g := gb170) (o := .cells #[.int .u32 a0_0, .slice A0_1 l0_1.length c0_1, .string a0_2, .slice A0_3 l0_3.length c0_3, .slice A0_4 l0_4.length c0_4] 29 (0, 0)) (by (with_reducible repeat (first | refine blk_drewN ?_ _ | refine blk_drew ?_ | refine blk_alloc ?_ _)); exact BK170.out) hb); have n1_ := Aside0.mk (below_step (by repeat (first | (with_reducible first | exact HB.out | apply below_alloc | apply pw_below_drewN | apply below_drew1 | refine below_set ?_ GE170.out) | exact HB.out)) hb); clear BK170; clear HB; have BK170 := n0_; have HB := n1_; clear n0_ n1_; (try clear hb); (try clear hb2); (try clear hk); (try clear hi); have hcz7_0 : w6.cell? ⟨gb170, 0, none⟩ = some (.int .u32 a0_0) := (blk_cell BK170.out 0).trans rfl; have hcz7_1 : w6.cell? ⟨gb170, 1, none⟩ = some (.slice A0_1 l0_1.length c0_1) := (blk_cell BK170.out 1).trans rfl; have hcz7_2 : w6.cell? ⟨gb170, 2, none⟩ = some (.string a0_2) := (blk_cell BK170.out 2).trans rfl; have hcz7_3 : w6.cell? ⟨gb170, 3, none⟩ = some (.slice A0_3 l0_3.length c0_3) := (blk_cell BK170.out 3).trans rfl; have hcz7_4 : w6.cell? ⟨gb170, 4, none⟩ = some (.slice A0_4 l0_4.length c0_4) := (blk_cell BK170.out 4).trans rfl; have hfz7_0 := blk_frozen BK170.out 0; have hfz7_1 := blk_frozen BK170.out 1; have hfz7_2 := blk_frozen BK170.out 2; have hfz7_3 := blk_frozen BK170.out 3; have hfz7_4 := blk_frozen BK170.out 4))
    go_ret
    exact ⟨by first | rfl | (simp [errW_none, errW_some] <;> rfl) | (simp [*, errW_none, errW_some] <;> rfl), by repeat (first | (with_reducible first | exact HB.out | apply below_alloc | apply pw_below_drewN | apply below_drew1 | refine below_set ?_ GE170.out) | exact HB.out)⟩
  · rw [if_neg c3] at H
    have c3b0 : decide (t171 ≤ 100000) = false := decide_eq_false c3
    clear c3
    obtain rfl := Option.some.inj H
    go_enter Try.func19, Try.ntmps19
    go_wp2_with (first | ((with_reducible refine gate_dst (N := 1) rfl ?_); (try (refine gate_guard (by rfl) ?_; dsimp only)); refine box_event ?hg (N := 1) ?hd (cs := #[.int .u32 a0_0, .slice A0_1 l0_1.length c0_1, .string a0_2, .slice A0_3 l0_3.length c0_3, .slice A0_4 l0_4.length c0_4]) (t := 29) ?hr ?_; (case hd => rfl); (case hg => rfl); (case hr => first | (go_simp; done) | (go_simp; rfl)); intro gb170 hg w8 hbox hb; have n0_ := Aside0.mk (below_step (by repeat (first | (with_reducible first | exact HB.out | apply below_alloc | apply pw_below_drewN | apply below_drew1) | exact HB.out)) hb); have n1_ := Aside0.mk (hbox); have n2_ := Aside0.mk ((by rw [hg]; exact (below_size (by repeat (first | (with_reducible first | exact HB.out | apply below_alloc | apply pw_below_drewN | apply below_drew1) | exact HB.out))) : w.heap.size ≤ gb170)); have n3_ := Aside0.mk ((by rw [hg]; exact (below_size (by repeat (first | (with_reducible first | exact HB.out | apply below_alloc | apply pw_below_drewN | apply below_drew1) | exact HB.out))) : w.heap.size ≤ gb170)); clear HB; have HB := n0_; have BK170 := n1_; have GW170 := n2_; have GE170 := n3_; clear n0_ n1_ n2_ n3_; clear hb hbox hg; have hcz9_0 : w8.cell? ⟨gb170, 0, none⟩ = some (.int .u32 a0_0) := (blk_cell BK170.out 0).trans rfl; have hcz9_1 : w8.cell? ⟨gb170, 1, none⟩ = some (.slice A0_1 l0_1.length c0_1) := (blk_cell BK170.out 1).trans rfl; have hcz9_2 : w8.cell? ⟨gb170, 2, none⟩ = some (.string a0_2) := (blk_cell BK170.out 2).trans rfl; have hcz9_3 : w8.cell? ⟨gb170, 3, none⟩ = some (.slice A0_3 l0_3.length c0_3) := (blk_cell BK170.out 3).trans rfl; have hcz9_4 : w8.cell? ⟨gb170, 4, none⟩ = some (.slice A0_4 l0_4.length c0_4) := (blk_cell BK170.out 4).trans rfl; have hfz9_0 := blk_frozen BK170.out 0; have hfz9_1 := blk_frozen BK170.out 1; have hfz9_2 := blk_frozen BK170.out 2; have hfz9_3 := blk_frozen BK170.out 3; have hfz9_4 := blk_frozen BK170.out 4) | ((with_reducible refine gate_callee (f := 36) rfl ?_); refine goesL_ (some 5) rfl rfl Try.func36 (by kernel_rfl) rfl #[.agg #[.string a0_2, .slice A0_3 l0_3.length c0_3, .slice A0_4 l0_4.length c0_4], .int .i64 0] rfl (by (try simp only [List.map_toArray, List.map_cons, List.map_nil]); first | done | rfl | (simp only [List.length_drop, List.length_take]; rfl)) ?_; (with_reducible refine (arboretlaw03_size.calls k a0_2 _ _ l0_3 _ _ l0_4 0 t171 _ ?side1 ?side2 ?side3 ?side4 A2.out).mono ?_); (case side1 => repeat (first | exact (Kd.C_below HR0_3.out HB.out) | (with_reducible refine Kd.C_alloc ?_ _) | (with_reducible refine Kd.C_drewN ?_ _) | (with_reducible refine Kd.C_drew ?_))); (case side2 => exact HC0_3.out); (case side3 => repeat (first | exact (Kd.C_below HR0_4.out HB.out) | (with_reducible refine Kd.C_alloc ?_ _) | (with_reducible refine Kd.C_drewN ?_ _) | (with_reducible refine Kd.C_drew ?_))); (case side4 => exact HC0_4.out); rintro e w10 ⟨rfl, hb⟩; refine ⟨_, rfl, ?_⟩; have n0_ := Aside0.mk (blk_below (g := gb170) (o := .cells #[.int .u32 a0_0, .slice A0_1 l0_1.length c0_1, .string a0_2, .slice A0_3 l0_3.length c0_3, .slice A0_4 l0_4.length c0_4] 29 (0, 0)) (by (with_reducible repeat (first | refine blk_drewN ?_ _ | refine blk_drew ?_ | refine blk_alloc ?_ _)); exact BK170.out) hb); have n1_ := Aside0.mk (below_step (by repeat (first | (with_reducible first | exact HB.out | apply below_alloc | apply pw_below_drewN | apply below_drew1 | refine below_set ?_ GE170.out) | exact HB.out)) hb); clear BK170; clear HB; have BK170 := n0_; have HB := n1_; clear n0_ n1_; (try clear hb); (try clear hb2); (try clear hk); (try clear hi)))
    go_ret
    exact ⟨by first | rfl | (simp [errW_none, errW_some] <;> rfl) | (simp [*, errW_none, errW_some] <;> rfl), by repeat (first | (with_reducible first | exact HB.out | apply below_alloc | apply pw_below_drewN | apply below_drew1 | refine below_set ?_ GE170.out) | exact HB.out)⟩
end Go.Proofs.Ytkopmkinlanhoaa.PE

namespace Go.Proofs.Ytkopmkinlanhoaa.PE
open Go.RowKit Go.Proofs.YtkopmkinlanhoaaW.PrintWords Go.Proofs.YtkopmkinlanhoaaW.PrintLast Go.Proofs.YtkopmkinlanhoaaW.PrintMore
attribute [local go_sem] max2_int min2_int max_two min_two max_three min_three max_four min_four   -- for this text's walks alone
set_option linter.unusedVariables false
set_option linter.unusedSimpArgs false
def arboretref01_Cut.l0 : Nat → ByteArray → Int → Int → Option (Int)
  | 0, _, _, _ => none
  | k + 1, x0, x5, x6 => if x6 < x5 then (if 0 ≤ x6 then (if x6 < (x0.size : Int) then (if (bt x0 x6) = 64 then (some x6) else (arboretref01_Cut.l0 k x0 x5 (wrap64 (x6 + 1)))) else (none)) else (none)) else (some (-1))
def arboretref01_Cut.f (k : Nat) (a0 : ByteArray) : Option (Int) := arboretref01_Cut.l0 k a0 (a0.size : Int) 0
theorem arboretref01_Cut.mono_l : ∀ k, (∀ y0 y1 y2, LeO (arboretref01_Cut.l0 k y0 y1 y2) (arboretref01_Cut.l0 (k + 1) y0 y1 y2))
  | 0 => fun _ _ _ r h => by simp [arboretref01_Cut.l0] at h
  | k + 1 => by
    have ih0 := arboretref01_Cut.mono_l k
    · intro y0 y1 y2
      unfold arboretref01_Cut.l0
      repeat' first
      | (with_reducible exact ih0 _ _ _)
      | (with_reducible exact LeO.refl _)
      | (with_reducible exact LeO.none _)
      | (with_reducible refine LeO.ite ?_ ?_)
      | (with_reducible refine LeO.bind ?_ (fun _ => ?_))
      | exact ih0 _ _ _
      | exact LeO.none _
      | refine LeO.ite ?_ ?_
      | refine LeO.bind ?_ (fun _ => ?_)
theorem arboretref01_Cut.mono : ∀ a0 k, LeO (arboretref01_Cut.f k a0) (arboretref01_Cut.f (k + 1) a0) := by
  intro a0 k
  have ih0 := arboretref01_Cut.mono_l k
  unfold arboretref01_Cut.f
  repeat' first
      | (with_reducible exact ih0 _ _ _)
      | (with_reducible exact LeO.refl _)
      | (with_reducible exact LeO.none _)
      | (with_reducible refine LeO.ite ?_ ?_)
      | (with_reducible refine LeO.bind ?_ (fun _ => ?_))
      | exact ih0 _ _ _
      | exact LeO.none _
      | refine LeO.ite ?_ ?_
      | refine LeO.bind ?_ (fun _ => ?_)
set_option maxHeartbeats 8000000 in
set_option maxRecDepth 100000 in
theorem arboretref01_Cut.calls (k : Nat) (a0 : ByteArray) (r : Int) (w : World) (h : arboretref01_Cut.f k a0 = some r) :
    Calls Try.prog 81 #[.string a0] w fun e w' => e = .returned (.int .i64 r) ∧ Drawn0 w w' := by
  have H : (arboretref01_Cut.l0 k a0 (a0.size : Int) 0) = some r := h
  clear h
  have H' := Aside0.mk H
  clear H
  go_enter Try.func81, Try.ntmps81
  go_wp2
  go_loopg [6] k (fun kq v6 w' => ∃ (x6_1 : Int), v6 = .int .i64 x6_1 ∧ Aside0 (arboretref01_Cut.l0 kq a0 (a0.size : Int) x6_1 = some r) ∧ Aside0 (kq ≤ k) ∧ Drawn0 w w')
  case atStart => exact ⟨(0), (by first | rfl | (simp; done) | (simp [*]; done)), H', ⟨Nat.le_refl _⟩, by repeat (first | exact Drawn0.refl _ | apply Drawn0.step)⟩
  case round =>
    clear H'
    obtain ⟨x6_1, rfl, HA, HK1, ⟨m1, rfl⟩⟩ := hrel
    cases gk with
    | zero => exact absurd HA.out (by simp [arboretref01_Cut.l0])
    | succ k1 =>
      have H := HA.out
      clear HA
      simp only [arboretref01_Cut.l0] at H
      by_cases c2 : x6_1 < (a0.size : Int)
      · rw [if_pos c2] at H
        have c2b0 : decide (x6_1 < (a0.size : Int)) = true := decide_eq_true c2
        clear c2
        by_cases c3 : 0 ≤ x6_1
        · rw [if_pos c3] at H
          have c3b0 : decide (0 ≤ x6_1) = true := decide_eq_true c3
          clear c3
          by_cases c4 : x6_1 < (a0.size : Int)
          · rw [if_pos c4] at H
            have c4b0 : decide (x6_1 < (a0.size : Int)) = true := decide_eq_true c4
            clear c4
            by_cases c6 : (bt a0 x6_1) = 64
            · rw [if_pos c6] at H
              have c6b0 : ((bt a0 x6_1) == 64) = true := beq_iff_eq.mpr c6
              have c6b1 : ((bt a0 x6_1) != 64) = false := bne_eq_false_iff_eq.mpr c6
              clear c6
              obtain rfl := Option.some.inj H
              have p5 : 0 ≤ (x6_1 : Int) := of_decide_eq_true (by first | (with_reducible assumption) | assumption)
              have q5 : x6_1 < (a0.size : Int) := of_decide_eq_true (by first | (with_reducible assumption) | assumption)
              have hx5 := bt_at a0 x6_1
              replace p5 := eq_true p5
              replace q5 := eq_true q5
              go_wp2
              go_ret
              exact ⟨by first | rfl | (simp; done) | (simp [*]; done), by repeat (first | exact Drawn0.refl _ | apply Drawn0.step)⟩
            · rw [if_neg c6] at H
              have c6b0 : ((bt a0 x6_1) == 64) = false := beq_eq_false_iff_ne.mpr c6
              have c6b1 : ((bt a0 x6_1) != 64) = true := bne_iff_ne.mpr c6
              have H' := Aside0.mk H
              clear H
              have p5 : 0 ≤ (x6_1 : Int) := of_decide_eq_true (by first | (with_reducible assumption) | assumption)
              have q5 : x6_1 < (a0.size : Int) := of_decide_eq_true (by first | (with_reducible assumption) | assumption)
              have hx5 := bt_at a0 x6_1
              replace p5 := eq_true p5
              replace q5 := eq_true q5
              go_wp2
              go_roundg k1
              case measure => have := HK1.out; omega
              case rel => exact ⟨(wrap64 (x6_1 + 1)), (by first | rfl | (simp; done) | (simp [*]; done)), H', ⟨by have := HK1.out; omega⟩, by repeat (first | exact Drawn0.refl _ | apply Drawn0.step)⟩
          · rw [if_neg c4] at H
            exact absurd H (by simp)
        · rw [if_neg c3] at H
          exact absurd H (by simp)
      · rw [if_neg c2] at H
        have c2b0 : decide (x6_1 < (a0.size : Int)) = false := decide_eq_false c2
        clear c2
        obtain rfl := Option.some.inj H
        go_wp2
        go_ret
        exact ⟨by first | rfl | (simp; done) | (simp [*]; done), by repeat (first | exact Drawn0.refl _ | apply Drawn0.step)⟩
end Go.Proofs.Ytkopmkinlanhoaa.PE

namespace Go.Proofs.Ytkopmkinlanhoaa.PE
open Go.RowKit Go.Proofs.YtkopmkinlanhoaaW.PrintWords Go.Proofs.YtkopmkinlanhoaaW.PrintLast Go.Proofs.YtkopmkinlanhoaaW.PrintMore
attribute [local go_sem] max2_int min2_int max_two min_two max_three min_three max_four min_four   -- for this text's walks alone
set_option linter.unusedVariables false
set_option linter.unusedSimpArgs false
def arboretref01_stands.f (a0 : Int) : Option (Bool) := if a0 ≥ 48 then (if a0 ≤ 57 then (some true) else (if a0 ≥ 97 then (if a0 ≤ 122 then (some true) else (if a0 ≥ 65 then (if a0 ≤ 90 then (some true) else (if a0 = 44 then (some true) else (if a0 = 46 then (some true) else (if a0 = 95 then (some true) else (if a0 = 43 then (some true) else (some (a0 == 45))))))) else (if a0 = 44 then (some true) else (if a0 = 46 then (some true) else (if a0 = 95 then (some true) else (if a0 = 43 then (some true) else (some (a0 == 45)))))))) else (if a0 ≥ 65 then (if a0 ≤ 90 then (some true) else (if a0 = 44 then (some true) else (if a0 = 46 then (some true) else (if a0 = 95 then (some true) else (if a0 = 43 then (some true) else (some (a0 == 45))))))) else (if a0 = 44 then (some true) else (if a0 = 46 then (some true) else (if a0 = 95 then (some true) else (if a0 = 43 then (some true) else (some (a0 == 45))))))))) else (if a0 ≥ 97 then (if a0 ≤ 122 then (some true) else (if a0 ≥ 65 then (if a0 ≤ 90 then (some true) else (if a0 = 44 then (some true) else (if a0 = 46 then (some true) else (if a0 = 95 then (some true) else (if a0 = 43 then (some true) else (some (a0 == 45))))))) else (if a0 = 44 then (some true) else (if a0 = 46 then (some true) else (if a0 = 95 then (some true) else (if a0 = 43 then (some true) else (some (a0 == 45)))))))) else (if a0 ≥ 65 then (if a0 ≤ 90 then (some true) else (if a0 = 44 then (some true) else (if a0 = 46 then (some true) else (if a0 = 95 then (some true) else (if a0 = 43 then (some true) else (some (a0 == 45))))))) else (if a0 = 44 then (some true) else (if a0 = 46 then (some true) else (if a0 = 95 then (some true) else (if a0 = 43 then (some true) else (some (a0 == 45))))))))
set_option maxHeartbeats 8000000 in
set_option maxRecDepth 100000 in
theorem arboretref01_stands.calls (a0 : Int) (r : Bool) (w : World) (h : arboretref01_stands.f a0 = some r) :
    Calls Try.prog 82 #[.int .u8 a0] w fun e w' => e = .returned (.bool r) ∧ Drawn0 w w' := by
  have H : (if a0 ≥ 48 then (if a0 ≤ 57 then (some true) else (if a0 ≥ 97 then (if a0 ≤ 122 then (some true) else (if a0 ≥ 65 then (if a0 ≤ 90 then (some true) else (if a0 = 44 then (some true) else (if a0 = 46 then (some true) else (if a0 = 95 then (some true) else (if a0 = 43 then (some true) else (some (a0 == 45))))))) else (if a0 = 44 then (some true) else (if a0 = 46 then (some true) else (if a0 = 95 then (some true) else (if a0 = 43 then (some true) else (some (a0 == 45)))))))) else (if a0 ≥ 65 then (if a0 ≤ 90 then (some true) else (if a0 = 44 then (some true) else (if a0 = 46 then (some true) else (if a0 = 95 then (some true) else (if a0 = 43 then (some true) else (some (a0 == 45))))))) else (if a0 = 44 then (some true) else (if a0 = 46 then (some true) else (if a0 = 95 then (some true) else (if a0 = 43 then (some true) else (some (a0 == 45))))))))) else (if a0 ≥ 97 then (if a0 ≤ 122 then (some true) else (if a0 ≥ 65 then (if a0 ≤ 90 then (some true) else (if a0 = 44 then (some true) else (if a0 = 46 then (some true) else (if a0 = 95 then (some true) else (if a0 = 43 then (some true) else (some (a0 == 45))))))) else (if a0 = 44 then (some true) else (if a0 = 46 then (some true) else (if a0 = 95 then (some true) else (if a0 = 43 then (some true) else (some (a0 == 45)))))))) else (if a0 ≥ 65 then (if a0 ≤ 90 then (some true) else (if a0 = 44 then (some true) else (if a0 = 46 then (some true) else (if a0 = 95 then (some true) else (if a0 = 43 then (some true) else (some (a0 == 45))))))) else (if a0 = 44 then (some true) else (if a0 = 46 then (some true) else (if a0 = 95 then (some true) else (if a0 = 43 then (some true) else (some (a0 == 45))))))))) = some r := h
  clear h
  by_cases c2 : a0 ≥ 48
  · rw [if_pos c2] at H
    have c2b0 : decide (48 ≤ a0) = true := decide_eq_true c2
    clear c2
    by_cases c3 : a0 ≤ 57
    · rw [if_pos c3] at H
      have c3b0 : decide (a0 ≤ 57) = true := decide_eq_true c3
      clear c3
      obtain rfl := Option.some.inj H
      go_enter Try.func82, Try.ntmps82
      go_wp2
      go_ret
      exact ⟨by first | rfl | (simp; done) | (simp [*]; done), by repeat (first | exact Drawn0.refl _ | apply Drawn0.step)⟩
    · rw [if_neg c3] at H
      have c3b0 : decide (a0 ≤ 57) = false := decide_eq_false c3
      clear c3
      by_cases c4 : a0 ≥ 97
      · rw [if_pos c4] at H
        have c4b0 : decide (97 ≤ a0) = true := decide_eq_true c4
        clear c4
        by_cases c5 : a0 ≤ 122
        · rw [if_pos c5] at H
          have c5b0 : decide (a0 ≤ 122) = true := decide_eq_true c5
          clear c5
          obtain rfl := Option.some.inj H
          go_enter Try.func82, Try.ntmps82
          go_wp2
          go_ret
          exact ⟨by first | rfl | (simp; done) | (simp [*]; done), by repeat (first | exact Drawn0.refl _ | apply Drawn0.step)⟩
        · rw [if_neg c5] at H
          have c5b0 : decide (a0 ≤ 122) = false := decide_eq_false c5
          clear c5
          by_cases c6 : a0 ≥ 65
          · rw [if_pos c6] at H
            have c6b0 : decide (65 ≤ a0) = true := decide_eq_true c6
            clear c6
            by_cases c7 : a0 ≤ 90
            · rw [if_pos c7] at H
              have c7b0 : decide (a0 ≤ 90) = true := decide_eq_true c7
              clear c7
              obtain rfl := Option.some.inj H
              go_enter Try.func82, Try.ntmps82
              go_wp2
              go_ret
              exact ⟨by first | rfl | (simp; done) | (simp [*]; done), by repeat (first | exact Drawn0.refl _ | apply Drawn0.step)⟩
            · rw [if_neg c7] at H
              have c7b0 : decide (a0 ≤ 90) = false := decide_eq_false c7
              clear c7
              by_cases c8 : a0 = 44
              · rw [if_pos c8] at H
                have c8b0 : (a0 == 44) = true := beq_iff_eq.mpr c8
                have c8b1 : (a0 != 44) = false := bne_eq_false_iff_eq.mpr c8
                clear c8
                obtain rfl := Option.some.inj H
                go_enter Try.func82, Try.ntmps82
                go_wp2
                go_ret
                exact ⟨by first | rfl | (simp; done) | (simp [*]; done), by repeat (first | exact Drawn0.refl _ | apply Drawn0.step)⟩
              · rw [if_neg c8] at H
                have c8b0 : (a0 == 44) = false := beq_eq_false_iff_ne.mpr c8
                have c8b1 : (a0 != 44) = true := bne_iff_ne.mpr c8
                by_cases c9 : a0 = 46
                · rw [if_pos c9] at H
                  have c9b0 : (a0 == 46) = true := beq_iff_eq.mpr c9
                  have c9b1 : (a0 != 46) = false := bne_eq_false_iff_eq.mpr c9
                  clear c9
                  obtain rfl := Option.some.inj H
                  go_enter Try.func82, Try.ntmps82
                  go_wp2
                  go_ret
                  exact ⟨by first | rfl | (simp; done) | (simp [*]; done), by repeat (first | exact Drawn0.refl _ | apply Drawn0.step)⟩
                · rw [if_neg c9] at H
                  have c9b0 : (a0 == 46) = false := beq_eq_false_iff_ne.mpr c9
                  have c9b1 : (a0 != 46) = true := bne_iff_ne.mpr c9
                  by_cases c10 : a0 = 95
                  · rw [if_pos c10] at H
                    have c10b0 : (a0 == 95) = true := beq_iff_eq.mpr c10
                    have c10b1 : (a0 != 95) = false := bne_eq_false_iff_eq.mpr c10
                    clear c10
                    obtain rfl := Option.some.inj H
                    go_enter Try.func82, Try.ntmps82
                    go_wp2
                    go_ret
                    exact ⟨by first | rfl | (simp; done) | (simp [*]; done), by repeat (first | exact Drawn0.refl _ | apply Drawn0.step)⟩
                  · rw [if_neg c10] at H
                    have c10b0 : (a0 == 95) = false := beq_eq_false_iff_ne.mpr c10
                    have c10b1 : (a0 != 95) = true := bne_iff_ne.mpr c10
                    by_cases c11 : a0 = 43
                    · rw [if_pos c11] at H
                      have c11b0 : (a0 == 43) = true := beq_iff_eq.mpr c11
                      have c11b1 : (a0 != 43) = false := bne_eq_false_iff_eq.mpr c11
                      clear c11
                      obtain rfl := Option.some.inj H
                      go_enter Try.func82, Try.ntmps82
                      go_wp2
                      go_ret
                      exact ⟨by first | rfl | (simp; done) | (simp [*]; done), by repeat (first | exact Drawn0.refl _ | apply Drawn0.step)⟩
                    · rw [if_neg c11] at H
                      have c11b0 : (a0 == 43) = false := beq_eq_false_iff_ne.mpr c11
                      have c11b1 : (a0 != 43) = true := bne_iff_ne.mpr c11
                      obtain rfl := Option.some.inj H
                      go_enter Try.func82, Try.ntmps82
                      go_wp2
                      go_ret
                      exact ⟨by first | rfl | (simp; done) | (simp [*]; done), by repeat (first | exact Drawn0.refl _ | apply Drawn0.step)⟩
          · rw [if_neg c6] at H
            have c6b0 : decide (65 ≤ a0) = false := decide_eq_false c6
            clear c6
            by_cases c12 : a0 = 44
            · rw [if_pos c12] at H
              have c12b0 : (a0 == 44) = true := beq_iff_eq.mpr c12
              have c12b1 : (a0 != 44) = false := bne_eq_false_iff_eq.mpr c12
              clear c12
              obtain rfl := Option.some.inj H
              go_enter Try.func82, Try.ntmps82
              go_wp2
              go_ret
              exact ⟨by first | rfl | (simp; done) | (simp [*]; done), by repeat (first | exact Drawn0.refl _ | apply Drawn0.step)⟩
            · rw [if_neg c12] at H
              have c12b0 : (a0 == 44) = false := beq_eq_false_iff_ne.mpr c12
              have c12b1 : (a0 != 44) = true := bne_iff_ne.mpr c12
              by_cases c13 : a0 = 46
              · rw [if_pos c13] at H
                have c13b0 : (a0 == 46) = true := beq_iff_eq.mpr c13
                have c13b1 : (a0 != 46) = false := bne_eq_false_iff_eq.mpr c13
                clear c13
                obtain rfl := Option.some.inj H
                go_enter Try.func82, Try.ntmps82
                go_wp2
                go_ret
                exact ⟨by first | rfl | (simp; done) | (simp [*]; done), by repeat (first | exact Drawn0.refl _ | apply Drawn0.step)⟩
              · rw [if_neg c13] at H
                have c13b0 : (a0 == 46) = false := beq_eq_false_iff_ne.mpr c13
                have c13b1 : (a0 != 46) = true := bne_iff_ne.mpr c13
                by_cases c14 : a0 = 95
                · rw [if_pos c14] at H
                  have c14b0 : (a0 == 95) = true := beq_iff_eq.mpr c14
                  have c14b1 : (a0 != 95) = false := bne_eq_false_iff_eq.mpr c14
                  clear c14
                  obtain rfl := Option.some.inj H
                  go_enter Try.func82, Try.ntmps82
                  go_wp2
                  go_ret
                  exact ⟨by first | rfl | (simp; done) | (simp [*]; done), by repeat (first | exact Drawn0.refl _ | apply Drawn0.step)⟩
                · rw [if_neg c14] at H
                  have c14b0 : (a0 == 95) = false := beq_eq_false_iff_ne.mpr c14
                  have c14b1 : (a0 != 95) = true := bne_iff_ne.mpr c14
                  by_cases c15 : a0 = 43
                  · rw [if_pos c15] at H
                    have c15b0 : (a0 == 43) = true := beq_iff_eq.mpr c15
                    have c15b1 : (a0 != 43) = false := bne_eq_false_iff_eq.mpr c15
                    clear c15
                    obtain rfl := Option.some.inj H
                    go_enter Try.func82, Try.ntmps82
                    go_wp2
                    go_ret
                    exact ⟨by first | rfl | (simp; done) | (simp [*]; done), by repeat (first | exact Drawn0.refl _ | apply Drawn0.step)⟩
                  · rw [if_neg c15] at H
                    have c15b0 : (a0 == 43) = false := beq_eq_false_iff_ne.mpr c15
                    have c15b1 : (a0 != 43) = true := bne_iff_ne.mpr c15
                    obtain rfl := Option.some.inj H
                    go_enter Try.func82, Try.ntmps82
                    go_wp2
                    go_ret
                    exact ⟨by first | rfl | (simp; done) | (simp [*]; done), by repeat (first | exact Drawn0.refl _ | apply Drawn0.step)⟩
      · rw [if_neg c4] at H
        have c4b0 : decide (97 ≤ a0) = false := decide_eq_false c4
        clear c4
        by_cases c16 : a0 ≥ 65
        · rw [if_pos c16] at H
          have c16b0 : decide (65 ≤ a0) = true := decide_eq_true c16
          clear c16
          by_cases c17 : a0 ≤ 90
          · rw [if_pos c17] at H
            have c17b0 : decide (a0 ≤ 90) = true := decide_eq_true c17
            clear c17
            obtain rfl := Option.some.inj H
            go_enter Try.func82, Try.ntmps82
            go_wp2
            go_ret
            exact ⟨by first | rfl | (simp; done) | (simp [*]; done), by repeat (first | exact Drawn0.refl _ | apply Drawn0.step)⟩
          · rw [if_neg c17] at H
            have c17b0 : decide (a0 ≤ 90) = false := decide_eq_false c17
            clear c17
            by_cases c18 : a0 = 44
            · rw [if_pos c18] at H
              have c18b0 : (a0 == 44) = true := beq_iff_eq.mpr c18
              have c18b1 : (a0 != 44) = false := bne_eq_false_iff_eq.mpr c18
              clear c18
              obtain rfl := Option.some.inj H
              go_enter Try.func82, Try.ntmps82
              go_wp2
              go_ret
              exact ⟨by first | rfl | (simp; done) | (simp [*]; done), by repeat (first | exact Drawn0.refl _ | apply Drawn0.step)⟩
            · rw [if_neg c18] at H
              have c18b0 : (a0 == 44) = false := beq_eq_false_iff_ne.mpr c18
              have c18b1 : (a0 != 44) = true := bne_iff_ne.mpr c18
              by_cases c19 : a0 = 46
              · rw [if_pos c19] at H
                have c19b0 : (a0 == 46) = true := beq_iff_eq.mpr c19
                have c19b1 : (a0 != 46) = false := bne_eq_false_iff_eq.mpr c19
                clear c19
                obtain rfl := Option.some.inj H
                go_enter Try.func82, Try.ntmps82
                go_wp2
                go_ret
                exact ⟨by first | rfl | (simp; done) | (simp [*]; done), by repeat (first | exact Drawn0.refl _ | apply Drawn0.step)⟩
              · rw [if_neg c19] at H
                have c19b0 : (a0 == 46) = false := beq_eq_false_iff_ne.mpr c19
                have c19b1 : (a0 != 46) = true := bne_iff_ne.mpr c19
                by_cases c20 : a0 = 95
                · rw [if_pos c20] at H
                  have c20b0 : (a0 == 95) = true := beq_iff_eq.mpr c20
                  have c20b1 : (a0 != 95) = false := bne_eq_false_iff_eq.mpr c20
                  clear c20
                  obtain rfl := Option.some.inj H
                  go_enter Try.func82, Try.ntmps82
                  go_wp2
                  go_ret
                  exact ⟨by first | rfl | (simp; done) | (simp [*]; done), by repeat (first | exact Drawn0.refl _ | apply Drawn0.step)⟩
                · rw [if_neg c20] at H
                  have c20b0 : (a0 == 95) = false := beq_eq_false_iff_ne.mpr c20
                  have c20b1 : (a0 != 95) = true := bne_iff_ne.mpr c20
                  by_cases c21 : a0 = 43
                  · rw [if_pos c21] at H
                    have c21b0 : (a0 == 43) = true := beq_iff_eq.mpr c21
                    have c21b1 : (a0 != 43) = false := bne_eq_false_iff_eq.mpr c21
                    clear c21
                    obtain rfl := Option.some.inj H
                    go_enter Try.func82, Try.ntmps82
                    go_wp2
                    go_ret
                    exact ⟨by first | rfl | (simp; done) | (simp [*]; done), by repeat (first | exact Drawn0.refl _ | apply Drawn0.step)⟩
                  · rw [if_neg c21] at H
                    have c21b0 : (a0 == 43) = false := beq_eq_false_iff_ne.mpr c21
                    have c21b1 : (a0 != 43) = true := bne_iff_ne.mpr c21
                    obtain rfl := Option.some.inj H
                    go_enter Try.func82, Try.ntmps82
                    go_wp2
                    go_ret
                    exact ⟨by first | rfl | (simp; done) | (simp [*]; done), by repeat (first | exact Drawn0.refl _ | apply Drawn0.step)⟩
        · rw [if_neg c16] at H
          have c16b0 : decide (65 ≤ a0) = false := decide_eq_false c16
          clear c16
          by_cases c22 : a0 = 44
          · rw [if_pos c22] at H
            have c22b0 : (a0 == 44) = true := beq_iff_eq.mpr c22
            have c22b1 : (a0 != 44) = false := bne_eq_false_iff_eq.mpr c22
            clear c22
            obtain rfl := Option.some.inj H
            go_enter Try.func82, Try.ntmps82
            go_wp2
            go_ret
            exact ⟨by first | rfl | (simp; done) | (simp [*]; done), by repeat (first | exact Drawn0.refl _ | apply Drawn0.step)⟩
          · rw [if_neg c22] at H
            have c22b0 : (a0 == 44) = false := beq_eq_false_iff_ne.mpr c22
            have c22b1 : (a0 != 44) = true := bne_iff_ne.mpr c22
            by_cases c23 : a0 = 46
            · rw [if_pos c23] at H
              have c23b0 : (a0 == 46) = true := beq_iff_eq.mpr c23
              have c23b1 : (a0 != 46) = false := bne_eq_false_iff_eq.mpr c23
              clear c23
              obtain rfl := Option.some.inj H
              go_enter Try.func82, Try.ntmps82
              go_wp2
              go_ret
              exact ⟨by first | rfl | (simp; done) | (simp [*]; done), by repeat (first | exact Drawn0.refl _ | apply Drawn0.step)⟩
            · rw [if_neg c23] at H
              have c23b0 : (a0 == 46) = false := beq_eq_false_iff_ne.mpr c23
              have c23b1 : (a0 != 46) = true := bne_iff_ne.mpr c23
              by_cases c24 : a0 = 95
              · rw [if_pos c24] at H
                have c24b0 : (a0 == 95) = true := beq_iff_eq.mpr c24
                have c24b1 : (a0 != 95) = false := bne_eq_false_iff_eq.mpr c24
                clear c24
                obtain rfl := Option.some.inj H
                go_enter Try.func82, Try.ntmps82
                go_wp2
                go_ret
                exact ⟨by first | rfl | (simp; done) | (simp [*]; done), by repeat (first | exact Drawn0.refl _ | apply Drawn0.step)⟩
              · rw [if_neg c24] at H
                have c24b0 : (a0 == 95) = false := beq_eq_false_iff_ne.mpr c24
                have c24b1 : (a0 != 95) = true := bne_iff_ne.mpr c24
                by_cases c25 : a0 = 43
                · rw [if_pos c25] at H
                  have c25b0 : (a0 == 43) = true := beq_iff_eq.mpr c25
                  have c25b1 : (a0 != 43) = false := bne_eq_false_iff_eq.mpr c25
                  clear c25
                  obtain rfl := Option.some.inj H
                  go_enter Try.func82, Try.ntmps82
                  go_wp2
                  go_ret
                  exact ⟨by first | rfl | (simp; done) | (simp [*]; done), by repeat (first | exact Drawn0.refl _ | apply Drawn0.step)⟩
                · rw [if_neg c25] at H
                  have c25b0 : (a0 == 43) = false := beq_eq_false_iff_ne.mpr c25
                  have c25b1 : (a0 != 43) = true := bne_iff_ne.mpr c25
                  obtain rfl := Option.some.inj H
                  go_enter Try.func82, Try.ntmps82
                  go_wp2
                  go_ret
                  exact ⟨by first | rfl | (simp; done) | (simp [*]; done), by repeat (first | exact Drawn0.refl _ | apply Drawn0.step)⟩
  · rw [if_neg c2] at H
    have c2b0 : decide (48 ≤ a0) = false := decide_eq_false c2
    clear c2
    by_cases c26 : a0 ≥ 97
    · rw [if_pos c26] at H
      have c26b0 : decide (97 ≤ a0) = true := decide_eq_true c26
      clear c26
      by_cases c27 : a0 ≤ 122
      · rw [if_pos c27] at H
        have c27b0 : decide (a0 ≤ 122) = true := decide_eq_true c27
        clear c27
        obtain rfl := Option.some.inj H
        go_enter Try.func82, Try.ntmps82
        go_wp2
        go_ret
        exact ⟨by first | rfl | (simp; done) | (simp [*]; done), by repeat (first | exact Drawn0.refl _ | apply Drawn0.step)⟩
      · rw [if_neg c27] at H
        have c27b0 : decide (a0 ≤ 122) = false := decide_eq_false c27
        clear c27
        by_cases c28 : a0 ≥ 65
        · rw [if_pos c28] at H
          have c28b0 : decide (65 ≤ a0) = true := decide_eq_true c28
          clear c28
          by_cases c29 : a0 ≤ 90
          · rw [if_pos c29] at H
            have c29b0 : decide (a0 ≤ 90) = true := decide_eq_true c29
            clear c29
            obtain rfl := Option.some.inj H
            go_enter Try.func82, Try.ntmps82
            go_wp2
            go_ret
            exact ⟨by first | rfl | (simp; done) | (simp [*]; done), by repeat (first | exact Drawn0.refl _ | apply Drawn0.step)⟩
          · rw [if_neg c29] at H
            have c29b0 : decide (a0 ≤ 90) = false := decide_eq_false c29
            clear c29
            by_cases c30 : a0 = 44
            · rw [if_pos c30] at H
              have c30b0 : (a0 == 44) = true := beq_iff_eq.mpr c30
              have c30b1 : (a0 != 44) = false := bne_eq_false_iff_eq.mpr c30
              clear c30
              obtain rfl := Option.some.inj H
              go_enter Try.func82, Try.ntmps82
              go_wp2
              go_ret
              exact ⟨by first | rfl | (simp; done) | (simp [*]; done), by repeat (first | exact Drawn0.refl _ | apply Drawn0.step)⟩
            · rw [if_neg c30] at H
              have c30b0 : (a0 == 44) = false := beq_eq_false_iff_ne.mpr c30
              have c30b1 : (a0 != 44) = true := bne_iff_ne.mpr c30
              by_cases c31 : a0 = 46
              · rw [if_pos c31] at H
                have c31b0 : (a0 == 46) = true := beq_iff_eq.mpr c31
                have c31b1 : (a0 != 46) = false := bne_eq_false_iff_eq.mpr c31
                clear c31
                obtain rfl := Option.some.inj H
                go_enter Try.func82, Try.ntmps82
                go_wp2
                go_ret
                exact ⟨by first | rfl | (simp; done) | (simp [*]; done), by repeat (first | exact Drawn0.refl _ | apply Drawn0.step)⟩
              · rw [if_neg c31] at H
                have c31b0 : (a0 == 46) = false := beq_eq_false_iff_ne.mpr c31
                have c31b1 : (a0 != 46) = true := bne_iff_ne.mpr c31
                by_cases c32 : a0 = 95
                · rw [if_pos c32] at H
                  have c32b0 : (a0 == 95) = true := beq_iff_eq.mpr c32
                  have c32b1 : (a0 != 95) = false := bne_eq_false_iff_eq.mpr c32
                  clear c32
                  obtain rfl := Option.some.inj H
                  go_enter Try.func82, Try.ntmps82
                  go_wp2
                  go_ret
                  exact ⟨by first | rfl | (simp; done) | (simp [*]; done), by repeat (first | exact Drawn0.refl _ | apply Drawn0.step)⟩
                · rw [if_neg c32] at H
                  have c32b0 : (a0 == 95) = false := beq_eq_false_iff_ne.mpr c32
                  have c32b1 : (a0 != 95) = true := bne_iff_ne.mpr c32
                  by_cases c33 : a0 = 43
                  · rw [if_pos c33] at H
                    have c33b0 : (a0 == 43) = true := beq_iff_eq.mpr c33
                    have c33b1 : (a0 != 43) = false := bne_eq_false_iff_eq.mpr c33
                    clear c33
                    obtain rfl := Option.some.inj H
                    go_enter Try.func82, Try.ntmps82
                    go_wp2
                    go_ret
                    exact ⟨by first | rfl | (simp; done) | (simp [*]; done), by repeat (first | exact Drawn0.refl _ | apply Drawn0.step)⟩
                  · rw [if_neg c33] at H
                    have c33b0 : (a0 == 43) = false := beq_eq_false_iff_ne.mpr c33
                    have c33b1 : (a0 != 43) = true := bne_iff_ne.mpr c33
                    obtain rfl := Option.some.inj H
                    go_enter Try.func82, Try.ntmps82
                    go_wp2
                    go_ret
                    exact ⟨by first | rfl | (simp; done) | (simp [*]; done), by repeat (first | exact Drawn0.refl _ | apply Drawn0.step)⟩
        · rw [if_neg c28] at H
          have c28b0 : decide (65 ≤ a0) = false := decide_eq_false c28
          clear c28
          by_cases c34 : a0 = 44
          · rw [if_pos c34] at H
            have c34b0 : (a0 == 44) = true := beq_iff_eq.mpr c34
            have c34b1 : (a0 != 44) = false := bne_eq_false_iff_eq.mpr c34
            clear c34
            obtain rfl := Option.some.inj H
            go_enter Try.func82, Try.ntmps82
            go_wp2
            go_ret
            exact ⟨by first | rfl | (simp; done) | (simp [*]; done), by repeat (first | exact Drawn0.refl _ | apply Drawn0.step)⟩
          · rw [if_neg c34] at H
            have c34b0 : (a0 == 44) = false := beq_eq_false_iff_ne.mpr c34
            have c34b1 : (a0 != 44) = true := bne_iff_ne.mpr c34
            by_cases c35 : a0 = 46
            · rw [if_pos c35] at H
              have c35b0 : (a0 == 46) = true := beq_iff_eq.mpr c35
              have c35b1 : (a0 != 46) = false := bne_eq_false_iff_eq.mpr c35
              clear c35
              obtain rfl := Option.some.inj H
              go_enter Try.func82, Try.ntmps82
              go_wp2
              go_ret
              exact ⟨by first | rfl | (simp; done) | (simp [*]; done), by repeat (first | exact Drawn0.refl _ | apply Drawn0.step)⟩
            · rw [if_neg c35] at H
              have c35b0 : (a0 == 46) = false := beq_eq_false_iff_ne.mpr c35
              have c35b1 : (a0 != 46) = true := bne_iff_ne.mpr c35
              by_cases c36 : a0 = 95
              · rw [if_pos c36] at H
                have c36b0 : (a0 == 95) = true := beq_iff_eq.mpr c36
                have c36b1 : (a0 != 95) = false := bne_eq_false_iff_eq.mpr c36
                clear c36
                obtain rfl := Option.some.inj H
                go_enter Try.func82, Try.ntmps82
                go_wp2
                go_ret
                exact ⟨by first | rfl | (simp; done) | (simp [*]; done), by repeat (first | exact Drawn0.refl _ | apply Drawn0.step)⟩
              · rw [if_neg c36] at H
                have c36b0 : (a0 == 95) = false := beq_eq_false_iff_ne.mpr c36
                have c36b1 : (a0 != 95) = true := bne_iff_ne.mpr c36
                by_cases c37 : a0 = 43
                · rw [if_pos c37] at H
                  have c37b0 : (a0 == 43) = true := beq_iff_eq.mpr c37
                  have c37b1 : (a0 != 43) = false := bne_eq_false_iff_eq.mpr c37
                  clear c37
                  obtain rfl := Option.some.inj H
                  go_enter Try.func82, Try.ntmps82
                  go_wp2
                  go_ret
                  exact ⟨by first | rfl | (simp; done) | (simp [*]; done), by repeat (first | exact Drawn0.refl _ | apply Drawn0.step)⟩
                · rw [if_neg c37] at H
                  have c37b0 : (a0 == 43) = false := beq_eq_false_iff_ne.mpr c37
                  have c37b1 : (a0 != 43) = true := bne_iff_ne.mpr c37
                  obtain rfl := Option.some.inj H
                  go_enter Try.func82, Try.ntmps82
                  go_wp2
                  go_ret
                  exact ⟨by first | rfl | (simp; done) | (simp [*]; done), by repeat (first | exact Drawn0.refl _ | apply Drawn0.step)⟩
    · rw [if_neg c26] at H
      have c26b0 : decide (97 ≤ a0) = false := decide_eq_false c26
      clear c26
      by_cases c38 : a0 ≥ 65
      · rw [if_pos c38] at H
        have c38b0 : decide (65 ≤ a0) = true := decide_eq_true c38
        clear c38
        by_cases c39 : a0 ≤ 90
        · rw [if_pos c39] at H
          have c39b0 : decide (a0 ≤ 90) = true := decide_eq_true c39
          clear c39
          obtain rfl := Option.some.inj H
          go_enter Try.func82, Try.ntmps82
          go_wp2
          go_ret
          exact ⟨by first | rfl | (simp; done) | (simp [*]; done), by repeat (first | exact Drawn0.refl _ | apply Drawn0.step)⟩
        · rw [if_neg c39] at H
          have c39b0 : decide (a0 ≤ 90) = false := decide_eq_false c39
          clear c39
          by_cases c40 : a0 = 44
          · rw [if_pos c40] at H
            have c40b0 : (a0 == 44) = true := beq_iff_eq.mpr c40
            have c40b1 : (a0 != 44) = false := bne_eq_false_iff_eq.mpr c40
            clear c40
            obtain rfl := Option.some.inj H
            go_enter Try.func82, Try.ntmps82
            go_wp2
            go_ret
            exact ⟨by first | rfl | (simp; done) | (simp [*]; done), by repeat (first | exact Drawn0.refl _ | apply Drawn0.step)⟩
          · rw [if_neg c40] at H
            have c40b0 : (a0 == 44) = false := beq_eq_false_iff_ne.mpr c40
            have c40b1 : (a0 != 44) = true := bne_iff_ne.mpr c40
            by_cases c41 : a0 = 46
            · rw [if_pos c41] at H
              have c41b0 : (a0 == 46) = true := beq_iff_eq.mpr c41
              have c41b1 : (a0 != 46) = false := bne_eq_false_iff_eq.mpr c41
              clear c41
              obtain rfl := Option.some.inj H
              go_enter Try.func82, Try.ntmps82
              go_wp2
              go_ret
              exact ⟨by first | rfl | (simp; done) | (simp [*]; done), by repeat (first | exact Drawn0.refl _ | apply Drawn0.step)⟩
            · rw [if_neg c41] at H
              have c41b0 : (a0 == 46) = false := beq_eq_false_iff_ne.mpr c41
              have c41b1 : (a0 != 46) = true := bne_iff_ne.mpr c41
              by_cases c42 : a0 = 95
              · rw [if_pos c42] at H
                have c42b0 : (a0 == 95) = true := beq_iff_eq.mpr c42
                have c42b1 : (a0 != 95) = false := bne_eq_false_iff_eq.mpr c42
                clear c42
                obtain rfl := Option.some.inj H
                go_enter Try.func82, Try.ntmps82
                go_wp2
                go_ret
                exact ⟨by first | rfl | (simp; done) | (simp [*]; done), by repeat (first | exact Drawn0.refl _ | apply Drawn0.step)⟩
              · rw [if_neg c42] at H
                have c42b0 : (a0 == 95) = false := beq_eq_false_iff_ne.mpr c42
                have c42b1 : (a0 != 95) = true := bne_iff_ne.mpr c42
                by_cases c43 : a0 = 43
                · rw [if_pos c43] at H
                  have c43b0 : (a0 == 43) = true := beq_iff_eq.mpr c43
                  have c43b1 : (a0 != 43) = false := bne_eq_false_iff_eq.mpr c43
                  clear c43
                  obtain rfl := Option.some.inj H
                  go_enter Try.func82, Try.ntmps82
                  go_wp2
                  go_ret
                  exact ⟨by first | rfl | (simp; done) | (simp [*]; done), by repeat (first | exact Drawn0.refl _ | apply Drawn0.step)⟩
                · rw [if_neg c43] at H
                  have c43b0 : (a0 == 43) = false := beq_eq_false_iff_ne.mpr c43
                  have c43b1 : (a0 != 43) = true := bne_iff_ne.mpr c43
                  obtain rfl := Option.some.inj H
                  go_enter Try.func82, Try.ntmps82
                  go_wp2
                  go_ret
                  exact ⟨by first | rfl | (simp; done) | (simp [*]; done), by repeat (first | exact Drawn0.refl _ | apply Drawn0.step)⟩
      · rw [if_neg c38] at H
        have c38b0 : decide (65 ≤ a0) = false := decide_eq_false c38
        clear c38
        by_cases c44 : a0 = 44
        · rw [if_pos c44] at H
          have c44b0 : (a0 == 44) = true := beq_iff_eq.mpr c44
          have c44b1 : (a0 != 44) = false := bne_eq_false_iff_eq.mpr c44
          clear c44
          obtain rfl := Option.some.inj H
          go_enter Try.func82, Try.ntmps82
          go_wp2
          go_ret
          exact ⟨by first | rfl | (simp; done) | (simp [*]; done), by repeat (first | exact Drawn0.refl _ | apply Drawn0.step)⟩
        · rw [if_neg c44] at H
          have c44b0 : (a0 == 44) = false := beq_eq_false_iff_ne.mpr c44
          have c44b1 : (a0 != 44) = true := bne_iff_ne.mpr c44
          by_cases c45 : a0 = 46
          · rw [if_pos c45] at H
            have c45b0 : (a0 == 46) = true := beq_iff_eq.mpr c45
            have c45b1 : (a0 != 46) = false := bne_eq_false_iff_eq.mpr c45
            clear c45
            obtain rfl := Option.some.inj H
            go_enter Try.func82, Try.ntmps82
            go_wp2
            go_ret
            exact ⟨by first | rfl | (simp; done) | (simp [*]; done), by repeat (first | exact Drawn0.refl _ | apply Drawn0.step)⟩
          · rw [if_neg c45] at H
            have c45b0 : (a0 == 46) = false := beq_eq_false_iff_ne.mpr c45
            have c45b1 : (a0 != 46) = true := bne_iff_ne.mpr c45
            by_cases c46 : a0 = 95
            · rw [if_pos c46] at H
              have c46b0 : (a0 == 95) = true := beq_iff_eq.mpr c46
              have c46b1 : (a0 != 95) = false := bne_eq_false_iff_eq.mpr c46
              clear c46
              obtain rfl := Option.some.inj H
              go_enter Try.func82, Try.ntmps82
              go_wp2
              go_ret
              exact ⟨by first | rfl | (simp; done) | (simp [*]; done), by repeat (first | exact Drawn0.refl _ | apply Drawn0.step)⟩
            · rw [if_neg c46] at H
              have c46b0 : (a0 == 95) = false := beq_eq_false_iff_ne.mpr c46
              have c46b1 : (a0 != 95) = true := bne_iff_ne.mpr c46
              by_cases c47 : a0 = 43
              · rw [if_pos c47] at H
                have c47b0 : (a0 == 43) = true := beq_iff_eq.mpr c47
                have c47b1 : (a0 != 43) = false := bne_eq_false_iff_eq.mpr c47
                clear c47
                obtain rfl := Option.some.inj H
                go_enter Try.func82, Try.ntmps82
                go_wp2
                go_ret
                exact ⟨by first | rfl | (simp; done) | (simp [*]; done), by repeat (first | exact Drawn0.refl _ | apply Drawn0.step)⟩
              · rw [if_neg c47] at H
                have c47b0 : (a0 == 43) = false := beq_eq_false_iff_ne.mpr c47
                have c47b1 : (a0 != 43) = true := bne_iff_ne.mpr c47
                obtain rfl := Option.some.inj H
                go_enter Try.func82, Try.ntmps82
                go_wp2
                go_ret
                exact ⟨by first | rfl | (simp; done) | (simp [*]; done), by repeat (first | exact Drawn0.refl _ | apply Drawn0.step)⟩
end Go.Proofs.Ytkopmkinlanhoaa.PE

namespace Go.Proofs.Ytkopmkinlanhoaa.PE
open Go.RowKit Go.Proofs.YtkopmkinlanhoaaW.PrintWords Go.Proofs.YtkopmkinlanhoaaW.PrintLast Go.Proofs.YtkopmkinlanhoaaW.PrintMore
attribute [local go_sem] max2_int min2_int max_two min_two max_three min_three max_four min_four   -- for this text's walks alone
set_option linter.unusedVariables false
set_option linter.unusedSimpArgs false
mutual
def arboretref01_Node.j0 : Nat → ByteArray → Int → ByteArray → Option (Bool)
  | 0, _, _, _ => none
  | k + 1, x0, x3, x4 => arboretref01_Node.l0 k x0 x3 x4 (x0.size : Int) 0
def arboretref01_Node.l0 : Nat → ByteArray → Int → ByteArray → Int → Int → Option (Bool)
  | 0, _, _, _, _, _ => none
  | k + 1, x0, x3, x4, x29, x30 => if x30 < x29 then (if x30 = x3 then (arboretref01_Node.l0 k x0 x3 x4 x29 (wrap64 (x30 + 1))) else (if 0 ≤ x30 then (if x30 < (x0.size : Int) then ((arboretref01_stands.f (bt x0 x30)).bind fun t173 => (if t173 = true then (arboretref01_Node.l0 k x0 x3 x4 x29 (wrap64 (x30 + 1))) else (some false))) else (none)) else (none))) else (if (x4.size : Int) ≥ 1 then (if (x4.size : Int) ≤ 31 then (if 0 < (x4.size : Int) then (if (bt x4 0) = 95 then (some true) else (if (bt x4 0) ≥ 97 then (if (bt x4 0) ≤ 122 then (some true) else (if (bt x4 0) ≥ 65 then (some (decide ((bt x4 0) ≤ 90))) else (some false))) else (if (bt x4 0) ≥ 65 then (some (decide ((bt x4 0) ≤ 90))) else (some false)))) else (none)) else (some false)) else (some false))
end
def arboretref01_Node.f (k : Nat) (a0 : ByteArray) : Option (Bool) := (arboretref01_Cut.f k a0).bind fun t172 => (if t172 ≥ 0 then (if 0 ≤ t172 then (if t172 ≤ (a0.size : Int) then (if (wrap64 ((wrap64 ((a0.size : Int) - t172)) - 1)) < 1 then (some false) else (if (wrap64 ((wrap64 ((a0.size : Int) - t172)) - 1)) > 31 then (some false) else (arboretref01_Node.j0 k a0 t172 (a0.extract 0 (t172 : Int).toNat)))) else (none)) else (none)) else (arboretref01_Node.j0 k a0 t172 a0))
theorem arboretref01_Node.mono_l : ∀ k, (∀ y0 y1 y2, LeO (arboretref01_Node.j0 k y0 y1 y2) (arboretref01_Node.j0 (k + 1) y0 y1 y2)) ∧ (∀ y0 y1 y2 y3 y4, LeO (arboretref01_Node.l0 k y0 y1 y2 y3 y4) (arboretref01_Node.l0 (k + 1) y0 y1 y2 y3 y4))
  | 0 => ⟨fun _ _ _ r h => by simp [arboretref01_Node.j0] at h, fun _ _ _ _ _ r h => by simp [arboretref01_Node.l0] at h⟩
  | k + 1 => by
    obtain ⟨ih0, ih1⟩ := arboretref01_Node.mono_l k
    refine ⟨?_, ?_⟩
    · intro y0 y1 y2
      unfold arboretref01_Node.j0
      repeat' first
      | (with_reducible exact ih0 _ _ _)
      | (with_reducible exact ih1 _ _ _ _ _)
      | (with_reducible exact arboretref01_Cut.mono _ _)
      | (with_reducible exact LeO.refl _)
      | (with_reducible exact LeO.none _)
      | (with_reducible refine LeO.ite ?_ ?_)
      | (with_reducible refine LeO.bind ?_ (fun _ => ?_))
      | exact ih0 _ _ _
      | exact ih1 _ _ _ _ _
      | exact arboretref01_Cut.mono _ _
      | exact LeO.none _
      | refine LeO.ite ?_ ?_
      | refine LeO.bind ?_ (fun _ => ?_)
    · intro y0 y1 y2 y3 y4
      unfold arboretref01_Node.l0
      repeat' first
      | (with_reducible exact ih0 _ _ _)
      | (with_reducible exact ih1 _ _ _ _ _)
      | (with_reducible exact arboretref01_Cut.mono _ _)
      | (with_reducible exact LeO.refl _)
      | (with_reducible exact LeO.none _)
      | (with_reducible refine LeO.ite ?_ ?_)
      | (with_reducible refine LeO.bind ?_ (fun _ => ?_))
      | exact ih0 _ _ _
      | exact ih1 _ _ _ _ _
      | exact arboretref01_Cut.mono _ _
      | exact LeO.none _
      | refine LeO.ite ?_ ?_
      | refine LeO.bind ?_ (fun _ => ?_)
theorem arboretref01_Node.mono : ∀ a0 k, LeO (arboretref01_Node.f k a0) (arboretref01_Node.f (k + 1) a0) := by
  intro a0 k
  obtain ⟨ih0, ih1⟩ := arboretref01_Node.mono_l k
  unfold arboretref01_Node.f
  repeat' first
      | (with_reducible exact ih0 _ _ _)
      | (with_reducible exact ih1 _ _ _ _ _)
      | (with_reducible exact arboretref01_Cut.mono _ _)
      | (with_reducible exact LeO.refl _)
      | (with_reducible exact LeO.none _)
      | (with_reducible refine LeO.ite ?_ ?_)
      | (with_reducible refine LeO.bind ?_ (fun _ => ?_))
      | exact ih0 _ _ _
      | exact ih1 _ _ _ _ _
      | exact arboretref01_Cut.mono _ _
      | exact LeO.none _
      | refine LeO.ite ?_ ?_
      | refine LeO.bind ?_ (fun _ => ?_)
set_option maxHeartbeats 8000000 in
set_option maxRecDepth 100000 in
theorem arboretref01_Node.calls (k : Nat) (a0 : ByteArray) (r : Bool) (w : World) (h : arboretref01_Node.f k a0 = some r) :
    Calls Try.prog 64 #[.string a0] w fun e w' => e = .returned (.bool r) ∧ Drawn0 w w' := by
  have H : ((arboretref01_Cut.f k a0).bind fun t172 => (if t172 ≥ 0 then (if 0 ≤ t172 then (if t172 ≤ (a0.size : Int) then (if (wrap64 ((wrap64 ((a0.size : Int) - t172)) - 1)) < 1 then (some false) else (if (wrap64 ((wrap64 ((a0.size : Int) - t172)) - 1)) > 31 then (some false) else (arboretref01_Node.j0 k a0 t172 (a0.extract 0 (t172 : Int).toNat)))) else (none)) else (none)) else (arboretref01_Node.j0 k a0 t172 a0))) = some r := h
  clear h
  replace H := Option.bind_eq_some_iff.mp H
  obtain ⟨t172, A20, H⟩ := H
  replace H : (if t172 ≥ 0 then (if 0 ≤ t172 then (if t172 ≤ (a0.size : Int) then (if (wrap64 ((wrap64 ((a0.size : Int) - t172)) - 1)) < 1 then (some false) else (if (wrap64 ((wrap64 ((a0.size : Int) - t172)) - 1)) > 31 then (some false) else (arboretref01_Node.j0 k a0 t172 (a0.extract 0 (t172 : Int).toNat)))) else (none)) else (none)) else (arboretref01_Node.j0 k a0 t172 a0)) = some r := H
  have A2 := Aside0.mk A20
  clear A20
  have HC3 := Aside0.mk H
  clear H
  go_enter Try.func64, Try.ntmps64
  go_upto_if 10 with (first | ((with_reducible refine gate_callee (f := 81) rfl ?_); refine goesL_ (some 7) rfl rfl Try.func81 (by kernel_rfl) rfl #[.string a0] rfl (by (try simp only [List.map_toArray, List.map_cons, List.map_nil]); first | done | rfl | (simp only [List.length_drop, List.length_take]; rfl)) ?_; (with_reducible refine (arboretref01_Cut.calls k a0 t172 _ A2.out).mono ?_); rintro e w' ⟨rfl, ⟨nd, rfl⟩⟩; refine ⟨_, rfl, ?_⟩))
  (try simp only [Act.put, List.setIfInBounds_toArray, List.set_cons_zero, List.set_cons_succ])
  go_cut [4] (fun v4 wc => ∃ (kq : Nat) (x4_2 : ByteArray), v4 = .string x4_2 ∧ Aside0 (arboretref01_Node.j0 kq a0 t172 x4_2 = some r) ∧ Aside0 (kq ≤ k) ∧ Drawn0 w wc)
  case first =>
    have H := HC3.out
    clear HC3
    by_cases c4 : t172 ≥ 0
    · rw [if_pos c4] at H
      have c4b0 : decide (0 ≤ t172) = true := decide_eq_true c4
      clear c4
      (first | rw [c4b0] | (simp only [i64_w, i32_w]; rw [c4b0]) | skip)
      by_cases c5 : 0 ≤ t172
      · rw [if_pos c5] at H
        have c5b0 := eq_true c5
        have c5b1 : decide (0 ≤ t172) = true := decide_eq_true c5
        clear c5
        by_cases c6 : t172 ≤ (a0.size : Int)
        · rw [if_pos c6] at H
          have c6b0 := eq_true c6
          have c6b1 : decide (t172 ≤ (a0.size : Int)) = true := decide_eq_true c6
          clear c6
          by_cases c7 : (wrap64 ((wrap64 ((a0.size : Int) - t172)) - 1)) < 1
          · rw [if_pos c7] at H
            have c7b0 : decide ((wrap64 ((wrap64 ((a0.size : Int) - t172)) - 1)) < 1) = true := decide_eq_true c7
            clear c7
            obtain rfl := Option.some.inj H
            go_wp2
            go_ret
            exact ⟨by first | rfl | (simp; done) | (simp [*]; done), by repeat (first | exact Drawn0.refl _ | apply Drawn0.step)⟩
          · rw [if_neg c7] at H
            have c7b0 : decide ((wrap64 ((wrap64 ((a0.size : Int) - t172)) - 1)) < 1) = false := decide_eq_false c7
            clear c7
            by_cases c8 : (wrap64 ((wrap64 ((a0.size : Int) - t172)) - 1)) > 31
            · rw [if_pos c8] at H
              have c8b0 : decide (31 < (wrap64 ((wrap64 ((a0.size : Int) - t172)) - 1))) = true := decide_eq_true c8
              clear c8
              obtain rfl := Option.some.inj H
              go_wp2
              go_ret
              exact ⟨by first | rfl | (simp; done) | (simp [*]; done), by repeat (first | exact Drawn0.refl _ | apply Drawn0.step)⟩
            · rw [if_neg c8] at H
              have c8b0 : decide (31 < (wrap64 ((wrap64 ((a0.size : Int) - t172)) - 1))) = false := decide_eq_false c8
              clear c8
              have H' := Aside0.mk H
              clear H
              go_wp2
              go_meet
              case rel => exact ⟨_, (a0.extract 0 (t172 : Int).toNat), (by first | rfl | (simp; done) | (simp [*]; done)), H', ⟨by first | omega | exact Nat.le_refl _⟩, by repeat (first | exact Drawn0.refl _ | apply Drawn0.step)⟩
        · rw [if_neg c6] at H
          exact absurd H (by simp)
      · rw [if_neg c5] at H
        exact absurd H (by simp)
    · rw [if_neg c4] at H
      have c4b0 : decide (0 ≤ t172) = false := decide_eq_false c4
      clear c4
      (first | rw [c4b0] | (simp only [i64_w, i32_w]; rw [c4b0]) | skip)
      have H' := Aside0.mk H
      clear H
      go_wp2
      go_meet
      case rel => exact ⟨_, (a0), (by first | rfl | (simp; done) | (simp [*]; done)), H', ⟨by first | omega | exact Nat.le_refl _⟩, by repeat (first | exact Drawn0.refl _ | apply Drawn0.step)⟩
  case rest =>
    clear HC3
    try clear p2
    try clear c4
    try clear c4b0
    try clear c5
    try clear c5b0
    try clear c5b1
    try clear c6
    try clear c6b0
    try clear c6b1
    try clear p6
    try clear c7
    try clear c7b0
    try clear c8
    try clear c8b0
    obtain ⟨kq, x4_2, rfl, HA, HJ2, ⟨mc2, rfl⟩⟩ := hcut
    cases kq with
    | zero => exact absurd HA.out (by simp [arboretref01_Node.j0])
    | succ kj2 =>
      have H := HA.out
      clear HA
      simp only [arboretref01_Node.j0] at H
      have H' := Aside0.mk H
      clear H
      go_wp2
      go_loopg [30] kj2 (fun kq v30 w' => ∃ (x30_2 : Int), v30 = .int .i64 x30_2 ∧ Aside0 (arboretref01_Node.l0 kq a0 t172 x4_2 (a0.size : Int) x30_2 = some r) ∧ Aside0 (kq ≤ kj2) ∧ Drawn0 w w')
      case atStart => exact ⟨(0), (by first | rfl | (simp; done) | (simp [*]; done)), H', ⟨Nat.le_refl _⟩, by repeat (first | exact Drawn0.refl _ | apply Drawn0.step)⟩
      case round =>
        clear H'
        try clear c2
        try clear p2
        try clear c4
        try clear c4b0
        try clear c5
        try clear c5b0
        try clear c5b1
        try clear c6
        try clear c6b0
        try clear c6b1
        try clear p6
        try clear c7
        try clear c7b0
        try clear c8
        try clear c8b0
        try clear p2
        try clear p6
        obtain ⟨x30_2, rfl, HA, HK2, ⟨m2, rfl⟩⟩ := hrel
        cases gk with
        | zero => exact absurd HA.out (by simp [arboretref01_Node.l0])
        | succ k2 =>
          have H := HA.out
          clear HA
          simp only [arboretref01_Node.l0] at H
          by_cases c9 : x30_2 < (a0.size : Int)
          · rw [if_pos c9] at H
            have c9b0 : decide (x30_2 < (a0.size : Int)) = true := decide_eq_true c9
            clear c9
            by_cases c10 : x30_2 = t172
            · rw [if_pos c10] at H
              have c10b0 : (x30_2 == t172) = true := beq_iff_eq.mpr c10
              have c10b1 : (x30_2 != t172) = false := bne_eq_false_iff_eq.mpr c10
              clear c10
              have H' := Aside0.mk H
              clear H
              go_wp2
              go_roundg k2
              case measure => have := HJ2.out; have := HK2.out; omega
              case rel => exact ⟨(wrap64 (x30_2 + 1)), (by first | rfl | (simp; done) | (simp [*]; done)), H', ⟨by have := HJ2.out; have := HK2.out; omega⟩, by repeat (first | exact Drawn0.refl _ | apply Drawn0.step)⟩
            · rw [if_neg c10] at H
              have c10b0 : (x30_2 == t172) = false := beq_eq_false_iff_ne.mpr c10
              have c10b1 : (x30_2 != t172) = true := bne_iff_ne.mpr c10
              by_cases c11 : 0 ≤ x30_2
              · rw [if_pos c11] at H
                have c11b0 : decide (0 ≤ x30_2) = true := decide_eq_true c11
                clear c11
                by_cases c12 : x30_2 < (a0.size : Int)
                · rw [if_pos c12] at H
                  have c12b0 : decide (x30_2 < (a0.size : Int)) = true := decide_eq_true c12
                  clear c12
                  replace H := Option.bind_eq_some_iff.mp H
                  obtain ⟨t173, A140, H⟩ := H
                  replace H : (if t173 = true then (arboretref01_Node.l0 k2 a0 t172 x4_2 (a0.size : Int) (wrap64 (x30_2 + 1))) else (some false)) = some r := H
                  have A14 := Aside0.mk A140
                  clear A140
                  by_cases c15 : t173 = true
                  · subst c15
                    have H1 : (arboretref01_Node.l0 k2 a0 t172 x4_2 (a0.size : Int) (wrap64 (x30_2 + 1))) = some r := by rw [if_pos rfl] at H; exact H
                    clear H
                    have H := H1
                    clear H1
                    have H' := Aside0.mk H
                    clear H
                    have p13 : 0 ≤ (x30_2 : Int) := of_decide_eq_true (by first | (with_reducible assumption) | assumption)
                    have q13 : x30_2 < (a0.size : Int) := of_decide_eq_true (by first | (with_reducible assumption) | assumption)
                    have hx13 := bt_at a0 x30_2
                    replace p13 := eq_true p13
                    replace q13 := eq_true q13
                    go_wp2_with (first | (go_at_call 82; (with_reducible refine (arboretref01_stands.calls (bt a0 x30_2) true _ A14.out).mono ?_); rintro e w' ⟨rfl, ⟨nd, rfl⟩⟩))
                    go_roundg k2
                    case measure => have := HJ2.out; have := HK2.out; omega
                    case rel => exact ⟨(wrap64 (x30_2 + 1)), (by first | rfl | (simp; done) | (simp [*]; done)), H', ⟨by have := HJ2.out; have := HK2.out; omega⟩, by repeat (first | exact Drawn0.refl _ | apply Drawn0.step)⟩
                  · replace c15 := Bool.eq_false_iff.mpr c15
                    subst c15
                    have H1 : (some false) = some r := by rw [if_neg (show ¬ (false = true) by decide)] at H; exact H
                    clear H
                    have H := H1
                    clear H1
                    obtain rfl := Option.some.inj H
                    have p13 : 0 ≤ (x30_2 : Int) := of_decide_eq_true (by first | (with_reducible assumption) | assumption)
                    have q13 : x30_2 < (a0.size : Int) := of_decide_eq_true (by first | (with_reducible assumption) | assumption)
                    have hx13 := bt_at a0 x30_2
                    replace p13 := eq_true p13
                    replace q13 := eq_true q13
                    go_wp2_with (first | (go_at_call 82; (with_reducible refine (arboretref01_stands.calls (bt a0 x30_2) false _ A14.out).mono ?_); rintro e w' ⟨rfl, ⟨nd, rfl⟩⟩))
                    go_ret
                    exact ⟨by first | rfl | (simp; done) | (simp [*]; done), by repeat (first | exact Drawn0.refl _ | apply Drawn0.step)⟩
                · rw [if_neg c12] at H
                  exact absurd H (by simp)
              · rw [if_neg c11] at H
                exact absurd H (by simp)
          · rw [if_neg c9] at H
            have c9b0 : decide (x30_2 < (a0.size : Int)) = false := decide_eq_false c9
            clear c9
            by_cases c16 : (x4_2.size : Int) ≥ 1
            · rw [if_pos c16] at H
              have c16b0 : decide (1 ≤ (x4_2.size : Int)) = true := decide_eq_true c16
              have c16b1 : decide (1 ≤ x4_2.size) = true := decide_eq_true (by omega)
              clear c16
              by_cases c17 : (x4_2.size : Int) ≤ 31
              · rw [if_pos c17] at H
                have c17b0 : decide ((x4_2.size : Int) ≤ 31) = true := decide_eq_true c17
                have c17b1 : decide (x4_2.size ≤ 31) = true := decide_eq_true (by omega)
                clear c17
                by_cases c18 : 0 < (x4_2.size : Int)
                · rw [if_pos c18] at H
                  have c18b0 : decide (0 < (x4_2.size : Int)) = true := decide_eq_true c18
                  have c18b1 : decide (0 < x4_2.size) = true := decide_eq_true (by omega)
                  clear c18
                  by_cases c20 : (bt x4_2 0) = 95
                  · rw [if_pos c20] at H
                    have c20b0 : ((bt x4_2 0) == 95) = true := beq_iff_eq.mpr c20
                    have c20b1 : ((bt x4_2 0) != 95) = false := bne_eq_false_iff_eq.mpr c20
                    clear c20
                    obtain rfl := Option.some.inj H
                    have p19 : 0 ≤ (0 : Int) := (by omega)
                    have q19 : 0 < x4_2.size := (by have : (0 : Int) < (x4_2.size : Int) := of_decide_eq_true (by first | (with_reducible assumption) | assumption); omega)
                    have hx19 : ∀ h : 0 < x4_2.size, ((x4_2[0]'h).toNat : Int) = bt x4_2 0 := bt_at x4_2 0
                    clear p19
                    have qi19 : (0 < (x4_2.size : Int)) = True := eq_true (of_decide_eq_true (by first | (with_reducible assumption) | assumption))
                    replace q19 := eq_true q19
                    go_wp2
                    go_ret
                    exact ⟨by first | rfl | (simp; done) | (simp [*]; done), by repeat (first | exact Drawn0.refl _ | apply Drawn0.step)⟩
                  · rw [if_neg c20] at H
                    have c20b0 : ((bt x4_2 0) == 95) = false := beq_eq_false_iff_ne.mpr c20
                    have c20b1 : ((bt x4_2 0) != 95) = true := bne_iff_ne.mpr c20
                    by_cases c22 : (bt x4_2 0) ≥ 97
                    · rw [if_pos c22] at H
                      have c22b0 : decide (97 ≤ (bt x4_2 0)) = true := decide_eq_true c22
                      clear c22
                      by_cases c24 : (bt x4_2 0) ≤ 122
                      · rw [if_pos c24] at H
                        have c24b0 : decide ((bt x4_2 0) ≤ 122) = true := decide_eq_true c24
                        clear c24
                        obtain rfl := Option.some.inj H
                        have p19 : 0 ≤ (0 : Int) := (by omega)
                        have q19 : 0 < x4_2.size := (by have : (0 : Int) < (x4_2.size : Int) := of_decide_eq_true (by first | (with_reducible assumption) | assumption); omega)
                        have hx19 : ∀ h : 0 < x4_2.size, ((x4_2[0]'h).toNat : Int) = bt x4_2 0 := bt_at x4_2 0
                        clear p19
                        have qi19 : (0 < (x4_2.size : Int)) = True := eq_true (of_decide_eq_true (by first | (with_reducible assumption) | assumption))
                        replace q19 := eq_true q19
                        have p21 : 0 ≤ (0 : Int) := (by omega)
                        have q21 : 0 < x4_2.size := (by have : (0 : Int) < (x4_2.size : Int) := of_decide_eq_true (by first | (with_reducible assumption) | assumption); omega)
                        have hx21 : ∀ h : 0 < x4_2.size, ((x4_2[0]'h).toNat : Int) = bt x4_2 0 := bt_at x4_2 0
                        clear p21
                        have qi21 : (0 < (x4_2.size : Int)) = True := eq_true (of_decide_eq_true (by first | (with_reducible assumption) | assumption))
                        replace q21 := eq_true q21
                        have p23 : 0 ≤ (0 : Int) := (by omega)
                        have q23 : 0 < x4_2.size := (by have : (0 : Int) < (x4_2.size : Int) := of_decide_eq_true (by first | (with_reducible assumption) | assumption); omega)
                        have hx23 : ∀ h : 0 < x4_2.size, ((x4_2[0]'h).toNat : Int) = bt x4_2 0 := bt_at x4_2 0
                        clear p23
                        have qi23 : (0 < (x4_2.size : Int)) = True := eq_true (of_decide_eq_true (by first | (with_reducible assumption) | assumption))
                        replace q23 := eq_true q23
                        go_wp2
                        go_ret
                        exact ⟨by first | rfl | (simp; done) | (simp [*]; done), by repeat (first | exact Drawn0.refl _ | apply Drawn0.step)⟩
                      · rw [if_neg c24] at H
                        have c24b0 : decide ((bt x4_2 0) ≤ 122) = false := decide_eq_false c24
                        clear c24
                        by_cases c26 : (bt x4_2 0) ≥ 65
                        · rw [if_pos c26] at H
                          have c26b0 : decide (65 ≤ (bt x4_2 0)) = true := decide_eq_true c26
                          clear c26
                          obtain rfl := Option.some.inj H
                          have p19 : 0 ≤ (0 : Int) := (by omega)
                          have q19 : 0 < x4_2.size := (by have : (0 : Int) < (x4_2.size : Int) := of_decide_eq_true (by first | (with_reducible assumption) | assumption); omega)
                          have hx19 : ∀ h : 0 < x4_2.size, ((x4_2[0]'h).toNat : Int) = bt x4_2 0 := bt_at x4_2 0
                          clear p19
                          have qi19 : (0 < (x4_2.size : Int)) = True := eq_true (of_decide_eq_true (by first | (with_reducible assumption) | assumption))
                          replace q19 := eq_true q19
                          have p21 : 0 ≤ (0 : Int) := (by omega)
                          have q21 : 0 < x4_2.size := (by have : (0 : Int) < (x4_2.size : Int) := of_decide_eq_true (by first | (with_reducible assumption) | assumption); omega)
                          have hx21 : ∀ h : 0 < x4_2.size, ((x4_2[0]'h).toNat : Int) = bt x4_2 0 := bt_at x4_2 0
                          clear p21
                          have qi21 : (0 < (x4_2.size : Int)) = True := eq_true (of_decide_eq_true (by first | (with_reducible assumption) | assumption))
                          replace q21 := eq_true q21
                          have p23 : 0 ≤ (0 : Int) := (by omega)
                          have q23 : 0 < x4_2.size := (by have : (0 : Int) < (x4_2.size : Int) := of_decide_eq_true (by first | (with_reducible assumption) | assumption); omega)
                          have hx23 : ∀ h : 0 < x4_2.size, ((x4_2[0]'h).toNat : Int) = bt x4_2 0 := bt_at x4_2 0
                          clear p23
                          have qi23 : (0 < (x4_2.size : Int)) = True := eq_true (of_decide_eq_true (by first | (with_reducible assumption) | assumption))
                          replace q23 := eq_true q23
                          have p25 : 0 ≤ (0 : Int) := (by omega)
                          have q25 : 0 < x4_2.size := (by have : (0 : Int) < (x4_2.size : Int) := of_decide_eq_true (by first | (with_reducible assumption) | assumption); omega)
                          have hx25 : ∀ h : 0 < x4_2.size, ((x4_2[0]'h).toNat : Int) = bt x4_2 0 := bt_at x4_2 0
                          clear p25
                          have qi25 : (0 < (x4_2.size : Int)) = True := eq_true (of_decide_eq_true (by first | (with_reducible assumption) | assumption))
                          replace q25 := eq_true q25
                          have p27 : 0 ≤ (0 : Int) := (by omega)
                          have q27 : 0 < x4_2.size := (by have : (0 : Int) < (x4_2.size : Int) := of_decide_eq_true (by first | (with_reducible assumption) | assumption); omega)
                          have hx27 : ∀ h : 0 < x4_2.size, ((x4_2[0]'h).toNat : Int) = bt x4_2 0 := bt_at x4_2 0
                          clear p27
                          have qi27 : (0 < (x4_2.size : Int)) = True := eq_true (of_decide_eq_true (by first | (with_reducible assumption) | assumption))
                          replace q27 := eq_true q27
                          go_wp2
                          go_ret
                          exact ⟨by first | rfl | (simp; done) | (simp [*]; done), by repeat (first | exact Drawn0.refl _ | apply Drawn0.step)⟩
                        · rw [if_neg c26] at H
                          have c26b0 : decide (65 ≤ (bt x4_2 0)) = false := decide_eq_false c26
                          clear c26
                          obtain rfl := Option.some.inj H
                          have p19 : 0 ≤ (0 : Int) := (by omega)
                          have q19 : 0 < x4_2.size := (by have : (0 : Int) < (x4_2.size : Int) := of_decide_eq_true (by first | (with_reducible assumption) | assumption); omega)
                          have hx19 : ∀ h : 0 < x4_2.size, ((x4_2[0]'h).toNat : Int) = bt x4_2 0 := bt_at x4_2 0
                          clear p19
                          have qi19 : (0 < (x4_2.size : Int)) = True := eq_true (of_decide_eq_true (by first | (with_reducible assumption) | assumption))
                          replace q19 := eq_true q19
                          have p21 : 0 ≤ (0 : Int) := (by omega)
                          have q21 : 0 < x4_2.size := (by have : (0 : Int) < (x4_2.size : Int) := of_decide_eq_true (by first | (with_reducible assumption) | assumption); omega)
                          have hx21 : ∀ h : 0 < x4_2.size, ((x4_2[0]'h).toNat : Int) = bt x4_2 0 := bt_at x4_2 0
                          clear p21
                          have qi21 : (0 < (x4_2.size : Int)) = True := eq_true (of_decide_eq_true (by first | (with_reducible assumption) | assumption))
                          replace q21 := eq_true q21
                          have p23 : 0 ≤ (0 : Int) := (by omega)
                          have q23 : 0 < x4_2.size := (by have : (0 : Int) < (x4_2.size : Int) := of_decide_eq_true (by first | (with_reducible assumption) | assumption); omega)
                          have hx23 : ∀ h : 0 < x4_2.size, ((x4_2[0]'h).toNat : Int) = bt x4_2 0 := bt_at x4_2 0
                          clear p23
                          have qi23 : (0 < (x4_2.size : Int)) = True := eq_true (of_decide_eq_true (by first | (with_reducible assumption) | assumption))
                          replace q23 := eq_true q23
                          have p25 : 0 ≤ (0 : Int) := (by omega)
                          have q25 : 0 < x4_2.size := (by have : (0 : Int) < (x4_2.size : Int) := of_decide_eq_true (by first | (with_reducible assumption) | assumption); omega)
                          have hx25 : ∀ h : 0 < x4_2.size, ((x4_2[0]'h).toNat : Int) = bt x4_2 0 := bt_at x4_2 0
                          clear p25
                          have qi25 : (0 < (x4_2.size : Int)) = True := eq_true (of_decide_eq_true (by first | (with_reducible assumption) | assumption))
                          replace q25 := eq_true q25
                          go_wp2
                          go_ret
                          exact ⟨by first | rfl | (simp; done) | (simp [*]; done), by repeat (first | exact Drawn0.refl _ | apply Drawn0.step)⟩
                    · rw [if_neg c22] at H
                      have c22b0 : decide (97 ≤ (bt x4_2 0)) = false := decide_eq_false c22
                      clear c22
                      by_cases c29 : (bt x4_2 0) ≥ 65
                      · rw [if_pos c29] at H
                        have c29b0 : decide (65 ≤ (bt x4_2 0)) = true := decide_eq_true c29
                        clear c29
                        obtain rfl := Option.some.inj H
                        have p19 : 0 ≤ (0 : Int) := (by omega)
                        have q19 : 0 < x4_2.size := (by have : (0 : Int) < (x4_2.size : Int) := of_decide_eq_true (by first | (with_reducible assumption) | assumption); omega)
                        have hx19 : ∀ h : 0 < x4_2.size, ((x4_2[0]'h).toNat : Int) = bt x4_2 0 := bt_at x4_2 0
                        clear p19
                        have qi19 : (0 < (x4_2.size : Int)) = True := eq_true (of_decide_eq_true (by first | (with_reducible assumption) | assumption))
                        replace q19 := eq_true q19
                        have p21 : 0 ≤ (0 : Int) := (by omega)
                        have q21 : 0 < x4_2.size := (by have : (0 : Int) < (x4_2.size : Int) := of_decide_eq_true (by first | (with_reducible assumption) | assumption); omega)
                        have hx21 : ∀ h : 0 < x4_2.size, ((x4_2[0]'h).toNat : Int) = bt x4_2 0 := bt_at x4_2 0
                        clear p21
                        have qi21 : (0 < (x4_2.size : Int)) = True := eq_true (of_decide_eq_true (by first | (with_reducible assumption) | assumption))
                        replace q21 := eq_true q21
                        have p28 : 0 ≤ (0 : Int) := (by omega)
                        have q28 : 0 < x4_2.size := (by have : (0 : Int) < (x4_2.size : Int) := of_decide_eq_true (by first | (with_reducible assumption) | assumption); omega)
                        have hx28 : ∀ h : 0 < x4_2.size, ((x4_2[0]'h).toNat : Int) = bt x4_2 0 := bt_at x4_2 0
                        clear p28
                        have qi28 : (0 < (x4_2.size : Int)) = True := eq_true (of_decide_eq_true (by first | (with_reducible assumption) | assumption))
                        replace q28 := eq_true q28
                        have p30 : 0 ≤ (0 : Int) := (by omega)
                        have q30 : 0 < x4_2.size := (by have : (0 : Int) < (x4_2.size : Int) := of_decide_eq_true (by first | (with_reducible assumption) | assumption); omega)
                        have hx30 : ∀ h : 0 < x4_2.size, ((x4_2[0]'h).toNat : Int) = bt x4_2 0 := bt_at x4_2 0
                        clear p30
                        have qi30 : (0 < (x4_2.size : Int)) = True := eq_true (of_decide_eq_true (by first | (with_reducible assumption) | assumption))
                        replace q30 := eq_true q30
                        go_wp2
                        go_ret
                        exact ⟨by first | rfl | (simp; done) | (simp [*]; done), by repeat (first | exact Drawn0.refl _ | apply Drawn0.step)⟩
                      · rw [if_neg c29] at H
                        have c29b0 : decide (65 ≤ (bt x4_2 0)) = false := decide_eq_false c29
                        clear c29
                        obtain rfl := Option.some.inj H
                        have p19 : 0 ≤ (0 : Int) := (by omega)
                        have q19 : 0 < x4_2.size := (by have : (0 : Int) < (x4_2.size : Int) := of_decide_eq_true (by first | (with_reducible assumption) | assumption); omega)
                        have hx19 : ∀ h : 0 < x4_2.size, ((x4_2[0]'h).toNat : Int) = bt x4_2 0 := bt_at x4_2 0
                        clear p19
                        have qi19 : (0 < (x4_2.size : Int)) = True := eq_true (of_decide_eq_true (by first | (with_reducible assumption) | assumption))
                        replace q19 := eq_true q19
                        have p21 : 0 ≤ (0 : Int) := (by omega)
                        have q21 : 0 < x4_2.size := (by have : (0 : Int) < (x4_2.size : Int) := of_decide_eq_true (by first | (with_reducible assumption) | assumption); omega)
                        have hx21 : ∀ h : 0 < x4_2.size, ((x4_2[0]'h).toNat : Int) = bt x4_2 0 := bt_at x4_2 0
                        clear p21
                        have qi21 : (0 < (x4_2.size : Int)) = True := eq_true (of_decide_eq_true (by first | (with_reducible assumption) | assumption))
                        replace q21 := eq_true q21
                        have p28 : 0 ≤ (0 : Int) := (by omega)
                        have q28 : 0 < x4_2.size := (by have : (0 : Int) < (x4_2.size : Int) := of_decide_eq_true (by first | (with_reducible assumption) | assumption); omega)
                        have hx28 : ∀ h : 0 < x4_2.size, ((x4_2[0]'h).toNat : Int) = bt x4_2 0 := bt_at x4_2 0
                        clear p28
                        have qi28 : (0 < (x4_2.size : Int)) = True := eq_true (of_decide_eq_true (by first | (with_reducible assumption) | assumption))
                        replace q28 := eq_true q28
                        go_wp2
                        go_ret
                        exact ⟨by first | rfl | (simp; done) | (simp [*]; done), by repeat (first | exact Drawn0.refl _ | apply Drawn0.step)⟩
                · rw [if_neg c18] at H
                  exact absurd H (by simp)
              · rw [if_neg c17] at H
                have c17b0 : decide ((x4_2.size : Int) ≤ 31) = false := decide_eq_false c17
                have c17b1 : decide (x4_2.size ≤ 31) = false := decide_eq_false (by omega)
                clear c17
                obtain rfl := Option.some.inj H
                go_wp2
                go_ret
                exact ⟨by first | rfl | (simp; done) | (simp [*]; done), by repeat (first | exact Drawn0.refl _ | apply Drawn0.step)⟩
            · rw [if_neg c16] at H
              have c16b0 : decide (1 ≤ (x4_2.size : Int)) = false := decide_eq_false c16
              have c16b1 : decide (1 ≤ x4_2.size) = false := decide_eq_false (by omega)
              clear c16
              obtain rfl := Option.some.inj H
              go_wp2
              go_ret
              exact ⟨by first | rfl | (simp; done) | (simp [*]; done), by repeat (first | exact Drawn0.refl _ | apply Drawn0.step)⟩
end Go.Proofs.Ytkopmkinlanhoaa.PE

namespace Go.Proofs.Ytkopmkinlanhoaa.PE
open Go.RowKit Go.Proofs.YtkopmkinlanhoaaW.PrintWords Go.Proofs.YtkopmkinlanhoaaW.PrintLast Go.Proofs.YtkopmkinlanhoaaW.PrintMore
attribute [local go_sem] max2_int min2_int max_two min_two max_three min_three max_four min_four   -- for this text's walks alone
set_option linter.unusedVariables false
set_option linter.unusedSimpArgs false
def arboretref01_Prop.l0 : Nat → ByteArray → Int → Int → Option (Bool)
  | 0, _, _, _ => none
  | k + 1, x0, x5, x6 => if x6 < x5 then (if 0 ≤ x6 then (if x6 < (x0.size : Int) then ((arboretref01_stands.f (bt x0 x6)).bind fun t174 => (if t174 = true then (arboretref01_Prop.l0 k x0 x5 (wrap64 (x6 + 1))) else (if (bt x0 x6) = 63 then (arboretref01_Prop.l0 k x0 x5 (wrap64 (x6 + 1))) else (if (bt x0 x6) = 35 then (arboretref01_Prop.l0 k x0 x5 (wrap64 (x6 + 1))) else (some false))))) else (none)) else (none)) else (if (x0.size : Int) ≥ 1 then (some (decide ((x0.size : Int) ≤ 31))) else (some false))
def arboretref01_Prop.f (k : Nat) (a0 : ByteArray) : Option (Bool) := arboretref01_Prop.l0 k a0 (a0.size : Int) 0
theorem arboretref01_Prop.mono_l : ∀ k, (∀ y0 y1 y2, LeO (arboretref01_Prop.l0 k y0 y1 y2) (arboretref01_Prop.l0 (k + 1) y0 y1 y2))
  | 0 => fun _ _ _ r h => by simp [arboretref01_Prop.l0] at h
  | k + 1 => by
    have ih0 := arboretref01_Prop.mono_l k
    · intro y0 y1 y2
      unfold arboretref01_Prop.l0
      repeat' first
      | (with_reducible exact ih0 _ _ _)
      | (with_reducible exact LeO.refl _)
      | (with_reducible exact LeO.none _)
      | (with_reducible refine LeO.ite ?_ ?_)
      | (with_reducible refine LeO.bind ?_ (fun _ => ?_))
      | exact ih0 _ _ _
      | exact LeO.none _
      | refine LeO.ite ?_ ?_
      | refine LeO.bind ?_ (fun _ => ?_)
theorem arboretref01_Prop.mono : ∀ a0 k, LeO (arboretref01_Prop.f k a0) (arboretref01_Prop.f (k + 1) a0) := by
  intro a0 k
  have ih0 := arboretref01_Prop.mono_l k
  unfold arboretref01_Prop.f
  repeat' first
      | (with_reducible exact ih0 _ _ _)
      | (with_reducible exact LeO.refl _)
      | (with_reducible exact LeO.none _)
      | (with_reducible refine LeO.ite ?_ ?_)
      | (with_reducible refine LeO.bind ?_ (fun _ => ?_))
      | exact ih0 _ _ _
      | exact LeO.none _
      | refine LeO.ite ?_ ?_
      | refine LeO.bind ?_ (fun _ => ?_)
set_option maxHeartbeats 8000000 in
set_option maxRecDepth 100000 in
theorem arboretref01_Prop.calls (k : Nat) (a0 : ByteArray) (r : Bool) (w : World) (h : arboretref01_Prop.f k a0 = some r) :
    Calls Try.prog 65 #[.string a0] w fun e w' => e = .returned (.bool r) ∧ Drawn0 w w' := by
  have H : (arboretref01_Prop.l0 k a0 (a0.size : Int) 0) = some r := h
  clear h
  have H' := Aside0.mk H
  clear H
  go_enter Try.func65, Try.ntmps65
  go_wp2
  go_loopg [6] k (fun kq v6 w' => ∃ (x6_1 : Int), v6 = .int .i64 x6_1 ∧ Aside0 (arboretref01_Prop.l0 kq a0 (a0.size : Int) x6_1 = some r) ∧ Aside0 (kq ≤ k) ∧ Drawn0 w w')
  case atStart => exact ⟨(0), (by first | rfl | (simp; done) | (simp [*]; done)), H', ⟨Nat.le_refl _⟩, by repeat (first | exact Drawn0.refl _ | apply Drawn0.step)⟩
  case round =>
    clear H'
    obtain ⟨x6_1, rfl, HA, HK1, ⟨m1, rfl⟩⟩ := hrel
    cases gk with
    | zero => exact absurd HA.out (by simp [arboretref01_Prop.l0])
    | succ k1 =>
      have H := HA.out
      clear HA
      simp only [arboretref01_Prop.l0] at H
      by_cases c2 : x6_1 < (a0.size : Int)
      · rw [if_pos c2] at H
        have c2b0 : decide (x6_1 < (a0.size : Int)) = true := decide_eq_true c2
        clear c2
        by_cases c3 : 0 ≤ x6_1
        · rw [if_pos c3] at H
          have c3b0 : decide (0 ≤ x6_1) = true := decide_eq_true c3
          clear c3
          by_cases c4 : x6_1 < (a0.size : Int)
          · rw [if_pos c4] at H
            have c4b0 : decide (x6_1 < (a0.size : Int)) = true := decide_eq_true c4
            clear c4
            replace H := Option.bind_eq_some_iff.mp H
            obtain ⟨t174, A60, H⟩ := H
            replace H : (if t174 = true then (arboretref01_Prop.l0 k1 a0 (a0.size : Int) (wrap64 (x6_1 + 1))) else (if (bt a0 x6_1) = 63 then (arboretref01_Prop.l0 k1 a0 (a0.size : Int) (wrap64 (x6_1 + 1))) else (if (bt a0 x6_1) = 35 then (arboretref01_Prop.l0 k1 a0 (a0.size : Int) (wrap64 (x6_1 + 1))) else (some false)))) = some r := H
            have A6 := Aside0.mk A60
            clear A60
            by_cases c7 : t174 = true
            · subst c7
              have H1 : (arboretref01_Prop.l0 k1 a0 (a0.size : Int) (wrap64 (x6_1 + 1))) = some r := by rw [if_pos rfl] at H; exact H
              clear H
              have H := H1
              clear H1
              have H' := Aside0.mk H
              clear H
              have p5 : 0 ≤ (x6_1 : Int) := of_decide_eq_true (by first | (with_reducible assumption) | assumption)
              have q5 : x6_1 < (a0.size : Int) := of_decide_eq_true (by first | (with_reducible assumption) | assumption)
              have hx5 := bt_at a0 x6_1
              replace p5 := eq_true p5
              replace q5 := eq_true q5
              go_wp2_with (first | ((with_reducible refine gate_callee (f := 82) rfl ?_); refine goesL_ (some 12) rfl rfl Try.func82 (by kernel_rfl) rfl #[.int .u8 (bt a0 x6_1)] rfl (by (try simp only [List.map_toArray, List.map_cons, List.map_nil]); first | done | rfl | (simp only [List.length_drop, List.length_take]; rfl)) ?_; (with_reducible refine (arboretref01_stands.calls (bt a0 x6_1) true _ A6.out).mono ?_); rintro e w' ⟨rfl, ⟨nd, rfl⟩⟩; refine ⟨_, rfl, ?_⟩))
              go_roundg k1
              case measure => have := HK1.out; omega
              case rel => exact ⟨(wrap64 (x6_1 + 1)), (by first | rfl | (simp; done) | (simp [*]; done)), H', ⟨by have := HK1.out; omega⟩, by repeat (first | exact Drawn0.refl _ | apply Drawn0.step)⟩
            · replace c7 := Bool.eq_false_iff.mpr c7
              subst c7
              have H1 : (if (bt a0 x6_1) = 63 then (arboretref01_Prop.l0 k1 a0 (a0.size : Int) (wrap64 (x6_1 + 1))) else (if (bt a0 x6_1) = 35 then (arboretref01_Prop.l0 k1 a0 (a0.size : Int) (wrap64 (x6_1 + 1))) else (some false))) = some r := by rw [if_neg (show ¬ (false = true) by decide)] at H; exact H
              clear H
              have H := H1
              clear H1
              by_cases c9 : (bt a0 x6_1) = 63
              · rw [if_pos c9] at H
                have c9b0 : ((bt a0 x6_1) == 63) = true := beq_iff_eq.mpr c9
                have c9b1 : ((bt a0 x6_1) != 63) = false := bne_eq_false_iff_eq.mpr c9
                clear c9
                have H' := Aside0.mk H
                clear H
                have p5 : 0 ≤ (x6_1 : Int) := of_decide_eq_true (by first | (with_reducible assumption) | assumption)
                have q5 : x6_1 < (a0.size : Int) := of_decide_eq_true (by first | (with_reducible assumption) | assumption)
                have hx5 := bt_at a0 x6_1
                replace p5 := eq_true p5
                replace q5 := eq_true q5
                go_wp2_with (first | ((with_reducible refine gate_callee (f := 82) rfl ?_); refine goesL_ (some 12) rfl rfl Try.func82 (by kernel_rfl) rfl #[.int .u8 (bt a0 x6_1)] rfl (by (try simp only [List.map_toArray, List.map_cons, List.map_nil]); first | done | rfl | (simp only [List.length_drop, List.length_take]; rfl)) ?_; (with_reducible refine (arboretref01_stands.calls (bt a0 x6_1) false _ A6.out).mono ?_); rintro e w' ⟨rfl, ⟨nd, rfl⟩⟩; refine ⟨_, rfl, ?_⟩; have p8 : 0 ≤ (x6_1 : Int) := of_decide_eq_true (by first | (with_reducible assumption) | assumption); have q8 : x6_1 < (a0.size : Int) := of_decide_eq_true (by first | (with_reducible assumption) | assumption); have hx8 := bt_at a0 x6_1; replace p8 := eq_true p8; replace q8 := eq_true q8))
                go_roundg k1
                case measure => have := HK1.out; omega
                case rel => exact ⟨(wrap64 (x6_1 + 1)), (by first | rfl | (simp; done) | (simp [*]; done)), H', ⟨by have := HK1.out; omega⟩, by repeat (first | exact Drawn0.refl _ | apply Drawn0.step)⟩
              · rw [if_neg c9] at H
                have c9b0 : ((bt a0 x6_1) == 63) = false := beq_eq_false_iff_ne.mpr c9
                have c9b1 : ((bt a0 x6_1) != 63) = true := bne_iff_ne.mpr c9
                by_cases c11 : (bt a0 x6_1) = 35
                · rw [if_pos c11] at H
                  have c11b0 : ((bt a0 x6_1) == 35) = true := beq_iff_eq.mpr c11
                  have c11b1 : ((bt a0 x6_1) != 35) = false := bne_eq_false_iff_eq.mpr c11
                  clear c11
                  have H' := Aside0.mk H
                  clear H
                  have p5 : 0 ≤ (x6_1 : Int) := of_decide_eq_true (by first | (with_reducible assumption) | assumption)
                  have q5 : x6_1 < (a0.size : Int) := of_decide_eq_true (by first | (with_reducible assumption) | assumption)
                  have hx5 := bt_at a0 x6_1
                  replace p5 := eq_true p5
                  replace q5 := eq_true q5
                  go_wp2_with (first | ((with_reducible refine gate_callee (f := 82) rfl ?_); refine goesL_ (some 12) rfl rfl Try.func82 (by kernel_rfl) rfl #[.int .u8 (bt a0 x6_1)] rfl (by (try simp only [List.map_toArray, List.map_cons, List.map_nil]); first | done | rfl | (simp only [List.length_drop, List.length_take]; rfl)) ?_; (with_reducible refine (arboretref01_stands.calls (bt a0 x6_1) false _ A6.out).mono ?_); rintro e w' ⟨rfl, ⟨nd, rfl⟩⟩; refine ⟨_, rfl, ?_⟩; have p8 : 0 ≤ (x6_1 : Int) := of_decide_eq_true (by first | (with_reducible assumption) | assumption); have q8 : x6_1 < (a0.size : Int) := of_decide_eq_true (by first | (with_reducible assumption) | assumption); have hx8 := bt_at a0 x6_1; replace p8 := eq_true p8; replace q8 := eq_true q8; have p10 : 0 ≤ (x6_1 : Int) := of_decide_eq_true (by first | (with_reducible assumption) | assumption); have q10 : x6_1 < (a0.size : Int) := of_decide_eq_true (by first | (with_reducible assumption) | assumption); have hx10 := bt_at a0 x6_1; replace p10 := eq_true p10; replace q10 := eq_true q10))
                  go_roundg k1
                  case measure => have := HK1.out; omega
                  case rel => exact ⟨(wrap64 (x6_1 + 1)), (by first | rfl | (simp; done) | (simp [*]; done)), H', ⟨by have := HK1.out; omega⟩, by repeat (first | exact Drawn0.refl _ | apply Drawn0.step)⟩
                · rw [if_neg c11] at H
                  have c11b0 : ((bt a0 x6_1) == 35) = false := beq_eq_false_iff_ne.mpr c11
                  have c11b1 : ((bt a0 x6_1) != 35) = true := bne_iff_ne.mpr c11
                  obtain rfl := Option.some.inj H
                  have p5 : 0 ≤ (x6_1 : Int) := of_decide_eq_true (by first | (with_reducible assumption) | assumption)
                  have q5 : x6_1 < (a0.size : Int) := of_decide_eq_true (by first | (with_reducible assumption) | assumption)
                  have hx5 := bt_at a0 x6_1
                  replace p5 := eq_true p5
                  replace q5 := eq_true q5
                  go_wp2_with (first | ((with_reducible refine gate_callee (f := 82) rfl ?_); refine goesL_ (some 12) rfl rfl Try.func82 (by kernel_rfl) rfl #[.int .u8 (bt a0 x6_1)] rfl (by (try simp only [List.map_toArray, List.map_cons, List.map_nil]); first | done | rfl | (simp only [List.length_drop, List.length_take]; rfl)) ?_; (with_reducible refine (arboretref01_stands.calls (bt a0 x6_1) false _ A6.out).mono ?_); rintro e w' ⟨rfl, ⟨nd, rfl⟩⟩; refine ⟨_, rfl, ?_⟩; have p8 : 0 ≤ (x6_1 : Int) := of_decide_eq_true (by first | (with_reducible assumption) | assumption); have q8 : x6_1 < (a0.size : Int) := of_decide_eq_true (by first | (with_reducible assumption) | assumption); have hx8 := bt_at a0 x6_1; replace p8 := eq_true p8; replace q8 := eq_true q8; have p10 : 0 ≤ (x6_1 : Int) := of_decide_eq_true (by first | (with_reducible assumption) | assumption); have q10 : x6_1 < (a0.size : Int) := of_decide_eq_true (by first | (with_reducible assumption) | assumption); have hx10 := bt_at a0 x6_1; replace p10 := eq_true p10; replace q10 := eq_true q10))
                  go_ret
                  exact ⟨by first | rfl | (simp; done) | (simp [*]; done), by repeat (first | exact Drawn0.refl _ | apply Drawn0.step)⟩
          · rw [if_neg c4] at H
            exact absurd H (by simp)
        · rw [if_neg c3] at H
          exact absurd H (by simp)
      · rw [if_neg c2] at H
        have c2b0 : decide (x6_1 < (a0.size : Int)) = false := decide_eq_false c2
        clear c2
        by_cases c12 : (a0.size : Int) ≥ 1
        · rw [if_pos c12] at H
          have c12b0 : decide (1 ≤ (a0.size : Int)) = true := decide_eq_true c12
          have c12b1 : decide (1 ≤ a0.size) = true := decide_eq_true (by omega)
          clear c12
          obtain rfl := Option.some.inj H
          go_wp2
          go_ret
          exact ⟨by first | rfl | (simp; done) | (simp [*]; done), by repeat (first | exact Drawn0.refl _ | apply Drawn0.step)⟩
        · rw [if_neg c12] at H
          have c12b0 : decide (1 ≤ (a0.size : Int)) = false := decide_eq_false c12
          have c12b1 : decide (1 ≤ a0.size) = false := decide_eq_false (by omega)
          clear c12
          obtain rfl := Option.some.inj H
          go_wp2
          go_ret
          exact ⟨by first | rfl | (simp; done) | (simp [*]; done), by repeat (first | exact Drawn0.refl _ | apply Drawn0.step)⟩
end Go.Proofs.Ytkopmkinlanhoaa.PE

namespace Go.Proofs.Ytkopmkinlanhoaa.PE
open Go.RowKit Go.Proofs.YtkopmkinlanhoaaW.PrintWords Go.Proofs.YtkopmkinlanhoaaW.PrintLast Go.Proofs.YtkopmkinlanhoaaW.PrintMore
attribute [local go_sem] max2_int min2_int max_two min_two max_three min_three max_four min_four   -- for this text's walks alone
set_option linter.unusedVariables false
set_option linter.unusedSimpArgs false
mutual
def arboretref01_wrong.j0 : Nat → Int → Bool → ByteArray → List (S63) → List (S27) → Option (Int)
  | 0, _, _, _, _, _ => none
  | k + 1, x1, x30, x176000, x176001, x176002 => if x30 = true then (some 5) else (arboretref01_wrong.l0 k x1 (x176001.length : Int) 0 x176000 x176001 x176002)
def arboretref01_wrong.l0 : Nat → Int → Int → Int → ByteArray → List (S63) → List (S27) → Option (Int)
  | 0, _, _, _, _, _, _ => none
  | k + 1, x1, x33, x34, x176000, x176001, x176002 => if x34 < x33 then (if 0 ≤ x34 then (if x34 < (x176001.length : Int) then ((arboretref01_Prop.f k ((rd_T63 x176001 x34).f0)).bind fun t179 => (if t179 = true then (arboretref01_wrong.l0 k x1 x33 (wrap64 (x34 + 1)) x176000 x176001 x176002) else (some 5))) else (none)) else (none)) else (arboretref01_wrong.l1 k x1 (x176001.length : Int) 0 x176000 x176001 x176002)
def arboretref01_wrong.l1 : Nat → Int → Int → Int → ByteArray → List (S63) → List (S27) → Option (Int)
  | 0, _, _, _, _, _, _ => none
  | k + 1, x1, x48, x49, x176000, x176001, x176002 => if x49 < x48 then (arboretref01_wrong.l2 k x1 x49 x48 x49 x49 0 x176000 x176001 x176002) else (arboretref01_wrong.l3 k x1 (x176002.length : Int) 0 x176000 x176001 x176002)
def arboretref01_wrong.l2 : Nat → Int → Int → Int → Int → Int → Int → ByteArray → List (S63) → List (S27) → Option (Int)
  | 0, _, _, _, _, _, _, _, _, _ => none
  | k + 1, x1, x6, x48, x49, x52, x53, x176000, x176001, x176002 => if x53 < x52 then (if 0 ≤ x53 then (if x53 < (x176001.length : Int) then (if 0 ≤ x6 then (if x6 < (x176001.length : Int) then (if ((rd_T63 x176001 x53).f0).toList = ((rd_T63 x176001 x6).f0).toList then (some 9) else (arboretref01_wrong.l2 k x1 x6 x48 x49 x52 (wrap64 (x53 + 1)) x176000 x176001 x176002)) else (none)) else (none)) else (none)) else (none)) else (arboretref01_wrong.l1 k x1 x48 (wrap64 (x49 + 1)) x176000 x176001 x176002)
def arboretref01_wrong.l3 : Nat → Int → Int → Int → ByteArray → List (S63) → List (S27) → Option (Int)
  | 0, _, _, _, _, _, _ => none
  | k + 1, x1, x73, x74, x176000, x176001, x176002 => if x74 < x73 then (arboretref01_wrong.l4 k x1 x74 x73 x74 x74 0 x176000 x176001 x176002) else (arboretref01_wrong.l5 k x1 (x176002.length : Int) 0 x176000 x176001 x176002)
def arboretref01_wrong.l4 : Nat → Int → Int → Int → Int → Int → Int → ByteArray → List (S63) → List (S27) → Option (Int)
  | 0, _, _, _, _, _, _, _, _, _ => none
  | k + 1, x1, x8, x73, x74, x77, x78, x176000, x176001, x176002 => if x78 < x77 then (if 0 ≤ x78 then (if x78 < (x176002.length : Int) then (if 0 ≤ x8 then (if x8 < (x176002.length : Int) then (if ((rd_T27 x176002 x78).f0).toList = ((rd_T27 x176002 x8).f0).toList then (some 9) else (arboretref01_wrong.l4 k x1 x8 x73 x74 x77 (wrap64 (x78 + 1)) x176000 x176001 x176002)) else (none)) else (none)) else (none)) else (none)) else (arboretref01_wrong.l3 k x1 x73 (wrap64 (x74 + 1)) x176000 x176001 x176002)
def arboretref01_wrong.l5 : Nat → Int → Int → Int → ByteArray → List (S63) → List (S27) → Option (Int)
  | 0, _, _, _, _, _, _ => none
  | k + 1, x1, x98, x99, x176000, x176001, x176002 => if x99 < x98 then (if 0 ≤ x99 then (if x99 < (x176002.length : Int) then ((arboretref01_wrong.f k ((rd_T27 x176002 x99).f0) ((rd_T27 x176002 x99).f1) ((rd_T27 x176002 x99).f2) (wrap64 (x1 + 1))).bind fun t185 => (if t185 = 0 then (arboretref01_wrong.l5 k x1 x98 (wrap64 (x99 + 1)) x176000 x176001 x176002) else (some t185))) else (none)) else (none)) else (some 0)
def arboretref01_wrong.f : Nat → ByteArray → List (S63) → List (S27) → Int → Option (Int)
  | 0, _, _, _, _ => none
  | k + 1, a0_0, l0_1, l0_2, a1 => if a1 > 16 then (some 6) else (if a1 = 1 then (if a0_0.toList = ([] : List UInt8) then (if a1 > 1 then ((arboretref01_Node.f k a0_0).bind fun t176 => (arboretref01_wrong.j0 k a1 (!t176) a0_0 l0_1 l0_2)) else (arboretref01_wrong.j0 k a1 false a0_0 l0_1 l0_2)) else (arboretref01_wrong.j0 k a1 true a0_0 l0_1 l0_2)) else (if a1 > 1 then ((arboretref01_Node.f k a0_0).bind fun t177 => (arboretref01_wrong.j0 k a1 (!t177) a0_0 l0_1 l0_2)) else (arboretref01_wrong.j0 k a1 false a0_0 l0_1 l0_2)))
end
theorem arboretref01_wrong.mono_l : ∀ k, (∀ y0 y1 y2 y3, LeO (arboretref01_wrong.f k y0 y1 y2 y3) (arboretref01_wrong.f (k + 1) y0 y1 y2 y3)) ∧ (∀ y0 y1 y2 y3 y4, LeO (arboretref01_wrong.j0 k y0 y1 y2 y3 y4) (arboretref01_wrong.j0 (k + 1) y0 y1 y2 y3 y4)) ∧ (∀ y0 y1 y2 y3 y4 y5, LeO (arboretref01_wrong.l0 k y0 y1 y2 y3 y4 y5) (arboretref01_wrong.l0 (k + 1) y0 y1 y2 y3 y4 y5)) ∧ (∀ y0 y1 y2 y3 y4 y5, LeO (arboretref01_wrong.l1 k y0 y1 y2 y3 y4 y5) (arboretref01_wrong.l1 (k + 1) y0 y1 y2 y3 y4 y5)) ∧ (∀ y0 y1 y2 y3 y4 y5 y6 y7 y8, LeO (arboretref01_wrong.l2 k y0 y1 y2 y3 y4 y5 y6 y7 y8) (arboretref01_wrong.l2 (k + 1) y0 y1 y2 y3 y4 y5 y6 y7 y8)) ∧ (∀ y0 y1 y2 y3 y4 y5, LeO (arboretref01_wrong.l3 k y0 y1 y2 y3 y4 y5) (arboretref01_wrong.l3 (k + 1) y0 y1 y2 y3 y4 y5)) ∧ (∀ y0 y1 y2 y3 y4 y5 y6 y7 y8, LeO (arboretref01_wrong.l4 k y0 y1 y2 y3 y4 y5 y6 y7 y8) (arboretref01_wrong.l4 (k + 1) y0 y1 y2 y3 y4 y5 y6 y7 y8)) ∧ (∀ y0 y1 y2 y3 y4 y5, LeO (arboretref01_wrong.l5 k y0 y1 y2 y3 y4 y5) (arboretref01_wrong.l5 (k + 1) y0 y1 y2 y3 y4 y5))
  | 0 => ⟨fun _ _ _ _ r h => by simp [arboretref01_wrong.f] at h, fun _ _ _ _ _ r h => by simp [arboretref01_wrong.j0] at h, fun _ _ _ _ _ _ r h => by simp [arboretref01_wrong.l0] at h, fun _ _ _ _ _ _ r h => by simp [arboretref01_wrong.l1] at h, fun _ _ _ _ _ _ _ _ _ r h => by simp [arboretref01_wrong.l2] at h, fun _ _ _ _ _ _ r h => by simp [arboretref01_wrong.l3] at h, fun _ _ _ _ _ _ _ _ _ r h => by simp [arboretref01_wrong.l4] at h, fun _ _ _ _ _ _ r h => by simp [arboretref01_wrong.l5] at h⟩
  | k + 1 => by
    obtain ⟨ih0, ih1, ih2, ih3, ih4, ih5, ih6, ih7⟩ := arboretref01_wrong.mono_l k
    refine ⟨?_, ?_, ?_, ?_, ?_, ?_, ?_, ?_⟩
    · intro y0 y1 y2 y3
      unfold arboretref01_wrong.f
      repeat' first
      | (with_reducible exact ih0 _ _ _ _)
      | (with_reducible exact ih1 _ _ _ _ _)
      | (with_reducible exact ih2 _ _ _ _ _ _)
      | (with_reducible exact ih3 _ _ _ _ _ _)
      | (with_reducible exact ih4 _ _ _ _ _ _ _ _ _)
      | (with_reducible exact ih5 _ _ _ _ _ _)
      | (with_reducible exact ih6 _ _ _ _ _ _ _ _ _)
      | (with_reducible exact ih7 _ _ _ _ _ _)
      | (with_reducible exact arboretref01_Node.mono _ _)
      | (with_reducible exact arboretref01_Prop.mono _ _)
      | (with_reducible exact LeO.refl _)
      | (with_reducible exact LeO.none _)
      | (with_reducible refine LeO.ite ?_ ?_)
      | (with_reducible refine LeO.bind ?_ (fun _ => ?_))
      | exact ih0 _ _ _ _
      | exact ih1 _ _ _ _ _
      | exact ih2 _ _ _ _ _ _
      | exact ih3 _ _ _ _ _ _
      | exact ih4 _ _ _ _ _ _ _ _ _
      | exact ih5 _ _ _ _ _ _
      | exact ih6 _ _ _ _ _ _ _ _ _
      | exact ih7 _ _ _ _ _ _
      | exact arboretref01_Node.mono _ _
      | exact arboretref01_Prop.mono _ _
      | exact LeO.none _
      | refine LeO.ite ?_ ?_
      | refine LeO.bind ?_ (fun _ => ?_)
    · intro y0 y1 y2 y3 y4
      unfold arboretref01_wrong.j0
      repeat' first
      | (with_reducible exact ih0 _ _ _ _)
      | (with_reducible exact ih1 _ _ _ _ _)
      | (with_reducible exact ih2 _ _ _ _ _ _)
      | (with_reducible exact ih3 _ _ _ _ _ _)
      | (with_reducible exact ih4 _ _ _ _ _ _ _ _ _)
      | (with_reducible exact ih5 _ _ _ _ _ _)
      | (with_reducible exact ih6 _ _ _ _ _ _ _ _ _)
      | (with_reducible exact ih7 _ _ _ _ _ _)
      | (with_reducible exact arboretref01_Node.mono _ _)
      | (with_reducible exact arboretref01_Prop.mono _ _)
      | (with_reducible exact LeO.refl _)
      | (with_reducible exact LeO.none _)
      | (with_reducible refine LeO.ite ?_ ?_)
      | (with_reducible refine LeO.bind ?_ (fun _ => ?_))
      | exact ih0 _ _ _ _
      | exact ih1 _ _ _ _ _
      | exact ih2 _ _ _ _ _ _
      | exact ih3 _ _ _ _ _ _
      | exact ih4 _ _ _ _ _ _ _ _ _
      | exact ih5 _ _ _ _ _ _
      | exact ih6 _ _ _ _ _ _ _ _ _
      | exact ih7 _ _ _ _ _ _
      | exact arboretref01_Node.mono _ _
      | exact arboretref01_Prop.mono _ _
      | exact LeO.none _
      | refine LeO.ite ?_ ?_
      | refine LeO.bind ?_ (fun _ => ?_)
    · intro y0 y1 y2 y3 y4 y5
      unfold arboretref01_wrong.l0
      repeat' first
      | (with_reducible exact ih0 _ _ _ _)
      | (with_reducible exact ih1 _ _ _ _ _)
      | (with_reducible exact ih2 _ _ _ _ _ _)
      | (with_reducible exact ih3 _ _ _ _ _ _)
      | (with_reducible exact ih4 _ _ _ _ _ _ _ _ _)
      | (with_reducible exact ih5 _ _ _ _ _ _)
      | (with_reducible exact ih6 _ _ _ _ _ _ _ _ _)
      | (with_reducible exact ih7 _ _ _ _ _ _)
      | (with_reducible exact arboretref01_Node.mono _ _)
      | (with_reducible exact arboretref01_Prop.mono _ _)
      | (with_reducible exact LeO.refl _)
      | (with_reducible exact LeO.none _)
      | (with_reducible refine LeO.ite ?_ ?_)
      | (with_reducible refine LeO.bind ?_ (fun _ => ?_))
      | exact ih0 _ _ _ _
      | exact ih1 _ _ _ _ _
      | exact ih2 _ _ _ _ _ _
      | exact ih3 _ _ _ _ _ _
      | exact ih4 _ _ _ _ _ _ _ _ _
      | exact ih5 _ _ _ _ _ _
      | exact ih6 _ _ _ _ _ _ _ _ _
      | exact ih7 _ _ _ _ _ _
      | exact arboretref01_Node.mono _ _
      | exact arboretref01_Prop.mono _ _
      | exact LeO.none _
      | refine LeO.ite ?_ ?_
      | refine LeO.bind ?_ (fun _ => ?_)
    · intro y0 y1 y2 y3 y4 y5
      unfold arboretref01_wrong.l1
      repeat' first
      | (with_reducible exact ih0 _ _ _ _)
      | (with_reducible exact ih1 _ _ _ _ _)
      | (with_reducible exact ih2 _ _ _ _ _ _)
      | (with_reducible exact ih3 _ _ _ _ _ _)
      | (with_reducible exact ih4 _ _ _ _ _ _ _ _ _)
      | (with_reducible exact ih5 _ _ _ _ _ _)
      | (with_reducible exact ih6 _ _ _ _ _ _ _ _ _)
      | (with_reducible exact ih7 _ _ _ _ _ _)
      | (with_reducible exact arboretref01_Node.mono _ _)
      | (with_reducible exact arboretref01_Prop.mono _ _)
      | (with_reducible exact LeO.refl _)
      | (with_reducible exact LeO.none _)
      | (with_reducible refine LeO.ite ?_ ?_)
      | (with_reducible refine LeO.bind ?_ (fun _ => ?_))
      | exact ih0 _ _ _ _
      | exact ih1 _ _ _ _ _
      | exact ih2 _ _ _ _ _ _
      | exact ih3 _ _ _ _ _ _
      | exact ih4 _ _ _ _ _ _ _ _ _
      | exact ih5 _ _ _ _ _ _
      | exact ih6 _ _ _ _ _ _ _ _ _
      | exact ih7 _ _ _ _ _ _
      | exact arboretref01_Node.mono _ _
      | exact arboretref01_Prop.mono _ _
      | exact LeO.none _
      | refine LeO.ite ?_ ?_
      | refine LeO.bind ?_ (fun _ => ?_)
    · intro y0 y1 y2 y3 y4 y5 y6 y7 y8
      unfold arboretref01_wrong.l2
      repeat' first
      | (with_reducible exact ih0 _ _ _ _)
      | (with_reducible exact ih1 _ _ _ _ _)
      | (with_reducible exact ih2 _ _ _ _ _ _)
      | (with_reducible exact ih3 _ _ _ _ _ _)
      | (with_reducible exact ih4 _ _ _ _ _ _ _ _ _)
      | (with_reducible exact ih5 _ _ _ _ _ _)
      | (with_reducible exact ih6 _ _ _ _ _ _ _ _ _)
      | (with_reducible exact ih7 _ _ _ _ _ _)
      | (with_reducible exact arboretref01_Node.mono _ _)
      | (with_reducible exact arboretref01_Prop.mono _ _)
      | (with_reducible exact LeO.refl _)
      | (with_reducible exact LeO.none _)
      | (with_reducible refine LeO.ite ?_ ?_)
      | (with_reducible refine LeO.bind ?_ (fun _ => ?_))
      | exact ih0 _ _ _ _
      | exact ih1 _ _ _ _ _
      | exact ih2 _ _ _ _ _ _
      | exact ih3 _ _ _ _ _ _
      | exact ih4 _ _ _ _ _ _ _ _ _
      | exact ih5 _ _ _ _ _ _
      | exact ih6 _ _ _ _ _ _ _ _ _
      | exact ih7 _ _ _ _ _ _
      | exact arboretref01_Node.mono _ _
      | exact arboretref01_Prop.mono _ _
      | exact LeO.none _
      | refine LeO.ite ?_ ?_
      | refine LeO.bind ?_ (fun _ => ?_)
    · intro y0 y1 y2 y3 y4 y5
      unfold arboretref01_wrong.l3
      repeat' first
      | (with_reducible exact ih0 _ _ _ _)
      | (with_reducible exact ih1 _ _ _ _ _)
      | (with_reducible exact ih2 _ _ _ _ _ _)
      | (with_reducible exact ih3 _ _ _ _ _ _)
      | (with_reducible exact ih4 _ _ _ _ _ _ _ _ _)
      | (with_reducible exact ih5 _ _ _ _ _ _)
      | (with_reducible exact ih6 _ _ _ _ _ _ _ _ _)
      | (with_reducible exact ih7 _ _ _ _ _ _)
      | (with_reducible exact arboretref01_Node.mono _ _)
      | (with_reducible exact arboretref01_Prop.mono _ _)
      | (with_reducible exact LeO.refl _)
      | (with_reducible exact LeO.none _)
      | (with_reducible refine LeO.ite ?_ ?_)
      | (with_reducible refine LeO.bind ?_ (fun _ => ?_))
      | exact ih0 _ _ _ _
      | exact ih1 _ _ _ _ _
      | exact ih2 _ _ _ _ _ _
      | exact ih3 _ _ _ _ _ _
      | exact ih4 _ _ _ _ _ _ _ _ _
      | exact ih5 _ _ _ _ _ _
      | exact ih6 _ _ _ _ _ _ _ _ _
      | exact ih7 _ _ _ _ _ _
      | exact arboretref01_Node.mono _ _
      | exact arboretref01_Prop.mono _ _
      | exact LeO.none _
      | refine LeO.ite ?_ ?_
      | refine LeO.bind ?_ (fun _ => ?_)
    · intro y0 y1 y2 y3 y4 y5 y6 y7 y8
      unfold arboretref01_wrong.l4
      repeat' first
      | (with_reducible exact ih0 _ _ _ _)
      | (with_reducible exact ih1 _ _ _ _ _)
      | (with_reducible exact ih2 _ _ _ _ _ _)
      | (with_reducible exact ih3 _ _ _ _ _ _)
      | (with_reducible exact ih4 _ _ _ _ _ _ _ _ _)
      | (with_reducible exact ih5 _ _ _ _ _ _)
      | (with_reducible exact ih6 _ _ _ _ _ _ _ _ _)
      | (with_reducible exact ih7 _ _ _ _ _ _)
      | (with_reducible exact arboretref01_Node.mono _ _)
      | (with_reducible exact arboretref01_Prop.mono _ _)
      | (with_reducible exact LeO.refl _)
      | (with_reducible exact LeO.none _)
      | (with_reducible refine LeO.ite ?_ ?_)
      | (with_reducible refine LeO.bind ?_ (fun _ => ?_))
      | exact ih0 _ _ _ _
      | exact ih1 _ _ _ _ _
      | exact ih2 _ _ _ _ _ _
      | exact ih3 _ _ _ _ _ _
      | exact ih4 _ _ _ _ _ _ _ _ _
      | exact ih5 _ _ _ _ _ _
      | exact ih6 _ _ _ _ _ _ _ _ _
      | exact ih7 _ _ _ _ _ _
      | exact arboretref01_Node.mono _ _
      | exact arboretref01_Prop.mono _ _
      | exact LeO.none _
      | refine LeO.ite ?_ ?_
      | refine LeO.bind ?_ (fun _ => ?_)
    · intro y0 y1 y2 y3 y4 y5
      unfold arboretref01_wrong.l5
      repeat' first
      | (with_reducible exact ih0 _ _ _ _)
      | (with_reducible exact ih1 _ _ _ _ _)
      | (with_reducible exact ih2 _ _ _ _ _ _)
      | (with_reducible exact ih3 _ _ _ _ _ _)
      | (with_reducible exact ih4 _ _ _ _ _ _ _ _ _)
      | (with_reducible exact ih5 _ _ _ _ _ _)
      | (with_reducible exact ih6 _ _ _ _ _ _ _ _ _)
      | (with_reducible exact ih7 _ _ _ _ _ _)
      | (with_reducible exact arboretref01_Node.mono _ _)
      | (with_reducible exact arboretref01_Prop.mono _ _)
      | (with_reducible exact LeO.refl _)
      | (with_reducible exact LeO.none _)
      | (with_reducible refine LeO.ite ?_ ?_)
      | (with_reducible refine LeO.bind ?_ (fun _ => ?_))
      | exact ih0 _ _ _ _
      | exact ih1 _ _ _ _ _
      | exact ih2 _ _ _ _ _ _
      | exact ih3 _ _ _ _ _ _
      | exact ih4 _ _ _ _ _ _ _ _ _
      | exact ih5 _ _ _ _ _ _
      | exact ih6 _ _ _ _ _ _ _ _ _
      | exact ih7 _ _ _ _ _ _
      | exact arboretref01_Node.mono _ _
      | exact arboretref01_Prop.mono _ _
      | exact LeO.none _
      | refine LeO.ite ?_ ?_
      | refine LeO.bind ?_ (fun _ => ?_)
theorem arboretref01_wrong.mono : ∀ a0 a1 a2 a3 k, LeO (arboretref01_wrong.f k a0 a1 a2 a3) (arboretref01_wrong.f (k + 1) a0 a1 a2 a3) := by
  intro a0 a1 a2 a3 k
  obtain ⟨ih0, ih1, ih2, ih3, ih4, ih5, ih6, ih7⟩ := arboretref01_wrong.mono_l k
  exact ih0 a0 a1 a2 a3
set_option maxHeartbeats 8000000 in
set_option maxRecDepth 100000 in
theorem arboretref01_wrong.calls (k : Nat) : ∀ (a0_0 : ByteArray) (A0_1 : Option Addr) (c0_1 : Nat) (l0_1 : List (S63)) (A0_2 : Option Addr) (c0_2 : Nat) (l0_2 : List (S27)) (a1 : Int) (r : Int) (w : World) (hr0_1 : Kd.C k63 w A0_1 l0_1.length l0_1) (hc0_1 : l0_1.length ≤ c0_1) (hr0_2 : Kd.C k27 w A0_2 l0_2.length l0_2) (hc0_2 : l0_2.length ≤ c0_2) (h : arboretref01_wrong.f k a0_0 l0_1 l0_2 a1 = some r),
    Calls Try.prog 37 #[.agg #[.string a0_0, .slice A0_1 l0_1.length c0_1, .slice A0_2 l0_2.length c0_2], .int .i64 a1] w fun e w' => e = .returned (.int .i64 r) ∧ Below w.heap.size w w' := by
  induction k using Nat.strongRecOn with
  | _ k ih =>
  intro a0_0 A0_1 c0_1 l0_1 A0_2 c0_2 l0_2 a1 r w hr0_1 hc0_1 hr0_2 hc0_2 h
  cases k with
  | zero => exact absurd h (by simp [arboretref01_wrong.f])
  | succ k =>
  simp only [arboretref01_wrong.f] at h
  have hu27 := Try.underlying27
  have HR0_1 := Aside0.mk hr0_1
  have HC0_1 := Aside0.mk hc0_1
  clear hr0_1 hc0_1
  have HR0_2 := Aside0.mk hr0_2
  have HC0_2 := Aside0.mk hc0_2
  clear hr0_2 hc0_2
  have HB := Aside0.mk (Below.refl w.heap.size w)
  have H : (if a1 > 16 then (some 6) else (if a1 = 1 then (if a0_0.toList = ([] : List UInt8) then (if a1 > 1 then ((arboretref01_Node.f k a0_0).bind fun t176 => (arboretref01_wrong.j0 k a1 (!t176) a0_0 l0_1 l0_2)) else (arboretref01_wrong.j0 k a1 false a0_0 l0_1 l0_2)) else (arboretref01_wrong.j0 k a1 true a0_0 l0_1 l0_2)) else (if a1 > 1 then ((arboretref01_Node.f k a0_0).bind fun t177 => (arboretref01_wrong.j0 k a1 (!t177) a0_0 l0_1 l0_2)) else (arboretref01_wrong.j0 k a1 false a0_0 l0_1 l0_2)))) = some r := h
  clear h
  by_cases c3 : a1 > 16
  · rw [if_pos c3] at H
    have c3b0 : decide (16 < a1) = true := decide_eq_true c3
    clear c3
    obtain rfl := Option.some.inj H
    go_enter Try.func37, Try.ntmps37
    go_wp2_with (first | ((with_reducible refine gate_dst (N := 2) rfl ?_); refine box_event ?hg (N := 2) ?hd (cs := #[.string a0_0, .slice A0_1 l0_1.length c0_1, .slice A0_2 l0_2.length c0_2]) (t := 27) ?hr ?_; (case hd => rfl); (case hg => rfl); (case hr => first | (go_simp; done) | (go_simp; rfl)); intro gb175 hg w4 hbox hb; have n0_ := Aside0.mk (below_step (by repeat (first | (with_reducible first | exact HB.out | apply below_alloc | apply pw_below_drewN | apply below_drew1) | exact HB.out)) hb); have n1_ := Aside0.mk (hbox); have n2_ := Aside0.mk ((by rw [hg]; exact (below_size (by repeat (first | (with_reducible first | exact HB.out | apply below_alloc | apply pw_below_drewN | apply below_drew1) | exact HB.out))) : w.heap.size ≤ gb175)); have n3_ := Aside0.mk ((by rw [hg]; exact (below_size (by repeat (first | (with_reducible first | exact HB.out | apply below_alloc | apply pw_below_drewN | apply below_drew1) | exact HB.out))) : w.heap.size ≤ gb175)); clear HB; have HB := n0_; have BK175 := n1_; have GW175 := n2_; have GE175 := n3_; clear n0_ n1_ n2_ n3_; clear hb hbox hg))
    repeat (go_quiet (first | ((with_reducible refine gate_dst (N := 2) rfl ?_); refine box_event ?hg (N := 2) ?hd (cs := #[.string a0_0, .slice A0_1 l0_1.length c0_1, .slice A0_2 l0_2.length c0_2]) (t := 27) ?hr ?_; (case hd => rfl); (case hg => rfl); (case hr => first | (go_simp; done) | (go_simp; rfl)); intro gb175 hg w4 hbox hb; have n0_ := Aside0.mk (below_step (by repeat (first | (with_reducible first | exact HB.out | apply below_alloc | apply pw_below_drewN | apply below_drew1) | exact HB.out)) hb); have n1_ := Aside0.mk (hbox); have n2_ := Aside0.mk ((by rw [hg]; exact (below_size (by repeat (first | (with_reducible first | exact HB.out | apply below_alloc | apply pw_below_drewN | apply below_drew1) | exact HB.out))) : w.heap.size ≤ gb175)); have n3_ := Aside0.mk ((by rw [hg]; exact (below_size (by repeat (first | (with_reducible first | exact HB.out | apply below_alloc | apply pw_below_drewN | apply below_drew1) | exact HB.out))) : w.heap.size ≤ gb175)); clear HB; have HB := n0_; have BK175 := n1_; have GW175 := n2_; have GE175 := n3_; clear n0_ n1_ n2_ n3_; clear hb hbox hg)); try go_wp2_with (first | ((with_reducible refine gate_dst (N := 2) rfl ?_); refine box_event ?hg (N := 2) ?hd (cs := #[.string a0_0, .slice A0_1 l0_1.length c0_1, .slice A0_2 l0_2.length c0_2]) (t := 27) ?hr ?_; (case hd => rfl); (case hg => rfl); (case hr => first | (go_simp; done) | (go_simp; rfl)); intro gb175 hg w4 hbox hb; have n0_ := Aside0.mk (below_step (by repeat (first | (with_reducible first | exact HB.out | apply below_alloc | apply pw_below_drewN | apply below_drew1) | exact HB.out)) hb); have n1_ := Aside0.mk (hbox); have n2_ := Aside0.mk ((by rw [hg]; exact (below_size (by repeat (first | (with_reducible first | exact HB.out | apply below_alloc | apply pw_below_drewN | apply below_drew1) | exact HB.out))) : w.heap.size ≤ gb175)); have n3_ := Aside0.mk ((by rw [hg]; exact (below_size (by repeat (first | (with_reducible first | exact HB.out | apply below_alloc | apply pw_below_drewN | apply below_drew1) | exact HB.out))) : w.heap.size ≤ gb175)); clear HB; have HB := n0_; have BK175 := n1_; have GW175 := n2_; have GE175 := n3_; clear n0_ n1_ n2_ n3_; clear hb hbox hg)))
    go_ret
    exact ⟨by first | rfl | (simp [errW_none, errW_some] <;> rfl) | (simp [*, errW_none, errW_some] <;> rfl), by repeat (first | (with_reducible first | exact HB.out | apply below_alloc | apply pw_below_drewN | apply below_drew1 | refine below_set ?_ GE175.out) | exact HB.out)⟩
  · rw [if_neg c3] at H
    have c3b0 : decide (16 < a1) = false := decide_eq_false c3
    clear c3
    have HC5 := Aside0.mk H
    clear H
    go_enter Try.func37, Try.ntmps37
    go_upto_region 3 with (first | ((with_reducible refine gate_dst (N := 2) rfl ?_); refine box_event ?hg (N := 2) ?hd (cs := #[.string a0_0, .slice A0_1 l0_1.length c0_1, .slice A0_2 l0_2.length c0_2]) (t := 27) ?hr ?_; (case hd => rfl); (case hg => rfl); (case hr => first | (go_simp; done) | (go_simp; rfl)); intro gb175 hg w6 hbox hb; have n0_ := Aside0.mk (below_step (by repeat (first | (with_reducible first | exact HB.out | apply below_alloc | apply pw_below_drewN | apply below_drew1) | exact HB.out)) hb); have n1_ := Aside0.mk (hbox); have n2_ := Aside0.mk ((by rw [hg]; exact (below_size (by repeat (first | (with_reducible first | exact HB.out | apply below_alloc | apply pw_below_drewN | apply below_drew1) | exact HB.out))) : w.heap.size ≤ gb175)); have n3_ := Aside0.mk ((by rw [hg]; exact (below_size (by repeat (first | (with_reducible first | exact HB.out | apply below_alloc | apply pw_below_drewN | apply below_drew1) | exact HB.out))) : w.heap.size ≤ gb175)); clear HB; have HB := n0_; have BK175 := n1_; have GW175 := n2_; have GE175 := n3_; clear n0_ n1_ n2_ n3_; clear hb hbox hg))
    repeat (go_quiet (first | ((with_reducible refine gate_dst (N := 2) rfl ?_); refine box_event ?hg (N := 2) ?hd (cs := #[.string a0_0, .slice A0_1 l0_1.length c0_1, .slice A0_2 l0_2.length c0_2]) (t := 27) ?hr ?_; (case hd => rfl); (case hg => rfl); (case hr => first | (go_simp; done) | (go_simp; rfl)); intro gb175 hg w6 hbox hb; have n0_ := Aside0.mk (below_step (by repeat (first | (with_reducible first | exact HB.out | apply below_alloc | apply pw_below_drewN | apply below_drew1) | exact HB.out)) hb); have n1_ := Aside0.mk (hbox); have n2_ := Aside0.mk ((by rw [hg]; exact (below_size (by repeat (first | (with_reducible first | exact HB.out | apply below_alloc | apply pw_below_drewN | apply below_drew1) | exact HB.out))) : w.heap.size ≤ gb175)); have n3_ := Aside0.mk ((by rw [hg]; exact (below_size (by repeat (first | (with_reducible first | exact HB.out | apply below_alloc | apply pw_below_drewN | apply below_drew1) | exact HB.out))) : w.heap.size ≤ gb175)); clear HB; have HB := n0_; have BK175 := n1_; have GW175 := n2_; have GE175 := n3_; clear n0_ n1_ n2_ n3_; clear hb hbox hg)); go_upto_region 3 with (first | ((with_reducible refine gate_dst (N := 2) rfl ?_); refine box_event ?hg (N := 2) ?hd (cs := #[.string a0_0, .slice A0_1 l0_1.length c0_1, .slice A0_2 l0_2.length c0_2]) (t := 27) ?hr ?_; (case hd => rfl); (case hg => rfl); (case hr => first | (go_simp; done) | (go_simp; rfl)); intro gb175 hg w6 hbox hb; have n0_ := Aside0.mk (below_step (by repeat (first | (with_reducible first | exact HB.out | apply below_alloc | apply pw_below_drewN | apply below_drew1) | exact HB.out)) hb); have n1_ := Aside0.mk (hbox); have n2_ := Aside0.mk ((by rw [hg]; exact (below_size (by repeat (first | (with_reducible first | exact HB.out | apply below_alloc | apply pw_below_drewN | apply below_drew1) | exact HB.out))) : w.heap.size ≤ gb175)); have n3_ := Aside0.mk ((by rw [hg]; exact (below_size (by repeat (first | (with_reducible first | exact HB.out | apply below_alloc | apply pw_below_drewN | apply below_drew1) | exact HB.out))) : w.heap.size ≤ gb175)); clear HB; have HB := n0_; have BK175 := n1_; have GW175 := n2_; have GE175 := n3_; clear n0_ n1_ n2_ n3_; clear hb hbox hg)))
    (try simp only [Act.put, List.setIfInBounds_toArray, List.set_cons_zero, List.set_cons_succ])
    go_cut [30] (fun v30 wc => ∃ (kq : Nat) (x30_4 : Bool), v30 = .bool x30_4 ∧ Aside0 (arboretref01_wrong.j0 kq a1 x30_4 a0_0 l0_1 l0_2 = some r) ∧ Aside0 (kq ≤ k) ∧ Aside0 (wc.heap[gb175]? = some (.cells #[.string a0_0, (.slice A0_1 l0_1.length c0_1), (.slice A0_2 l0_2.length c0_2)] 27 (0, 0))) ∧ Aside0 (Below w.heap.size w wc))
    case first =>
      have H := HC5.out
      clear HC5
      by_cases c7 : a1 = 1
      · rw [if_pos c7] at H
        have c7b0 : (a1 == 1) = true := beq_iff_eq.mpr c7
        have c7b1 : (a1 != 1) = false := bne_eq_false_iff_eq.mpr c7
        clear c7
        (first | rw [c7b0] | (simp only [i64_w, i32_w]; rw [c7b0]) | skip)
        by_cases c8 : a0_0.toList = ([] : List UInt8)
        · rw [if_pos c8] at H
          have c8b0 : (a0_0.toList == ([] : List UInt8)) = true := beq_iff_eq.mpr c8
          have c8b1 : (a0_0.toList != ([] : List UInt8)) = false := bne_eq_false_iff_eq.mpr c8
          clear c8
          by_cases c9 : a1 > 1
          · rw [if_pos c9] at H
            have c9b0 : decide (1 < a1) = true := decide_eq_true c9
            clear c9
            replace H := Option.bind_eq_some_iff.mp H
            obtain ⟨t176, A100, H⟩ := H
            replace H : (arboretref01_wrong.j0 k a1 (!t176) a0_0 l0_1 l0_2) = some r := H
            have A10 := Aside0.mk A100
            clear A100
            have H' := Aside0.mk H
            clear H
            have hcz11_0 : w6.cell? ⟨gb175, 0, none⟩ = some (.string a0_0) := (blk_cell BK175.out 0).trans rfl
            have hcz11_1 : w6.cell? ⟨gb175, 1, none⟩ = some (.slice A0_1 l0_1.length c0_1) := (blk_cell BK175.out 1).trans rfl
            have hcz11_2 : w6.cell? ⟨gb175, 2, none⟩ = some (.slice A0_2 l0_2.length c0_2) := (blk_cell BK175.out 2).trans rfl
            have hfz11_0 := blk_frozen BK175.out 0
            have hfz11_1 := blk_frozen BK175.out 1
            have hfz11_2 := blk_frozen BK175.out 2
            go_wp2_with (first | (go_at_call 64; (with_reducible refine (arboretref01_Node.calls k a0_0 t176 _ A10.out).mono ?_); rintro e w' ⟨rfl, ⟨nd, rfl⟩⟩; (try first | exact ⟨rfl, _, World.drewN_drewN _ _ _⟩ | exact ⟨rfl, _, Eq.trans (World.drewN_drewN _ _ _) (congrArg (World.drewN _) (Nat.add_assoc _ _ _))⟩)))
            repeat (go_quiet (first | (go_at_call 64; (with_reducible refine (arboretref01_Node.calls k a0_0 t176 _ A10.out).mono ?_); rintro e w' ⟨rfl, ⟨nd, rfl⟩⟩; (try first | exact ⟨rfl, _, World.drewN_drewN _ _ _⟩ | exact ⟨rfl, _, Eq.trans (World.drewN_drewN _ _ _) (congrArg (World.drewN _) (Nat.add_assoc _ _ _))⟩))); try go_wp2_with (first | (go_at_call 64; (with_reducible refine (arboretref01_Node.calls k a0_0 t176 _ A10.out).mono ?_); rintro e w' ⟨rfl, ⟨nd, rfl⟩⟩; (try first | exact ⟨rfl, _, World.drewN_drewN _ _ _⟩ | exact ⟨rfl, _, Eq.trans (World.drewN_drewN _ _ _) (congrArg (World.drewN _) (Nat.add_assoc _ _ _))⟩))))
            go_meet
            case rel => exact ⟨_, (!t176), (by first | rfl | (simp; done) | (simp [*]; done)), H', ⟨by first | omega | exact Nat.le_refl _⟩, ⟨by (with_reducible repeat (first | refine blk_drewN ?_ _ | refine blk_drew ?_ | refine blk_alloc ?_ _)); exact BK175.out⟩, ⟨by repeat (first | (with_reducible first | exact HB.out | apply below_alloc | apply pw_below_drewN | apply below_drew1 | refine below_set ?_ GE175.out) | exact HB.out)⟩⟩
          · rw [if_neg c9] at H
            have c9b0 : decide (1 < a1) = false := decide_eq_false c9
            clear c9
            have H' := Aside0.mk H
            clear H
            have hcz12_0 : w6.cell? ⟨gb175, 0, none⟩ = some (.string a0_0) := (blk_cell BK175.out 0).trans rfl
            have hcz12_1 : w6.cell? ⟨gb175, 1, none⟩ = some (.slice A0_1 l0_1.length c0_1) := (blk_cell BK175.out 1).trans rfl
            have hcz12_2 : w6.cell? ⟨gb175, 2, none⟩ = some (.slice A0_2 l0_2.length c0_2) := (blk_cell BK175.out 2).trans rfl
            have hfz12_0 := blk_frozen BK175.out 0
            have hfz12_1 := blk_frozen BK175.out 1
            have hfz12_2 := blk_frozen BK175.out 2
            go_wp2
            repeat (go_quiet (fail); try go_wp2)
            go_meet
            case rel => exact ⟨_, (false), (by first | rfl | (simp; done) | (simp [*]; done)), H', ⟨by first | omega | exact Nat.le_refl _⟩, ⟨by (with_reducible repeat (first | refine blk_drewN ?_ _ | refine blk_drew ?_ | refine blk_alloc ?_ _)); exact BK175.out⟩, ⟨by repeat (first | (with_reducible first | exact HB.out | apply below_alloc | apply pw_below_drewN | apply below_drew1 | refine below_set ?_ GE175.out) | exact HB.out)⟩⟩
        · rw [if_neg c8] at H
          have c8b0 : (a0_0.toList == ([] : List UInt8)) = false := beq_eq_false_iff_ne.mpr c8
          have c8b1 : (a0_0.toList != ([] : List UInt8)) = true := bne_iff_ne.mpr c8
          have H' := Aside0.mk H
          clear H
          have hcz13_0 : w6.cell? ⟨gb175, 0, none⟩ = some (.string a0_0) := (blk_cell BK175.out 0).trans rfl
          have hcz13_1 : w6.cell? ⟨gb175, 1, none⟩ = some (.slice A0_1 l0_1.length c0_1) := (blk_cell BK175.out 1).trans rfl
          have hcz13_2 : w6.cell? ⟨gb175, 2, none⟩ = some (.slice A0_2 l0_2.length c0_2) := (blk_cell BK175.out 2).trans rfl
          have hfz13_0 := blk_frozen BK175.out 0
          have hfz13_1 := blk_frozen BK175.out 1
          have hfz13_2 := blk_frozen BK175.out 2
          go_wp2
          repeat (go_quiet (fail); try go_wp2)
          go_meet
          case rel => exact ⟨_, (true), (by first | rfl | (simp; done) | (simp [*]; done)), H', ⟨by first | omega | exact Nat.le_refl _⟩, ⟨by (with_reducible repeat (first | refine blk_drewN ?_ _ | refine blk_drew ?_ | refine blk_alloc ?_ _)); exact BK175.out⟩, ⟨by repeat (first | (with_reducible first | exact HB.out | apply below_alloc | apply pw_below_drewN | apply below_drew1 | refine below_set ?_ GE175.out) | exact HB.out)⟩⟩
      · rw [if_neg c7] at H
        have c7b0 : (a1 == 1) = false := beq_eq_false_iff_ne.mpr c7
        have c7b1 : (a1 != 1) = true := bne_iff_ne.mpr c7
        (first | rw [c7b0] | (simp only [i64_w, i32_w]; rw [c7b0]) | skip)
        by_cases c14 : a1 > 1
        · rw [if_pos c14] at H
          have c14b0 : decide (1 < a1) = true := decide_eq_true c14
          clear c14
          replace H := Option.bind_eq_some_iff.mp H
          obtain ⟨t177, A150, H⟩ := H
          replace H : (arboretref01_wrong.j0 k a1 (!t177) a0_0 l0_1 l0_2) = some r := H
          have A15 := Aside0.mk A150
          clear A150
          have H' := Aside0.mk H
          clear H
          have hcz16_0 : w6.cell? ⟨gb175, 0, none⟩ = some (.string a0_0) := (blk_cell BK175.out 0).trans rfl
          have hcz16_1 : w6.cell? ⟨gb175, 1, none⟩ = some (.slice A0_1 l0_1.length c0_1) := (blk_cell BK175.out 1).trans rfl
          have hcz16_2 : w6.cell? ⟨gb175, 2, none⟩ = some (.slice A0_2 l0_2.length c0_2) := (blk_cell BK175.out 2).trans rfl
          have hfz16_0 := blk_frozen BK175.out 0
          have hfz16_1 := blk_frozen BK175.out 1
          have hfz16_2 := blk_frozen BK175.out 2
          go_wp2_with (first | (go_at_call 64; (with_reducible refine (arboretref01_Node.calls k a0_0 t177 _ A15.out).mono ?_); rintro e w' ⟨rfl, ⟨nd, rfl⟩⟩; (try first | exact ⟨rfl, _, World.drewN_drewN _ _ _⟩ | exact ⟨rfl, _, Eq.trans (World.drewN_drewN _ _ _) (congrArg (World.drewN _) (Nat.add_assoc _ _ _))⟩)))
          repeat (go_quiet (first | (go_at_call 64; (with_reducible refine (arboretref01_Node.calls k a0_0 t177 _ A15.out).mono ?_); rintro e w' ⟨rfl, ⟨nd, rfl⟩⟩; (try first | exact ⟨rfl, _, World.drewN_drewN _ _ _⟩ | exact ⟨rfl, _, Eq.trans (World.drewN_drewN _ _ _) (congrArg (World.drewN _) (Nat.add_assoc _ _ _))⟩))); try go_wp2_with (first | (go_at_call 64; (with_reducible refine (arboretref01_Node.calls k a0_0 t177 _ A15.out).mono ?_); rintro e w' ⟨rfl, ⟨nd, rfl⟩⟩; (try first | exact ⟨rfl, _, World.drewN_drewN _ _ _⟩ | exact ⟨rfl, _, Eq.trans (World.drewN_drewN _ _ _) (congrArg (World.drewN _) (Nat.add_assoc _ _ _))⟩))))
          go_meet
          case rel => exact ⟨_, (!t177), (by first | rfl | (simp; done) | (simp [*]; done)), H', ⟨by first | omega | exact Nat.le_refl _⟩, ⟨by (with_reducible repeat (first | refine blk_drewN ?_ _ | refine blk_drew ?_ | refine blk_alloc ?_ _)); exact BK175.out⟩, ⟨by repeat (first | (with_reducible first | exact HB.out | apply below_alloc | apply pw_below_drewN | apply below_drew1 | refine below_set ?_ GE175.out) | exact HB.out)⟩⟩
        · rw [if_neg c14] at H
          have c14b0 : decide (1 < a1) = false := decide_eq_false c14
          clear c14
          have H' := Aside0.mk H
          clear H
          go_wp2
          repeat (go_quiet (fail); try go_wp2)
          go_meet
          case rel => exact ⟨_, (false), (by first | rfl | (simp; done) | (simp [*]; done)), H', ⟨by first | omega | exact Nat.le_refl _⟩, ⟨by (with_reducible repeat (first | refine blk_drewN ?_ _ | refine blk_drew ?_ | refine blk_alloc ?_ _)); exact BK175.out⟩, ⟨by repeat (first | (with_reducible first | exact HB.out | apply below_alloc | apply pw_below_drewN | apply below_drew1 | refine below_set ?_ GE175.out) | exact HB.out)⟩⟩
    case rest =>
      clear HC5
      try clear c1
      try clear p2
      try clear c3
      try clear c3b0
      try clear c7
      try clear c7b0
      try clear c7b1
      try clear c8
      try clear c8b0
      try clear c8b1
      try clear c9
      try clear c9b0
      try clear c14
      try clear c14b0
      try clear hcz11_0
      try clear hcz11_1
      try clear hcz11_2
      try clear hcz12_0
      try clear hcz12_1
      try clear hcz12_2
      try clear hcz13_0
      try clear hcz13_1
      try clear hcz13_2
      try clear hcz16_0
      try clear hcz16_1
      try clear hcz16_2
      try clear hfz11_0
      try clear hfz11_1
      try clear hfz11_2
      try clear hfz12_0
      try clear hfz12_1
      try clear hfz12_2
      try clear hfz13_0
      try clear hfz13_1
      try clear hfz13_2
      try clear hfz16_0
      try clear hfz16_1
      try clear hfz16_2
      obtain ⟨kq, x30_4, rfl, HA, HJ4, BK175, HB⟩ := hcut
      cases kq with
      | zero => exact absurd HA.out (by simp [arboretref01_wrong.j0])
      | succ kj4 =>
        have H := HA.out
        clear HA
        simp only [arboretref01_wrong.j0] at H
        by_cases c17 : x30_4 = true
        · subst c17
          have H1 : (some 5) = some r := by rw [if_pos rfl] at H; exact H
          clear H
          have H := H1
          clear H1
          obtain rfl := Option.some.inj H
          go_wp2
          repeat (go_quiet (fail); try go_wp2)
          go_ret
          exact ⟨by first | rfl | (simp [errW_none, errW_some] <;> rfl) | (simp [*, errW_none, errW_some] <;> rfl), by repeat (first | (with_reducible first | exact HB.out | apply below_alloc | apply pw_below_drewN | apply below_drew1 | refine below_set ?_ GE175.out) | exact HB.out)⟩
        · replace c17 := Bool.eq_false_iff.mpr c17
          subst c17
          have H1 : (arboretref01_wrong.l0 kj4 a1 (l0_1.length : Int) 0 a0_0 l0_1 l0_2) = some r := by rw [if_neg (show ¬ (false = true) by decide)] at H; exact H
          clear H
          have H := H1
          clear H1
          have H' := Aside0.mk H
          clear H
          have hcz18_0 : wc.cell? ⟨gb175, 0, none⟩ = some (.string a0_0) := (blk_cell BK175.out 0).trans rfl
          have hcz18_1 : wc.cell? ⟨gb175, 1, none⟩ = some (.slice A0_1 l0_1.length c0_1) := (blk_cell BK175.out 1).trans rfl
          have hcz18_2 : wc.cell? ⟨gb175, 2, none⟩ = some (.slice A0_2 l0_2.length c0_2) := (blk_cell BK175.out 2).trans rfl
          have hfz18_0 := blk_frozen BK175.out 0
          have hfz18_1 := blk_frozen BK175.out 1
          have hfz18_2 := blk_frozen BK175.out 2
          go_wp2
          repeat (go_quiet (fail); try go_wp2)
          go_loopg [34] kj4 (fun kq v34 w' => ∃ (x34_2 : Int), v34 = .int .i64 x34_2 ∧ Aside0 (arboretref01_wrong.l0 kq a1 (l0_1.length : Int) x34_2 a0_0 l0_1 l0_2 = some r) ∧ Aside0 (kq ≤ kj4) ∧ Aside0 (w'.heap[gb175]? = some (.cells #[.string a0_0, (.slice A0_1 l0_1.length c0_1), (.slice A0_2 l0_2.length c0_2)] 27 (0, 0))) ∧ Aside0 (Below w.heap.size w w'))
          case atStart => exact ⟨(0), (by first | rfl | (simp; done) | (simp [*]; done)), H', ⟨Nat.le_refl _⟩, ⟨by (with_reducible repeat (first | refine blk_drewN ?_ _ | refine blk_drew ?_ | refine blk_alloc ?_ _)); exact BK175.out⟩, ⟨by repeat (first | (with_reducible first | exact HB.out | apply below_alloc | apply pw_below_drewN | apply below_drew1 | refine below_set ?_ GE175.out) | exact HB.out)⟩⟩
          case round =>
            clear H'
            try clear c1
            try clear p2
            try clear c3
            try clear c3b0
            try clear c7
            try clear c7b0
            try clear c7b1
            try clear c8
            try clear c8b0
            try clear c8b1
            try clear c9
            try clear c9b0
            try clear c14
            try clear c14b0
            try clear c17
            try clear hcz11_0
            try clear hcz11_1
            try clear hcz11_2
            try clear hcz12_0
            try clear hcz12_1
            try clear hcz12_2
            try clear hcz13_0
            try clear hcz13_1
            try clear hcz13_2
            try clear hcz16_0
            try clear hcz16_1
            try clear hcz16_2
            try clear hcz18_0
            try clear hcz18_1
            try clear hcz18_2
            try clear hfz11_0
            try clear hfz11_1
            try clear hfz11_2
            try clear hfz12_0
            try clear hfz12_1
            try clear hfz12_2
            try clear hfz13_0
            try clear hfz13_1
            try clear hfz13_2
            try clear hfz16_0
            try clear hfz16_1
            try clear hfz16_2
            try clear hfz18_0
            try clear hfz18_1
            try clear hfz18_2
            try clear p2
            obtain ⟨x34_2, rfl, HA, HK2, BK175, HB⟩ := hrel
            cases gk with
            | zero => exact absurd HA.out (by simp [arboretref01_wrong.l0])
            | succ k2 =>
              have H := HA.out
              clear HA
              simp only [arboretref01_wrong.l0] at H
              by_cases c19 : x34_2 < (l0_1.length : Int)
              · rw [if_pos c19] at H
                have c19b0 : decide (x34_2 < (l0_1.length : Int)) = true := decide_eq_true c19
                clear c19
                by_cases c20 : 0 ≤ x34_2
                · rw [if_pos c20] at H
                  have c20b0 : decide (0 ≤ x34_2) = true := decide_eq_true c20
                  clear c20
                  by_cases c21 : x34_2 < (l0_1.length : Int)
                  · rw [if_pos c21] at H
                    have c21b0 : decide (x34_2 < (l0_1.length : Int)) = true := decide_eq_true c21
                    clear c21
                    replace H := Option.bind_eq_some_iff.mp H
                    obtain ⟨t179, A220, H⟩ := H
                    replace H : (if t179 = true then (arboretref01_wrong.l0 k2 a1 (l0_1.length : Int) (wrap64 (x34_2 + 1)) a0_0 l0_1 l0_2) else (some 5)) = some r := H
                    have A22 := Aside0.mk A220
                    clear A220
                    by_cases c23 : t179 = true
                    · subst c23
                      have H1 : (arboretref01_wrong.l0 k2 a1 (l0_1.length : Int) (wrap64 (x34_2 + 1)) a0_0 l0_1 l0_2) = some r := by rw [if_pos rfl] at H; exact H
                      clear H
                      have H := H1
                      clear H1
                      have H' := Aside0.mk H
                      clear H
                      have hcz24_0 : wr.cell? ⟨gb175, 0, none⟩ = some (.string a0_0) := (blk_cell BK175.out 0).trans rfl
                      have hcz24_1 : wr.cell? ⟨gb175, 1, none⟩ = some (.slice A0_1 l0_1.length c0_1) := (blk_cell BK175.out 1).trans rfl
                      have hcz24_2 : wr.cell? ⟨gb175, 2, none⟩ = some (.slice A0_2 l0_2.length c0_2) := (blk_cell BK175.out 2).trans rfl
                      have hfz24_0 := blk_frozen BK175.out 0
                      have hfz24_1 := blk_frozen BK175.out 1
                      have hfz24_2 := blk_frozen BK175.out 2
                      have p178 : 0 ≤ (x34_2 : Int) := of_decide_eq_true (by first | (with_reducible assumption) | assumption)
                      have q178 : x34_2 < (l0_1.length : Int) := of_decide_eq_true (by first | (with_reducible assumption) | assumption)
                      obtain ⟨ad178, A178_1, c178_1, e178, hx178_0, hx178_1, hl178_1, hi178_1⟩ := at_T63 HR0_1.out x34_2 p178 q178
                      cases e178
                      replace hx178_0 := (HB.out.cell (World.block_lt_of_cell? w _ hx178_0)).trans hx178_0
                      replace hx178_1 := (HB.out.cell (World.block_lt_of_cell? w _ hx178_1)).trans hx178_1
                      have HR178_1 := Aside0.mk hi178_1
                      have HC178_1 := Aside0.mk hl178_1
                      clear hi178_1 hl178_1
                      replace p178 := eq_true p178
                      replace q178 := eq_true q178
                      go_wp2_with (first | (go_at_call 65; (with_reducible refine (arboretref01_Prop.calls k2 ((rd_T63 l0_1 x34_2).f0) true _ A22.out).mono ?_); rintro e w' ⟨rfl, ⟨nd, rfl⟩⟩; (try first | exact ⟨rfl, _, World.drewN_drewN _ _ _⟩ | exact ⟨rfl, _, Eq.trans (World.drewN_drewN _ _ _) (congrArg (World.drewN _) (Nat.add_assoc _ _ _))⟩)))
                      repeat (go_quiet (first | (go_at_call 65; (with_reducible refine (arboretref01_Prop.calls k2 ((rd_T63 l0_1 x34_2).f0) true _ A22.out).mono ?_); rintro e w' ⟨rfl, ⟨nd, rfl⟩⟩; (try first | exact ⟨rfl, _, World.drewN_drewN _ _ _⟩ | exact ⟨rfl, _, Eq.trans (World.drewN_drewN _ _ _) (congrArg (World.drewN _) (Nat.add_assoc _ _ _))⟩))); try go_wp2_with (first | (go_at_call 65; (with_reducible refine (arboretref01_Prop.calls k2 ((rd_T63 l0_1 x34_2).f0) true _ A22.out).mono ?_); rintro e w' ⟨rfl, ⟨nd, rfl⟩⟩; (try first | exact ⟨rfl, _, World.drewN_drewN _ _ _⟩ | exact ⟨rfl, _, Eq.trans (World.drewN_drewN _ _ _) (congrArg (World.drewN _) (Nat.add_assoc _ _ _))⟩))))
                      go_roundg k2
                      case measure => have := HJ4.out; have := HK2.out; omega
                      case rel => exact ⟨(wrap64 (x34_2 + 1)), (by first | rfl | (simp; done) | (simp [*]; done)), H', ⟨by have := HJ4.out; have := HK2.out; omega⟩, ⟨by (with_reducible repeat (first | refine blk_drewN ?_ _ | refine blk_drew ?_ | refine blk_alloc ?_ _)); exact BK175.out⟩, ⟨by repeat (first | (with_reducible first | exact HB.out | apply below_alloc | apply pw_below_drewN | apply below_drew1 | refine below_set ?_ GE175.out) | exact HB.out)⟩⟩
                    · replace c23 := Bool.eq_false_iff.mpr c23
                      subst c23
                      have H1 : (some 5) = some r := by rw [if_neg (show ¬ (false = true) by decide)] at H; exact H
                      clear H
                      have H := H1
                      clear H1
                      obtain rfl := Option.some.inj H
                      have hcz25_0 : wr.cell? ⟨gb175, 0, none⟩ = some (.string a0_0) := (blk_cell BK175.out 0).trans rfl
                      have hcz25_1 : wr.cell? ⟨gb175, 1, none⟩ = some (.slice A0_1 l0_1.length c0_1) := (blk_cell BK175.out 1).trans rfl
                      have hcz25_2 : wr.cell? ⟨gb175, 2, none⟩ = some (.slice A0_2 l0_2.length c0_2) := (blk_cell BK175.out 2).trans rfl
                      have hfz25_0 := blk_frozen BK175.out 0
                      have hfz25_1 := blk_frozen BK175.out 1
                      have hfz25_2 := blk_frozen BK175.out 2
                      have p178 : 0 ≤ (x34_2 : Int) := of_decide_eq_true (by first | (with_reducible assumption) | assumption)
                      have q178 : x34_2 < (l0_1.length : Int) := of_decide_eq_true (by first | (with_reducible assumption) | assumption)
                      obtain ⟨ad178, A178_1, c178_1, e178, hx178_0, hx178_1, hl178_1, hi178_1⟩ := at_T63 HR0_1.out x34_2 p178 q178
                      cases e178
                      replace hx178_0 := (HB.out.cell (World.block_lt_of_cell? w _ hx178_0)).trans hx178_0
                      replace hx178_1 := (HB.out.cell (World.block_lt_of_cell? w _ hx178_1)).trans hx178_1
                      have HR178_1 := Aside0.mk hi178_1
                      have HC178_1 := Aside0.mk hl178_1
                      clear hi178_1 hl178_1
                      replace p178 := eq_true p178
                      replace q178 := eq_true q178
                      go_wp2_with (first | (go_at_call 65; (with_reducible refine (arboretref01_Prop.calls k2 ((rd_T63 l0_1 x34_2).f0) false _ A22.out).mono ?_); rintro e w' ⟨rfl, ⟨nd, rfl⟩⟩; (try first | exact ⟨rfl, _, World.drewN_drewN _ _ _⟩ | exact ⟨rfl, _, Eq.trans (World.drewN_drewN _ _ _) (congrArg (World.drewN _) (Nat.add_assoc _ _ _))⟩)))
                      repeat (go_quiet (first | (go_at_call 65; (with_reducible refine (arboretref01_Prop.calls k2 ((rd_T63 l0_1 x34_2).f0) false _ A22.out).mono ?_); rintro e w' ⟨rfl, ⟨nd, rfl⟩⟩; (try first | exact ⟨rfl, _, World.drewN_drewN _ _ _⟩ | exact ⟨rfl, _, Eq.trans (World.drewN_drewN _ _ _) (congrArg (World.drewN _) (Nat.add_assoc _ _ _))⟩))); try go_wp2_with (first | (go_at_call 65; (with_reducible refine (arboretref01_Prop.calls k2 ((rd_T63 l0_1 x34_2).f0) false _ A22.out).mono ?_); rintro e w' ⟨rfl, ⟨nd, rfl⟩⟩; (try first | exact ⟨rfl, _, World.drewN_drewN _ _ _⟩ | exact ⟨rfl, _, Eq.trans (World.drewN_drewN _ _ _) (congrArg (World.drewN _) (Nat.add_assoc _ _ _))⟩))))
                      go_ret
                      exact ⟨by first | rfl | (simp [errW_none, errW_some] <;> rfl) | (simp [*, errW_none, errW_some] <;> rfl), by repeat (first | (with_reducible first | exact HB.out | apply below_alloc | apply pw_below_drewN | apply below_drew1 | refine below_set ?_ GE175.out) | exact HB.out)⟩
                  · rw [if_neg c21] at H
                    exact absurd H (by simp)
                · rw [if_neg c20] at H
                  exact absurd H (by simp)
              · rw [if_neg c19] at H
                have c19b0 : decide (x34_2 < (l0_1.length : Int)) = false := decide_eq_false c19
                clear c19
                have H' := Aside0.mk H
                clear H
                have hcz26_0 : wr.cell? ⟨gb175, 0, none⟩ = some (.string a0_0) := (blk_cell BK175.out 0).trans rfl
                have hcz26_1 : wr.cell? ⟨gb175, 1, none⟩ = some (.slice A0_1 l0_1.length c0_1) := (blk_cell BK175.out 1).trans rfl
                have hcz26_2 : wr.cell? ⟨gb175, 2, none⟩ = some (.slice A0_2 l0_2.length c0_2) := (blk_cell BK175.out 2).trans rfl
                have hfz26_0 := blk_frozen BK175.out 0
                have hfz26_1 := blk_frozen BK175.out 1
                have hfz26_2 := blk_frozen BK175.out 2
                go_wp2
                repeat (go_quiet (fail); try go_wp2)
                go_loopg [49] k2 (fun kq v49 w' => ∃ (x49_3 : Int), v49 = .int .i64 x49_3 ∧ Aside0 (arboretref01_wrong.l1 kq a1 (l0_1.length : Int) x49_3 a0_0 l0_1 l0_2 = some r) ∧ Aside0 (kq ≤ k2) ∧ Aside0 (w'.heap[gb175]? = some (.cells #[.string a0_0, (.slice A0_1 l0_1.length c0_1), (.slice A0_2 l0_2.length c0_2)] 27 (0, 0))) ∧ Aside0 (Below w.heap.size w w'))
                case atStart => exact ⟨(0), (by first | rfl | (simp; done) | (simp [*]; done)), H', ⟨Nat.le_refl _⟩, ⟨by (with_reducible repeat (first | refine blk_drewN ?_ _ | refine blk_drew ?_ | refine blk_alloc ?_ _)); exact BK175.out⟩, ⟨by repeat (first | (with_reducible first | exact HB.out | apply below_alloc | apply pw_below_drewN | apply below_drew1 | refine below_set ?_ GE175.out) | exact HB.out)⟩⟩
                case round =>
                  clear H'
                  try clear c1
                  try clear p1
                  try clear q1
                  try clear hx1
                  try clear c2
                  try clear p2
                  try clear c3
                  try clear c3b0
                  try clear p6
                  try clear c7
                  try clear c7b0
                  try clear c7b1
                  try clear c8
                  try clear c8b0
                  try clear c8b1
                  try clear c9
                  try clear c9b0
                  try clear c14
                  try clear c14b0
                  try clear c17
                  try clear p17
                  try clear q17
                  try clear hx17
                  try clear c19
                  try clear c19b0
                  try clear c20
                  try clear c20b0
                  try clear c21
                  try clear c21b0
                  try clear c23
                  try clear hcz11_0
                  try clear hcz11_1
                  try clear hcz11_2
                  try clear hcz12_0
                  try clear hcz12_1
                  try clear hcz12_2
                  try clear hcz13_0
                  try clear hcz13_1
                  try clear hcz13_2
                  try clear hcz16_0
                  try clear hcz16_1
                  try clear hcz16_2
                  try clear hcz18_0
                  try clear hcz18_1
                  try clear hcz18_2
                  try clear hcz24_0
                  try clear hcz24_1
                  try clear hcz24_2
                  try clear hcz25_0
                  try clear hcz25_1
                  try clear hcz25_2
                  try clear hcz26_0
                  try clear hcz26_1
                  try clear hcz26_2
                  try clear hfz11_0
                  try clear hfz11_1
                  try clear hfz11_2
                  try clear hfz12_0
                  try clear hfz12_1
                  try clear hfz12_2
                  try clear hfz13_0
                  try clear hfz13_1
                  try clear hfz13_2
                  try clear hfz16_0
                  try clear hfz16_1
                  try clear hfz16_2
                  try clear hfz18_0
                  try clear hfz18_1
                  try clear hfz18_2
                  try clear hfz24_0
                  try clear hfz24_1
                  try clear hfz24_2
                  try clear hfz25_0
                  try clear hfz25_1
                  try clear hfz25_2
                  try clear hfz26_0
                  try clear hfz26_1
                  try clear hfz26_2
                  try clear hx178_0
                  try clear hx178_1
                  try clear p178
                  try clear p2
                  try clear q178
                  obtain ⟨x49_3, rfl, HA, HK3, BK175, HB⟩ := hrel
                  cases gk with
                  | zero => exact absurd HA.out (by simp [arboretref01_wrong.l1])
                  | succ k3 =>
                    have H := HA.out
                    clear HA
                    simp only [arboretref01_wrong.l1] at H
                    by_cases c27 : x49_3 < (l0_1.length : Int)
                    · rw [if_pos c27] at H
                      have c27b0 : decide (x49_3 < (l0_1.length : Int)) = true := decide_eq_true c27
                      clear c27
                      have H' := Aside0.mk H
                      clear H
                      go_wp2
                      repeat (go_quiet (fail); try go_wp2)
                      go_loopg [53] k3 (fun kq v53 w' => ∃ (x53_4 : Int), v53 = .int .i64 x53_4 ∧ Aside0 (arboretref01_wrong.l2 kq a1 x49_3 (l0_1.length : Int) x49_3 x49_3 x53_4 a0_0 l0_1 l0_2 = some r) ∧ Aside0 (kq ≤ k3) ∧ Aside0 (w'.heap[gb175]? = some (.cells #[.string a0_0, (.slice A0_1 l0_1.length c0_1), (.slice A0_2 l0_2.length c0_2)] 27 (0, 0))) ∧ Aside0 (Below w.heap.size w w'))
                      case atStart => exact ⟨(0), (by first | rfl | (simp; done) | (simp [*]; done)), H', ⟨Nat.le_refl _⟩, ⟨by (with_reducible repeat (first | refine blk_drewN ?_ _ | refine blk_drew ?_ | refine blk_alloc ?_ _)); exact BK175.out⟩, ⟨by repeat (first | (with_reducible first | exact HB.out | apply below_alloc | apply pw_below_drewN | apply below_drew1 | refine below_set ?_ GE175.out) | exact HB.out)⟩⟩
                      case round =>
                        clear H'
                        try clear c1
                        try clear p1
                        try clear q1
                        try clear hx1
                        try clear c2
                        try clear p2
                        try clear c3
                        try clear c3b0
                        try clear p6
                        try clear c7
                        try clear c7b0
                        try clear c7b1
                        try clear c8
                        try clear c8b0
                        try clear c8b1
                        try clear c9
                        try clear c9b0
                        try clear c14
                        try clear c14b0
                        try clear c17
                        try clear p17
                        try clear q17
                        try clear hx17
                        try clear c19
                        try clear c19b0
                        try clear c20
                        try clear c20b0
                        try clear c21
                        try clear c21b0
                        try clear c23
                        try clear c27
                        try clear c27b0
                        try clear hcz11_0
                        try clear hcz11_1
                        try clear hcz11_2
                        try clear hcz12_0
                        try clear hcz12_1
                        try clear hcz12_2
                        try clear hcz13_0
                        try clear hcz13_1
                        try clear hcz13_2
                        try clear hcz16_0
                        try clear hcz16_1
                        try clear hcz16_2
                        try clear hcz18_0
                        try clear hcz18_1
                        try clear hcz18_2
                        try clear hcz24_0
                        try clear hcz24_1
                        try clear hcz24_2
                        try clear hcz25_0
                        try clear hcz25_1
                        try clear hcz25_2
                        try clear hcz26_0
                        try clear hcz26_1
                        try clear hcz26_2
                        try clear hfz11_0
                        try clear hfz11_1
                        try clear hfz11_2
                        try clear hfz12_0
                        try clear hfz12_1
                        try clear hfz12_2
                        try clear hfz13_0
                        try clear hfz13_1
                        try clear hfz13_2
                        try clear hfz16_0
                        try clear hfz16_1
                        try clear hfz16_2
                        try clear hfz18_0
                        try clear hfz18_1
                        try clear hfz18_2
                        try clear hfz24_0
                        try clear hfz24_1
                        try clear hfz24_2
                        try clear hfz25_0
                        try clear hfz25_1
                        try clear hfz25_2
                        try clear hfz26_0
                        try clear hfz26_1
                        try clear hfz26_2
                        try clear hx178_0
                        try clear hx178_1
                        try clear p1
                        try clear p17
                        try clear p178
                        try clear p2
                        try clear p6
                        try clear q1
                        try clear q17
                        try clear q178
                        obtain ⟨x53_4, rfl, HA, HK4, BK175, HB⟩ := hrel
                        cases gk with
                        | zero => exact absurd HA.out (by simp [arboretref01_wrong.l2])
                        | succ k4 =>
                          have H := HA.out
                          clear HA
                          simp only [arboretref01_wrong.l2] at H
                          by_cases c28 : x53_4 < x49_3
                          · rw [if_pos c28] at H
                            have c28b0 : decide (x53_4 < x49_3) = true := decide_eq_true c28
                            clear c28
                            by_cases c29 : 0 ≤ x53_4
                            · rw [if_pos c29] at H
                              have c29b0 : decide (0 ≤ x53_4) = true := decide_eq_true c29
                              clear c29
                              by_cases c30 : x53_4 < (l0_1.length : Int)
                              · rw [if_pos c30] at H
                                have c30b0 : decide (x53_4 < (l0_1.length : Int)) = true := decide_eq_true c30
                                clear c30
                                by_cases c31 : 0 ≤ x49_3
                                · rw [if_pos c31] at H
                                  have c31b0 : decide (0 ≤ x49_3) = true := decide_eq_true c31
                                  clear c31
                                  by_cases c32 : x49_3 < (l0_1.length : Int)
                                  · rw [if_pos c32] at H
                                    have c32b0 : decide (x49_3 < (l0_1.length : Int)) = true := decide_eq_true c32
                                    clear c32
                                    by_cases c33 : ((rd_T63 l0_1 x53_4).f0).toList = ((rd_T63 l0_1 x49_3).f0).toList
                                    · rw [if_pos c33] at H
                                      have c33b0 : (((rd_T63 l0_1 x53_4).f0).toList == ((rd_T63 l0_1 x49_3).f0).toList) = true := beq_iff_eq.mpr c33
                                      have c33b1 : (((rd_T63 l0_1 x53_4).f0).toList != ((rd_T63 l0_1 x49_3).f0).toList) = false := bne_eq_false_iff_eq.mpr c33
                                      clear c33
                                      obtain rfl := Option.some.inj H
                                      have hcz34_0 : wr.cell? ⟨gb175, 0, none⟩ = some (.string a0_0) := (blk_cell BK175.out 0).trans rfl
                                      have hcz34_1 : wr.cell? ⟨gb175, 1, none⟩ = some (.slice A0_1 l0_1.length c0_1) := (blk_cell BK175.out 1).trans rfl
                                      have hcz34_2 : wr.cell? ⟨gb175, 2, none⟩ = some (.slice A0_2 l0_2.length c0_2) := (blk_cell BK175.out 2).trans rfl
                                      have hfz34_0 := blk_frozen BK175.out 0
                                      have hfz34_1 := blk_frozen BK175.out 1
                                      have hfz34_2 := blk_frozen BK175.out 2
                                      have p180 : 0 ≤ (x53_4 : Int) := of_decide_eq_true (by first | (with_reducible assumption) | assumption)
                                      have q180 : x53_4 < (l0_1.length : Int) := of_decide_eq_true (by first | (with_reducible assumption) | assumption)
                                      obtain ⟨ad180, A180_1, c180_1, e180, hx180_0, hx180_1, hl180_1, hi180_1⟩ := at_T63 HR0_1.out x53_4 p180 q180
                                      cases e180
                                      replace hx180_0 := (HB.out.cell (World.block_lt_of_cell? w _ hx180_0)).trans hx180_0
                                      replace hx180_1 := (HB.out.cell (World.block_lt_of_cell? w _ hx180_1)).trans hx180_1
                                      have HR180_1 := Aside0.mk hi180_1
                                      have HC180_1 := Aside0.mk hl180_1
                                      clear hi180_1 hl180_1
                                      replace p180 := eq_true p180
                                      replace q180 := eq_true q180
                                      have p181 : 0 ≤ (x49_3 : Int) := of_decide_eq_true (by first | (with_reducible assumption) | assumption)
                                      have q181 : x49_3 < (l0_1.length : Int) := of_decide_eq_true (by first | (with_reducible assumption) | assumption)
                                      obtain ⟨ad181, A181_1, c181_1, e181, hx181_0, hx181_1, hl181_1, hi181_1⟩ := at_T63 HR0_1.out x49_3 p181 q181
                                      obtain rfl : ad180 = ad181 := (by injection e181)
                                      replace hx181_0 := (HB.out.cell (World.block_lt_of_cell? w _ hx181_0)).trans hx181_0
                                      replace hx181_1 := (HB.out.cell (World.block_lt_of_cell? w _ hx181_1)).trans hx181_1
                                      have HR181_1 := Aside0.mk hi181_1
                                      have HC181_1 := Aside0.mk hl181_1
                                      clear hi181_1 hl181_1
                                      replace p181 := eq_true p181
                                      replace q181 := eq_true q181
                                      go_wp2
                                      repeat (go_quiet (fail); try go_wp2)
                                      go_ret
                                      exact ⟨by first | rfl | (simp [errW_none, errW_some] <;> rfl) | (simp [*, errW_none, errW_some] <;> rfl), by repeat (first | (with_reducible first | exact HB.out | apply below_alloc | apply pw_below_drewN | apply below_drew1 | refine below_set ?_ GE175.out) | exact HB.out)⟩
                                    · rw [if_neg c33] at H
                                      have c33b0 : (((rd_T63 l0_1 x53_4).f0).toList == ((rd_T63 l0_1 x49_3).f0).toList) = false := beq_eq_false_iff_ne.mpr c33
                                      have c33b1 : (((rd_T63 l0_1 x53_4).f0).toList != ((rd_T63 l0_1 x49_3).f0).toList) = true := bne_iff_ne.mpr c33
                                      have H' := Aside0.mk H
                                      clear H
                                      have hcz35_0 : wr.cell? ⟨gb175, 0, none⟩ = some (.string a0_0) := (blk_cell BK175.out 0).trans rfl
                                      have hcz35_1 : wr.cell? ⟨gb175, 1, none⟩ = some (.slice A0_1 l0_1.length c0_1) := (blk_cell BK175.out 1).trans rfl
                                      have hcz35_2 : wr.cell? ⟨gb175, 2, none⟩ = some (.slice A0_2 l0_2.length c0_2) := (blk_cell BK175.out 2).trans rfl
                                      have hfz35_0 := blk_frozen BK175.out 0
                                      have hfz35_1 := blk_frozen BK175.out 1
                                      have hfz35_2 := blk_frozen BK175.out 2
                                      have p180 : 0 ≤ (x53_4 : Int) := of_decide_eq_true (by first | (with_reducible assumption) | assumption)
                                      have q180 : x53_4 < (l0_1.length : Int) := of_decide_eq_true (by first | (with_reducible assumption) | assumption)
                                      obtain ⟨ad180, A180_1, c180_1, e180, hx180_0, hx180_1, hl180_1, hi180_1⟩ := at_T63 HR0_1.out x53_4 p180 q180
                                      cases e180
                                      replace hx180_0 := (HB.out.cell (World.block_lt_of_cell? w _ hx180_0)).trans hx180_0
                                      replace hx180_1 := (HB.out.cell (World.block_lt_of_cell? w _ hx180_1)).trans hx180_1
                                      have HR180_1 := Aside0.mk hi180_1
                                      have HC180_1 := Aside0.mk hl180_1
                                      clear hi180_1 hl180_1
                                      replace p180 := eq_true p180
                                      replace q180 := eq_true q180
                                      have p181 : 0 ≤ (x49_3 : Int) := of_decide_eq_true (by first | (with_reducible assumption) | assumption)
                                      have q181 : x49_3 < (l0_1.length : Int) := of_decide_eq_true (by first | (with_reducible assumption) | assumption)
                                      obtain ⟨ad181, A181_1, c181_1, e181, hx181_0, hx181_1, hl181_1, hi181_1⟩ := at_T63 HR0_1.out x49_3 p181 q181
                                      obtain rfl : ad180 = ad181 := (by injection e181)
                                      replace hx181_0 := (HB.out.cell (World.block_lt_of_cell? w _ hx181_0)).trans hx181_0
                                      replace hx181_1 := (HB.out.cell (World.block_lt_of_cell? w _ hx181_1)).trans hx181_1
                                      have HR181_1 := Aside0.mk hi181_1
                                      have HC181_1 := Aside0.mk hl181_1
                                      clear hi181_1 hl181_1
                                      replace p181 := eq_true p181
                                      replace q181 := eq_true q181
                                      go_wp2
                                      repeat (go_quiet (fail); try go_wp2)
                                      go_roundg k4
                                      case measure => have := HJ4.out; have := HK2.out; have := HK3.out; have := HK4.out; omega
                                      case rel => exact ⟨(wrap64 (x53_4 + 1)), (by first | rfl | (simp; done) | (simp [*]; done)), H', ⟨by have := HJ4.out; have := HK2.out; have := HK3.out; have := HK4.out; omega⟩, ⟨by (with_reducible repeat (first | refine blk_drewN ?_ _ | refine blk_drew ?_ | refine blk_alloc ?_ _)); exact BK175.out⟩, ⟨by repeat (first | (with_reducible first | exact HB.out | apply below_alloc | apply pw_below_drewN | apply below_drew1 | refine below_set ?_ GE175.out) | exact HB.out)⟩⟩
                                  · rw [if_neg c32] at H
                                    exact absurd H (by simp)
                                · rw [if_neg c31] at H
                                  exact absurd H (by simp)
                              · rw [if_neg c30] at H
                                exact absurd H (by simp)
                            · rw [if_neg c29] at H
                              exact absurd H (by simp)
                          · rw [if_neg c28] at H
                            have c28b0 : decide (x53_4 < x49_3) = false := decide_eq_false c28
                            clear c28
                            have H' := Aside0.mk H
                            clear H
                            go_wp2
                            repeat (go_quiet (fail); try go_wp2)
                            go_roundg k4
                            case measure => have := HJ4.out; have := HK2.out; have := HK3.out; have := HK4.out; omega
                            case rel => exact ⟨(wrap64 (x49_3 + 1)), (by first | rfl | (simp; done) | (simp [*]; done)), H', ⟨by have := HJ4.out; have := HK2.out; have := HK3.out; have := HK4.out; omega⟩, ⟨by (with_reducible repeat (first | refine blk_drewN ?_ _ | refine blk_drew ?_ | refine blk_alloc ?_ _)); exact BK175.out⟩, ⟨by repeat (first | (with_reducible first | exact HB.out | apply below_alloc | apply pw_below_drewN | apply below_drew1 | refine below_set ?_ GE175.out) | exact HB.out)⟩⟩
                    · rw [if_neg c27] at H
                      have c27b0 : decide (x49_3 < (l0_1.length : Int)) = false := decide_eq_false c27
                      clear c27
                      have H' := Aside0.mk H
                      clear H
                      have hcz36_0 : wr.cell? ⟨gb175, 0, none⟩ = some (.string a0_0) := (blk_cell BK175.out 0).trans rfl
                      have hcz36_1 : wr.cell? ⟨gb175, 1, none⟩ = some (.slice A0_1 l0_1.length c0_1) := (blk_cell BK175.out 1).trans rfl
                      have hcz36_2 : wr.cell? ⟨gb175, 2, none⟩ = some (.slice A0_2 l0_2.length c0_2) := (blk_cell BK175.out 2).trans rfl
                      have hfz36_0 := blk_frozen BK175.out 0
                      have hfz36_1 := blk_frozen BK175.out 1
                      have hfz36_2 := blk_frozen BK175.out 2
                      go_wp2
                      repeat (go_quiet (fail); try go_wp2)
                      go_loopg [74] k3 (fun kq v74 w' => ∃ (x74_4 : Int), v74 = .int .i64 x74_4 ∧ Aside0 (arboretref01_wrong.l3 kq a1 (l0_2.length : Int) x74_4 a0_0 l0_1 l0_2 = some r) ∧ Aside0 (kq ≤ k3) ∧ Aside0 (w'.heap[gb175]? = some (.cells #[.string a0_0, (.slice A0_1 l0_1.length c0_1), (.slice A0_2 l0_2.length c0_2)] 27 (0, 0))) ∧ Aside0 (Below w.heap.size w w'))
                      case atStart => exact ⟨(0), (by first | rfl | (simp; done) | (simp [*]; done)), H', ⟨Nat.le_refl _⟩, ⟨by (with_reducible repeat (first | refine blk_drewN ?_ _ | refine blk_drew ?_ | refine blk_alloc ?_ _)); exact BK175.out⟩, ⟨by repeat (first | (with_reducible first | exact HB.out | apply below_alloc | apply pw_below_drewN | apply below_drew1 | refine below_set ?_ GE175.out) | exact HB.out)⟩⟩
                      case round =>
                        clear H'
                        try clear c1
                        try clear p1
                        try clear q1
                        try clear hx1
                        try clear c2
                        try clear p2
                        try clear c3
                        try clear c3b0
                        try clear p6
                        try clear c7
                        try clear c7b0
                        try clear c7b1
                        try clear c8
                        try clear c8b0
                        try clear c8b1
                        try clear c9
                        try clear c9b0
                        try clear c14
                        try clear c14b0
                        try clear c17
                        try clear p17
                        try clear q17
                        try clear hx17
                        try clear c18
                        try clear p18
                        try clear q18
                        try clear hx18
                        try clear c19
                        try clear c19b0
                        try clear c20
                        try clear c20b0
                        try clear c21
                        try clear c21b0
                        try clear c23
                        try clear c27
                        try clear c27b0
                        try clear c28
                        try clear c28b0
                        try clear c29
                        try clear c29b0
                        try clear c30
                        try clear c30b0
                        try clear c31
                        try clear c31b0
                        try clear c32
                        try clear c32b0
                        try clear c33
                        try clear c33b0
                        try clear c33b1
                        try clear hcz11_0
                        try clear hcz11_1
                        try clear hcz11_2
                        try clear hcz12_0
                        try clear hcz12_1
                        try clear hcz12_2
                        try clear hcz13_0
                        try clear hcz13_1
                        try clear hcz13_2
                        try clear hcz16_0
                        try clear hcz16_1
                        try clear hcz16_2
                        try clear hcz18_0
                        try clear hcz18_1
                        try clear hcz18_2
                        try clear hcz24_0
                        try clear hcz24_1
                        try clear hcz24_2
                        try clear hcz25_0
                        try clear hcz25_1
                        try clear hcz25_2
                        try clear hcz26_0
                        try clear hcz26_1
                        try clear hcz26_2
                        try clear hcz34_0
                        try clear hcz34_1
                        try clear hcz34_2
                        try clear hcz35_0
                        try clear hcz35_1
                        try clear hcz35_2
                        try clear hcz36_0
                        try clear hcz36_1
                        try clear hcz36_2
                        try clear hfz11_0
                        try clear hfz11_1
                        try clear hfz11_2
                        try clear hfz12_0
                        try clear hfz12_1
                        try clear hfz12_2
                        try clear hfz13_0
                        try clear hfz13_1
                        try clear hfz13_2
                        try clear hfz16_0
                        try clear hfz16_1
                        try clear hfz16_2
                        try clear hfz18_0
                        try clear hfz18_1
                        try clear hfz18_2
                        try clear hfz24_0
                        try clear hfz24_1
                        try clear hfz24_2
                        try clear hfz25_0
                        try clear hfz25_1
                        try clear hfz25_2
                        try clear hfz26_0
                        try clear hfz26_1
                        try clear hfz26_2
                        try clear hfz34_0
                        try clear hfz34_1
                        try clear hfz34_2
                        try clear hfz35_0
                        try clear hfz35_1
                        try clear hfz35_2
                        try clear hfz36_0
                        try clear hfz36_1
                        try clear hfz36_2
                        try clear hx178_0
                        try clear hx178_1
                        try clear hx180_0
                        try clear hx180_1
                        try clear hx181_0
                        try clear hx181_1
                        try clear p1
                        try clear p17
                        try clear p178
                        try clear p180
                        try clear p181
                        try clear p2
                        try clear p6
                        try clear q1
                        try clear q17
                        try clear q178
                        try clear q180
                        try clear q181
                        obtain ⟨x74_4, rfl, HA, HK4, BK175, HB⟩ := hrel
                        cases gk with
                        | zero => exact absurd HA.out (by simp [arboretref01_wrong.l3])
                        | succ k4 =>
                          have H := HA.out
                          clear HA
                          simp only [arboretref01_wrong.l3] at H
                          by_cases c37 : x74_4 < (l0_2.length : Int)
                          · rw [if_pos c37] at H
                            have c37b0 : decide (x74_4 < (l0_2.length : Int)) = true := decide_eq_true c37
                            clear c37
                            have H' := Aside0.mk H
                            clear H
                            go_wp2
                            repeat (go_quiet (fail); try go_wp2)
                            go_loopg [78] k4 (fun kq v78 w' => ∃ (x78_5 : Int), v78 = .int .i64 x78_5 ∧ Aside0 (arboretref01_wrong.l4 kq a1 x74_4 (l0_2.length : Int) x74_4 x74_4 x78_5 a0_0 l0_1 l0_2 = some r) ∧ Aside0 (kq ≤ k4) ∧ Aside0 (w'.heap[gb175]? = some (.cells #[.string a0_0, (.slice A0_1 l0_1.length c0_1), (.slice A0_2 l0_2.length c0_2)] 27 (0, 0))) ∧ Aside0 (Below w.heap.size w w'))
                            case atStart => exact ⟨(0), (by first | rfl | (simp; done) | (simp [*]; done)), H', ⟨Nat.le_refl _⟩, ⟨by (with_reducible repeat (first | refine blk_drewN ?_ _ | refine blk_drew ?_ | refine blk_alloc ?_ _)); exact BK175.out⟩, ⟨by repeat (first | (with_reducible first | exact HB.out | apply below_alloc | apply pw_below_drewN | apply below_drew1 | refine below_set ?_ GE175.out) | exact HB.out)⟩⟩
                            case round =>
                              clear H'
                              try clear c1
                              try clear p1
                              try clear q1
                              try clear hx1
                              try clear c2
                              try clear p2
                              try clear c3
                              try clear c3b0
                              try clear p6
                              try clear c7
                              try clear c7b0
                              try clear c7b1
                              try clear c8
                              try clear c8b0
                              try clear c8b1
                              try clear c9
                              try clear c9b0
                              try clear c14
                              try clear c14b0
                              try clear c17
                              try clear p17
                              try clear q17
                              try clear hx17
                              try clear c18
                              try clear p18
                              try clear q18
                              try clear hx18
                              try clear c19
                              try clear c19b0
                              try clear c20
                              try clear c20b0
                              try clear c21
                              try clear c21b0
                              try clear c23
                              try clear c27
                              try clear c27b0
                              try clear c28
                              try clear c28b0
                              try clear c29
                              try clear c29b0
                              try clear c30
                              try clear c30b0
                              try clear c31
                              try clear c31b0
                              try clear c32
                              try clear c32b0
                              try clear c33
                              try clear c33b0
                              try clear c33b1
                              try clear c37
                              try clear c37b0
                              try clear hcz11_0
                              try clear hcz11_1
                              try clear hcz11_2
                              try clear hcz12_0
                              try clear hcz12_1
                              try clear hcz12_2
                              try clear hcz13_0
                              try clear hcz13_1
                              try clear hcz13_2
                              try clear hcz16_0
                              try clear hcz16_1
                              try clear hcz16_2
                              try clear hcz18_0
                              try clear hcz18_1
                              try clear hcz18_2
                              try clear hcz24_0
                              try clear hcz24_1
                              try clear hcz24_2
                              try clear hcz25_0
                              try clear hcz25_1
                              try clear hcz25_2
                              try clear hcz26_0
                              try clear hcz26_1
                              try clear hcz26_2
                              try clear hcz34_0
                              try clear hcz34_1
                              try clear hcz34_2
                              try clear hcz35_0
                              try clear hcz35_1
                              try clear hcz35_2
                              try clear hcz36_0
                              try clear hcz36_1
                              try clear hcz36_2
                              try clear hfz11_0
                              try clear hfz11_1
                              try clear hfz11_2
                              try clear hfz12_0
                              try clear hfz12_1
                              try clear hfz12_2
                              try clear hfz13_0
                              try clear hfz13_1
                              try clear hfz13_2
                              try clear hfz16_0
                              try clear hfz16_1
                              try clear hfz16_2
                              try clear hfz18_0
                              try clear hfz18_1
                              try clear hfz18_2
                              try clear hfz24_0
                              try clear hfz24_1
                              try clear hfz24_2
                              try clear hfz25_0
                              try clear hfz25_1
                              try clear hfz25_2
                              try clear hfz26_0
                              try clear hfz26_1
                              try clear hfz26_2
                              try clear hfz34_0
                              try clear hfz34_1
                              try clear hfz34_2
                              try clear hfz35_0
                              try clear hfz35_1
                              try clear hfz35_2
                              try clear hfz36_0
                              try clear hfz36_1
                              try clear hfz36_2
                              try clear hx178_0
                              try clear hx178_1
                              try clear hx180_0
                              try clear hx180_1
                              try clear hx181_0
                              try clear hx181_1
                              try clear p1
                              try clear p17
                              try clear p178
                              try clear p18
                              try clear p180
                              try clear p181
                              try clear p2
                              try clear p6
                              try clear q1
                              try clear q17
                              try clear q178
                              try clear q18
                              try clear q180
                              try clear q181
                              obtain ⟨x78_5, rfl, HA, HK5, BK175, HB⟩ := hrel
                              cases gk with
                              | zero => exact absurd HA.out (by simp [arboretref01_wrong.l4])
                              | succ k5 =>
                                have H := HA.out
                                clear HA
                                simp only [arboretref01_wrong.l4] at H
                                by_cases c38 : x78_5 < x74_4
                                · rw [if_pos c38] at H
                                  have c38b0 : decide (x78_5 < x74_4) = true := decide_eq_true c38
                                  clear c38
                                  by_cases c39 : 0 ≤ x78_5
                                  · rw [if_pos c39] at H
                                    have c39b0 : decide (0 ≤ x78_5) = true := decide_eq_true c39
                                    clear c39
                                    by_cases c40 : x78_5 < (l0_2.length : Int)
                                    · rw [if_pos c40] at H
                                      have c40b0 : decide (x78_5 < (l0_2.length : Int)) = true := decide_eq_true c40
                                      clear c40
                                      by_cases c41 : 0 ≤ x74_4
                                      · rw [if_pos c41] at H
                                        have c41b0 : decide (0 ≤ x74_4) = true := decide_eq_true c41
                                        clear c41
                                        by_cases c42 : x74_4 < (l0_2.length : Int)
                                        · rw [if_pos c42] at H
                                          have c42b0 : decide (x74_4 < (l0_2.length : Int)) = true := decide_eq_true c42
                                          clear c42
                                          by_cases c43 : ((rd_T27 l0_2 x78_5).f0).toList = ((rd_T27 l0_2 x74_4).f0).toList
                                          · rw [if_pos c43] at H
                                            have c43b0 : (((rd_T27 l0_2 x78_5).f0).toList == ((rd_T27 l0_2 x74_4).f0).toList) = true := beq_iff_eq.mpr c43
                                            have c43b1 : (((rd_T27 l0_2 x78_5).f0).toList != ((rd_T27 l0_2 x74_4).f0).toList) = false := bne_eq_false_iff_eq.mpr c43
                                            clear c43
                                            obtain rfl := Option.some.inj H
                                            have hcz44_0 : wr.cell? ⟨gb175, 0, none⟩ = some (.string a0_0) := (blk_cell BK175.out 0).trans rfl
                                            have hcz44_1 : wr.cell? ⟨gb175, 1, none⟩ = some (.slice A0_1 l0_1.length c0_1) := (blk_cell BK175.out 1).trans rfl
                                            have hcz44_2 : wr.cell? ⟨gb175, 2, none⟩ = some (.slice A0_2 l0_2.length c0_2) := (blk_cell BK175.out 2).trans rfl
                                            have hfz44_0 := blk_frozen BK175.out 0
                                            have hfz44_1 := blk_frozen BK175.out 1
                                            have hfz44_2 := blk_frozen BK175.out 2
                                            have p182 : 0 ≤ (x78_5 : Int) := of_decide_eq_true (by first | (with_reducible assumption) | assumption)
                                            have q182 : x78_5 < (l0_2.length : Int) := of_decide_eq_true (by first | (with_reducible assumption) | assumption)
                                            obtain ⟨ad182, A182_1, c182_1, A182_2, c182_2, e182, hx182_0, hx182_1, hx182_2, hl182_1, hi182_1, hl182_2, hi182_2⟩ := at_T27 HR0_2.out x78_5 p182 q182
                                            cases e182
                                            replace hx182_0 := (HB.out.cell (World.block_lt_of_cell? w _ hx182_0)).trans hx182_0
                                            replace hx182_1 := (HB.out.cell (World.block_lt_of_cell? w _ hx182_1)).trans hx182_1
                                            replace hx182_2 := (HB.out.cell (World.block_lt_of_cell? w _ hx182_2)).trans hx182_2
                                            have HR182_1 := Aside0.mk hi182_1
                                            have HC182_1 := Aside0.mk hl182_1
                                            clear hi182_1 hl182_1
                                            have HR182_2 := Aside0.mk hi182_2
                                            have HC182_2 := Aside0.mk hl182_2
                                            clear hi182_2 hl182_2
                                            replace p182 := eq_true p182
                                            replace q182 := eq_true q182
                                            have p183 : 0 ≤ (x74_4 : Int) := of_decide_eq_true (by first | (with_reducible assumption) | assumption)
                                            have q183 : x74_4 < (l0_2.length : Int) := of_decide_eq_true (by first | (with_reducible assumption) | assumption)
                                            obtain ⟨ad183, A183_1, c183_1, A183_2, c183_2, e183, hx183_0, hx183_1, hx183_2, hl183_1, hi183_1, hl183_2, hi183_2⟩ := at_T27 HR0_2.out x74_4 p183 q183
                                            obtain rfl : ad182 = ad183 := (by injection e183)
                                            replace hx183_0 := (HB.out.cell (World.block_lt_of_cell? w _ hx183_0)).trans hx183_0
                                            replace hx183_1 := (HB.out.cell (World.block_lt_of_cell? w _ hx183_1)).trans hx183_1
                                            replace hx183_2 := (HB.out.cell (World.block_lt_of_cell? w _ hx183_2)).trans hx183_2
                                            have HR183_1 := Aside0.mk hi183_1
                                            have HC183_1 := Aside0.mk hl183_1
                                            clear hi183_1 hl183_1
                                            have HR183_2 := Aside0.mk hi183_2
                                            have HC183_2 := Aside0.mk hl183_2
                                            clear hi183_2 hl183_2
                                            replace p183 := eq_true p183
                                            replace q183 := eq_true q183
                                            go_wp2
                                            repeat (go_quiet (fail); try go_wp2)
                                            go_ret
                                            exact ⟨by first | rfl | (simp [errW_none, errW_some] <;> rfl) | (simp [*, errW_none, errW_some] <;> rfl), by repeat (first | (with_reducible first | exact HB.out | apply below_alloc | apply pw_below_drewN | apply below_drew1 | refine below_set ?_ GE175.out) | exact HB.out)⟩
                                          · rw [if_neg c43] at H
                                            have c43b0 : (((rd_T27 l0_2 x78_5).f0).toList == ((rd_T27 l0_2 x74_4).f0).toList) = false := beq_eq_false_iff_ne.mpr c43
                                            have c43b1 : (((rd_T27 l0_2 x78_5).f0).toList != ((rd_T27 l0_2 x74_4).f0).toList) = true := bne_iff_ne.mpr c43
                                            have H' := Aside0.mk H
                                            clear H
                                            have hcz45_0 : wr.cell? ⟨gb175, 0, none⟩ = some (.string a0_0) := (blk_cell BK175.out 0).trans rfl
                                            have hcz45_1 : wr.cell? ⟨gb175, 1, none⟩ = some (.slice A0_1 l0_1.length c0_1) := (blk_cell BK175.out 1).trans rfl
                                            have hcz45_2 : wr.cell? ⟨gb175, 2, none⟩ = some (.slice A0_2 l0_2.length c0_2) := (blk_cell BK175.out 2).trans rfl
                                            have hfz45_0 := blk_frozen BK175.out 0
                                            have hfz45_1 := blk_frozen BK175.out 1
                                            have hfz45_2 := blk_frozen BK175.out 2
                                            have p182 : 0 ≤ (x78_5 : Int) := of_decide_eq_true (by first | (with_reducible assumption) | assumption)
                                            have q182 : x78_5 < (l0_2.length : Int) := of_decide_eq_true (by first | (with_reducible assumption) | assumption)
                                            obtain ⟨ad182, A182_1, c182_1, A182_2, c182_2, e182, hx182_0, hx182_1, hx182_2, hl182_1, hi182_1, hl182_2, hi182_2⟩ := at_T27 HR0_2.out x78_5 p182 q182
                                            cases e182
                                            replace hx182_0 := (HB.out.cell (World.block_lt_of_cell? w _ hx182_0)).trans hx182_0
                                            replace hx182_1 := (HB.out.cell (World.block_lt_of_cell? w _ hx182_1)).trans hx182_1
                                            replace hx182_2 := (HB.out.cell (World.block_lt_of_cell? w _ hx182_2)).trans hx182_2
                                            have HR182_1 := Aside0.mk hi182_1
                                            have HC182_1 := Aside0.mk hl182_1
                                            clear hi182_1 hl182_1
                                            have HR182_2 := Aside0.mk hi182_2
                                            have HC182_2 := Aside0.mk hl182_2
                                            clear hi182_2 hl182_2
                                            replace p182 := eq_true p182
                                            replace q182 := eq_true q182
                                            have p183 : 0 ≤ (x74_4 : Int) := of_decide_eq_true (by first | (with_reducible assumption) | assumption)
                                            have q183 : x74_4 < (l0_2.length : Int) := of_decide_eq_true (by first | (with_reducible assumption) | assumption)
                                            obtain ⟨ad183, A183_1, c183_1, A183_2, c183_2, e183, hx183_0, hx183_1, hx183_2, hl183_1, hi183_1, hl183_2, hi183_2⟩ := at_T27 HR0_2.out x74_4 p183 q183
                                            obtain rfl : ad182 = ad183 := (by injection e183)
                                            replace hx183_0 := (HB.out.cell (World.block_lt_of_cell? w _ hx183_0)).trans hx183_0
                                            replace hx183_1 := (HB.out.cell (World.block_lt_of_cell? w _ hx183_1)).trans hx183_1
                                            replace hx183_2 := (HB.out.cell (World.block_lt_of_cell? w _ hx183_2)).trans hx183_2
                                            have HR183_1 := Aside0.mk hi183_1
                                            have HC183_1 := Aside0.mk hl183_1
                                            clear hi183_1 hl183_1
                                            have HR183_2 := Aside0.mk hi183_2
                                            have HC183_2 := Aside0.mk hl183_2
                                            clear hi183_2 hl183_2
                                            replace p183 := eq_true p183
                                            replace q183 := eq_true q183
                                            go_wp2
                                            repeat (go_quiet (fail); try go_wp2)
                                            go_roundg k5
                                            case measure => have := HJ4.out; have := HK2.out; have := HK3.out; have := HK4.out; have := HK5.out; omega
                                            case rel => exact ⟨(wrap64 (x78_5 + 1)), (by first | rfl | (simp; done) | (simp [*]; done)), H', ⟨by have := HJ4.out; have := HK2.out; have := HK3.out; have := HK4.out; have := HK5.out; omega⟩, ⟨by (with_reducible repeat (first | refine blk_drewN ?_ _ | refine blk_drew ?_ | refine blk_alloc ?_ _)); exact BK175.out⟩, ⟨by repeat (first | (with_reducible first | exact HB.out | apply below_alloc | apply pw_below_drewN | apply below_drew1 | refine below_set ?_ GE175.out) | exact HB.out)⟩⟩
                                        · rw [if_neg c42] at H
                                          exact absurd H (by simp)
                                      · rw [if_neg c41] at H
                                        exact absurd H (by simp)
                                    · rw [if_neg c40] at H
                                      exact absurd H (by simp)
                                  · rw [if_neg c39] at H
                                    exact absurd H (by simp)
                                · rw [if_neg c38] at H
                                  have c38b0 : decide (x78_5 < x74_4) = false := decide_eq_false c38
                                  clear c38
                                  have H' := Aside0.mk H
                                  clear H
                                  go_wp2
                                  repeat (go_quiet (fail); try go_wp2)
                                  go_roundg k5
                                  case measure => have := HJ4.out; have := HK2.out; have := HK3.out; have := HK4.out; have := HK5.out; omega
                                  case rel => exact ⟨(wrap64 (x74_4 + 1)), (by first | rfl | (simp; done) | (simp [*]; done)), H', ⟨by have := HJ4.out; have := HK2.out; have := HK3.out; have := HK4.out; have := HK5.out; omega⟩, ⟨by (with_reducible repeat (first | refine blk_drewN ?_ _ | refine blk_drew ?_ | refine blk_alloc ?_ _)); exact BK175.out⟩, ⟨by repeat (first | (with_reducible first | exact HB.out | apply below_alloc | apply pw_below_drewN | apply below_drew1 | refine below_set ?_ GE175.out) | exact HB.out)⟩⟩
                          · rw [if_neg c37] at H
                            have c37b0 : decide (x74_4 < (l0_2.length : Int)) = false := decide_eq_false c37
                            clear c37
                            have H' := Aside0.mk H
                            clear H
                            have hcz46_0 : wr.cell? ⟨gb175, 0, none⟩ = some (.string a0_0) := (blk_cell BK175.out 0).trans rfl
                            have hcz46_1 : wr.cell? ⟨gb175, 1, none⟩ = some (.slice A0_1 l0_1.length c0_1) := (blk_cell BK175.out 1).trans rfl
                            have hcz46_2 : wr.cell? ⟨gb175, 2, none⟩ = some (.slice A0_2 l0_2.length c0_2) := (blk_cell BK175.out 2).trans rfl
                            have hfz46_0 := blk_frozen BK175.out 0
                            have hfz46_1 := blk_frozen BK175.out 1
                            have hfz46_2 := blk_frozen BK175.out 2
                            go_wp2
                            repeat (go_quiet (fail); try go_wp2)
                            go_loopg [99] k4 (fun kq v99 w' => ∃ (x99_5 : Int), v99 = .int .i64 x99_5 ∧ Aside0 (arboretref01_wrong.l5 kq a1 (l0_2.length : Int) x99_5 a0_0 l0_1 l0_2 = some r) ∧ Aside0 (kq ≤ k4) ∧ Aside0 (w'.heap[gb175]? = some (.cells #[.string a0_0, (.slice A0_1 l0_1.length c0_1), (.slice A0_2 l0_2.length c0_2)] 27 (0, 0))) ∧ Aside0 (Below w.heap.size w w'))
                            case atStart => exact ⟨(0), (by first | rfl | (simp; done) | (simp [*]; done)), H', ⟨Nat.le_refl _⟩, ⟨by (with_reducible repeat (first | refine blk_drewN ?_ _ | refine blk_drew ?_ | refine blk_alloc ?_ _)); exact BK175.out⟩, ⟨by repeat (first | (with_reducible first | exact HB.out | apply below_alloc | apply pw_below_drewN | apply below_drew1 | refine below_set ?_ GE175.out) | exact HB.out)⟩⟩
                            case round =>
                              clear H'
                              try clear c1
                              try clear p1
                              try clear q1
                              try clear hx1
                              try clear c2
                              try clear p2
                              try clear c3
                              try clear c3b0
                              try clear c4
                              try clear p6
                              try clear c7
                              try clear c7b0
                              try clear c7b1
                              try clear c8
                              try clear c8b0
                              try clear c8b1
                              try clear c9
                              try clear c9b0
                              try clear c14
                              try clear c14b0
                              try clear c17
                              try clear p17
                              try clear q17
                              try clear hx17
                              try clear c18
                              try clear p18
                              try clear q18
                              try clear hx18
                              try clear c19
                              try clear c19b0
                              try clear c20
                              try clear c20b0
                              try clear c21
                              try clear c21b0
                              try clear c23
                              try clear c27
                              try clear c27b0
                              try clear c28
                              try clear c28b0
                              try clear c29
                              try clear c29b0
                              try clear c30
                              try clear c30b0
                              try clear c31
                              try clear c31b0
                              try clear c32
                              try clear c32b0
                              try clear c33
                              try clear c33b0
                              try clear c33b1
                              try clear c37
                              try clear c37b0
                              try clear c38
                              try clear c38b0
                              try clear c39
                              try clear c39b0
                              try clear c40
                              try clear c40b0
                              try clear c41
                              try clear c41b0
                              try clear c42
                              try clear c42b0
                              try clear c43
                              try clear c43b0
                              try clear c43b1
                              try clear hcz11_0
                              try clear hcz11_1
                              try clear hcz11_2
                              try clear hcz12_0
                              try clear hcz12_1
                              try clear hcz12_2
                              try clear hcz13_0
                              try clear hcz13_1
                              try clear hcz13_2
                              try clear hcz16_0
                              try clear hcz16_1
                              try clear hcz16_2
                              try clear hcz18_0
                              try clear hcz18_1
                              try clear hcz18_2
                              try clear hcz24_0
                              try clear hcz24_1
                              try clear hcz24_2
                              try clear hcz25_0
                              try clear hcz25_1
                              try clear hcz25_2
                              try clear hcz26_0
                              try clear hcz26_1
                              try clear hcz26_2
                              try clear hcz34_0
                              try clear hcz34_1
                              try clear hcz34_2
                              try clear hcz35_0
                              try clear hcz35_1
                              try clear hcz35_2
                              try clear hcz36_0
                              try clear hcz36_1
                              try clear hcz36_2
                              try clear hcz44_0
                              try clear hcz44_1
                              try clear hcz44_2
                              try clear hcz45_0
                              try clear hcz45_1
                              try clear hcz45_2
                              try clear hcz46_0
                              try clear hcz46_1
                              try clear hcz46_2
                              try clear hfz11_0
                              try clear hfz11_1
                              try clear hfz11_2
                              try clear hfz12_0
                              try clear hfz12_1
                              try clear hfz12_2
                              try clear hfz13_0
                              try clear hfz13_1
                              try clear hfz13_2
                              try clear hfz16_0
                              try clear hfz16_1
                              try clear hfz16_2
                              try clear hfz18_0
                              try clear hfz18_1
                              try clear hfz18_2
                              try clear hfz24_0
                              try clear hfz24_1
                              try clear hfz24_2
                              try clear hfz25_0
                              try clear hfz25_1
                              try clear hfz25_2
                              try clear hfz26_0
                              try clear hfz26_1
                              try clear hfz26_2
                              try clear hfz34_0
                              try clear hfz34_1
                              try clear hfz34_2
                              try clear hfz35_0
                              try clear hfz35_1
                              try clear hfz35_2
                              try clear hfz36_0
                              try clear hfz36_1
                              try clear hfz36_2
                              try clear hfz44_0
                              try clear hfz44_1
                              try clear hfz44_2
                              try clear hfz45_0
                              try clear hfz45_1
                              try clear hfz45_2
                              try clear hfz46_0
                              try clear hfz46_1
                              try clear hfz46_2
                              try clear hx178_0
                              try clear hx178_1
                              try clear hx180_0
                              try clear hx180_1
                              try clear hx181_0
                              try clear hx181_1
                              try clear hx182_0
                              try clear hx182_1
                              try clear hx182_2
                              try clear hx183_0
                              try clear hx183_1
                              try clear hx183_2
                              try clear p1
                              try clear p17
                              try clear p178
                              try clear p18
                              try clear p180
                              try clear p181
                              try clear p182
                              try clear p183
                              try clear p2
                              try clear p6
                              try clear q1
                              try clear q17
                              try clear q178
                              try clear q18
                              try clear q180
                              try clear q181
                              try clear q182
                              try clear q183
                              obtain ⟨x99_5, rfl, HA, HK5, BK175, HB⟩ := hrel
                              cases gk with
                              | zero => exact absurd HA.out (by simp [arboretref01_wrong.l5])
                              | succ k5 =>
                                have H := HA.out
                                clear HA
                                simp only [arboretref01_wrong.l5] at H
                                by_cases c47 : x99_5 < (l0_2.length : Int)
                                · rw [if_pos c47] at H
                                  have c47b0 : decide (x99_5 < (l0_2.length : Int)) = true := decide_eq_true c47
                                  clear c47
                                  by_cases c48 : 0 ≤ x99_5
                                  · rw [if_pos c48] at H
                                    have c48b0 : decide (0 ≤ x99_5) = true := decide_eq_true c48
                                    clear c48
                                    by_cases c49 : x99_5 < (l0_2.length : Int)
                                    · rw [if_pos c49] at H
                                      have c49b0 : decide (x99_5 < (l0_2.length : Int)) = true := decide_eq_true c49
                                      clear c49
                                      replace H := Option.bind_eq_some_iff.mp H
                                      obtain ⟨t185, A500, H⟩ := H
                                      replace H : (if t185 = 0 then (arboretref01_wrong.l5 k5 a1 (l0_2.length : Int) (wrap64 (x99_5 + 1)) a0_0 l0_1 l0_2) else (some t185)) = some r := H
                                      have A50 := Aside0.mk A500
                                      clear A500
                                      by_cases c51 : t185 = 0
                                      · rw [if_pos c51] at H
                                        have c51b0 : (t185 == 0) = true := beq_iff_eq.mpr c51
                                        have c51b1 : (t185 != 0) = false := bne_eq_false_iff_eq.mpr c51
                                        clear c51
                                        have H' := Aside0.mk H
                                        clear H
                                        have hcz52_0 : wr.cell? ⟨gb175, 0, none⟩ = some (.string a0_0) := (blk_cell BK175.out 0).trans rfl
                                        have hcz52_1 : wr.cell? ⟨gb175, 1, none⟩ = some (.slice A0_1 l0_1.length c0_1) := (blk_cell BK175.out 1).trans rfl
                                        have hcz52_2 : wr.cell? ⟨gb175, 2, none⟩ = some (.slice A0_2 l0_2.length c0_2) := (blk_cell BK175.out 2).trans rfl
                                        have hfz52_0 := blk_frozen BK175.out 0
                                        have hfz52_1 := blk_frozen BK175.out 1
                                        have hfz52_2 := blk_frozen BK175.out 2
                                        have p184 : 0 ≤ (x99_5 : Int) := of_decide_eq_true (by first | (with_reducible assumption) | assumption)
                                        have q184 : x99_5 < (l0_2.length : Int) := of_decide_eq_true (by first | (with_reducible assumption) | assumption)
                                        obtain ⟨ad184, A184_1, c184_1, A184_2, c184_2, e184, hx184_0, hx184_1, hx184_2, hl184_1, hi184_1, hl184_2, hi184_2⟩ := at_T27 HR0_2.out x99_5 p184 q184
                                        cases e184
                                        replace hx184_0 := (HB.out.cell (World.block_lt_of_cell? w _ hx184_0)).trans hx184_0
                                        replace hx184_1 := (HB.out.cell (World.block_lt_of_cell? w _ hx184_1)).trans hx184_1
                                        replace hx184_2 := (HB.out.cell (World.block_lt_of_cell? w _ hx184_2)).trans hx184_2
                                        have HR184_1 := Aside0.mk hi184_1
                                        have HC184_1 := Aside0.mk hl184_1
                                        clear hi184_1 hl184_1
                                        have HR184_2 := Aside0.mk hi184_2
                                        have HC184_2 := Aside0.mk hl184_2
                                        clear hi184_2 hl184_2
                                        replace p184 := eq_true p184
                                        replace q184 := eq_true q184
                                        go_wp2_with (first | (go_at_call 37; (with_reducible refine (ih k5 (by have := HJ4.out; have := HK2.out; have := HK3.out; have := HK4.out; have := HK5.out; omega) ((rd_T27 l0_2 x99_5).f0) _ _ ((rd_T27 l0_2 x99_5).f1) _ _ ((rd_T27 l0_2 x99_5).f2) (wrap64 (a1 + 1)) t185 _ ?side1 ?side2 ?side3 ?side4 A50.out).mono ?_); (case side1 => repeat (first | exact (Kd.C_below HR184_1.out HB.out) | (with_reducible refine Kd.C_alloc ?_ _) | (with_reducible refine Kd.C_drewN ?_ _) | (with_reducible refine Kd.C_drew ?_))); (case side2 => exact HC184_1.out); (case side3 => repeat (first | exact (Kd.C_below HR184_2.out HB.out) | (with_reducible refine Kd.C_alloc ?_ _) | (with_reducible refine Kd.C_drewN ?_ _) | (with_reducible refine Kd.C_drew ?_))); (case side4 => exact HC184_2.out); rintro e w53 ⟨rfl, hb⟩; have n0_ := Aside0.mk (blk_below (g := gb175) (o := .cells #[.string a0_0, .slice A0_1 l0_1.length c0_1, .slice (some ad184) l0_2.length c0_2] 27 (0, 0)) (by (with_reducible repeat (first | refine blk_drewN ?_ _ | refine blk_drew ?_ | refine blk_alloc ?_ _)); exact BK175.out) hb); have n1_ := Aside0.mk (below_step (by repeat (first | (with_reducible first | exact HB.out | apply below_alloc | apply pw_below_drewN | apply below_drew1 | refine below_set ?_ GE175.out) | exact HB.out)) hb); clear BK175; clear HB; have BK175 := n0_; have HB := n1_; clear n0_ n1_; (try clear hb); (try clear hb2); (try clear hk); (try clear hi)))
                                        repeat (go_quiet (first | (go_at_call 37; (with_reducible refine (ih k5 (by have := HJ4.out; have := HK2.out; have := HK3.out; have := HK4.out; have := HK5.out; omega) ((rd_T27 l0_2 x99_5).f0) _ _ ((rd_T27 l0_2 x99_5).f1) _ _ ((rd_T27 l0_2 x99_5).f2) (wrap64 (a1 + 1)) t185 _ ?side1 ?side2 ?side3 ?side4 A50.out).mono ?_); (case side1 => repeat (first | exact (Kd.C_below HR184_1.out HB.out) | (with_reducible refine Kd.C_alloc ?_ _) | (with_reducible refine Kd.C_drewN ?_ _) | (with_reducible refine Kd.C_drew ?_))); (case side2 => exact HC184_1.out); (case side3 => repeat (first | exact (Kd.C_below HR184_2.out HB.out) | (with_reducible refine Kd.C_alloc ?_ _) | (with_reducible refine Kd.C_drewN ?_ _) | (with_reducible refine Kd.C_drew ?_))); (case side4 => exact HC184_2.out); rintro e w53 ⟨rfl, hb⟩; have n0_ := Aside0.mk (blk_below (g := gb175) (o := .cells #[.string a0_0, .slice A0_1 l0_1.length c0_1, .slice (some ad184) l0_2.length c0_2] 27 (0, 0)) (by (with_reducible repeat (first | refine blk_drewN ?_ _ | refine blk_drew ?_ | refine blk_alloc ?_ _)); exact BK175.out) hb); have n1_ := Aside0.mk (below_step (by repeat (first | (with_reducible first | exact HB.out | apply below_alloc | apply pw_below_drewN | apply below_drew1 | refine below_set ?_ GE175.out) | exact HB.out)) hb); clear BK175; clear HB; have BK175 := n0_; have HB := n1_; clear n0_ n1_; (try clear hb); (try clear hb2); (try clear hk); (try clear hi))); try go_wp2_with (first | (go_at_call 37; (with_reducible refine (ih k5 (by have := HJ4.out; have := HK2.out; have := HK3.out; have := HK4.out; have := HK5.out; omega) ((rd_T27 l0_2 x99_5).f0) _ _ ((rd_T27 l0_2 x99_5).f1) _ _ ((rd_T27 l0_2 x99_5).f2) (wrap64 (a1 + 1)) t185 _ ?side1 ?side2 ?side3 ?side4 A50.out).mono ?_); (case side1 => repeat (first | exact (Kd.C_below HR184_1.out HB.out) | (with_reducible refine Kd.C_alloc ?_ _) | (with_reducible refine Kd.C_drewN ?_ _) | (with_reducible refine Kd.C_drew ?_))); (case side2 => exact HC184_1.out); (case side3 => repeat (first | exact (Kd.C_below HR184_2.out HB.out) | (with_reducible refine Kd.C_alloc ?_ _) | (with_reducible refine Kd.C_drewN ?_ _) | (with_reducible refine Kd.C_drew ?_))); (case side4 => exact HC184_2.out); rintro e w53 ⟨rfl, hb⟩; have n0_ := Aside0.mk (blk_below (g := gb175) (o := .cells #[.string a0_0, .slice A0_1 l0_1.length c0_1, .slice (some ad184) l0_2.length c0_2] 27 (0, 0)) (by (with_reducible repeat (first | refine blk_drewN ?_ _ | refine blk_drew ?_ | refine blk_alloc ?_ _)); exact BK175.out) hb); have n1_ := Aside0.mk (below_step (by repeat (first | (with_reducible first | exact HB.out | apply below_alloc | apply pw_below_drewN | apply below_drew1 | refine below_set ?_ GE175.out) | exact HB.out)) hb); clear BK175; clear HB; have BK175 := n0_; have HB := n1_; clear n0_ n1_; (try clear hb); (try clear hb2); (try clear hk); (try clear hi))))
                                        go_roundg k5
                                        case measure => have := HJ4.out; have := HK2.out; have := HK3.out; have := HK4.out; have := HK5.out; omega
                                        case rel => exact ⟨(wrap64 (x99_5 + 1)), (by first | rfl | (simp; done) | (simp [*]; done)), H', ⟨by have := HJ4.out; have := HK2.out; have := HK3.out; have := HK4.out; have := HK5.out; omega⟩, ⟨by (with_reducible repeat (first | refine blk_drewN ?_ _ | refine blk_drew ?_ | refine blk_alloc ?_ _)); exact BK175.out⟩, ⟨by repeat (first | (with_reducible first | exact HB.out | apply below_alloc | apply pw_below_drewN | apply below_drew1 | refine below_set ?_ GE175.out) | exact HB.out)⟩⟩
                                      · rw [if_neg c51] at H
                                        have c51b0 : (t185 == 0) = false := beq_eq_false_iff_ne.mpr c51
                                        have c51b1 : (t185 != 0) = true := bne_iff_ne.mpr c51
                                        obtain rfl := Option.some.inj H
                                        have hcz54_0 : wr.cell? ⟨gb175, 0, none⟩ = some (.string a0_0) := (blk_cell BK175.out 0).trans rfl
                                        have hcz54_1 : wr.cell? ⟨gb175, 1, none⟩ = some (.slice A0_1 l0_1.length c0_1) := (blk_cell BK175.out 1).trans rfl
                                        have hcz54_2 : wr.cell? ⟨gb175, 2, none⟩ = some (.slice A0_2 l0_2.length c0_2) := (blk_cell BK175.out 2).trans rfl
                                        have hfz54_0 := blk_frozen BK175.out 0
                                        have hfz54_1 := blk_frozen BK175.out 1
                                        have hfz54_2 := blk_frozen BK175.out 2
                                        have p184 : 0 ≤ (x99_5 : Int) := of_decide_eq_true (by first | (with_reducible assumption) | assumption)
                                        have q184 : x99_5 < (l0_2.length : Int) := of_decide_eq_true (by first | (with_reducible assumption) | assumption)
                                        obtain ⟨ad184, A184_1, c184_1, A184_2, c184_2, e184, hx184_0, hx184_1, hx184_2, hl184_1, hi184_1, hl184_2, hi184_2⟩ := at_T27 HR0_2.out x99_5 p184 q184
                                        cases e184
                                        replace hx184_0 := (HB.out.cell (World.block_lt_of_cell? w _ hx184_0)).trans hx184_0
                                        replace hx184_1 := (HB.out.cell (World.block_lt_of_cell? w _ hx184_1)).trans hx184_1
                                        replace hx184_2 := (HB.out.cell (World.block_lt_of_cell? w _ hx184_2)).trans hx184_2
                                        have HR184_1 := Aside0.mk hi184_1
                                        have HC184_1 := Aside0.mk hl184_1
                                        clear hi184_1 hl184_1
                                        have HR184_2 := Aside0.mk hi184_2
                                        have HC184_2 := Aside0.mk hl184_2
                                        clear hi184_2 hl184_2
                                        replace p184 := eq_true p184
                                        replace q184 := eq_true q184
                                        go_wp2_with (first | (go_at_call 37; (with_reducible refine (ih k5 (by have := HJ4.out; have := HK2.out; have := HK3.out; have := HK4.out; have := HK5.out; omega) ((rd_T27 l0_2 x99_5).f0) _ _ ((rd_T27 l0_2 x99_5).f1) _ _ ((rd_T27 l0_2 x99_5).f2) (wrap64 (a1 + 1)) t185 _ ?side1 ?side2 ?side3 ?side4 A50.out).mono ?_); (case side1 => repeat (first | exact (Kd.C_below HR184_1.out HB.out) | (with_reducible refine Kd.C_alloc ?_ _) | (with_reducible refine Kd.C_drewN ?_ _) | (with_reducible refine Kd.C_drew ?_))); (case side2 => exact HC184_1.out); (case side3 => repeat (first | exact (Kd.C_below HR184_2.out HB.out) | (with_reducible refine Kd.C_alloc ?_ _) | (with_reducible refine Kd.C_drewN ?_ _) | (with_reducible refine Kd.C_drew ?_))); (case side4 => exact HC184_2.out); rintro e w55 ⟨rfl, hb⟩; have n0_ := Aside0.mk (blk_below (g := gb175) (o := .cells #[.string a0_0, .slice A0_1 l0_1.length c0_1, .slice (some ad184) l0_2.length c0_2] 27 (0, 0)) (by (with_reducible repeat (first | refine blk_drewN ?_ _ | refine blk_drew ?_ | refine blk_alloc ?_ _)); exact BK175.out) hb); have n1_ := Aside0.mk (below_step (by repeat (first | (with_reducible first | exact HB.out | apply below_alloc | apply pw_below_drewN | apply below_drew1 | refine below_set ?_ GE175.out) | exact HB.out)) hb); clear BK175; clear HB; have BK175 := n0_; have HB := n1_; clear n0_ n1_; (try clear hb); (try clear hb2); (try clear hk); (try clear hi)))
                                        repeat (go_quiet (first | (go_at_call 37; (with_reducible refine (ih k5 (by have := HJ4.out; have := HK2.out; have := HK3.out; have := HK4.out; have := HK5.out; omega) ((rd_T27 l0_2 x99_5).f0) _ _ ((rd_T27 l0_2 x99_5).f1) _ _ ((rd_T27 l0_2 x99_5).f2) (wrap64 (a1 + 1)) t185 _ ?side1 ?side2 ?side3 ?side4 A50.out).mono ?_); (case side1 => repeat (first | exact (Kd.C_below HR184_1.out HB.out) | (with_reducible refine Kd.C_alloc ?_ _) | (with_reducible refine Kd.C_drewN ?_ _) | (with_reducible refine Kd.C_drew ?_))); (case side2 => exact HC184_1.out); (case side3 => repeat (first | exact (Kd.C_below HR184_2.out HB.out) | (with_reducible refine Kd.C_alloc ?_ _) | (with_reducible refine Kd.C_drewN ?_ _) | (with_reducible refine Kd.C_drew ?_))); (case side4 => exact HC184_2.out); rintro e w55 ⟨rfl, hb⟩; have n0_ := Aside0.mk (blk_below (g := gb175) (o := .cells #[.string a0_0, .slice A0_1 l0_1.length c0_1, .slice (some ad184) l0_2.length c0_2] 27 (0, 0)) (by (with_reducible repeat (first | refine blk_drewN ?_ _ | refine blk_drew ?_ | refine blk_alloc ?_ _)); exact BK175.out) hb); have n1_ := Aside0.mk (below_step (by repeat (first | (with_reducible first | exact HB.out | apply below_alloc | apply pw_below_drewN | apply below_drew1 | refine below_set ?_ GE175.out) | exact HB.out)) hb); clear BK175; clear HB; have BK175 := n0_; have HB := n1_; clear n0_ n1_; (try clear hb); (try clear hb2); (try clear hk); (try clear hi))); try go_wp2_with (first | (go_at_call 37; (with_reducible refine (ih k5 (by have := HJ4.out; have := HK2.out; have := HK3.out; have := HK4.out; have := HK5.out; omega) ((rd_T27 l0_2 x99_5).f0) _ _ ((rd_T27 l0_2 x99_5).f1) _ _ ((rd_T27 l0_2 x99_5).f2) (wrap64 (a1 + 1)) t185 _ ?side1 ?side2 ?side3 ?side4 A50.out).mono ?_); (case side1 => repeat (first | exact (Kd.C_below HR184_1.out HB.out) | (with_reducible refine Kd.C_alloc ?_ _) | (with_reducible refine Kd.C_drewN ?_ _) | (with_reducible refine Kd.C_drew ?_))); (case side2 => exact HC184_1.out); (case side3 => repeat (first | exact (Kd.C_below HR184_2.out HB.out) | (with_reducible refine Kd.C_alloc ?_ _) | (with_reducible refine Kd.C_drewN ?_ _) | (with_reducible refine Kd.C_drew ?_))); (case side4 => exact HC184_2.out); rintro e w55 ⟨rfl, hb⟩; have n0_ := Aside0.mk (blk_below (g := gb175) (o := .cells #[.string a0_0, .slice A0_1 l0_1.length c0_1, .slice (some ad184) l0_2.length c0_2] 27 (0, 0)) (by (with_reducible repeat (first | refine blk_drewN ?_ _ | refine blk_drew ?_ | refine blk_alloc ?_ _)); exact BK175.out) hb); have n1_ := Aside0.mk (below_step (by repeat (first | (with_reducible first | exact HB.out | apply below_alloc | apply pw_below_drewN | apply below_drew1 | refine below_set ?_ GE175.out) | exact HB.out)) hb); clear BK175; clear HB; have BK175 := n0_; have HB := n1_; clear n0_ n1_; (try clear hb); (try clear hb2); (try clear hk); (try clear hi))))
                                        go_ret
                                        exact ⟨by first | rfl | (simp [errW_none, errW_some] <;> rfl) | (simp [*, errW_none, errW_some] <;> rfl), by repeat (first | (with_reducible first | exact HB.out | apply below_alloc | apply pw_below_drewN | apply below_drew1 | refine below_set ?_ GE175.out) | exact HB.out)⟩
                                    · rw [if_neg c49] at H
                                      exact absurd H (by simp)
                                  · rw [if_neg c48] at H
                                    exact absurd H (by simp)
                                · rw [if_neg c47] at H
                                  have c47b0 : decide (x99_5 < (l0_2.length : Int)) = false := decide_eq_false c47
                                  clear c47
                                  obtain rfl := Option.some.inj H
                                  go_wp2
                                  repeat (go_quiet (fail); try go_wp2)
                                  go_ret
                                  exact ⟨by first | rfl | (simp [errW_none, errW_some] <;> rfl) | (simp [*, errW_none, errW_some] <;> rfl), by repeat (first | (with_reducible first | exact HB.out | apply below_alloc | apply pw_below_drewN | apply below_drew1 | refine below_set ?_ GE175.out) | exact HB.out)⟩
end Go.Proofs.Ytkopmkinlanhoaa.PE

namespace Go.Proofs.Ytkopmkinlanhoaa.PE
open Go.RowKit Go.Proofs.YtkopmkinlanhoaaW.PrintWords Go.Proofs.YtkopmkinlanhoaaW.PrintLast Go.Proofs.YtkopmkinlanhoaaW.PrintMore
attribute [local go_sem] max2_int min2_int max_two min_two max_three min_three max_four min_four   -- for this text's walks alone
set_option linter.unusedVariables false
set_option linter.unusedSimpArgs false
mutual
def arboretref01_Count.l0 : Nat → Int → Int → Int → Int → ByteArray → List (S63) → List (S27) → Option (Int × Int)
  | 0, _, _, _, _, _, _, _ => none
  | k + 1, x4, x5, x14, x15, x187000, x187001, x187002 => if x15 < x14 then (if 0 ≤ x15 then (if x15 < (x187002.length : Int) then ((arboretref01_Count.f k ((rd_T27 x187002 x15).f0) ((rd_T27 x187002 x15).f1) ((rd_T27 x187002 x15).f2)).bind fun bt188 => (arboretref01_Count.l0 k (wrap64 (x4 + bt188.1)) (wrap64 (x5 + bt188.2)) x14 (wrap64 (x15 + 1)) x187000 x187001 x187002)) else (none)) else (none)) else (some (x4, x5))
def arboretref01_Count.f : Nat → ByteArray → List (S63) → List (S27) → Option (Int × Int)
  | 0, _, _, _ => none
  | k + 1, a0_0, l0_1, l0_2 => arboretref01_Count.l0 k 1 (l0_1.length : Int) (l0_2.length : Int) 0 a0_0 l0_1 l0_2
end
theorem arboretref01_Count.mono_l : ∀ k, (∀ y0 y1 y2, LeO (arboretref01_Count.f k y0 y1 y2) (arboretref01_Count.f (k + 1) y0 y1 y2)) ∧ (∀ y0 y1 y2 y3 y4 y5 y6, LeO (arboretref01_Count.l0 k y0 y1 y2 y3 y4 y5 y6) (arboretref01_Count.l0 (k + 1) y0 y1 y2 y3 y4 y5 y6))
  | 0 => ⟨fun _ _ _ r h => by simp [arboretref01_Count.f] at h, fun _ _ _ _ _ _ _ r h => by simp [arboretref01_Count.l0] at h⟩
  | k + 1 => by
    obtain ⟨ih0, ih1⟩ := arboretref01_Count.mono_l k
    refine ⟨?_, ?_⟩
    · intro y0 y1 y2
      unfold arboretref01_Count.f
      repeat' first
      | (with_reducible exact ih0 _ _ _)
      | (with_reducible exact ih1 _ _ _ _ _ _ _)
      | (with_reducible exact LeO.refl _)
      | (with_reducible exact LeO.none _)
      | (with_reducible refine LeO.ite ?_ ?_)
      | (with_reducible refine LeO.bind ?_ (fun _ => ?_))
      | exact ih0 _ _ _
      | exact ih1 _ _ _ _ _ _ _
      | exact LeO.none _
      | refine LeO.ite ?_ ?_
      | refine LeO.bind ?_ (fun _ => ?_)
    · intro y0 y1 y2 y3 y4 y5 y6
      unfold arboretref01_Count.l0
      repeat' first
      | (with_reducible exact ih0 _ _ _)
      | (with_reducible exact ih1 _ _ _ _ _ _ _)
      | (with_reducible exact LeO.refl _)
      | (with_reducible exact LeO.none _)
      | (with_reducible refine LeO.ite ?_ ?_)
      | (with_reducible refine LeO.bind ?_ (fun _ => ?_))
      | exact ih0 _ _ _
      | exact ih1 _ _ _ _ _ _ _
      | exact LeO.none _
      | refine LeO.ite ?_ ?_
      | refine LeO.bind ?_ (fun _ => ?_)
theorem arboretref01_Count.mono : ∀ a0 a1 a2 k, LeO (arboretref01_Count.f k a0 a1 a2) (arboretref01_Count.f (k + 1) a0 a1 a2) := by
  intro a0 a1 a2 k
  obtain ⟨ih0, ih1⟩ := arboretref01_Count.mono_l k
  exact ih0 a0 a1 a2
set_option maxHeartbeats 8000000 in
set_option maxRecDepth 100000 in
theorem arboretref01_Count.calls (k : Nat) : ∀ (a0_0 : ByteArray) (A0_1 : Option Addr) (c0_1 : Nat) (l0_1 : List (S63)) (A0_2 : Option Addr) (c0_2 : Nat) (l0_2 : List (S27)) (r1 : Int) (r2 : Int) (w : World) (hr0_1 : Kd.C k63 w A0_1 l0_1.length l0_1) (hc0_1 : l0_1.length ≤ c0_1) (hr0_2 : Kd.C k27 w A0_2 l0_2.length l0_2) (hc0_2 : l0_2.length ≤ c0_2) (h : arboretref01_Count.f k a0_0 l0_1 l0_2 = some (r1, r2)),
    Calls Try.prog 38 #[.agg #[.string a0_0, .slice A0_1 l0_1.length c0_1, .slice A0_2 l0_2.length c0_2]] w fun e w' => e = .returned (.tuple #[.int .i64 r1, .int .i64 r2]) ∧ Below w.heap.size w w' := by
  induction k using Nat.strongRecOn with
  | _ k ih =>
  intro a0_0 A0_1 c0_1 l0_1 A0_2 c0_2 l0_2 r1 r2 w hr0_1 hc0_1 hr0_2 hc0_2 h
  cases k with
  | zero => exact absurd h (by simp [arboretref01_Count.f])
  | succ k =>
  simp only [arboretref01_Count.f] at h
  have hu27 := Try.underlying27
  have HR0_1 := Aside0.mk hr0_1
  have HC0_1 := Aside0.mk hc0_1
  clear hr0_1 hc0_1
  have HR0_2 := Aside0.mk hr0_2
  have HC0_2 := Aside0.mk hc0_2
  clear hr0_2 hc0_2
  have HB := Aside0.mk (Below.refl w.heap.size w)
  have H : (arboretref01_Count.l0 k 1 (l0_1.length : Int) (l0_2.length : Int) 0 a0_0 l0_1 l0_2) = some (r1, r2) := h
  clear h
  have H' := Aside0.mk H
  clear H
  go_enter Try.func38, Try.ntmps38
  go_wp2_with (first | ((with_reducible refine gate_dst (N := 1) rfl ?_); refine box_event ?hg (N := 1) ?hd (cs := #[.string a0_0, .slice A0_1 l0_1.length c0_1, .slice A0_2 l0_2.length c0_2]) (t := 27) ?hr ?_; (case hd => rfl); (case hg => rfl); (case hr => first | (go_simp; done) | (go_simp; rfl)); intro gb186 hg w2 hbox hb; have n0_ := Aside0.mk (below_step (by repeat (first | (with_reducible first | exact HB.out | apply below_alloc | apply pw_below_drewN | apply below_drew1) | exact HB.out)) hb); have n1_ := Aside0.mk (hbox); have n2_ := Aside0.mk ((by rw [hg]; exact (below_size (by repeat (first | (with_reducible first | exact HB.out | apply below_alloc | apply pw_below_drewN | apply below_drew1) | exact HB.out))) : w.heap.size ≤ gb186)); have n3_ := Aside0.mk ((by rw [hg]; exact (below_size (by repeat (first | (with_reducible first | exact HB.out | apply below_alloc | apply pw_below_drewN | apply below_drew1) | exact HB.out))) : w.heap.size ≤ gb186)); clear HB; have HB := n0_; have BK186 := n1_; have GW186 := n2_; have GE186 := n3_; clear n0_ n1_ n2_ n3_; clear hb hbox hg; have hcz3_0 : w2.cell? ⟨gb186, 0, none⟩ = some (.string a0_0) := (blk_cell BK186.out 0).trans rfl; have hcz3_1 : w2.cell? ⟨gb186, 1, none⟩ = some (.slice A0_1 l0_1.length c0_1) := (blk_cell BK186.out 1).trans rfl; have hcz3_2 : w2.cell? ⟨gb186, 2, none⟩ = some (.slice A0_2 l0_2.length c0_2) := (blk_cell BK186.out 2).trans rfl; have hfz3_0 := blk_frozen BK186.out 0; have hfz3_1 := blk_frozen BK186.out 1; have hfz3_2 := blk_frozen BK186.out 2))
  repeat (go_quiet (first | ((with_reducible refine gate_dst (N := 1) rfl ?_); refine box_event ?hg (N := 1) ?hd (cs := #[.string a0_0, .slice A0_1 l0_1.length c0_1, .slice A0_2 l0_2.length c0_2]) (t := 27) ?hr ?_; (case hd => rfl); (case hg => rfl); (case hr => first | (go_simp; done) | (go_simp; rfl)); intro gb186 hg w2 hbox hb; have n0_ := Aside0.mk (below_step (by repeat (first | (with_reducible first | exact HB.out | apply below_alloc | apply pw_below_drewN | apply below_drew1) | exact HB.out)) hb); have n1_ := Aside0.mk (hbox); have n2_ := Aside0.mk ((by rw [hg]; exact (below_size (by repeat (first | (with_reducible first | exact HB.out | apply below_alloc | apply pw_below_drewN | apply below_drew1) | exact HB.out))) : w.heap.size ≤ gb186)); have n3_ := Aside0.mk ((by rw [hg]; exact (below_size (by repeat (first | (with_reducible first | exact HB.out | apply below_alloc | apply pw_below_drewN | apply below_drew1) | exact HB.out))) : w.heap.size ≤ gb186)); clear HB; have HB := n0_; have BK186 := n1_; have GW186 := n2_; have GE186 := n3_; clear n0_ n1_ n2_ n3_; clear hb hbox hg; have hcz3_0 : w2.cell? ⟨gb186, 0, none⟩ = some (.string a0_0) := (blk_cell BK186.out 0).trans rfl; have hcz3_1 : w2.cell? ⟨gb186, 1, none⟩ = some (.slice A0_1 l0_1.length c0_1) := (blk_cell BK186.out 1).trans rfl; have hcz3_2 : w2.cell? ⟨gb186, 2, none⟩ = some (.slice A0_2 l0_2.length c0_2) := (blk_cell BK186.out 2).trans rfl; have hfz3_0 := blk_frozen BK186.out 0; have hfz3_1 := blk_frozen BK186.out 1; have hfz3_2 := blk_frozen BK186.out 2)); try go_wp2_with (first | ((with_reducible refine gate_dst (N := 1) rfl ?_); refine box_event ?hg (N := 1) ?hd (cs := #[.string a0_0, .slice A0_1 l0_1.length c0_1, .slice A0_2 l0_2.length c0_2]) (t := 27) ?hr ?_; (case hd => rfl); (case hg => rfl); (case hr => first | (go_simp; done) | (go_simp; rfl)); intro gb186 hg w2 hbox hb; have n0_ := Aside0.mk (below_step (by repeat (first | (with_reducible first | exact HB.out | apply below_alloc | apply pw_below_drewN | apply below_drew1) | exact HB.out)) hb); have n1_ := Aside0.mk (hbox); have n2_ := Aside0.mk ((by rw [hg]; exact (below_size (by repeat (first | (with_reducible first | exact HB.out | apply below_alloc | apply pw_below_drewN | apply below_drew1) | exact HB.out))) : w.heap.size ≤ gb186)); have n3_ := Aside0.mk ((by rw [hg]; exact (below_size (by repeat (first | (with_reducible first | exact HB.out | apply below_alloc | apply pw_below_drewN | apply below_drew1) | exact HB.out))) : w.heap.size ≤ gb186)); clear HB; have HB := n0_; have BK186 := n1_; have GW186 := n2_; have GE186 := n3_; clear n0_ n1_ n2_ n3_; clear hb hbox hg; have hcz3_0 : w2.cell? ⟨gb186, 0, none⟩ = some (.string a0_0) := (blk_cell BK186.out 0).trans rfl; have hcz3_1 : w2.cell? ⟨gb186, 1, none⟩ = some (.slice A0_1 l0_1.length c0_1) := (blk_cell BK186.out 1).trans rfl; have hcz3_2 : w2.cell? ⟨gb186, 2, none⟩ = some (.slice A0_2 l0_2.length c0_2) := (blk_cell BK186.out 2).trans rfl; have hfz3_0 := blk_frozen BK186.out 0; have hfz3_1 := blk_frozen BK186.out 1; have hfz3_2 := blk_frozen BK186.out 2)))
  go_loopg [4, 5, 15] k (fun kq v4 v5 v15 w' => ∃ (x4_1 : Int) (x5_1 : Int) (x15_1 : Int), v4 = .int .i64 x4_1 ∧ v5 = .int .i64 x5_1 ∧ v15 = .int .i64 x15_1 ∧ Aside0 (arboretref01_Count.l0 kq x4_1 x5_1 (l0_2.length : Int) x15_1 a0_0 l0_1 l0_2 = some (r1, r2)) ∧ Aside0 (kq ≤ k) ∧ Aside0 (w'.heap[gb186]? = some (.cells #[.string a0_0, (.slice A0_1 l0_1.length c0_1), (.slice A0_2 l0_2.length c0_2)] 27 (0, 0))) ∧ Aside0 (Below w.heap.size w w'))
  case atStart => exact ⟨(1), ((l0_1.length : Int)), (0), (by first | rfl | (simp; done) | (simp [*]; done)), (by first | rfl | (simp; done) | (simp [*]; done)), (by first | rfl | (simp; done) | (simp [*]; done)), H', ⟨Nat.le_refl _⟩, ⟨by (with_reducible repeat (first | refine blk_drewN ?_ _ | refine blk_drew ?_ | refine blk_alloc ?_ _)); exact BK186.out⟩, ⟨by repeat (first | (with_reducible first | exact HB.out | apply below_alloc | apply pw_below_drewN | apply below_drew1 | refine below_set ?_ GE186.out) | exact HB.out)⟩⟩
  case round =>
    clear H'
    try clear p2
    try clear c3
    try clear hcz3_0
    try clear hcz3_1
    try clear hcz3_2
    try clear hfz3_0
    try clear hfz3_1
    try clear hfz3_2
    obtain ⟨x4_1, x5_1, x15_1, rfl, rfl, rfl, HA, HK1, BK186, HB⟩ := hrel
    cases gk with
    | zero => exact absurd HA.out (by simp [arboretref01_Count.l0])
    | succ k1 =>
      have H := HA.out
      clear HA
      simp only [arboretref01_Count.l0] at H
      by_cases c4 : x15_1 < (l0_2.length : Int)
      · rw [if_pos c4] at H
        have c4b0 : decide (x15_1 < (l0_2.length : Int)) = true := decide_eq_true c4
        clear c4
        by_cases c5 : 0 ≤ x15_1
        · rw [if_pos c5] at H
          have c5b0 : decide (0 ≤ x15_1) = true := decide_eq_true c5
          clear c5
          by_cases c6 : x15_1 < (l0_2.length : Int)
          · rw [if_pos c6] at H
            have c6b0 : decide (x15_1 < (l0_2.length : Int)) = true := decide_eq_true c6
            clear c6
            replace H := Option.bind_eq_some_iff.mp H
            obtain ⟨⟨t188, t189⟩, A70, H⟩ := H
            replace H : (arboretref01_Count.l0 k1 (wrap64 (x4_1 + t188)) (wrap64 (x5_1 + t189)) (l0_2.length : Int) (wrap64 (x15_1 + 1)) a0_0 l0_1 l0_2) = some (r1, r2) := H
            have A7 := Aside0.mk A70
            clear A70
            have H' := Aside0.mk H
            clear H
            have hcz8_0 : wr.cell? ⟨gb186, 0, none⟩ = some (.string a0_0) := (blk_cell BK186.out 0).trans rfl
            have hcz8_1 : wr.cell? ⟨gb186, 1, none⟩ = some (.slice A0_1 l0_1.length c0_1) := (blk_cell BK186.out 1).trans rfl
            have hcz8_2 : wr.cell? ⟨gb186, 2, none⟩ = some (.slice A0_2 l0_2.length c0_2) := (blk_cell BK186.out 2).trans rfl
            have hfz8_0 := blk_frozen BK186.out 0
            have hfz8_1 := blk_frozen BK186.out 1
            have hfz8_2 := blk_frozen BK186.out 2
            have p187 : 0 ≤ (x15_1 : Int) := of_decide_eq_true (by first | (with_reducible assumption) | assumption)
            have q187 : x15_1 < (l0_2.length : Int) := of_decide_eq_true (by first | (with_reducible assumption) | assumption)
            obtain ⟨ad187, A187_1, c187_1, A187_2, c187_2, e187, hx187_0, hx187_1, hx187_2, hl187_1, hi187_1, hl187_2, hi187_2⟩ := at_T27 HR0_2.out x15_1 p187 q187
            cases e187
            replace hx187_0 := (HB.out.cell (World.block_lt_of_cell? w _ hx187_0)).trans hx187_0
            replace hx187_1 := (HB.out.cell (World.block_lt_of_cell? w _ hx187_1)).trans hx187_1
            replace hx187_2 := (HB.out.cell (World.block_lt_of_cell? w _ hx187_2)).trans hx187_2
            have HR187_1 := Aside0.mk hi187_1
            have HC187_1 := Aside0.mk hl187_1
            clear hi187_1 hl187_1
            have HR187_2 := Aside0.mk hi187_2
            have HC187_2 := Aside0.mk hl187_2
            clear hi187_2 hl187_2
            replace p187 := eq_true p187
            replace q187 := eq_true q187
            go_wp2_with (first | (go_at_call 38; (with_reducible refine (ih k1 (by have := HK1.out; omega) ((rd_T27 l0_2 x15_1).f0) _ _ ((rd_T27 l0_2 x15_1).f1) _ _ ((rd_T27 l0_2 x15_1).f2) t188 t189 _ ?side1 ?side2 ?side3 ?side4 A7.out).mono ?_); (case side1 => repeat (first | exact (Kd.C_below HR187_1.out HB.out) | (with_reducible refine Kd.C_alloc ?_ _) | (with_reducible refine Kd.C_drewN ?_ _) | (with_reducible refine Kd.C_drew ?_))); (case side2 => exact HC187_1.out); (case side3 => repeat (first | exact (Kd.C_below HR187_2.out HB.out) | (with_reducible refine Kd.C_alloc ?_ _) | (with_reducible refine Kd.C_drewN ?_ _) | (with_reducible refine Kd.C_drew ?_))); (case side4 => exact HC187_2.out); rintro e w9 ⟨rfl, hb⟩; have n0_ := Aside0.mk (blk_below (g := gb186) (o := .cells #[.string a0_0, .slice A0_1 l0_1.length c0_1, .slice (some ad187) l0_2.length c0_2] 27 (0, 0)) (by (with_reducible repeat (first | refine blk_drewN ?_ _ | refine blk_drew ?_ | refine blk_alloc ?_ _)); exact BK186.out) hb); have n1_ := Aside0.mk (below_step (by repeat (first | (with_reducible first | exact HB.out | apply below_alloc | apply pw_below_drewN | apply below_drew1 | refine below_set ?_ GE186.out) | exact HB.out)) hb); clear BK186; clear HB; have BK186 := n0_; have HB := n1_; clear n0_ n1_; (try clear hb); (try clear hb2); (try clear hk); (try clear hi)))
            repeat (go_quiet (first | (go_at_call 38; (with_reducible refine (ih k1 (by have := HK1.out; omega) ((rd_T27 l0_2 x15_1).f0) _ _ ((rd_T27 l0_2 x15_1).f1) _ _ ((rd_T27 l0_2 x15_1).f2) t188 t189 _ ?side1 ?side2 ?side3 ?side4 A7.out).mono ?_); (case side1 => repeat (first | exact (Kd.C_below HR187_1.out HB.out) | (with_reducible refine Kd.C_alloc ?_ _) | (with_reducible refine Kd.C_drewN ?_ _) | (with_reducible refine Kd.C_drew ?_))); (case side2 => exact HC187_1.out); (case side3 => repeat (first | exact (Kd.C_below HR187_2.out HB.out) | (with_reducible refine Kd.C_alloc ?_ _) | (with_reducible refine Kd.C_drewN ?_ _) | (with_reducible refine Kd.C_drew ?_))); (case side4 => exact HC187_2.out); rintro e w9 ⟨rfl, hb⟩; have n0_ := Aside0.mk (blk_below (g := gb186) (o := .cells #[.string a0_0, .slice A0_1 l0_1.length c0_1, .slice (some ad187) l0_2.length c0_2] 27 (0, 0)) (by (with_reducible repeat (first | refine blk_drewN ?_ _ | refine blk_drew ?_ | refine blk_alloc ?_ _)); exact BK186.out) hb); have n1_ := Aside0.mk (below_step (by repeat (first | (with_reducible first | exact HB.out | apply below_alloc | apply pw_below_drewN | apply below_drew1 | refine below_set ?_ GE186.out) | exact HB.out)) hb); clear BK186; clear HB; have BK186 := n0_; have HB := n1_; clear n0_ n1_; (try clear hb); (try clear hb2); (try clear hk); (try clear hi))); try go_wp2_with (first | (go_at_call 38; (with_reducible refine (ih k1 (by have := HK1.out; omega) ((rd_T27 l0_2 x15_1).f0) _ _ ((rd_T27 l0_2 x15_1).f1) _ _ ((rd_T27 l0_2 x15_1).f2) t188 t189 _ ?side1 ?side2 ?side3 ?side4 A7.out).mono ?_); (case side1 => repeat (first | exact (Kd.C_below HR187_1.out HB.out) | (with_reducible refine Kd.C_alloc ?_ _) | (with_reducible refine Kd.C_drewN ?_ _) | (with_reducible refine Kd.C_drew ?_))); (case side2 => exact HC187_1.out); (case side3 => repeat (first | exact (Kd.C_below HR187_2.out HB.out) | (with_reducible refine Kd.C_alloc ?_ _) | (with_reducible refine Kd.C_drewN ?_ _) | (with_reducible refine Kd.C_drew ?_))); (case side4 => exact HC187_2.out); rintro e w9 ⟨rfl, hb⟩; have n0_ := Aside0.mk (blk_below (g := gb186) (o := .cells #[.string a0_0, .slice A0_1 l0_1.length c0_1, .slice (some ad187) l0_2.length c0_2] 27 (0, 0)) (by (with_reducible repeat (first | refine blk_drewN ?_ _ | refine blk_drew ?_ | refine blk_alloc ?_ _)); exact BK186.out) hb); have n1_ := Aside0.mk (below_step (by repeat (first | (with_reducible first | exact HB.out | apply below_alloc | apply pw_below_drewN | apply below_drew1 | refine below_set ?_ GE186.out) | exact HB.out)) hb); clear BK186; clear HB; have BK186 := n0_; have HB := n1_; clear n0_ n1_; (try clear hb); (try clear hb2); (try clear hk); (try clear hi))))
            go_roundg k1
            case measure => have := HK1.out; omega
            case rel => exact ⟨(wrap64 (x4_1 + t188)), (wrap64 (x5_1 + t189)), (wrap64 (x15_1 + 1)), (by first | rfl | (simp; done) | (simp [*]; done)), (by first | rfl | (simp; done) | (simp [*]; done)), (by first | rfl | (simp; done) | (simp [*]; done)), H', ⟨by have := HK1.out; omega⟩, ⟨by (with_reducible repeat (first | refine blk_drewN ?_ _ | refine blk_drew ?_ | refine blk_alloc ?_ _)); exact BK186.out⟩, ⟨by repeat (first | (with_reducible first | exact HB.out | apply below_alloc | apply pw_below_drewN | apply below_drew1 | refine below_set ?_ GE186.out) | exact HB.out)⟩⟩
          · rw [if_neg c6] at H
            exact absurd H (by simp)
        · rw [if_neg c5] at H
          exact absurd H (by simp)
      · rw [if_neg c4] at H
        have c4b0 : decide (x15_1 < (l0_2.length : Int)) = false := decide_eq_false c4
        clear c4
        simp only [Option.some.injEq, Prod.mk.injEq] at H
        obtain ⟨rfl, rfl⟩ := H
        go_wp2
        repeat (go_quiet (fail); try go_wp2)
        go_ret2
        exact ⟨by first | rfl | (simp [errW_none, errW_some] <;> rfl) | (simp [*, errW_none, errW_some] <;> rfl), by repeat (first | (with_reducible first | exact HB.out | apply below_alloc | apply pw_below_drewN | apply below_drew1 | refine below_set ?_ GE186.out) | exact HB.out)⟩
end Go.Proofs.Ytkopmkinlanhoaa.PE
