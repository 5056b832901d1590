/- DecodeHeaders: texts of this session's, and what the kit's print laid for this seat, as far as the law's row uses them (Rdr, Shelf, PDx0, PDx_words_part, PDx_words_number, PDx_words_Get, PDx_decode_within, PDx_arboretref01_Bytes, PDx_arboretlaw04_inside, DecHeaders, LawDecodeHeaders). -/
import Derived.Test.YtkopmkinlanhoaaRows
import Derived.ChangeArms
import Derived.DataReads
import Derived.Deep.Slices
import Derived.Shelf.Small.Strs
import Derived.Shelf.Strings.Search1
import Derived.Shelf.Strings.Search2
import Derived.Shelf.Strings.Cut
import Derived.Shelf.LaysM
import Derived.Shelf.Strings.Shaped
import Derived.Test.YtkopmkinlanhoaaProg
import Derived.WalkSpells
import Derived.Sort.OwnSorted
import Derived.Maps.Own
import Derived.Maps.OwnSet
import Derived.Maps.Views
import Derived.Lib.EndianBits
import Derived.ProofKit
import Derived.OpenShut
import Derived.ShutString
import Derived.ChangeOld
import Derived.JoinedCond
import Derived.Deep.CondSized
import Derived.Test.YtkopmkinlanhoaaZDecodeHeaders0
set_option linter.unusedVariables false
set_option linter.unusedSimpArgs false
set_option linter.unusedVariables false
namespace Go.Proofs.Ytkopmkinlanhoaa.Rdr
open Go.RowKit Go.Proofs.YtkopmkinlanhoaaW.PrintWords Go.ChangeShapes Go.WideShapes
def RdF (P : Program) (W : World) (n : Nat) {α : Type} (d : Kd α) (t : TypeId) (B : α → Nat) (G : α → Prop) : Prop :=
  ∀ (H : Type) (enc : TypeId × Value → H) (fuel : Nat), fuel ≤ n → ∀ (cs : List Value) (x : DataW H × List MemPlace),
    DataW.trod enc P W 0 (fun _ => true) true fuel t cs = some x → ∃ a, d.K W a cs ∧ B a ≤ Rows.uptoBulk x.1 ∧ G a
section
variable {P : Program} {W : World} {n : Nat}
def wfI (k : IntKind) (x : Int) : Prop := (Lit.int k x).wf = true
theorem rd_int {t : TypeId} {k : IntKind} (ht : P.underlying t = some (.int k)) : RdF P W n (Kd.int k) t (fun _ => 1) (wfI k) := by
  intro H enc fuel hf cs x h
  cases fuel with
  | zero => simp [DataW.trod] at h
  | succ m =>
    unfold DataW.trod at h
    rw [ht] at h
    split at h <;> simp_all
    rename_i k' y z
    obtain ⟨⟨rfl, hw⟩, rfl⟩ := h
    exact ⟨y, rfl, by simp [Rows.uptoBulk], hw⟩
end
theorem len_10 {α : Type} {l : List α} (h : l.length = 10) : ∃ a0 a1 a2 a3 a4 a5 a6 a7 a8 a9, l = [a0, a1, a2, a3, a4, a5, a6, a7, a8, a9] := by
  match l, h with
  | [b0, b1, b2, b3, b4, b5, b6, b7, b8, b9], _ => exact ⟨b0, b1, b2, b3, b4, b5, b6, b7, b8, b9, rfl⟩
end Go.Proofs.Ytkopmkinlanhoaa.Rdr

namespace Go.Proofs
end Go.Proofs

namespace Go.Proofs.Ytkopmkinlanhoaa.PD
open Go.RowKit Go.Proofs.YtkopmkinlanhoaaW.PrintWords Go.Proofs.YtkopmkinlanhoaaW.PrintLast Go.Proofs.YtkopmkinlanhoaaW.PrintMore
attribute [local go_sem] max2_int min2_int max_two min_two max_three min_three max_four min_four   -- for this text's walks alone
set_option linter.unusedVariables false
set_option linter.unusedSimpArgs false
def errW : Option Int → Value
  | none => .nilIface
  | some c => .iface 0 (.int .i64 c)
theorem errW_none : errW none = .nilIface := rfl
theorem errW_some (c : Int) : errW (some c) = .iface 0 (.int .i64 c) := rfl
theorem info5 : (Try.prog.info? 5).map (fun i => (i.zero, i.size, i.bytes)) = some (some (.int .u8 0), 1, 1) := by kernel_rfl
end Go.Proofs.Ytkopmkinlanhoaa.PD

namespace Go.Proofs.Ytkopmkinlanhoaa.PD
open Go.RowKit Go.Proofs.YtkopmkinlanhoaaW.PrintWords Go.Proofs.YtkopmkinlanhoaaW.PrintLast Go.Proofs.YtkopmkinlanhoaaW.PrintMore
attribute [local go_sem] max2_int min2_int max_two min_two max_three min_three max_four min_four   -- for this text's walks alone
set_option linter.unusedVariables false
set_option linter.unusedSimpArgs false
set_option maxRecDepth 100000 in
theorem words_part.yes (ad : Addr) (m c : Nat) (i q : Int) (w : World) (h0 : 0 ≤ i) (h1 : i ≤ (m : Int)) (h2 : q ≤ (m : Int) - i) (hq : 0 < q) (hc : m ≤ c) (hm : m ≤ 9223372036854775807) :
    Calls Try.prog 62 #[.slice (some ad) m c, .int .i64 i, .int .i64 q] w fun e w' => e = .returned (.slice (if c = i.toNat then some ad else (some ad).map (·.add (i.toNat * 1))) ((i + q).toNat - i.toNat) (c - i.toNat)) ∧ w' = w := by
  have f1 : decide (i < 0) = false := by simp; omega
  have f2 : decide ((m : Int) < i) = false := by simp; omega
  have f3 : decide ((m : Int) - i < q) = false := by simp; omega
  obtain ⟨i0, hi0, _, hsz, _⟩ := info_parts info5
  have hcut := cut_mid 45 5 .i64 .i64 Try.underlying45 hi0 1 hsz (some ad) m c i (i + q) h0 (by omega) (by omega) hc
  go_enter Try.func62, Try.ntmps62
  go_wp2
  go_ret
  exact ⟨rfl, rfl⟩
set_option maxRecDepth 100000 in
theorem words_part.no (B : Option Addr) (m c : Nat) (i q : Int) (w : World) (h : i < 0 ∨ (m : Int) < i ∨ (m : Int) - i < q) (hq : 0 < q) (hq1 : q ≤ 100) (hm : m ≤ 9223372036854775807) :
    Calls Try.prog 62 #[.slice B m c, .int .i64 i, .int .i64 q] w fun e w' => e = .returned (.slice none 0 0) ∧ w' = w := by
  by_cases a1 : i < 0
  · have f1 : decide (i < 0) = true := by simp; omega
    clear h
    go_enter Try.func62, Try.ntmps62
    go_wp2
    go_ret
    exact ⟨rfl, rfl⟩
  · have f1 : decide (i < 0) = false := by simp; omega
    by_cases a2 : (m : Int) < i
    · have f2 : decide ((m : Int) < i) = true := by simp; omega
      clear h
      go_enter Try.func62, Try.ntmps62
      go_wp2
      go_ret
      exact ⟨rfl, rfl⟩
    · have f2 : decide ((m : Int) < i) = false := by simp; omega
      have f3 : decide ((m : Int) - i < q) = true := by simp; omega
      clear h
      go_enter Try.func62, Try.ntmps62
      go_wp2
      go_ret
      exact ⟨rfl, rfl⟩
end Go.Proofs.Ytkopmkinlanhoaa.PD

namespace Go.Proofs.Ytkopmkinlanhoaa.PD
open Go.RowKit Go.Proofs.YtkopmkinlanhoaaW.PrintWords Go.Proofs.YtkopmkinlanhoaaW.PrintLast Go.Proofs.YtkopmkinlanhoaaW.PrintMore
attribute [local go_sem] max2_int min2_int max_two min_two max_three min_three max_four min_four   -- for this text's walks alone
set_option linter.unusedVariables false
set_option linter.unusedSimpArgs false
def words_number.l0 : Nat → Int → List Int → Int → Int → Option (Int)
  | 0, _, _, _, _ => none
  | k + 1, x3, x6, x7, x8 => if x8 < x7 then (if 0 ≤ x8 then (if x8 < (x6.length : Int) then (words_number.l0 k (Go.bits .or .u64 (IntKind.u64.wrap (x3 * 256)) (IntKind.u64.wrap (rd x6 x8))) x6 x7 (wrap64 (x8 + 1))) else (none)) else (none)) else (some x3)
def words_number.f (k : Nat) (l0 : List Int) : Option (Int) := words_number.l0 k 0 l0 (l0.length : Int) 0
set_option maxHeartbeats 8000000 in
set_option maxRecDepth 100000 in
theorem words_number.calls (k : Nat) (A0 : Option Addr) (c0 : Nat) (l0 : List Int) (r : Int) (w : World) (hr0 : Kd.C (Kd.int .u8) w A0 l0.length l0) (hc0 : l0.length ≤ c0) (h : words_number.f k l0 = some r) :
    Calls Try.prog 63 #[.slice A0 l0.length c0] w fun e w' => e = .returned (.int .u64 r) ∧ Drawn0 w w' := by
  have HR0 := Aside0.mk hr0
  have HC0 := Aside0.mk hc0
  clear hr0 hc0
  have H : (words_number.l0 k 0 l0 (l0.length : Int) 0) = some r := h
  clear h
  have H' := Aside0.mk H
  clear H
  go_enter Try.func63, Try.ntmps63
  go_wp2
  go_loopg [3, 8] k (fun kq v3 v8 w' => ∃ (x3_1 : Int) (x8_1 : Int), v3 = .int .u64 x3_1 ∧ v8 = .int .i64 x8_1 ∧ Aside0 (words_number.l0 kq x3_1 l0 (l0.length : Int) x8_1 = some r) ∧ Aside0 (kq ≤ k) ∧ Drawn0 w w')
  case atStart => exact ⟨(0), (0), (by first | rfl | (simp; done) | (simp [*]; done)), (by first | rfl | (simp; done) | (simp [*]; done)), H', ⟨Nat.le_refl _⟩, by repeat (first | exact Drawn0.refl _ | apply Drawn0.step)⟩
  case round =>
    clear H'
    obtain ⟨x3_1, x8_1, rfl, rfl, HA, HK1, ⟨m1, rfl⟩⟩ := hrel
    cases gk with
    | zero => exact absurd HA.out (by simp [words_number.l0])
    | succ k1 =>
      have H := HA.out
      clear HA
      simp only [words_number.l0] at H
      by_cases c2 : x8_1 < (l0.length : Int)
      · rw [if_pos c2] at H
        have c2b0 : decide (x8_1 < (l0.length : Int)) = true := decide_eq_true c2
        clear c2
        by_cases c3 : 0 ≤ x8_1
        · rw [if_pos c3] at H
          have c3b0 : decide (0 ≤ x8_1) = true := decide_eq_true c3
          clear c3
          by_cases c4 : x8_1 < (l0.length : Int)
          · rw [if_pos c4] at H
            have c4b0 : decide (x8_1 < (l0.length : Int)) = true := decide_eq_true c4
            clear c4
            have H' := Aside0.mk H
            clear H
            have p107 : 0 ≤ (x8_1 : Int) := of_decide_eq_true (by first | (with_reducible assumption) | assumption)
            have q107 : x8_1 < (l0.length : Int) := of_decide_eq_true (by first | (with_reducible assumption) | assumption)
            obtain ⟨ad107, e107, hx107_0⟩ := Kd.at_int HR0.out x8_1 p107 q107
            cases e107
            replace p107 := eq_true p107
            replace q107 := eq_true q107
            go_wp2
            go_roundg k1
            case measure => have := HK1.out; omega
            case rel => exact ⟨(Go.bits .or .u64 (IntKind.u64.wrap (x3_1 * 256)) (IntKind.u64.wrap (rd l0 x8_1))), (wrap64 (x8_1 + 1)), (by first | rfl | (simp; done) | (simp [*]; done)), (by first | rfl | (simp; done) | (simp [*]; done)), H', ⟨by have := HK1.out; omega⟩, by repeat (first | exact Drawn0.refl _ | apply Drawn0.step)⟩
          · rw [if_neg c4] at H
            exact absurd H (by simp)
        · rw [if_neg c3] at H
          exact absurd H (by simp)
      · rw [if_neg c2] at H
        have c2b0 : decide (x8_1 < (l0.length : Int)) = false := decide_eq_false c2
        clear c2
        obtain rfl := Option.some.inj H
        go_wp2
        go_ret
        exact ⟨by first | rfl | (simp; done) | (simp [*]; done), by repeat (first | exact Drawn0.refl _ | apply Drawn0.step)⟩
end Go.Proofs.Ytkopmkinlanhoaa.PD

namespace Go.Proofs.Ytkopmkinlanhoaa.PD
open Go.RowKit Go.Proofs.YtkopmkinlanhoaaW.PrintWords Go.Proofs.YtkopmkinlanhoaaW.PrintLast Go.Proofs.YtkopmkinlanhoaaW.PrintMore
attribute [local go_sem] max2_int min2_int max_two min_two max_three min_three max_four min_four   -- for this text's walks alone
set_option linter.unusedVariables false
set_option linter.unusedSimpArgs false
def numb (l : List Int) : Int := l.foldl (fun v c => Go.bits .or .u64 (IntKind.u64.wrap (v * 256)) (IntKind.u64.wrap c)) 0
theorem numb_loop (l : List Int) (hl : l.length ≤ 9223372036854775806) (d : Nat) : ∀ (k : Nat) (v : Int) (i : Nat), i + d = l.length → d < k →
    words_number.l0 k v l (l.length : Int) (i : Int) = some ((l.drop i).foldl (fun v c => Go.bits .or .u64 (IntKind.u64.wrap (v * 256)) (IntKind.u64.wrap c)) v) := by
  induction d with
  | zero =>
    intro k v i hi hk
    obtain ⟨k, rfl⟩ : ∃ m, k = m + 1 := ⟨k - 1, by omega⟩
    simp only [words_number.l0]
    rw [if_neg (by omega), List.drop_of_length_le (by omega)]
    rfl
  | succ d ih =>
    intro k v i hi hk
    obtain ⟨k, rfl⟩ : ∃ m, k = m + 1 := ⟨k - 1, by omega⟩
    simp only [words_number.l0]
    have hw : wrap64 ((i : Int) + 1) = ((i + 1 : Nat) : Int) := by unfold wrap64; omega
    rw [if_pos (by omega), if_pos (by omega), if_pos (by omega), hw, ih k _ (i + 1) (by omega) (by omega), List.drop_eq_getElem_cons (by omega : i < l.length), List.foldl_cons]
    simp [rd, List.getD_eq_getElem?_getD, List.getElem?_eq_getElem (by omega : i < l.length)]
theorem numb_f (l : List Int) (hl : l.length ≤ 9223372036854775806) : words_number.f (l.length + 1) l = some (numb l) := by
  have h := numb_loop l hl l.length (l.length + 1) 0 0 (by omega) (by omega)
  simpa [words_number.f, numb] using h
def words_Get.f (l0 : List Int) (a1 : Int) : Option (Int × Bool) := if 0 ≤ a1 ∧ 4 ≤ (l0.length : Int) - a1 then (some (numb ((l0.take (a1 + 4).toNat).drop a1.toNat) % 4294967296, true)) else (some (0, false))
set_option maxRecDepth 100000 in
theorem words_Get.calls (A0 : Option Addr) (c0 : Nat) (l0 : List Int) (a1 : Int) (r1 : Int) (r2 : Bool) (w : World) (hr0 : Kd.C (Kd.int .u8) w A0 l0.length l0) (hc0 : l0.length ≤ c0) (h : words_Get.f l0 a1 = some (r1, r2)) :
    Calls Try.prog 34 #[.slice A0 l0.length c0, .int .i64 a1] w fun e w' => e = .returned (.tuple #[.int .u32 r1, .bool r2]) ∧ Drawn0 w w' := by
  have hm : l0.length ≤ 9223372036854775807 := hr0.2.1
  unfold words_Get.f at h
  by_cases c : 0 ≤ a1 ∧ 4 ≤ (l0.length : Int) - a1
  · rw [if_pos c] at h
    simp only [Option.some.injEq, Prod.mk.injEq] at h
    obtain ⟨rfl, rfl⟩ := h
    obtain ⟨ad, rfl, _⟩ := hr0.2.2 (by omega)
    have hmid := Kd.C_mid (lo := a1.toNat) (hi := (a1 + 4).toNat) hr0 (by omega) (by omega) hc0
    have hlen : ((l0.take (a1 + 4).toNat).drop a1.toNat).length = 4 := by simp; omega
    obtain ⟨y, hy⟩ : ∃ y, y = (l0.take (a1 + 4).toNat).drop a1.toNat := ⟨_, rfl⟩
    rw [← hy] at hmid hlen
    have hsub : (a1 + 4).toNat - a1.toNat = y.length := by rw [hlen]; omega
    have h0 := c.1
    have h1 := c.2
    have hno : c0 ≠ a1.toNat := by omega
    have Hp := words_part.yes ad l0.length c0 a1 4 w h0 (by omega) h1 (by decide) hc0 hm
    rw [if_neg hno, hsub] at Hp
    rw [if_neg hno] at hmid
    have hq : y.length ≤ c0 - a1.toNat := by rw [hlen]; omega
    have Hn := words_number.calls (y.length + 1) ((some ad).map (·.add (a1.toNat * 1))) (c0 - a1.toNat) y (numb y) w hmid hq (numb_f y (by rw [hlen]; decide))
    have Hy := Aside0.mk hy
    clear hy c h0 h1 hno hmid hq hr0 hsub hlen
    obtain ⟨B, hB⟩ : ∃ B, B = ad.add (a1.toNat * 1) := ⟨_, rfl⟩
    simp only [Option.map_some] at Hp Hn
    rw [← hB] at Hp Hn
    clear hB
    have q := fun w' : World => run_neq_slice_nil_any (P := Try.prog) w' 45 5 (some B) y.length (c0 - a1.toNat) 0 0 Try.underlying45
    simp only [Option.isNone_some, Bool.not_false] at q
    go_enter Try.func34, Try.ntmps34
    go_wp2_with (first | (go_at_call 62; refine Hp.mono ?_; rintro e w' ⟨rfl, rfl⟩) | (go_at_call 63; refine Hn.mono ?_; rintro e w' ⟨rfl, ⟨nd, rfl⟩⟩))
    go_ret2
    exact ⟨by rw [Hy.out]; rfl, ⟨⟨_, rfl⟩⟩⟩
  · rw [if_neg c] at h
    simp only [Option.some.injEq, Prod.mk.injEq] at h
    obtain ⟨rfl, rfl⟩ := h
    have Hn := words_number.calls 1 none 0 [] 0 w ⟨rfl, by decide, fun h0 => absurd h0 (by decide)⟩ (Nat.le_refl 0) (by decide)
    have q := fun w' : World => run_neq_slice_nil_any (P := Try.prog) w' 45 5 none 0 0 0 0 Try.underlying45
    simp only [Option.isNone_none, Bool.not_true] at q
    simp only [List.length_nil] at Hn
    have Hp := words_part.no A0 l0.length c0 a1 4 w (by omega) (by decide) (by decide) hm
    clear c hr0
    go_enter Try.func34, Try.ntmps34
    go_wp2_with (first | (go_at_call 62; refine Hp.mono ?_; rintro e w' ⟨rfl, rfl⟩) | (go_at_call 63; refine Hn.mono ?_; rintro e w' ⟨rfl, ⟨nd, rfl⟩⟩))
    go_ret2
    exact ⟨rfl, ⟨⟨_, rfl⟩⟩⟩
end Go.Proofs.Ytkopmkinlanhoaa.PD

namespace Go.Proofs.Ytkopmkinlanhoaa.PD
open Go.RowKit Go.Proofs.YtkopmkinlanhoaaW.PrintWords Go.Proofs.YtkopmkinlanhoaaW.PrintLast Go.Proofs.YtkopmkinlanhoaaW.PrintMore
attribute [local go_sem] max2_int min2_int max_two min_two max_three min_three max_four min_four   -- for this text's walks alone
set_option linter.unusedVariables false
set_option linter.unusedSimpArgs false
def decode_within.f (a0 : Int) (a1 : Int) (a2 : Int) : Option (Bool) := if a0 ≥ 40 then (some (decide ((IntKind.u64.wrap ((IntKind.u64.wrap (a0)) + (IntKind.u64.wrap (a1)))) ≤ (IntKind.u64.wrap (a2))))) else (some false)
set_option maxHeartbeats 8000000 in
set_option maxRecDepth 100000 in
theorem decode_within.calls (a0 : Int) (a1 : Int) (a2 : Int) (r : Bool) (w : World) (h : decode_within.f a0 a1 a2 = some r) :
    Calls Try.prog 35 #[.int .u32 a0, .int .u32 a1, .int .i64 a2] w fun e w' => e = .returned (.bool r) ∧ Drawn0 w w' := by
  have H : (if a0 ≥ 40 then (some (decide ((IntKind.u64.wrap ((IntKind.u64.wrap (a0)) + (IntKind.u64.wrap (a1)))) ≤ (IntKind.u64.wrap (a2))))) else (some false)) = some r := h
  clear h
  by_cases c4 : a0 ≥ 40
  · rw [if_pos c4] at H
    have c4b0 : decide (40 ≤ a0) = true := decide_eq_true c4
    clear c4
    obtain rfl := Option.some.inj H
    go_enter Try.func35, Try.ntmps35
    go_wp2
    go_ret
    exact ⟨by first | rfl | (simp; done) | (simp [*]; done), by repeat (first | exact Drawn0.refl _ | apply Drawn0.step)⟩
  · rw [if_neg c4] at H
    have c4b0 : decide (40 ≤ a0) = false := decide_eq_false c4
    clear c4
    obtain rfl := Option.some.inj H
    go_enter Try.func35, Try.ntmps35
    go_wp2
    go_ret
    exact ⟨by first | rfl | (simp; done) | (simp [*]; done), by repeat (first | exact Drawn0.refl _ | apply Drawn0.step)⟩
end Go.Proofs.Ytkopmkinlanhoaa.PD

namespace Go.Proofs.Ytkopmkinlanhoaa.PD
open Go.RowKit Go.Proofs.YtkopmkinlanhoaaW.PrintWords Go.Proofs.YtkopmkinlanhoaaW.PrintLast Go.Proofs.YtkopmkinlanhoaaW.PrintMore
attribute [local go_sem] max2_int min2_int max_two min_two max_three min_three max_four min_four   -- for this text's walks alone
set_option linter.unusedVariables false
set_option linter.unusedSimpArgs false
def arboretref01_Bytes.l0 : Nat → Int → List Int → Int → Option (List Int)
  | 0, _, _, _ => none
  | k + 1, x0, x5, x6 => if x6 ≥ 0 then (if 0 ≤ x6 then (if x6 < (x5.length : Int) then (arboretref01_Bytes.l0 k (IntKind.u64.wrap (Int.tdiv x0 256)) (x5.set (x6 : Int).toNat ((Int.tmod x0 256) % 256)) (wrap64 (x6 - 1))) else (none)) else (none)) else (some x5)
def arboretref01_Bytes.f (k : Nat) (a0 : Int) (a1 : Int) : Option (List Int) := if 0 ≤ a1 then (if (a1 : Int).toNat ≤ 281474976710656 then (arboretref01_Bytes.l0 k a0 (List.replicate (a1 : Int).toNat 0) (wrap64 (a1 - 1))) else (none)) else (none)
set_option maxHeartbeats 8000000 in
set_option maxRecDepth 100000 in
theorem arboretref01_Bytes.calls (k : Nat) (a0 : Int) (a1 : Int) (r : List Int) (w : World) (h : arboretref01_Bytes.f k a0 a1 = some r) :
    Calls Try.prog 16 #[.int .u64 a0, .int .i64 a1] w fun e w' => ∃ v0_ : Value, e = .returned (v0_) ∧ Kd.R (Kd.int .u8) 5 w' w.heap.size (fun _ => True) v0_ r ∧ Below w.heap.size w w' := by
  have HB := Aside0.mk (Below.refl w.heap.size w)
  have H : (if 0 ≤ a1 then (if (a1 : Int).toNat ≤ 281474976710656 then (arboretref01_Bytes.l0 k a0 (List.replicate (a1 : Int).toNat 0) (wrap64 (a1 - 1))) else (none)) else (none)) = some r := h
  clear h
  by_cases c3 : 0 ≤ a1
  · rw [if_pos c3] at H
    have c3b0 := eq_true c3
    have c3b1 : decide (0 ≤ a1) = true := decide_eq_true c3
    clear c3
    by_cases c4 : (a1 : Int).toNat ≤ 281474976710656
    · rw [if_pos c4] at H
      have c4b0 := eq_true c4
      have c4b1 : decide ((a1 : Int).toNat ≤ 281474976710656) = true := decide_eq_true c4
      clear c4
      obtain ⟨y165, hy165⟩ : ∃ y_ : List Int, y_ = (List.replicate (a1 : Int).toNat 0) := ⟨_, rfl⟩
      replace H : (arboretref01_Bytes.l0 k a0 y165 (wrap64 (a1 - 1))) = some r := by first | (rw [hy165]; with_reducible exact H) | (have H2_ := (Option.bind_some _ _).symm.trans H; rw [hy165]; with_reducible exact H2_) | (have H2_ := (Option.bind_some _ _).symm.trans H; with_reducible exact H2_) | with_reducible exact H | (rw [hy165]; exact H) | exact H
      have Ny165 := Aside0.mk hy165
      clear hy165
      have H' := Aside0.mk H
      clear H
      go_enter Try.func16, Try.ntmps16
      go_wp2_with (first | ((with_reducible refine gate_dst (N := 8) rfl ?_); refine Kd.R_make (Kd.int .u8) _ 5 rfl (N := 8) rfl 45 _ _ rfl a1 rfl rfl Try.underlying45 (.int .u8 0) 1 info5 rfl (by decide) (by omega) 0 (ok := fun _ => True) (okp := fun _ => True) rfl (fun _ hk => hk) trivial (of_decide_eq_true (by first | (with_reducible assumption) | assumption)) (Nat.le_trans (Nat.mul_le_mul_right _ (of_decide_eq_true (by first | (with_reducible assumption) | assumption) : a1.toNat ≤ 281474976710656)) (by omega)) (Below.refl _ _) (Nat.le_refl _) ?_; intro v166 w5 ho6 hb hg_ hnew_; clear hg_ hnew_; (first | rw [← Ny165.out] at ho6 | (simp only [Int.reduceToNat] at ho6; rw [← Ny165.out] at ho6)); have n0_ := Aside0.mk (Kd.R_lower ho6 (below_size (by repeat (first | (with_reducible first | exact HB.out | apply below_alloc | apply pw_below_drewN | apply below_drew1) | exact HB.out)))); have n1_ := Aside0.mk (below_step (by repeat (first | (with_reducible first | exact HB.out | apply below_alloc | apply pw_below_drewN | apply below_drew1) | exact HB.out)) hb); clear HB; have HO167 := n0_; have HB := n1_; clear n0_ n1_; clear hb ho6))
      go_loopg [0, 6] k (fun kq v0 v6 w' => ∃ (x0_1 : Int) (x5_1 : List Int) (x6_1 : Int), v0 = .int .u64 x0_1 ∧ v6 = .int .i64 x6_1 ∧ Aside0 (arboretref01_Bytes.l0 kq x0_1 x5_1 x6_1 = some r) ∧ Aside0 (kq ≤ k) ∧ Aside0 (Kd.R (Kd.int .u8) 5 w' w.heap.size (fun _ => True) v166 x5_1) ∧ Aside0 (Below w.heap.size w w'))
      case atStart => exact ⟨(a0), (y165), (wrap64 (a1 - 1)), (by first | rfl | (simp; done) | (simp [*]; done)), (by first | rfl | (simp; done) | (simp [*]; done)), H', ⟨Nat.le_refl _⟩, ⟨by (with_reducible repeat (first | apply Kd.R_alloc | apply Kd.R_drewN | apply Kd.R_drew)); exact HO167.out⟩, ⟨by repeat (first | (with_reducible first | exact HB.out | apply below_alloc | apply pw_below_drewN | apply below_drew1) | exact HB.out)⟩⟩
      case round =>
        clear H'
        try clear c1
        try clear p2
        try clear c3
        try clear c3b0
        try clear c3b1
        try clear c4
        try clear c4b0
        try clear c4b1
        try clear p6
        obtain ⟨x0_1, x5_1, x6_1, rfl, rfl, HA, HK1, HO_5, HB⟩ := hrel
        cases gk with
        | zero => exact absurd HA.out (by simp [arboretref01_Bytes.l0])
        | succ k1 =>
          have H := HA.out
          clear HA
          simp only [arboretref01_Bytes.l0] at H
          by_cases c7 : x6_1 ≥ 0
          · rw [if_pos c7] at H
            have c7b0 : decide (0 ≤ x6_1) = true := decide_eq_true c7
            clear c7
            by_cases c8 : 0 ≤ x6_1
            · rw [if_pos c8] at H
              have c8b0 : decide (0 ≤ x6_1) = true := decide_eq_true c8
              clear c8
              by_cases c9 : x6_1 < (x5_1.length : Int)
              · rw [if_pos c9] at H
                have c9b0 : decide (x6_1 < (x5_1.length : Int)) = true := decide_eq_true c9
                clear c9
                obtain ⟨y168, hy168⟩ : ∃ y_ : List Int, y_ = (x5_1.set (x6_1 : Int).toNat ((Int.tmod x0_1 256) % 256)) := ⟨_, rfl⟩
                replace H : (arboretref01_Bytes.l0 k1 (IntKind.u64.wrap (Int.tdiv x0_1 256)) y168 (wrap64 (x6_1 - 1))) = some r := by first | (rw [hy168]; with_reducible exact H) | (have H2_ := (Option.bind_some _ _).symm.trans H; rw [hy168]; with_reducible exact H2_) | (have H2_ := (Option.bind_some _ _).symm.trans H; with_reducible exact H2_) | with_reducible exact H | (rw [hy168]; exact H) | exact H
                have Ny168 := Aside0.mk hy168
                clear hy168
                have H' := Aside0.mk H
                clear H
                have p10 : 0 ≤ (x6_1 : Int) := of_decide_eq_true (by first | (with_reducible assumption) | assumption)
                have q10 : (x6_1 : Int) < ((x5_1.length : Int) : Int) := of_decide_eq_true (by first | (with_reducible assumption) | assumption)
                obtain ⟨go10, co10, eo10, gb10, gl10, cl10, HG10⟩ := Kd.R_form HO_5.out (by omega)
                (first | cases eo10 | (injection eo10 with ea_ en_ ec_; (first | subst ea_ | (injection ea_ with ea_; subst ea_)); subst ec_; clear en_))
                have GB10 := Aside0.mk gb10
                have GG10 := Aside0.mk HG10
                clear gb10 gl10 HG10
                obtain ⟨hx10_0, hf10_0⟩ := Kd.R_celln 0 HO_5.out (x6_1 : Int) p10 q10
                replace p10 := eq_true p10
                replace q10 := eq_true q10
                have HP11 := Kd.R_putg HO_5.out (x6_1 : Int) ((Int.tmod x0_1 256) % 256)
                go_wp2_with (first | ((with_reducible refine gate_store (t := 5) (p := 20) rfl ?_); refine store_event (t := 5) (p := 20) (v := ?vo_w12) (w1 := (wr.setCell ⟨go10, (x6_1 : Int).toNat, none⟩ (.int .u8 ((Int.tmod x0_1 256) % 256)))) ?hg ?ho ?hn ?hr ?_; (case ho => rfl); (case hg => rfl); (case hn => rfl); (case hr => first | (go_simp; done) | (go_simp; rfl)); intro w12 hw; have hg : wr.grownBy w12 (some go10) := (by rw [hw]; exact HP11.2); have hp_ : Kd.R (Kd.int .u8) 5 w12 w.heap.size (fun _ => True) (.slice (some ⟨go10, 0, none⟩) x5_1.length co10) y168 := (by rw [hw, Ny168.out]; exact HP11.1); clear HP11; have n0_ := Aside0.mk (hp_); have n1_ := Aside0.mk ((by rw [hw]; exact below_set (HB.out) GB10.out : Below w.heap.size w w12)); clear HO_5; clear HB; have HO_5 := n0_; have HB := n1_; clear n0_ n1_; clear hg hw hp_))
                go_roundg k1
                case measure => have := HK1.out; omega
                case rel => exact ⟨(IntKind.u64.wrap (Int.tdiv x0_1 256)), (y168), (wrap64 (x6_1 - 1)), (by first | rfl | (simp; done) | (simp [*]; done)), (by first | rfl | (simp; done) | (simp [*]; done)), H', ⟨by have := HK1.out; omega⟩, ⟨by (with_reducible repeat (first | apply Kd.R_alloc | apply Kd.R_drewN | apply Kd.R_drew)); exact HO_5.out⟩, ⟨by repeat (first | (with_reducible first | exact HB.out | apply below_alloc | apply pw_below_drewN | apply below_drew1) | exact HB.out)⟩⟩
              · rw [if_neg c9] at H
                exact absurd H (by simp)
            · rw [if_neg c8] at H
              exact absurd H (by simp)
          · rw [if_neg c7] at H
            have c7b0 : decide (0 ≤ x6_1) = false := decide_eq_false c7
            clear c7
            obtain rfl := Option.some.inj H
            go_wp2
            go_ret
            exact ⟨_, by first | rfl | (simp [errW_none, errW_some] <;> rfl) | (simp [*, errW_none, errW_some] <;> rfl), by (with_reducible repeat (first | apply Kd.R_alloc | apply Kd.R_drewN | apply Kd.R_drew)); exact HO_5.out, by repeat (first | (with_reducible first | exact HB.out | apply below_alloc | apply pw_below_drewN | apply below_drew1) | exact HB.out)⟩
    · rw [if_neg c4] at H
      exact absurd H (by simp)
  · rw [if_neg c3] at H
    exact absurd H (by simp)
end Go.Proofs.Ytkopmkinlanhoaa.PD

namespace Go.Proofs.Ytkopmkinlanhoaa.PD
open Go.RowKit Go.Proofs.YtkopmkinlanhoaaW.PrintWords Go.Proofs.YtkopmkinlanhoaaW.PrintLast Go.Proofs.YtkopmkinlanhoaaW.PrintMore
attribute [local go_sem] max2_int min2_int max_two min_two max_three min_three max_four min_four   -- for this text's walks alone
set_option linter.unusedVariables false
set_option linter.unusedSimpArgs false
def arboretlaw04_inside.f (a0 : Int) (a1 : Int) (a2 : Int) : Option (Bool) := if a0 ≥ 40 then (some (decide ((IntKind.u64.wrap ((IntKind.u64.wrap (a0)) + (IntKind.u64.wrap (a1)))) ≤ a2))) else (some false)
set_option maxHeartbeats 8000000 in
set_option maxRecDepth 100000 in
theorem arboretlaw04_inside.calls (a0 : Int) (a1 : Int) (a2 : Int) (r : Bool) (w : World) (h : arboretlaw04_inside.f a0 a1 a2 = some r) :
    Calls Try.prog 18 #[.int .u32 a0, .int .u32 a1, .int .u64 a2] w fun e w' => e = .returned (.bool r) ∧ Drawn0 w w' := by
  have H : (if a0 ≥ 40 then (some (decide ((IntKind.u64.wrap ((IntKind.u64.wrap (a0)) + (IntKind.u64.wrap (a1)))) ≤ a2))) else (some false)) = some r := h
  clear h
  by_cases c4 : a0 ≥ 40
  · rw [if_pos c4] at H
    have c4b0 : decide (40 ≤ a0) = true := decide_eq_true c4
    clear c4
    obtain rfl := Option.some.inj H
    go_enter Try.func18, Try.ntmps18
    go_wp2
    go_ret
    exact ⟨by first | rfl | (simp; done) | (simp [*]; done), by repeat (first | exact Drawn0.refl _ | apply Drawn0.step)⟩
  · rw [if_neg c4] at H
    have c4b0 : decide (40 ≤ a0) = false := decide_eq_false c4
    clear c4
    obtain rfl := Option.some.inj H
    go_enter Try.func18, Try.ntmps18
    go_wp2
    go_ret
    exact ⟨by first | rfl | (simp; done) | (simp [*]; done), by repeat (first | exact Drawn0.refl _ | apply Drawn0.step)⟩
end Go.Proofs.Ytkopmkinlanhoaa.PD

namespace Go.Proofs.Ytkopmkinlanhoaa.PD
open Go.RowKit Go.Proofs.YtkopmkinlanhoaaW.PrintWords Go.Proofs.YtkopmkinlanhoaaW.PrintLast Go.Proofs.YtkopmkinlanhoaaW.PrintMore
attribute [local go_sem] max2_int min2_int max_two min_two max_three min_three max_four min_four
set_option linter.unusedVariables false
set_option linter.unusedSimpArgs false
structure Hdr where (c0 c1 c2 c3 c4 c5 c6 c7 c8 c9 : Int)
def Hdr.zero : Hdr := ⟨0, 0, 0, 0, 0, 0, 0, 0, 0, 0⟩
def Hdr.val (h : Hdr) : Value := .agg #[.int .u32 h.c0, .int .u32 h.c1, .int .u32 h.c2, .int .u32 h.c3, .int .u32 h.c4, .int .u32 h.c5, .int .u32 h.c6, .int .u32 h.c7, .int .u32 h.c8, .int .u32 h.c9]
def cellAt (l : List Int) (i : Int) : Int := ((words_Get.f l i).getD (0, false)).1
def cellOk (l : List Int) (i : Int) : Bool := ((words_Get.f l i).getD (0, false)).2
theorem get_cell (l : List Int) (i : Int) : words_Get.f l i = some (cellAt l i, cellOk l i) := by
  have h : ∃ r, words_Get.f l i = some r := by unfold words_Get.f; split <;> exact ⟨_, rfl⟩
  obtain ⟨r, h⟩ := h
  unfold cellAt cellOk
  rw [h]
  rfl
theorem cellAt_range (l : List Int) (i : Int) : 0 ≤ cellAt l i ∧ cellAt l i < 4294967296 := by
  unfold cellAt words_Get.f
  split
  · simp only [Option.getD_some]; omega
  · simp
def hdrOf (l : List Int) : Hdr := ⟨cellAt l 0, cellAt l 4, cellAt l 8, cellAt l 12, cellAt l 16, cellAt l 20, cellAt l 24, cellAt l 28, cellAt l 32, cellAt l 36⟩
def inB (a s n : Int) : Bool := if a ≥ 40 then decide ((IntKind.u64.wrap ((IntKind.u64.wrap a) + (IntKind.u64.wrap s))) ≤ (IntKind.u64.wrap n)) else false
theorem within_inB (a s n : Int) : decode_within.f a s n = some (inB a s n) := by
  unfold decode_within.f inB
  split <;> rfl
def hdrErr (h : Hdr) (n : Int) : Int :=
  if h.c0 = 3490578157 then (if h.c5 = 17 then (if h.c6 = 16 then (if h.c1 = n then (if inB h.c2 h.c9 n = true then (if inB h.c3 h.c8 n = true then (if inB h.c4 0 n = true then (if h.c4 % 8 = 0 then (if h.c2 % 4 = 0 then 0 else 4) else 4) else 4) else 4) else 4) else 4) else 3) else 3) else 2
def decode_Header.f (l : List Int) : Option (Hdr × Int) :=
  some (if l.length < 40 then (.zero, 4) else if 1048576 < l.length then (.zero, 4) else if hdrErr (hdrOf l) l.length = 0 then (hdrOf l, 0) else (.zero, hdrErr (hdrOf l) l.length))
def hcell (l : List Int) (i j : Nat) : Value := .int .u32 (if j < i then cellAt l (4 * (j : Int)) else 0)
def hcells (l : List Int) (i : Nat) : Array Value := #[hcell l i 0, hcell l i 1, hcell l i 2, hcell l i 3, hcell l i 4, hcell l i 5, hcell l i 6, hcell l i 7, hcell l i 8, hcell l i 9]
theorem hdr_next {l : List Int} {W : World} {g t : Nat} (i : Nat) (hi : i < 10) (h : W.heap[g]? = some (.cells (hcells l i) t (0, 0))) :
    (W.setCell ⟨g, i, none⟩ (.int .u32 (cellAt l (4 * (i : Int))))).heap[g]? = some (.cells (hcells l (i + 1)) t (0, 0)) := by
  refine blk_put h i _ ?_
  have : i = 0 ∨ i = 1 ∨ i = 2 ∨ i = 3 ∨ i = 4 ∨ i = 5 ∨ i = 6 ∨ i = 7 ∨ i = 8 ∨ i = 9 := by omega
  rcases this with rfl | rfl | rfl | rfl | rfl | rfl | rfl | rfl | rfl | rfl
  all_goals rfl
theorem end10 {w W : World} {t : Nat} (hb : Below w.heap.size w W) (h : W.heap[w.heap.size]? = some (.cells (hcells [] 0) t (0, 0))) (v0 v1 v2 v3 v4 v5 v6 v7 v8 v9 : Value) :
    Below w.heap.size w ((((((((((W.setCell ⟨w.heap.size, 0, none⟩ v0).setCell ⟨w.heap.size, 1, none⟩ v1).setCell ⟨w.heap.size, 2, none⟩ v2).setCell ⟨w.heap.size, 3, none⟩ v3).setCell ⟨w.heap.size, 4, none⟩ v4).setCell ⟨w.heap.size, 5, none⟩ v5).setCell ⟨w.heap.size, 6, none⟩ v6).setCell ⟨w.heap.size, 7, none⟩ v7).setCell ⟨w.heap.size, 8, none⟩ v8).setCell ⟨w.heap.size, 9, none⟩ v9) ∧ ((((((((((W.setCell ⟨w.heap.size, 0, none⟩ v0).setCell ⟨w.heap.size, 1, none⟩ v1).setCell ⟨w.heap.size, 2, none⟩ v2).setCell ⟨w.heap.size, 3, none⟩ v3).setCell ⟨w.heap.size, 4, none⟩ v4).setCell ⟨w.heap.size, 5, none⟩ v5).setCell ⟨w.heap.size, 6, none⟩ v6).setCell ⟨w.heap.size, 7, none⟩ v7).setCell ⟨w.heap.size, 8, none⟩ v8).setCell ⟨w.heap.size, 9, none⟩ v9).heap[w.heap.size]? = some (.cells #[v0, v1, v2, v3, v4, v5, v6, v7, v8, v9] t (0, 0)) := by
  refine ⟨?_, ?_⟩
  · exact ((((((((((hb.setCell (Nat.le_refl _) _).setCell (Nat.le_refl _) _).setCell (Nat.le_refl _) _).setCell (Nat.le_refl _) _).setCell (Nat.le_refl _) _).setCell (Nat.le_refl _) _).setCell (Nat.le_refl _) _).setCell (Nat.le_refl _) _).setCell (Nat.le_refl _) _).setCell (Nat.le_refl _) _)
  · have q := (blk_set (blk_set (blk_set (blk_set (blk_set (blk_set (blk_set (blk_set (blk_set (blk_set h 0 v0) 1 v1) 2 v2) 3 v3) 4 v4) 5 v5) 6 v6) 7 v7) 8 v8) 9 v9)
    simpa [hcells] using q
set_option maxRecDepth 100000 in
set_option maxHeartbeats 4000000 in
theorem decode_Header.calls (A0 : Option Addr) (c0 : Nat) (l0 : List Int) (r1 : Hdr) (r2 : Int) (w : World) (hr0 : Kd.C (Kd.int .u8) w A0 l0.length l0) (hc0 : l0.length ≤ c0) (h : decode_Header.f l0 = some (r1, r2)) :
    Calls Try.prog 17 #[.slice A0 l0.length c0] w fun e w' => e = .returned (.tuple #[r1.val, .int .i64 r2]) ∧ Below w.heap.size w w' := by
  unfold decode_Header.f at h
  replace h := Option.some.inj h
  have HB0 : ∀ cs cs', Below w.heap.size w ((w.alloc (.cells cs 43)).alloc (.cells cs' 43)) := fun cs cs' => below_alloc (below_alloc (Below.refl _ _) _) _
  have HB := Aside0.mk HB0
  clear HB0
  by_cases c1 : l0.length < 40
  · rw [if_pos c1] at h
    obtain ⟨rfl, rfl⟩ := Prod.mk.inj h
    clear h
    go_enter Try.func17, Try.ntmps17
    go_wp2
    exact bodyPost_ret (v := .tuple #[Hdr.zero.val, .int .i64 4]) (by simp [results, Try.results17, go_sem, Hdr.val, Hdr.zero]) rfl ⟨rfl, HB.out _ _⟩
  · rw [if_neg c1] at h
    have c1b : decide ((l0.length : Int) < 40) = false := decide_eq_false (by omega)
    by_cases c2 : 1048576 < l0.length
    · rw [if_pos c2] at h
      obtain ⟨rfl, rfl⟩ := Prod.mk.inj h
      clear h
      have c2b : decide (1048576 < (l0.length : Int)) = true := decide_eq_true (by omega)
      go_enter Try.func17, Try.ntmps17
      go_wp2
      exact bodyPost_ret (v := .tuple #[Hdr.zero.val, .int .i64 4]) (by simp [results, Try.results17, go_sem, Hdr.val, Hdr.zero]) rfl ⟨rfl, HB.out _ _⟩
    · rw [if_neg c2] at h
      have c2b : decide (1048576 < (l0.length : Int)) = false := decide_eq_false (by omega)
      have H := Aside0.mk h
      have HR0 := Aside0.mk hr0
      have HC0 := Aside0.mk hc0
      clear h hr0 hc0 c1 c2
      go_enter Try.func17, Try.ntmps17
      go_wp2
      go_loopg [15] 11 (fun kq v15 w' => ∃ i : Nat, v15 = .int .i64 (i : Int) ∧ Aside0 (i + kq = 11 ∧ i ≤ 10) ∧ Aside0 (Below w.heap.size w w') ∧ Aside0 (w'.heap[w.heap.size]? = some (.cells (hcells [] 0) 43 (0, 0))) ∧ Aside0 (w'.heap[w.heap.size + 1]? = some (.cells (hcells l0 i) 43 (0, 0))))
      case atStart => exact ⟨0, rfl, ⟨rfl, by decide⟩, ⟨HB.out _ _⟩, ⟨blk_alloc (blk_new w _) _⟩, ⟨(by rw [show w.heap.size + 1 = (w.alloc (.cells (hcells [] 0) 43)).heap.size from (Array.size_push ..).symm]; exact blk_new _ _)⟩⟩
      case round =>
        obtain ⟨i, rfl, HI, HB, B0, B1⟩ := hrel
        by_cases ci : i < 10
        · have HG := fun j : Int => get_cell l0 j
          have HCal := fun (j : Int) (W : World) (hC : Kd.C (Kd.int .u8) W A0 l0.length l0) => words_Get.calls A0 c0 l0 j (cellAt l0 j) (cellOk l0 j) W hC HC0.out (get_cell l0 j)
          have HCal := Aside0.mk HCal
          clear HG
          have hi := HI.out
          cases gk with
          | zero => omega
          | succ k1 =>
            have k0 : wr.cell? ⟨w.heap.size + 1, i, none⟩ = some (.int .u32 0) := by
              have : i = 0 ∨ i = 1 ∨ i = 2 ∨ i = 3 ∨ i = 4 ∨ i = 5 ∨ i = 6 ∨ i = 7 ∨ i = 8 ∨ i = 9 := by omega
              rcases this with rfl | rfl | rfl | rfl | rfl | rfl | rfl | rfl | rfl | rfl
              all_goals exact (blk_cell B1.out _).trans rfl
            have kf : wr.frozen? ⟨w.heap.size + 1, i, none⟩ = false := blk_frozen B1.out i
            have cib : decide ((i : Int) < 10) = true := decide_eq_true (by omega)
            have hw1 : (4 : Int) * (i : Int) ≤ 36 := by omega
            have hw2 : (i : Int) ≤ 9 := by omega
            have hw3 : (0 : Int) ≤ (i : Int) := Int.natCast_nonneg i
            clear hi
            go_wp2_with (go_at_call 34; refine (HCal.out _ _ (by repeat (first | exact Kd.C_below HR0.out HB.out | (with_reducible refine Kd.C_drewN ?_ _) | (with_reducible refine Kd.C_drew ?_)))).mono ?_; rintro e w' ⟨rfl, ⟨nd, rfl⟩⟩)
            go_roundg k1
            case measure => omega
            case rel => exact ⟨i + 1, by first | rfl | (simp; done) | (simp [*]; done), ⟨by have := HI.out; omega, by have := HI.out; omega⟩, ⟨(pw_below_drewN HB.out nd).setCell (by simp) _⟩, ⟨blk_far (blk_drewN B0.out nd) (by simp) _⟩, ⟨hdr_next i (by omega) (blk_drewN B1.out nd)⟩⟩
        · obtain rfl : i = 10 := by have := HI.out; omega
          obtain ⟨⟨d0, d1, d2, d3, d4, d5, d6, d7, d8, d9⟩, hd⟩ : ∃ d : Hdr, d = hdrOf l0 := ⟨_, rfl⟩
          have H1 := H.out
          rw [← hd] at H1
          have B1' : wr.heap[w.heap.size + 1]? = some (.cells #[.int .u32 d0, .int .u32 d1, .int .u32 d2, .int .u32 d3, .int .u32 d4, .int .u32 d5, .int .u32 d6, .int .u32 d7, .int .u32 d8, .int .u32 d9] 43 (0, 0)) := by
            have e := B1.out
            have e2 : hcells l0 10 = #[.int .u32 d0, .int .u32 d1, .int .u32 d2, .int .u32 d3, .int .u32 d4, .int .u32 d5, .int .u32 d6, .int .u32 d7, .int .u32 d8, .int .u32 d9] := by
              have e3 := congrArg (fun x : Hdr => #[Value.int .u32 x.c0, .int .u32 x.c1, .int .u32 x.c2, .int .u32 x.c3, .int .u32 x.c4, .int .u32 x.c5, .int .u32 x.c6, .int .u32 x.c7, .int .u32 x.c8, .int .u32 x.c9]) hd
              exact Eq.trans rfl e3.symm
            rw [e2] at e
            exact e
          have n4 : 0 ≤ d4 ∧ d4 < 4294967296 := by
            have e3 : d4 = cellAt l0 16 := congrArg Hdr.c4 hd
            have e4 := cellAt_range l0 16
            rw [e3]
            exact e4
          have n2 : 0 ≤ d2 ∧ d2 < 4294967296 := by
            have e3 : d2 = cellAt l0 8 := congrArg Hdr.c2 hd
            have e4 := cellAt_range l0 8
            rw [e3]
            exact e4
          have n1 : 0 ≤ d1 ∧ d1 < 4294967296 := by
            have e3 : d1 = cellAt l0 4 := congrArg Hdr.c1 hd
            have e4 := cellAt_range l0 4
            rw [e3]
            exact e4
          clear hd B1 H
          have B1 := Aside0.mk B1'
          clear B1'
          have H := Aside0.mk H1
          clear H1
          have m0 : wr.cell? ⟨w.heap.size + 1, 0, none⟩ = some (.int .u32 d0) := (blk_cell B1.out 0).trans rfl
          have m1 : wr.cell? ⟨w.heap.size + 1, 1, none⟩ = some (.int .u32 d1) := (blk_cell B1.out 1).trans rfl
          have m2 : wr.cell? ⟨w.heap.size + 1, 2, none⟩ = some (.int .u32 d2) := (blk_cell B1.out 2).trans rfl
          have m3 : wr.cell? ⟨w.heap.size + 1, 3, none⟩ = some (.int .u32 d3) := (blk_cell B1.out 3).trans rfl
          have m4 : wr.cell? ⟨w.heap.size + 1, 4, none⟩ = some (.int .u32 d4) := (blk_cell B1.out 4).trans rfl
          have m5 : wr.cell? ⟨w.heap.size + 1, 5, none⟩ = some (.int .u32 d5) := (blk_cell B1.out 5).trans rfl
          have m6 : wr.cell? ⟨w.heap.size + 1, 6, none⟩ = some (.int .u32 d6) := (blk_cell B1.out 6).trans rfl
          have m7 : wr.cell? ⟨w.heap.size + 1, 7, none⟩ = some (.int .u32 d7) := (blk_cell B1.out 7).trans rfl
          have m8 : wr.cell? ⟨w.heap.size + 1, 8, none⟩ = some (.int .u32 d8) := (blk_cell B1.out 8).trans rfl
          have m9 : wr.cell? ⟨w.heap.size + 1, 9, none⟩ = some (.int .u32 d9) := (blk_cell B1.out 9).trans rfl
          have z0 : wr.cell? ⟨w.heap.size, 0, none⟩ = some (.int .u32 0) := (blk_cell B0.out 0).trans rfl
          have f0 : wr.frozen? ⟨w.heap.size, 0, none⟩ = false := blk_frozen B0.out 0
          have z1 : wr.cell? ⟨w.heap.size, 1, none⟩ = some (.int .u32 0) := (blk_cell B0.out 1).trans rfl
          have f1 : wr.frozen? ⟨w.heap.size, 1, none⟩ = false := blk_frozen B0.out 1
          have z2 : wr.cell? ⟨w.heap.size, 2, none⟩ = some (.int .u32 0) := (blk_cell B0.out 2).trans rfl
          have f2 : wr.frozen? ⟨w.heap.size, 2, none⟩ = false := blk_frozen B0.out 2
          have z3 : wr.cell? ⟨w.heap.size, 3, none⟩ = some (.int .u32 0) := (blk_cell B0.out 3).trans rfl
          have f3 : wr.frozen? ⟨w.heap.size, 3, none⟩ = false := blk_frozen B0.out 3
          have z4 : wr.cell? ⟨w.heap.size, 4, none⟩ = some (.int .u32 0) := (blk_cell B0.out 4).trans rfl
          have f4 : wr.frozen? ⟨w.heap.size, 4, none⟩ = false := blk_frozen B0.out 4
          have z5 : wr.cell? ⟨w.heap.size, 5, none⟩ = some (.int .u32 0) := (blk_cell B0.out 5).trans rfl
          have f5 : wr.frozen? ⟨w.heap.size, 5, none⟩ = false := blk_frozen B0.out 5
          have z6 : wr.cell? ⟨w.heap.size, 6, none⟩ = some (.int .u32 0) := (blk_cell B0.out 6).trans rfl
          have f6 : wr.frozen? ⟨w.heap.size, 6, none⟩ = false := blk_frozen B0.out 6
          have z7 : wr.cell? ⟨w.heap.size, 7, none⟩ = some (.int .u32 0) := (blk_cell B0.out 7).trans rfl
          have f7 : wr.frozen? ⟨w.heap.size, 7, none⟩ = false := blk_frozen B0.out 7
          have z8 : wr.cell? ⟨w.heap.size, 8, none⟩ = some (.int .u32 0) := (blk_cell B0.out 8).trans rfl
          have f8 : wr.frozen? ⟨w.heap.size, 8, none⟩ = false := blk_frozen B0.out 8
          have z9 : wr.cell? ⟨w.heap.size, 9, none⟩ = some (.int .u32 0) := (blk_cell B0.out 9).trans rfl
          have f9 : wr.frozen? ⟨w.heap.size, 9, none⟩ = false := blk_frozen B0.out 9
          have hW := fun a s n W => decode_within.calls a s n (inB a s n) W (within_inB a s n)
          have HW := Aside0.mk hW
          clear hW
          simp only [hdrErr] at H
          by_cases t0 : d0 = 3490578157
          · have h := H.out
            rw [if_pos t0] at h
            clear H
            have H := Aside0.mk h
            clear h
            have t0b : (d0 != 3490578157) = false := bne_eq_false_iff_eq.mpr t0
            clear t0
            by_cases t5 : d5 = 17
            · have h := H.out
              rw [if_pos t5] at h
              clear H
              have H := Aside0.mk h
              clear h
              have t5b : (d5 != 17) = false := bne_eq_false_iff_eq.mpr t5
              clear t5
              by_cases t6 : d6 = 16
              · have h := H.out
                rw [if_pos t6] at h
                clear H
                have H := Aside0.mk h
                clear h
                have t6b : (d6 != 16) = false := bne_eq_false_iff_eq.mpr t6
                clear t6
                by_cases t1 : d1 = (l0.length : Int)
                · have h := H.out
                  rw [if_pos t1] at h
                  clear H
                  have H := Aside0.mk h
                  clear h
                  have t1b : (d1 != (l0.length : Int)) = false := bne_eq_false_iff_eq.mpr t1
                  clear t1
                  by_cases w2 : inB d2 d9 l0.length = true
                  · have h := H.out
                    rw [if_pos w2] at h
                    clear H
                    have H := Aside0.mk h
                    clear h
                    have w2b : (!inB d2 d9 l0.length) = false := by rw [w2]; rfl
                    by_cases w3 : inB d3 d8 l0.length = true
                    · have h := H.out
                      rw [if_pos w3] at h
                      clear H
                      have H := Aside0.mk h
                      clear h
                      have w3b : (!inB d3 d8 l0.length) = false := by rw [w3]; rfl
                      by_cases w4 : inB d4 0 l0.length = true
                      · have h := H.out
                        rw [if_pos w4] at h
                        clear H
                        have H := Aside0.mk h
                        clear h
                        have w4b : (!inB d4 0 l0.length) = false := by rw [w4]; rfl
                        by_cases r4 : d4 % 8 = 0
                        · have h := H.out
                          rw [if_pos r4] at h
                          clear H
                          have H := Aside0.mk h
                          clear h
                          have r4b : (d4 % 8 != 0) = false := bne_eq_false_iff_eq.mpr r4
                          clear r4
                          by_cases r2 : d2 % 4 = 0
                          · have h := H.out
                            rw [if_pos r2] at h
                            clear H
                            have H := Aside0.mk h
                            clear h
                            have r2b : (d2 % 4 != 0) = false := bne_eq_false_iff_eq.mpr r2
                            clear r2
                            have h := H.out
                            rw [if_pos rfl] at h
                            obtain ⟨rfl, rfl⟩ := Prod.mk.inj h
                            clear h
                            clear H
                            go_wp2_with (go_at_call 35; refine (HW.out _ _ _ _).mono ?_; rintro e w' ⟨rfl, ⟨nd, rfl⟩⟩)
                            exact bodyPost_ret (results_ct rfl _ _ w.heap.size 43 _ (0, 0) _ rfl (end10 (w := w) (by repeat (first | exact HB.out | apply pw_below_drewN)) (by repeat (first | exact B0.out | refine blk_drewN ?_ _)) _ _ _ _ _ _ _ _ _ _).2 Try.underlying43 rfl (by kernel_rfl)) rfl ⟨rfl, (end10 (w := w) (by repeat (first | exact HB.out | apply pw_below_drewN)) (by repeat (first | exact B0.out | refine blk_drewN ?_ _)) _ _ _ _ _ _ _ _ _ _).1⟩
                          · have h := H.out
                            rw [if_neg r2, if_neg (by decide)] at h
                            obtain ⟨rfl, rfl⟩ := Prod.mk.inj h
                            clear h
                            have r2b : (d2 % 4 != 0) = true := bne_iff_ne.mpr r2
                            clear H
                            go_wp2_with (go_at_call 35; refine (HW.out _ _ _ _).mono ?_; rintro e w' ⟨rfl, ⟨nd, rfl⟩⟩)
                            exact bodyPost_ret (results_ct rfl _ _ w.heap.size 43 _ (0, 0) _ rfl (end10 (w := w) (by repeat (first | exact HB.out | apply pw_below_drewN)) (by repeat (first | exact B0.out | refine blk_drewN ?_ _)) _ _ _ _ _ _ _ _ _ _).2 Try.underlying43 rfl (by kernel_rfl)) rfl ⟨rfl, (end10 (w := w) (by repeat (first | exact HB.out | apply pw_below_drewN)) (by repeat (first | exact B0.out | refine blk_drewN ?_ _)) _ _ _ _ _ _ _ _ _ _).1⟩
                        · have h := H.out
                          rw [if_neg r4, if_neg (by decide)] at h
                          obtain ⟨rfl, rfl⟩ := Prod.mk.inj h
                          clear h
                          have r4b : (d4 % 8 != 0) = true := bne_iff_ne.mpr r4
                          clear H
                          go_wp2_with (go_at_call 35; refine (HW.out _ _ _ _).mono ?_; rintro e w' ⟨rfl, ⟨nd, rfl⟩⟩)
                          exact bodyPost_ret (results_ct rfl _ _ w.heap.size 43 _ (0, 0) _ rfl (end10 (w := w) (by repeat (first | exact HB.out | apply pw_below_drewN)) (by repeat (first | exact B0.out | refine blk_drewN ?_ _)) _ _ _ _ _ _ _ _ _ _).2 Try.underlying43 rfl (by kernel_rfl)) rfl ⟨rfl, (end10 (w := w) (by repeat (first | exact HB.out | apply pw_below_drewN)) (by repeat (first | exact B0.out | refine blk_drewN ?_ _)) _ _ _ _ _ _ _ _ _ _).1⟩
                      · have h := H.out
                        rw [if_neg w4, if_neg (by decide)] at h
                        obtain ⟨rfl, rfl⟩ := Prod.mk.inj h
                        clear h
                        have w4f : inB d4 0 l0.length = false := by simpa using w4
                        have w4b : (!inB d4 0 l0.length) = true := by rw [w4f]; rfl
                        clear H
                        go_wp2_with (go_at_call 35; refine (HW.out _ _ _ _).mono ?_; rintro e w' ⟨rfl, ⟨nd, rfl⟩⟩)
                        exact bodyPost_ret (results_ct rfl _ _ w.heap.size 43 _ (0, 0) _ rfl (end10 (w := w) (by repeat (first | exact HB.out | apply pw_below_drewN)) (by repeat (first | exact B0.out | refine blk_drewN ?_ _)) _ _ _ _ _ _ _ _ _ _).2 Try.underlying43 rfl (by kernel_rfl)) rfl ⟨rfl, (end10 (w := w) (by repeat (first | exact HB.out | apply pw_below_drewN)) (by repeat (first | exact B0.out | refine blk_drewN ?_ _)) _ _ _ _ _ _ _ _ _ _).1⟩
                    · have h := H.out
                      rw [if_neg w3, if_neg (by decide)] at h
                      obtain ⟨rfl, rfl⟩ := Prod.mk.inj h
                      clear h
                      have w3f : inB d3 d8 l0.length = false := by simpa using w3
                      have w3b : (!inB d3 d8 l0.length) = true := by rw [w3f]; rfl
                      clear H
                      go_wp2_with (go_at_call 35; refine (HW.out _ _ _ _).mono ?_; rintro e w' ⟨rfl, ⟨nd, rfl⟩⟩)
                      exact bodyPost_ret (results_ct rfl _ _ w.heap.size 43 _ (0, 0) _ rfl (end10 (w := w) (by repeat (first | exact HB.out | apply pw_below_drewN)) (by repeat (first | exact B0.out | refine blk_drewN ?_ _)) _ _ _ _ _ _ _ _ _ _).2 Try.underlying43 rfl (by kernel_rfl)) rfl ⟨rfl, (end10 (w := w) (by repeat (first | exact HB.out | apply pw_below_drewN)) (by repeat (first | exact B0.out | refine blk_drewN ?_ _)) _ _ _ _ _ _ _ _ _ _).1⟩
                  · have h := H.out
                    rw [if_neg w2, if_neg (by decide)] at h
                    obtain ⟨rfl, rfl⟩ := Prod.mk.inj h
                    clear h
                    have w2f : inB d2 d9 l0.length = false := by simpa using w2
                    have w2b : (!inB d2 d9 l0.length) = true := by rw [w2f]; rfl
                    clear H
                    go_wp2_with (go_at_call 35; refine (HW.out _ _ _ _).mono ?_; rintro e w' ⟨rfl, ⟨nd, rfl⟩⟩)
                    exact bodyPost_ret (results_ct rfl _ _ w.heap.size 43 _ (0, 0) _ rfl (end10 (w := w) (by repeat (first | exact HB.out | apply pw_below_drewN)) (by repeat (first | exact B0.out | refine blk_drewN ?_ _)) _ _ _ _ _ _ _ _ _ _).2 Try.underlying43 rfl (by kernel_rfl)) rfl ⟨rfl, (end10 (w := w) (by repeat (first | exact HB.out | apply pw_below_drewN)) (by repeat (first | exact B0.out | refine blk_drewN ?_ _)) _ _ _ _ _ _ _ _ _ _).1⟩
                · have h := H.out
                  rw [if_neg t1, if_neg (by decide)] at h
                  obtain ⟨rfl, rfl⟩ := Prod.mk.inj h
                  clear h
                  have t1b : (d1 != (l0.length : Int)) = true := bne_iff_ne.mpr t1
                  clear H
                  go_wp2_with (go_at_call 35; refine (HW.out _ _ _ _).mono ?_; rintro e w' ⟨rfl, ⟨nd, rfl⟩⟩)
                  exact bodyPost_ret (results_ct rfl _ _ w.heap.size 43 _ (0, 0) _ rfl (end10 (w := w) (by repeat (first | exact HB.out | apply pw_below_drewN)) (by repeat (first | exact B0.out | refine blk_drewN ?_ _)) _ _ _ _ _ _ _ _ _ _).2 Try.underlying43 rfl (by kernel_rfl)) rfl ⟨rfl, (end10 (w := w) (by repeat (first | exact HB.out | apply pw_below_drewN)) (by repeat (first | exact B0.out | refine blk_drewN ?_ _)) _ _ _ _ _ _ _ _ _ _).1⟩
              · have h := H.out
                rw [if_neg t6, if_neg (by decide)] at h
                obtain ⟨rfl, rfl⟩ := Prod.mk.inj h
                clear h
                have t6b : (d6 != 16) = true := bne_iff_ne.mpr t6
                clear H
                go_wp2_with (go_at_call 35; refine (HW.out _ _ _ _).mono ?_; rintro e w' ⟨rfl, ⟨nd, rfl⟩⟩)
                exact bodyPost_ret (results_ct rfl _ _ w.heap.size 43 _ (0, 0) _ rfl (end10 (w := w) (by repeat (first | exact HB.out | apply pw_below_drewN)) (by repeat (first | exact B0.out | refine blk_drewN ?_ _)) _ _ _ _ _ _ _ _ _ _).2 Try.underlying43 rfl (by kernel_rfl)) rfl ⟨rfl, (end10 (w := w) (by repeat (first | exact HB.out | apply pw_below_drewN)) (by repeat (first | exact B0.out | refine blk_drewN ?_ _)) _ _ _ _ _ _ _ _ _ _).1⟩
            · have h := H.out
              rw [if_neg t5, if_neg (by decide)] at h
              obtain ⟨rfl, rfl⟩ := Prod.mk.inj h
              clear h
              have t5b : (d5 != 17) = true := bne_iff_ne.mpr t5
              clear H
              go_wp2_with (go_at_call 35; refine (HW.out _ _ _ _).mono ?_; rintro e w' ⟨rfl, ⟨nd, rfl⟩⟩)
              exact bodyPost_ret (results_ct rfl _ _ w.heap.size 43 _ (0, 0) _ rfl (end10 (w := w) (by repeat (first | exact HB.out | apply pw_below_drewN)) (by repeat (first | exact B0.out | refine blk_drewN ?_ _)) _ _ _ _ _ _ _ _ _ _).2 Try.underlying43 rfl (by kernel_rfl)) rfl ⟨rfl, (end10 (w := w) (by repeat (first | exact HB.out | apply pw_below_drewN)) (by repeat (first | exact B0.out | refine blk_drewN ?_ _)) _ _ _ _ _ _ _ _ _ _).1⟩
          · have h := H.out
            rw [if_neg t0, if_neg (by decide)] at h
            obtain ⟨rfl, rfl⟩ := Prod.mk.inj h
            clear h
            have t0b : (d0 != 3490578157) = true := bne_iff_ne.mpr t0
            clear H
            go_wp2_with (go_at_call 35; refine (HW.out _ _ _ _).mono ?_; rintro e w' ⟨rfl, ⟨nd, rfl⟩⟩)
            exact bodyPost_ret (results_ct rfl _ _ w.heap.size 43 _ (0, 0) _ rfl (end10 (w := w) (by repeat (first | exact HB.out | apply pw_below_drewN)) (by repeat (first | exact B0.out | refine blk_drewN ?_ _)) _ _ _ _ _ _ _ _ _ _).2 Try.underlying43 rfl (by kernel_rfl)) rfl ⟨rfl, (end10 (w := w) (by repeat (first | exact HB.out | apply pw_below_drewN)) (by repeat (first | exact B0.out | refine blk_drewN ?_ _)) _ _ _ _ _ _ _ _ _ _).1⟩
set_option maxRecDepth 100000 in
set_option maxHeartbeats 4000000 in
theorem decode_Decode.err (A0 : Option Addr) (c0 : Nat) (l0 : List Int) (e : Int) (w : World) (hr0 : Kd.C (Kd.int .u8) w A0 l0.length l0) (hc0 : l0.length ≤ c0) (h : decode_Header.f l0 = some (.zero, e)) (he : e ≠ 0) :
    Calls Try.prog 22 #[.slice A0 l0.length c0] w fun e' w' => e' = .returned (.tuple #[.agg #[.int .u32 0, .slice none 0 0, .string ⟨#[]⟩, .slice none 0 0, .slice none 0 0], .int .i64 e]) ∧ Below w.heap.size w w' := by
  have q := fun (W : World) hC => decode_Header.calls A0 c0 l0 .zero e W hC hc0 h
  have eb : (e != 0) = true := bne_iff_ne.mpr he
  have eb2 : (e == 0) = false := beq_eq_false_iff_ne.mpr he
  have HR0 := Aside0.mk hr0
  have Q := Aside0.mk q
  clear q h hr0 he
  go_enter Try.func22, Try.ntmps22
  go_wp2_with (go_at_call 17; refine (Q.out _ (Kd.C_below HR0.out (below_alloc (Below.refl _ _) _))).mono ?_; simp only [Hdr.val, Hdr.zero]; rintro e w' ⟨rfl, hb⟩; have HB := Aside0.mk hb; have HK := Aside0.mk (blk_below (blk_new w (.cells #[.int .u32 0, .slice none 0 0, .string ⟨#[]⟩, .slice none 0 0, .slice none 0 0] 29 (0, 0))) hb); have z0 : w'.cell? ⟨w.heap.size, 0, none⟩ = some (.int .u32 0) := (blk_cell HK.out 0).trans rfl; have f0 : w'.frozen? ⟨w.heap.size, 0, none⟩ = false := blk_frozen HK.out 0; have z1 : w'.cell? ⟨w.heap.size, 1, none⟩ = some (.slice none 0 0) := (blk_cell HK.out 1).trans rfl; have f1 : w'.frozen? ⟨w.heap.size, 1, none⟩ = false := blk_frozen HK.out 1; have z2 : w'.cell? ⟨w.heap.size, 2, none⟩ = some (.string ⟨#[]⟩) := (blk_cell HK.out 2).trans rfl; have f2 : w'.frozen? ⟨w.heap.size, 2, none⟩ = false := blk_frozen HK.out 2; have z3 : w'.cell? ⟨w.heap.size, 3, none⟩ = some (.slice none 0 0) := (blk_cell HK.out 3).trans rfl; have f3 : w'.frozen? ⟨w.heap.size, 3, none⟩ = false := blk_frozen HK.out 3; have z4 : w'.cell? ⟨w.heap.size, 4, none⟩ = some (.slice none 0 0) := (blk_cell HK.out 4).trans rfl; have f4 : w'.frozen? ⟨w.heap.size, 4, none⟩ = false := blk_frozen HK.out 4; have hlt : w.heap.size < w'.heap.size := blk_lt HK.out; clear hb)
  refine bodyPost_ret (results_ct rfl _ _ w.heap.size 29 #[.int .u32 0, .slice none 0 0, .string ⟨#[]⟩, .slice none 0 0, .slice none 0 0] (0, 0) _ rfl (by refine blk_alloc ?_ _; refine blk_put (cs := #[.int .u32 0, .slice none 0 0, .string ⟨#[]⟩, .slice none 0 0, .slice none 0 0]) ?_ 4 _ rfl; refine blk_put (cs := #[.int .u32 0, .slice none 0 0, .string ⟨#[]⟩, .slice none 0 0, .slice none 0 0]) ?_ 3 _ rfl; refine blk_put (cs := #[.int .u32 0, .slice none 0 0, .string ⟨#[]⟩, .slice none 0 0, .slice none 0 0]) ?_ 2 _ rfl; refine blk_put (cs := #[.int .u32 0, .slice none 0 0, .string ⟨#[]⟩, .slice none 0 0, .slice none 0 0]) ?_ 1 _ rfl; refine blk_put (cs := #[.int .u32 0, .slice none 0 0, .string ⟨#[]⟩, .slice none 0 0, .slice none 0 0]) ?_ 0 _ rfl; exact HK.out) Try.underlying29 rfl (by kernel_rfl)) rfl ⟨rfl, ?_⟩
  exact below_alloc ((((((below_step (below_alloc (Below.refl _ _) _) HB.out).setCell (Nat.le_refl _) _).setCell (Nat.le_refl _) _).setCell (Nat.le_refl _) _).setCell (Nat.le_refl _) _).setCell (Nat.le_refl _) _) _
theorem header_nil : decode_Header.f [] = some (.zero, 4) := rfl
set_option maxRecDepth 100000 in
theorem awake04 (w : World) : Calls Try.prog 15 #[] w fun e w' => e = .returned (.bool true) ∧ Below w.heap.size w w' := by
  have q := fun W : World => decode_Decode.err none 0 [] 4 W (Kd.C_nil _ _) (Nat.le_refl _) header_nil (by decide)
  simp only [List.length_nil] at q
  go_enter Try.func15, Try.ntmps15
  go_wp2_with (go_at_call 22; refine (q _).mono ?_; rintro e w' ⟨rfl, hb⟩; have HB := Aside0.mk hb; clear hb)
  go_ret
  exact ⟨rfl, below_alloc HB.out _⟩
def cellB (v : Int) : List Int := [v / 16777216 % 256, v / 65536 % 256, v / 256 % 256, v % 256]
theorem cellB_length (v : Int) : (cellB v).length = 4 := rfl
theorem u64_small {x : Int} (h0 : 0 ≤ x) (h1 : x < 18446744073709551616) : IntKind.u64.wrap x = x := by
  simp only [IntKind.wrap, IntKind.bits, IntKind.signed]
  simp
  omega
theorem bytes_four (v : Int) (h0 : 0 ≤ v) (h1 : v < 18446744073709551616) : arboretref01_Bytes.f 5 v 4 = some (cellB v) := by
  have d : ∀ x : Int, 0 ≤ x → x < 18446744073709551616 → IntKind.u64.wrap (x.tdiv 256) = x / 256 := fun x h h' => by
    rw [Int.tdiv_eq_ediv_of_nonneg h, u64_small (by omega) (by omega)]
  have m : ∀ x : Int, 0 ≤ x → x.tmod 256 % 256 = x % 256 := fun x h => by
    rw [Int.tmod_eq_emod_of_nonneg h]; omega
  have w3 : wrap64 (4 - 1) = 3 := by unfold wrap64; omega
  have w2 : wrap64 (3 - 1) = 2 := by unfold wrap64; omega
  have w1 : wrap64 (2 - 1) = 1 := by unfold wrap64; omega
  have w0 : wrap64 (1 - 1) = 0 := by unfold wrap64; omega
  have wm : wrap64 (0 - 1) = -1 := by unfold wrap64; omega
  have e1 : v / 256 / 256 = v / 65536 := by omega
  have e2 : v / 65536 / 256 = v / 16777216 := by omega
  unfold arboretref01_Bytes.f
  rw [if_pos (by decide), if_pos (by decide), w3]
  have l4 : (List.replicate (4 : Int).toNat (0 : Int)) = [0, 0, 0, 0] := rfl
  rw [l4]
  simp only [arboretref01_Bytes.l0]
  rw [if_pos (by decide), if_pos (by decide), if_pos (by decide), w2, d v h0 h1, m v h0]
  rw [if_pos (by decide), if_pos (by decide), if_pos (by simp), w1, d _ (by omega) (by omega), m _ (by omega), e1]
  rw [if_pos (by decide), if_pos (by decide), if_pos (by simp), w0, d _ (by omega) (by omega), m _ (by omega), e2]
  rw [if_pos (by decide), if_pos (by decide), if_pos (by simp), wm, m _ (by omega)]
  rw [if_neg (by decide)]
  rfl
theorem or_byte {x y : Int} (hx : 0 ≤ x) (hx1 : x < 72057594037927936) (hy : 0 ≤ y) (hy1 : y ≤ 255) : Go.bits .or .u64 (IntKind.u64.wrap (x * 256)) (IntKind.u64.wrap y) = x * 256 + y := by
  rw [u64_small (by omega) (by omega), u64_small hy (by omega)]
  exact Go.bits_join .u64 64 (by decide) (fun n h0 h1 => u64_small h0 (by simpa using h1)) 8 (x * 256) y (by omega) (by simp only [Int.reducePow]; omega) (by simp only [Int.reducePow]; omega) hy (by simp only [Int.reducePow]; omega) (by simp only [Int.reducePow]; omega)
theorem numb_four (a b c d : Int) (ha : 0 ≤ a ∧ a ≤ 255) (hb : 0 ≤ b ∧ b ≤ 255) (hc : 0 ≤ c ∧ c ≤ 255) (hd : 0 ≤ d ∧ d ≤ 255) : numb [a, b, c, d] = a * 16777216 + b * 65536 + c * 256 + d := by
  unfold numb
  simp only [List.foldl_cons, List.foldl_nil]
  rw [or_byte (x := 0) (by omega) (by omega) ha.1 ha.2]
  rw [or_byte (by omega) (by omega) hb.1 hb.2, or_byte (by omega) (by omega) hc.1 hc.2, or_byte (by omega) (by omega) hd.1 hd.2]
  omega
theorem numb_cellB (v : Int) (h0 : 0 ≤ v) (h1 : v < 4294967296) : numb (cellB v) = v := by
  unfold cellB
  rw [numb_four _ _ _ _ (by omega) (by omega) (by omega) (by omega)]
  omega
theorem cellAt_mid (p q : List Int) (v : Int) (h0 : 0 ≤ v) (h1 : v < 4294967296) : words_Get.f (p ++ cellB v ++ q) (p.length : Int) = some (v, true) := by
  unfold words_Get.f
  rw [if_pos ⟨Int.natCast_nonneg _, by simp only [List.length_append, cellB_length]; omega⟩]
  have e : (((p ++ cellB v ++ q).take ((p.length : Int) + 4).toNat).drop (p.length : Int).toNat) = cellB v := by
    have e1 : ((p.length : Int) + 4).toNat = (p ++ cellB v).length := by rw [List.length_append, cellB_length]; omega
    rw [e1, List.take_left, Int.toNat_natCast, List.drop_left]
  rw [e, numb_cellB v h0 h1]
  have : v % 4294967296 = v := by omega
  rw [this]
def Hdr.cells (h : Hdr) : List Int := [h.c0, h.c1, h.c2, h.c3, h.c4, h.c5, h.c6, h.c7, h.c8, h.c9]
def Hdr.good (h : Hdr) : Prop := ∀ c ∈ h.cells, 0 ≤ c ∧ c < 4294967296
def hbytes (h : Hdr) (i : Nat) : List Int := (h.cells.take i).flatMap cellB
theorem hbytes_length (h : Hdr) (i : Nat) (hi : i ≤ 10) : (hbytes h i).length = 4 * i := by
  unfold hbytes
  rw [List.length_flatMap]
  have : (h.cells.take i).map (fun a => (cellB a).length) = List.replicate i 4 := by
    rw [show (fun a => (cellB a).length) = (fun _ => 4) from rfl, List.map_const', List.length_take]
    have : h.cells.length = 10 := rfl
    rw [this, Nat.min_eq_left hi]
  rw [this]
  have sr : ∀ n : Nat, (List.replicate n 4).sum = 4 * n := by
    intro n
    induction n with
    | zero => rfl
    | succ n ih => rw [List.replicate_succ, List.sum_cons, ih]; omega
  exact sr i
theorem hbytes_next (h : Hdr) (i : Nat) (hi : i < 10) : hbytes h (i + 1) = hbytes h i ++ cellB (h.cells.getD i 0) := by
  have hl : i < h.cells.length := hi
  unfold hbytes
  rw [List.take_succ_eq_append_getElem hl, List.flatMap_append, List.getD_eq_getElem?_getD, List.getElem?_eq_getElem hl]
  simp
theorem hbytes_split (h : Hdr) (i : Nat) (hi : i < 10) (z : List Int) : ∃ q, hbytes h 10 ++ z = hbytes h i ++ cellB (h.cells.getD i 0) ++ q := by
  refine ⟨(h.cells.drop (i + 1)).flatMap cellB ++ z, ?_⟩
  rw [← hbytes_next h i hi]
  unfold hbytes
  have e : h.cells.take 10 = h.cells := by rfl
  rw [e, ← List.append_assoc, ← List.flatMap_append, List.take_append_drop]
theorem hdr_at (h : Hdr) (hg : h.good) (z : List Int) (i : Nat) (hi : i < 10) : cellAt (hbytes h 10 ++ z) (4 * (i : Int)) = h.cells.getD i 0 := by
  obtain ⟨q, hq⟩ := hbytes_split h i hi z
  have hl : i < h.cells.length := hi
  have hm : h.cells.getD i 0 ∈ h.cells := by rw [List.getD_eq_getElem?_getD, List.getElem?_eq_getElem hl]; exact List.getElem_mem hl
  have h1 := cellAt_mid (hbytes h i) q (h.cells.getD i 0) (hg _ hm).1 (hg _ hm).2
  rw [← hq, hbytes_length h i (by omega)] at h1
  unfold cellAt
  rw [show (4 * (i : Int)) = ((4 * i : Nat) : Int) by omega, h1]
  rfl
theorem hdr_of (h : Hdr) (hg : h.good) (z : List Int) : hdrOf (hbytes h 10 ++ z) = h := by
  have e := hdr_at h hg z
  obtain ⟨c0, c1, c2, c3, c4, c5, c6, c7, c8, c9⟩ := h
  unfold hdrOf
  have e0 := e 0 (by decide)
  have e1 := e 1 (by decide)
  have e2 := e 2 (by decide)
  have e3 := e 3 (by decide)
  have e4 := e 4 (by decide)
  have e5 := e 5 (by decide)
  have e6 := e 6 (by decide)
  have e7 := e 7 (by decide)
  have e8 := e 8 (by decide)
  have e9 := e 9 (by decide)
  simp only [Hdr.cells] at e0 e1 e2 e3 e4 e5 e6 e7 e8 e9
  rw [show cellAt _ 0 = _ from e0, show cellAt _ 4 = _ from e1, show cellAt _ 8 = _ from e2, show cellAt _ 12 = _ from e3, show cellAt _ 16 = _ from e4, show cellAt _ 20 = _ from e5, show cellAt _ 24 = _ from e6, show cellAt _ 28 = _ from e7, show cellAt _ 32 = _ from e8, show cellAt _ 36 = _ from e9]
  rfl
def inC (a s n : Int) : Bool := if a ≥ 40 then decide ((IntKind.u64.wrap ((IntKind.u64.wrap a) + (IntKind.u64.wrap s))) ≤ n) else false
theorem inside_inC (a s n : Int) : arboretlaw04_inside.f a s n = some (inC a s n) := by
  unfold arboretlaw04_inside.f inC
  split <;> rfl
theorem eq_self (W : World) (cs : List Int) (hl : cs.length = 10) : (Op.equalIn 10000 43 (.agg (cs.map (Value.int .u32)).toArray) (.agg (cs.map (Value.int .u32)).toArray)).run Try.prog W = .ok true W := by
  have hinfo : (Try.prog.info? 22).map (fun i => (i.zero, i.size, i.bytes)) = some (some (.int .u32 0), 1, 4) := by kernel_rfl
  obtain ⟨i0, hi, _⟩ := info_parts hinfo
  rw [run_equalIn_array W 9999 (e := 22) (n := 10) (i := i0) _ _ Try.underlying43 hi, show Try.prog.cellsOf 22 = 1 from by kernel_rfl]
  have hr : ∀ i ∈ List.range 10, i < 10 := fun i h => List.mem_range.mp h
  generalize List.range 10 = is at hr ⊢
  induction is with
  | nil => simp [Op.eqItems]
  | cons i is ih =>
    have hi : i < cs.length := by rw [hl]; exact hr i List.mem_cons_self
    have px : (part 22 (cs.map (Value.int .u32)).toArray (i * 1)).run Try.prog W = .ok (.int .u32 (cs.getD i 0)) W := by
      simp [part, isAgg, run_underlying Try.underlying22, List.getD, List.getElem?_eq_getElem hi]
    have pe : (Op.equalIn 9999 22 (.int .u32 (cs.getD i 0)) (.int .u32 (cs.getD i 0))).run Try.prog W = .ok true W := by
      rw [run_equalIn_int W 9998 22 .u32 .u32 _ _ Try.underlying22]
      simp
    simp only [Op.eqItems, Sem.run_bind, px, pe, Result.andThen_ok]
    simpa using ih (fun j hj => hr j (List.mem_cons_of_mem _ hj))
theorem header_of (h : Hdr) (hg : h.good) (m : Nat) (hm : m ≤ 65535) : decode_Header.f (hbytes h 10 ++ List.replicate m 0) = some (if hdrErr h ((40 + m : Nat) : Int) = 0 then h else .zero, hdrErr h ((40 + m : Nat) : Int)) := by
  have hl : (hbytes h 10 ++ List.replicate m 0).length = 40 + m := by rw [List.length_append, hbytes_length h 10 (by decide), List.length_replicate]
  unfold decode_Header.f
  rw [hdr_of h hg, hl, if_neg (by omega), if_neg (by omega)]
  split
  · next h0 => rw [h0]
  · rfl
set_option maxRecDepth 100000 in
set_option maxHeartbeats 8000000 in
theorem arboretlaw04_DecodeHeaders.calls (h : Hdr) (m : Int) (w : World) (hg : h.good) (hm : 0 ≤ m ∧ m ≤ 65535) :
    Calls Try.prog 4 #[h.val, .int .u16 m] w fun e w' => e = .returned (.bool true) ∧ Below w.heap.size w w' := by
  have q0 := fun W => awake04 W
  have HB0 := Aside0.mk (Below.refl w.heap.size w)
  have HG := Aside0.mk hg
  have HBK := Aside0.mk (blk_new w (.cells (h.cells.map (Value.int .u32)).toArray 43 (0, 0)))
  have m0 := hm.1
  have m1 := hm.2
  have Q := Aside0.mk q0
  clear hm hg q0
  simp only [Hdr.val]
  go_enter Try.func4, Try.ntmps4
  go_wp2_with (go_at_call 15; refine (Q.out _).mono ?_; rintro e w1 ⟨rfl, hb⟩; have HB1 := Aside0.mk (below_step (below_alloc (Below.refl w.heap.size w) _) hb); have BK1 := Aside0.mk (blk_below (blk_new w _) hb); clear hb HB0 HBK)
  go_loopg [5, 12] 11 (fun kq v5 v12 w' => ∃ i : Nat, v12 = .int .i64 (i : Int) ∧ Aside0 (i + kq = 11 ∧ i ≤ 10) ∧ Aside0 (Kd.R (Kd.int .u8) 5 w' w.heap.size (fun _ => True) v5 (hbytes h i)) ∧ Aside0 (Below w.heap.size w w') ∧ Aside0 (w'.heap[w.heap.size]? = some (.cells #[.int .u32 h.c0, .int .u32 h.c1, .int .u32 h.c2, .int .u32 h.c3, .int .u32 h.c4, .int .u32 h.c5, .int .u32 h.c6, .int .u32 h.c7, .int .u32 h.c8, .int .u32 h.c9] 43 (0, 0))))
  case atStart => exact ⟨0, rfl, ⟨by decide, by decide⟩, ⟨Kd.R_nil _ _ _ _ _⟩, HB1, BK1⟩
  case round =>
    clear HB1 BK1
    obtain ⟨i, rfl, HI, HO, HB, BK⟩ := hrel
    by_cases ci : i < 10
    · obtain ⟨c, hc⟩ : ∃ c, c = h.cells.getD i 0 := ⟨_, rfl⟩
      have k0 : wr.cell? ⟨w.heap.size, i, none⟩ = some (.int .u32 c) := by
        have : i = 0 ∨ i = 1 ∨ i = 2 ∨ i = 3 ∨ i = 4 ∨ i = 5 ∨ i = 6 ∨ i = 7 ∨ i = 8 ∨ i = 9 := by omega
        rw [hc]
        rcases this with rfl | rfl | rfl | rfl | rfl | rfl | rfl | rfl | rfl | rfl
        all_goals exact (blk_cell BK.out _).trans rfl
      have hcr : 0 ≤ c ∧ c < 4294967296 := by
        have hl : i < h.cells.length := ci
        refine HG.out c ?_
        rw [hc, List.getD_eq_getElem?_getD, List.getElem?_eq_getElem hl]
        exact List.getElem_mem hl
      have hn := hbytes_next h i ci
      rw [← hc] at hn
      have HN := Aside0.mk hn
      have HL := Aside0.mk (hbytes_length h i (by omega))
      have cib : decide ((i : Int) < 10) = true := decide_eq_true (by omega)
      have hw2 : (i : Int) ≤ 9 := by omega
      have hw3 : (0 : Int) ≤ (i : Int) := Int.natCast_nonneg i
      have hw4 : IntKind.u64.wrap c = c := u64_small hcr.1 (by omega)
      have HBY := Aside0.mk (bytes_four c hcr.1 (by omega))
      clear hn hc hcr
      cases gk with
      | zero => have := HI.out; omega
      | succ k1 =>
        go_wp2_with (first | (go_at_call 16; refine (arboretref01_Bytes.calls 5 c 4 (cellB c) _ HBY.out).mono ?_; rintro e w2 ⟨vb, rfl, ho, hb⟩; obtain ⟨Ab, cb, rfl, hlb, hCb⟩ := Kd.R_reads ho; have HCB := Aside0.mk hCb; have HO2 := Aside0.mk (Kd.R_below HO.out hb); have HB2 := Aside0.mk (below_step HB.out hb); have BK2 := Aside0.mk (blk_below BK.out hb); clear hCb hlb ho hb) | (at_builtin; refine Kd.R_append_rows (Kd.int .u8) (w0 := w) w.heap.size rfl (.tmp 15) (.tmp 20) 45 5 (.int .u8 0) 1 rfl Try.underlying45 info5 rfl (by decide) (by omega) u5 (hbytes h i) (cellB c) _ _ _ (fun _ => True) (fun _ => False) rfl rfl HO2.out HCB.out (fun _ _ h => h) (fun _ h => h.elim) (fun _ _ => trivial) HB2.out HB2.out.size (by rw [HL.out]; simp only [cellB_length]; omega) ?_; intro v1 w3 ho hb hg hat; have HO3 := Aside0.mk ho; have HB3 := Aside0.mk hb; have BK3 := Aside0.mk (blk_grown BK2.out hg (Kd.R_ne HO2.out BK2.out (by decide))); clear ho hb hg hat))
        go_roundg k1
        case measure => omega
        case rel => exact ⟨i + 1, by first | rfl | (simp; done) | (simp [*]; done), ⟨by have := HI.out; omega, by have := HI.out; omega⟩, ⟨by rw [HN.out]; exact HO3.out⟩, HB3, BK3⟩
    · obtain rfl : i = 10 := by have := HI.out; omega
      clear HI ci
      obtain ⟨n, rfl⟩ : ∃ n : Nat, m = (n : Int) := ⟨m.toNat, by omega⟩
      have HL := Aside0.mk (hbytes_length h 10 (by omega))
      obtain ⟨bs, hbs⟩ : ∃ bs, bs = hbytes h 10 ++ List.replicate n 0 := ⟨_, rfl⟩
      have hN : bs.length = 40 + n := by rw [hbs, List.length_append, List.length_replicate, HL.out]
      have hH := header_of h HG.out n (by omega)
      rw [← hbs, ← hN] at hH
      obtain ⟨E, hE⟩ : ∃ E, E = hdrErr h (bs.length : Int) := ⟨_, rfl⟩
      rw [← hE] at hH
      obtain ⟨x, hx⟩ : ∃ x : Hdr, x = if E = 0 then h else .zero := ⟨_, rfl⟩
      rw [← hx] at hH
      have HNN := Aside0.mk hN
      have HH := Aside0.mk hH
      have HE := Aside0.mk hE
      have HX := Aside0.mk hx
      have HBS := Aside0.mk hbs
      clear hN hH hE hx hbs
      have hwN : IntKind.u64.wrap (bs.length : Int) = (bs.length : Int) := u64_small (by omega) (by rw [HNN.out]; omega)
      have g1 := HG.out h.c1 (by simp [Hdr.cells])
      have g2 := HG.out h.c2 (by simp [Hdr.cells])
      have g4 := HG.out h.c4 (by simp [Hdr.cells])
      have hw1 : IntKind.u64.wrap h.c1 = h.c1 := u64_small g1.1 (by omega)
      have HWN := Aside0.mk hwN
      have heq := fun W => eq_self W h.cells rfl
      simp only [Hdr.cells, List.map_cons, List.map_nil] at heq
      clear hwN
      have HW := Aside0.mk (fun a s n W => arboretlaw04_inside.calls a s n (inC a s n) W (inside_inC a s n))
      have hE := HE.out
      simp only [hdrErr] at hE
      clear HE
      have HE := Aside0.mk hE
      clear hE
      by_cases t0 : h.c0 = 3490578157
      · have hE := HE.out
        rw [if_pos t0] at hE
        clear HE
        have HE := Aside0.mk hE
        clear hE
        have t0b : (h.c0 != 3490578157) = false := bne_eq_false_iff_eq.mpr t0
        clear t0
        by_cases t5 : h.c5 = 17
        · have hE := HE.out
          rw [if_pos t5] at hE
          clear HE
          have HE := Aside0.mk hE
          clear hE
          have t5b : (h.c5 != 17) = false := bne_eq_false_iff_eq.mpr t5
          clear t5
          by_cases t6 : h.c6 = 16
          · have hE := HE.out
            rw [if_pos t6] at hE
            clear HE
            have HE := Aside0.mk hE
            clear hE
            have t6b : (h.c6 != 16) = false := bne_eq_false_iff_eq.mpr t6
            clear t6
            by_cases t1 : h.c1 = (bs.length : Int)
            · have hE := HE.out
              rw [if_pos t1] at hE
              clear HE
              have HE := Aside0.mk hE
              clear hE
              have t1b : (h.c1 != IntKind.u64.wrap (bs.length : Int)) = false := bne_eq_false_iff_eq.mpr (t1.trans HWN.out.symm)
              clear t1
              by_cases w2 : inB h.c2 h.c9 bs.length = true
              · have hE := HE.out
                rw [if_pos w2] at hE
                clear HE
                have HE := Aside0.mk hE
                clear hE
                have w2b : (!inC h.c2 h.c9 (IntKind.u64.wrap (bs.length : Int))) = false := by rw [show inC h.c2 h.c9 (IntKind.u64.wrap (bs.length : Int)) = true from w2]; rfl
                clear w2
                by_cases w3 : inB h.c3 h.c8 bs.length = true
                · have hE := HE.out
                  rw [if_pos w3] at hE
                  clear HE
                  have HE := Aside0.mk hE
                  clear hE
                  have w3b : (!inC h.c3 h.c8 (IntKind.u64.wrap (bs.length : Int))) = false := by rw [show inC h.c3 h.c8 (IntKind.u64.wrap (bs.length : Int)) = true from w3]; rfl
                  clear w3
                  by_cases w4 : inB h.c4 0 bs.length = true
                  · have hE := HE.out
                    rw [if_pos w4] at hE
                    clear HE
                    have HE := Aside0.mk hE
                    clear hE
                    have w4b : (!inC h.c4 0 (IntKind.u64.wrap (bs.length : Int))) = false := by rw [show inC h.c4 0 (IntKind.u64.wrap (bs.length : Int)) = true from w4]; rfl
                    clear w4
                    by_cases r4 : h.c4 % 8 = 0
                    · have hE := HE.out
                      rw [if_pos r4] at hE
                      clear HE
                      have HE := Aside0.mk hE
                      clear hE
                      have r4b : (h.c4 % 8 != 0) = false := bne_eq_false_iff_eq.mpr r4
                      clear r4
                      by_cases r2 : h.c2 % 4 = 0
                      · have hE := HE.out
                        rw [if_pos r2] at hE
                        clear HE
                        have HE := Aside0.mk hE
                        clear hE
                        have r2b : (h.c2 % 4 != 0) = false := bne_eq_false_iff_eq.mpr r2
                        clear r2
                        have hE := HE.out
                        subst hE
                        have hx := HX.out
                        rw [if_pos rfl] at hx
                        replace hx := hx.symm
                        subst hx
                        clear HE HX
                        go_wp2_with (first | (at_builtin; refine Kd.R_append_zeros (Kd.int .u8) (w0 := w) w.heap.size rfl (.tmp 23) (.tmp 25) 45 3 5 (.int .u8 0) 1 rfl Try.underlying45 Try.underlying3 info5 rfl (by decide) (by omega) u5 (hbytes h 10) 0 (n : Int) (fun _ => True) rfl rfl rfl (fun _ _ => trivial) HO.out (Int.natCast_nonneg n) HB.out HB.out.size (by rw [HL.out]; omega) ?_; intro v1 w3 ho hb hg hat; rw [Int.toNat_natCast, ← HBS.out] at ho; have HB3 := Aside0.mk hb; have BK3 := Aside0.mk (blk_grown BK.out hg (Kd.R_ne HO.out BK.out (by decide))); obtain ⟨Ab, cb, rfl, hlb, hCb⟩ := Kd.R_reads ho; have HCB := Aside0.mk hCb; have HLB := Aside0.mk hlb; clear ho hb hg hat hCb hlb) | (go_at_call 17; refine (decode_Header.calls Ab cb bs _ _ _ HCB.out HLB.out HH.out).mono ?_; simp only [Hdr.val]; rintro e w4 ⟨rfl, hb⟩; have HB4 := Aside0.mk (below_step HB3.out hb); have BK4 := Aside0.mk (blk_below BK3.out hb); clear hb; have m0_ : w4.cell? ⟨w.heap.size, 0, none⟩ = some (.int .u32 h.c0) := (blk_cell BK4.out 0).trans rfl; have m1_ : w4.cell? ⟨w.heap.size, 1, none⟩ = some (.int .u32 h.c1) := (blk_cell BK4.out 1).trans rfl; have m2_ : w4.cell? ⟨w.heap.size, 2, none⟩ = some (.int .u32 h.c2) := (blk_cell BK4.out 2).trans rfl; have m3_ : w4.cell? ⟨w.heap.size, 3, none⟩ = some (.int .u32 h.c3) := (blk_cell BK4.out 3).trans rfl; have m4_ : w4.cell? ⟨w.heap.size, 4, none⟩ = some (.int .u32 h.c4) := (blk_cell BK4.out 4).trans rfl; have m5_ : w4.cell? ⟨w.heap.size, 5, none⟩ = some (.int .u32 h.c5) := (blk_cell BK4.out 5).trans rfl; have m6_ : w4.cell? ⟨w.heap.size, 6, none⟩ = some (.int .u32 h.c6) := (blk_cell BK4.out 6).trans rfl; have m7_ : w4.cell? ⟨w.heap.size, 7, none⟩ = some (.int .u32 h.c7) := (blk_cell BK4.out 7).trans rfl; have m8_ : w4.cell? ⟨w.heap.size, 8, none⟩ = some (.int .u32 h.c8) := (blk_cell BK4.out 8).trans rfl; have m9_ : w4.cell? ⟨w.heap.size, 9, none⟩ = some (.int .u32 h.c9) := (blk_cell BK4.out 9).trans rfl; have hlt : w.heap.size < w4.heap.size := blk_lt BK4.out) | (go_at_call 18; refine (HW.out _ _ _ _).mono ?_; rintro e w5 ⟨rfl, ⟨nd, rfl⟩⟩))
                        (go_ret; exact ⟨by first | rfl | (simp; done), by repeat (first | exact HB4.out | apply pw_below_drewN | (with_reducible refine below_alloc ?_ _))⟩)
                      · have hE := HE.out
                        rw [if_neg r2] at hE
                        subst hE
                        have r2b : (h.c2 % 4 != 0) = true := bne_iff_ne.mpr r2
                        clear r2
                        go_wp2_with (first | (at_builtin; refine Kd.R_append_zeros (Kd.int .u8) (w0 := w) w.heap.size rfl (.tmp 23) (.tmp 25) 45 3 5 (.int .u8 0) 1 rfl Try.underlying45 Try.underlying3 info5 rfl (by decide) (by omega) u5 (hbytes h 10) 0 (n : Int) (fun _ => True) rfl rfl rfl (fun _ _ => trivial) HO.out (Int.natCast_nonneg n) HB.out HB.out.size (by rw [HL.out]; omega) ?_; intro v1 w3 ho hb hg hat; rw [Int.toNat_natCast, ← HBS.out] at ho; have HB3 := Aside0.mk hb; have BK3 := Aside0.mk (blk_grown BK.out hg (Kd.R_ne HO.out BK.out (by decide))); obtain ⟨Ab, cb, rfl, hlb, hCb⟩ := Kd.R_reads ho; have HCB := Aside0.mk hCb; have HLB := Aside0.mk hlb; clear ho hb hg hat hCb hlb) | (go_at_call 17; refine (decode_Header.calls Ab cb bs _ _ _ HCB.out HLB.out HH.out).mono ?_; simp only [Hdr.val]; rintro e w4 ⟨rfl, hb⟩; have HB4 := Aside0.mk (below_step HB3.out hb); have BK4 := Aside0.mk (blk_below BK3.out hb); clear hb; have m0_ : w4.cell? ⟨w.heap.size, 0, none⟩ = some (.int .u32 h.c0) := (blk_cell BK4.out 0).trans rfl; have m1_ : w4.cell? ⟨w.heap.size, 1, none⟩ = some (.int .u32 h.c1) := (blk_cell BK4.out 1).trans rfl; have m2_ : w4.cell? ⟨w.heap.size, 2, none⟩ = some (.int .u32 h.c2) := (blk_cell BK4.out 2).trans rfl; have m3_ : w4.cell? ⟨w.heap.size, 3, none⟩ = some (.int .u32 h.c3) := (blk_cell BK4.out 3).trans rfl; have m4_ : w4.cell? ⟨w.heap.size, 4, none⟩ = some (.int .u32 h.c4) := (blk_cell BK4.out 4).trans rfl; have m5_ : w4.cell? ⟨w.heap.size, 5, none⟩ = some (.int .u32 h.c5) := (blk_cell BK4.out 5).trans rfl; have m6_ : w4.cell? ⟨w.heap.size, 6, none⟩ = some (.int .u32 h.c6) := (blk_cell BK4.out 6).trans rfl; have m7_ : w4.cell? ⟨w.heap.size, 7, none⟩ = some (.int .u32 h.c7) := (blk_cell BK4.out 7).trans rfl; have m8_ : w4.cell? ⟨w.heap.size, 8, none⟩ = some (.int .u32 h.c8) := (blk_cell BK4.out 8).trans rfl; have m9_ : w4.cell? ⟨w.heap.size, 9, none⟩ = some (.int .u32 h.c9) := (blk_cell BK4.out 9).trans rfl; have hlt : w.heap.size < w4.heap.size := blk_lt BK4.out) | (go_at_call 18; refine (HW.out _ _ _ _).mono ?_; rintro e w5 ⟨rfl, ⟨nd, rfl⟩⟩))
                        (go_ret; exact ⟨by first | rfl | (simp; done), by repeat (first | exact HB4.out | apply pw_below_drewN | (with_reducible refine below_alloc ?_ _))⟩)
                    · have hE := HE.out
                      rw [if_neg r4] at hE
                      subst hE
                      have r4b : (h.c4 % 8 != 0) = true := bne_iff_ne.mpr r4
                      clear r4
                      go_wp2_with (first | (at_builtin; refine Kd.R_append_zeros (Kd.int .u8) (w0 := w) w.heap.size rfl (.tmp 23) (.tmp 25) 45 3 5 (.int .u8 0) 1 rfl Try.underlying45 Try.underlying3 info5 rfl (by decide) (by omega) u5 (hbytes h 10) 0 (n : Int) (fun _ => True) rfl rfl rfl (fun _ _ => trivial) HO.out (Int.natCast_nonneg n) HB.out HB.out.size (by rw [HL.out]; omega) ?_; intro v1 w3 ho hb hg hat; rw [Int.toNat_natCast, ← HBS.out] at ho; have HB3 := Aside0.mk hb; have BK3 := Aside0.mk (blk_grown BK.out hg (Kd.R_ne HO.out BK.out (by decide))); obtain ⟨Ab, cb, rfl, hlb, hCb⟩ := Kd.R_reads ho; have HCB := Aside0.mk hCb; have HLB := Aside0.mk hlb; clear ho hb hg hat hCb hlb) | (go_at_call 17; refine (decode_Header.calls Ab cb bs _ _ _ HCB.out HLB.out HH.out).mono ?_; simp only [Hdr.val]; rintro e w4 ⟨rfl, hb⟩; have HB4 := Aside0.mk (below_step HB3.out hb); have BK4 := Aside0.mk (blk_below BK3.out hb); clear hb; have m0_ : w4.cell? ⟨w.heap.size, 0, none⟩ = some (.int .u32 h.c0) := (blk_cell BK4.out 0).trans rfl; have m1_ : w4.cell? ⟨w.heap.size, 1, none⟩ = some (.int .u32 h.c1) := (blk_cell BK4.out 1).trans rfl; have m2_ : w4.cell? ⟨w.heap.size, 2, none⟩ = some (.int .u32 h.c2) := (blk_cell BK4.out 2).trans rfl; have m3_ : w4.cell? ⟨w.heap.size, 3, none⟩ = some (.int .u32 h.c3) := (blk_cell BK4.out 3).trans rfl; have m4_ : w4.cell? ⟨w.heap.size, 4, none⟩ = some (.int .u32 h.c4) := (blk_cell BK4.out 4).trans rfl; have m5_ : w4.cell? ⟨w.heap.size, 5, none⟩ = some (.int .u32 h.c5) := (blk_cell BK4.out 5).trans rfl; have m6_ : w4.cell? ⟨w.heap.size, 6, none⟩ = some (.int .u32 h.c6) := (blk_cell BK4.out 6).trans rfl; have m7_ : w4.cell? ⟨w.heap.size, 7, none⟩ = some (.int .u32 h.c7) := (blk_cell BK4.out 7).trans rfl; have m8_ : w4.cell? ⟨w.heap.size, 8, none⟩ = some (.int .u32 h.c8) := (blk_cell BK4.out 8).trans rfl; have m9_ : w4.cell? ⟨w.heap.size, 9, none⟩ = some (.int .u32 h.c9) := (blk_cell BK4.out 9).trans rfl; have hlt : w.heap.size < w4.heap.size := blk_lt BK4.out) | (go_at_call 18; refine (HW.out _ _ _ _).mono ?_; rintro e w5 ⟨rfl, ⟨nd, rfl⟩⟩))
                      (go_ret; exact ⟨by first | rfl | (simp; done), by repeat (first | exact HB4.out | apply pw_below_drewN | (with_reducible refine below_alloc ?_ _))⟩)
                  · have hE := HE.out
                    rw [if_neg w4] at hE
                    subst hE
                    have w4f : inC h.c4 0 (IntKind.u64.wrap (bs.length : Int)) = false := by have q : ¬ inC h.c4 0 (IntKind.u64.wrap (bs.length : Int)) = true := w4; simpa using q
                    have w4b : (!inC h.c4 0 (IntKind.u64.wrap (bs.length : Int))) = true := by rw [w4f]; rfl
                    clear w4
                    go_wp2_with (first | (at_builtin; refine Kd.R_append_zeros (Kd.int .u8) (w0 := w) w.heap.size rfl (.tmp 23) (.tmp 25) 45 3 5 (.int .u8 0) 1 rfl Try.underlying45 Try.underlying3 info5 rfl (by decide) (by omega) u5 (hbytes h 10) 0 (n : Int) (fun _ => True) rfl rfl rfl (fun _ _ => trivial) HO.out (Int.natCast_nonneg n) HB.out HB.out.size (by rw [HL.out]; omega) ?_; intro v1 w3 ho hb hg hat; rw [Int.toNat_natCast, ← HBS.out] at ho; have HB3 := Aside0.mk hb; have BK3 := Aside0.mk (blk_grown BK.out hg (Kd.R_ne HO.out BK.out (by decide))); obtain ⟨Ab, cb, rfl, hlb, hCb⟩ := Kd.R_reads ho; have HCB := Aside0.mk hCb; have HLB := Aside0.mk hlb; clear ho hb hg hat hCb hlb) | (go_at_call 17; refine (decode_Header.calls Ab cb bs _ _ _ HCB.out HLB.out HH.out).mono ?_; simp only [Hdr.val]; rintro e w4 ⟨rfl, hb⟩; have HB4 := Aside0.mk (below_step HB3.out hb); have BK4 := Aside0.mk (blk_below BK3.out hb); clear hb; have m0_ : w4.cell? ⟨w.heap.size, 0, none⟩ = some (.int .u32 h.c0) := (blk_cell BK4.out 0).trans rfl; have m1_ : w4.cell? ⟨w.heap.size, 1, none⟩ = some (.int .u32 h.c1) := (blk_cell BK4.out 1).trans rfl; have m2_ : w4.cell? ⟨w.heap.size, 2, none⟩ = some (.int .u32 h.c2) := (blk_cell BK4.out 2).trans rfl; have m3_ : w4.cell? ⟨w.heap.size, 3, none⟩ = some (.int .u32 h.c3) := (blk_cell BK4.out 3).trans rfl; have m4_ : w4.cell? ⟨w.heap.size, 4, none⟩ = some (.int .u32 h.c4) := (blk_cell BK4.out 4).trans rfl; have m5_ : w4.cell? ⟨w.heap.size, 5, none⟩ = some (.int .u32 h.c5) := (blk_cell BK4.out 5).trans rfl; have m6_ : w4.cell? ⟨w.heap.size, 6, none⟩ = some (.int .u32 h.c6) := (blk_cell BK4.out 6).trans rfl; have m7_ : w4.cell? ⟨w.heap.size, 7, none⟩ = some (.int .u32 h.c7) := (blk_cell BK4.out 7).trans rfl; have m8_ : w4.cell? ⟨w.heap.size, 8, none⟩ = some (.int .u32 h.c8) := (blk_cell BK4.out 8).trans rfl; have m9_ : w4.cell? ⟨w.heap.size, 9, none⟩ = some (.int .u32 h.c9) := (blk_cell BK4.out 9).trans rfl; have hlt : w.heap.size < w4.heap.size := blk_lt BK4.out) | (go_at_call 18; refine (HW.out _ _ _ _).mono ?_; rintro e w5 ⟨rfl, ⟨nd, rfl⟩⟩))
                    (go_ret; exact ⟨by first | rfl | (simp; done), by repeat (first | exact HB4.out | apply pw_below_drewN | (with_reducible refine below_alloc ?_ _))⟩)
                · have hE := HE.out
                  rw [if_neg w3] at hE
                  subst hE
                  have w3f : inC h.c3 h.c8 (IntKind.u64.wrap (bs.length : Int)) = false := by have q : ¬ inC h.c3 h.c8 (IntKind.u64.wrap (bs.length : Int)) = true := w3; simpa using q
                  have w3b : (!inC h.c3 h.c8 (IntKind.u64.wrap (bs.length : Int))) = true := by rw [w3f]; rfl
                  clear w3
                  go_wp2_with (first | (at_builtin; refine Kd.R_append_zeros (Kd.int .u8) (w0 := w) w.heap.size rfl (.tmp 23) (.tmp 25) 45 3 5 (.int .u8 0) 1 rfl Try.underlying45 Try.underlying3 info5 rfl (by decide) (by omega) u5 (hbytes h 10) 0 (n : Int) (fun _ => True) rfl rfl rfl (fun _ _ => trivial) HO.out (Int.natCast_nonneg n) HB.out HB.out.size (by rw [HL.out]; omega) ?_; intro v1 w3 ho hb hg hat; rw [Int.toNat_natCast, ← HBS.out] at ho; have HB3 := Aside0.mk hb; have BK3 := Aside0.mk (blk_grown BK.out hg (Kd.R_ne HO.out BK.out (by decide))); obtain ⟨Ab, cb, rfl, hlb, hCb⟩ := Kd.R_reads ho; have HCB := Aside0.mk hCb; have HLB := Aside0.mk hlb; clear ho hb hg hat hCb hlb) | (go_at_call 17; refine (decode_Header.calls Ab cb bs _ _ _ HCB.out HLB.out HH.out).mono ?_; simp only [Hdr.val]; rintro e w4 ⟨rfl, hb⟩; have HB4 := Aside0.mk (below_step HB3.out hb); have BK4 := Aside0.mk (blk_below BK3.out hb); clear hb; have m0_ : w4.cell? ⟨w.heap.size, 0, none⟩ = some (.int .u32 h.c0) := (blk_cell BK4.out 0).trans rfl; have m1_ : w4.cell? ⟨w.heap.size, 1, none⟩ = some (.int .u32 h.c1) := (blk_cell BK4.out 1).trans rfl; have m2_ : w4.cell? ⟨w.heap.size, 2, none⟩ = some (.int .u32 h.c2) := (blk_cell BK4.out 2).trans rfl; have m3_ : w4.cell? ⟨w.heap.size, 3, none⟩ = some (.int .u32 h.c3) := (blk_cell BK4.out 3).trans rfl; have m4_ : w4.cell? ⟨w.heap.size, 4, none⟩ = some (.int .u32 h.c4) := (blk_cell BK4.out 4).trans rfl; have m5_ : w4.cell? ⟨w.heap.size, 5, none⟩ = some (.int .u32 h.c5) := (blk_cell BK4.out 5).trans rfl; have m6_ : w4.cell? ⟨w.heap.size, 6, none⟩ = some (.int .u32 h.c6) := (blk_cell BK4.out 6).trans rfl; have m7_ : w4.cell? ⟨w.heap.size, 7, none⟩ = some (.int .u32 h.c7) := (blk_cell BK4.out 7).trans rfl; have m8_ : w4.cell? ⟨w.heap.size, 8, none⟩ = some (.int .u32 h.c8) := (blk_cell BK4.out 8).trans rfl; have m9_ : w4.cell? ⟨w.heap.size, 9, none⟩ = some (.int .u32 h.c9) := (blk_cell BK4.out 9).trans rfl; have hlt : w.heap.size < w4.heap.size := blk_lt BK4.out) | (go_at_call 18; refine (HW.out _ _ _ _).mono ?_; rintro e w5 ⟨rfl, ⟨nd, rfl⟩⟩))
                  (go_ret; exact ⟨by first | rfl | (simp; done), by repeat (first | exact HB4.out | apply pw_below_drewN | (with_reducible refine below_alloc ?_ _))⟩)
              · have hE := HE.out
                rw [if_neg w2] at hE
                subst hE
                have w2f : inC h.c2 h.c9 (IntKind.u64.wrap (bs.length : Int)) = false := by have q : ¬ inC h.c2 h.c9 (IntKind.u64.wrap (bs.length : Int)) = true := w2; simpa using q
                have w2b : (!inC h.c2 h.c9 (IntKind.u64.wrap (bs.length : Int))) = true := by rw [w2f]; rfl
                clear w2
                go_wp2_with (first | (at_builtin; refine Kd.R_append_zeros (Kd.int .u8) (w0 := w) w.heap.size rfl (.tmp 23) (.tmp 25) 45 3 5 (.int .u8 0) 1 rfl Try.underlying45 Try.underlying3 info5 rfl (by decide) (by omega) u5 (hbytes h 10) 0 (n : Int) (fun _ => True) rfl rfl rfl (fun _ _ => trivial) HO.out (Int.natCast_nonneg n) HB.out HB.out.size (by rw [HL.out]; omega) ?_; intro v1 w3 ho hb hg hat; rw [Int.toNat_natCast, ← HBS.out] at ho; have HB3 := Aside0.mk hb; have BK3 := Aside0.mk (blk_grown BK.out hg (Kd.R_ne HO.out BK.out (by decide))); obtain ⟨Ab, cb, rfl, hlb, hCb⟩ := Kd.R_reads ho; have HCB := Aside0.mk hCb; have HLB := Aside0.mk hlb; clear ho hb hg hat hCb hlb) | (go_at_call 17; refine (decode_Header.calls Ab cb bs _ _ _ HCB.out HLB.out HH.out).mono ?_; simp only [Hdr.val]; rintro e w4 ⟨rfl, hb⟩; have HB4 := Aside0.mk (below_step HB3.out hb); have BK4 := Aside0.mk (blk_below BK3.out hb); clear hb; have m0_ : w4.cell? ⟨w.heap.size, 0, none⟩ = some (.int .u32 h.c0) := (blk_cell BK4.out 0).trans rfl; have m1_ : w4.cell? ⟨w.heap.size, 1, none⟩ = some (.int .u32 h.c1) := (blk_cell BK4.out 1).trans rfl; have m2_ : w4.cell? ⟨w.heap.size, 2, none⟩ = some (.int .u32 h.c2) := (blk_cell BK4.out 2).trans rfl; have m3_ : w4.cell? ⟨w.heap.size, 3, none⟩ = some (.int .u32 h.c3) := (blk_cell BK4.out 3).trans rfl; have m4_ : w4.cell? ⟨w.heap.size, 4, none⟩ = some (.int .u32 h.c4) := (blk_cell BK4.out 4).trans rfl; have m5_ : w4.cell? ⟨w.heap.size, 5, none⟩ = some (.int .u32 h.c5) := (blk_cell BK4.out 5).trans rfl; have m6_ : w4.cell? ⟨w.heap.size, 6, none⟩ = some (.int .u32 h.c6) := (blk_cell BK4.out 6).trans rfl; have m7_ : w4.cell? ⟨w.heap.size, 7, none⟩ = some (.int .u32 h.c7) := (blk_cell BK4.out 7).trans rfl; have m8_ : w4.cell? ⟨w.heap.size, 8, none⟩ = some (.int .u32 h.c8) := (blk_cell BK4.out 8).trans rfl; have m9_ : w4.cell? ⟨w.heap.size, 9, none⟩ = some (.int .u32 h.c9) := (blk_cell BK4.out 9).trans rfl; have hlt : w.heap.size < w4.heap.size := blk_lt BK4.out) | (go_at_call 18; refine (HW.out _ _ _ _).mono ?_; rintro e w5 ⟨rfl, ⟨nd, rfl⟩⟩))
                (go_ret; exact ⟨by first | rfl | (simp; done), by repeat (first | exact HB4.out | apply pw_below_drewN | (with_reducible refine below_alloc ?_ _))⟩)
            · have hE := HE.out
              rw [if_neg t1] at hE
              subst hE
              have t1b : (h.c1 != IntKind.u64.wrap (bs.length : Int)) = true := bne_iff_ne.mpr (fun e => t1 (e.trans HWN.out))
              clear t1
              go_wp2_with (first | (at_builtin; refine Kd.R_append_zeros (Kd.int .u8) (w0 := w) w.heap.size rfl (.tmp 23) (.tmp 25) 45 3 5 (.int .u8 0) 1 rfl Try.underlying45 Try.underlying3 info5 rfl (by decide) (by omega) u5 (hbytes h 10) 0 (n : Int) (fun _ => True) rfl rfl rfl (fun _ _ => trivial) HO.out (Int.natCast_nonneg n) HB.out HB.out.size (by rw [HL.out]; omega) ?_; intro v1 w3 ho hb hg hat; rw [Int.toNat_natCast, ← HBS.out] at ho; have HB3 := Aside0.mk hb; have BK3 := Aside0.mk (blk_grown BK.out hg (Kd.R_ne HO.out BK.out (by decide))); obtain ⟨Ab, cb, rfl, hlb, hCb⟩ := Kd.R_reads ho; have HCB := Aside0.mk hCb; have HLB := Aside0.mk hlb; clear ho hb hg hat hCb hlb) | (go_at_call 17; refine (decode_Header.calls Ab cb bs _ _ _ HCB.out HLB.out HH.out).mono ?_; simp only [Hdr.val]; rintro e w4 ⟨rfl, hb⟩; have HB4 := Aside0.mk (below_step HB3.out hb); have BK4 := Aside0.mk (blk_below BK3.out hb); clear hb; have m0_ : w4.cell? ⟨w.heap.size, 0, none⟩ = some (.int .u32 h.c0) := (blk_cell BK4.out 0).trans rfl; have m1_ : w4.cell? ⟨w.heap.size, 1, none⟩ = some (.int .u32 h.c1) := (blk_cell BK4.out 1).trans rfl; have m2_ : w4.cell? ⟨w.heap.size, 2, none⟩ = some (.int .u32 h.c2) := (blk_cell BK4.out 2).trans rfl; have m3_ : w4.cell? ⟨w.heap.size, 3, none⟩ = some (.int .u32 h.c3) := (blk_cell BK4.out 3).trans rfl; have m4_ : w4.cell? ⟨w.heap.size, 4, none⟩ = some (.int .u32 h.c4) := (blk_cell BK4.out 4).trans rfl; have m5_ : w4.cell? ⟨w.heap.size, 5, none⟩ = some (.int .u32 h.c5) := (blk_cell BK4.out 5).trans rfl; have m6_ : w4.cell? ⟨w.heap.size, 6, none⟩ = some (.int .u32 h.c6) := (blk_cell BK4.out 6).trans rfl; have m7_ : w4.cell? ⟨w.heap.size, 7, none⟩ = some (.int .u32 h.c7) := (blk_cell BK4.out 7).trans rfl; have m8_ : w4.cell? ⟨w.heap.size, 8, none⟩ = some (.int .u32 h.c8) := (blk_cell BK4.out 8).trans rfl; have m9_ : w4.cell? ⟨w.heap.size, 9, none⟩ = some (.int .u32 h.c9) := (blk_cell BK4.out 9).trans rfl; have hlt : w.heap.size < w4.heap.size := blk_lt BK4.out) | (go_at_call 18; refine (HW.out _ _ _ _).mono ?_; rintro e w5 ⟨rfl, ⟨nd, rfl⟩⟩))
              (go_ret; exact ⟨by first | rfl | (simp; done), by repeat (first | exact HB4.out | apply pw_below_drewN | (with_reducible refine below_alloc ?_ _))⟩)
          · have hE := HE.out
            rw [if_neg t6] at hE
            subst hE
            have t6b : (h.c6 != 16) = true := bne_iff_ne.mpr t6
            clear t6
            go_wp2_with (first | (at_builtin; refine Kd.R_append_zeros (Kd.int .u8) (w0 := w) w.heap.size rfl (.tmp 23) (.tmp 25) 45 3 5 (.int .u8 0) 1 rfl Try.underlying45 Try.underlying3 info5 rfl (by decide) (by omega) u5 (hbytes h 10) 0 (n : Int) (fun _ => True) rfl rfl rfl (fun _ _ => trivial) HO.out (Int.natCast_nonneg n) HB.out HB.out.size (by rw [HL.out]; omega) ?_; intro v1 w3 ho hb hg hat; rw [Int.toNat_natCast, ← HBS.out] at ho; have HB3 := Aside0.mk hb; have BK3 := Aside0.mk (blk_grown BK.out hg (Kd.R_ne HO.out BK.out (by decide))); obtain ⟨Ab, cb, rfl, hlb, hCb⟩ := Kd.R_reads ho; have HCB := Aside0.mk hCb; have HLB := Aside0.mk hlb; clear ho hb hg hat hCb hlb) | (go_at_call 17; refine (decode_Header.calls Ab cb bs _ _ _ HCB.out HLB.out HH.out).mono ?_; simp only [Hdr.val]; rintro e w4 ⟨rfl, hb⟩; have HB4 := Aside0.mk (below_step HB3.out hb); have BK4 := Aside0.mk (blk_below BK3.out hb); clear hb; have m0_ : w4.cell? ⟨w.heap.size, 0, none⟩ = some (.int .u32 h.c0) := (blk_cell BK4.out 0).trans rfl; have m1_ : w4.cell? ⟨w.heap.size, 1, none⟩ = some (.int .u32 h.c1) := (blk_cell BK4.out 1).trans rfl; have m2_ : w4.cell? ⟨w.heap.size, 2, none⟩ = some (.int .u32 h.c2) := (blk_cell BK4.out 2).trans rfl; have m3_ : w4.cell? ⟨w.heap.size, 3, none⟩ = some (.int .u32 h.c3) := (blk_cell BK4.out 3).trans rfl; have m4_ : w4.cell? ⟨w.heap.size, 4, none⟩ = some (.int .u32 h.c4) := (blk_cell BK4.out 4).trans rfl; have m5_ : w4.cell? ⟨w.heap.size, 5, none⟩ = some (.int .u32 h.c5) := (blk_cell BK4.out 5).trans rfl; have m6_ : w4.cell? ⟨w.heap.size, 6, none⟩ = some (.int .u32 h.c6) := (blk_cell BK4.out 6).trans rfl; have m7_ : w4.cell? ⟨w.heap.size, 7, none⟩ = some (.int .u32 h.c7) := (blk_cell BK4.out 7).trans rfl; have m8_ : w4.cell? ⟨w.heap.size, 8, none⟩ = some (.int .u32 h.c8) := (blk_cell BK4.out 8).trans rfl; have m9_ : w4.cell? ⟨w.heap.size, 9, none⟩ = some (.int .u32 h.c9) := (blk_cell BK4.out 9).trans rfl; have hlt : w.heap.size < w4.heap.size := blk_lt BK4.out) | (go_at_call 18; refine (HW.out _ _ _ _).mono ?_; rintro e w5 ⟨rfl, ⟨nd, rfl⟩⟩))
            (go_ret; exact ⟨by first | rfl | (simp; done), by repeat (first | exact HB4.out | apply pw_below_drewN | (with_reducible refine below_alloc ?_ _))⟩)
        · have hE := HE.out
          rw [if_neg t5] at hE
          subst hE
          have t5b : (h.c5 != 17) = true := bne_iff_ne.mpr t5
          clear t5
          go_wp2_with (first | (at_builtin; refine Kd.R_append_zeros (Kd.int .u8) (w0 := w) w.heap.size rfl (.tmp 23) (.tmp 25) 45 3 5 (.int .u8 0) 1 rfl Try.underlying45 Try.underlying3 info5 rfl (by decide) (by omega) u5 (hbytes h 10) 0 (n : Int) (fun _ => True) rfl rfl rfl (fun _ _ => trivial) HO.out (Int.natCast_nonneg n) HB.out HB.out.size (by rw [HL.out]; omega) ?_; intro v1 w3 ho hb hg hat; rw [Int.toNat_natCast, ← HBS.out] at ho; have HB3 := Aside0.mk hb; have BK3 := Aside0.mk (blk_grown BK.out hg (Kd.R_ne HO.out BK.out (by decide))); obtain ⟨Ab, cb, rfl, hlb, hCb⟩ := Kd.R_reads ho; have HCB := Aside0.mk hCb; have HLB := Aside0.mk hlb; clear ho hb hg hat hCb hlb) | (go_at_call 17; refine (decode_Header.calls Ab cb bs _ _ _ HCB.out HLB.out HH.out).mono ?_; simp only [Hdr.val]; rintro e w4 ⟨rfl, hb⟩; have HB4 := Aside0.mk (below_step HB3.out hb); have BK4 := Aside0.mk (blk_below BK3.out hb); clear hb; have m0_ : w4.cell? ⟨w.heap.size, 0, none⟩ = some (.int .u32 h.c0) := (blk_cell BK4.out 0).trans rfl; have m1_ : w4.cell? ⟨w.heap.size, 1, none⟩ = some (.int .u32 h.c1) := (blk_cell BK4.out 1).trans rfl; have m2_ : w4.cell? ⟨w.heap.size, 2, none⟩ = some (.int .u32 h.c2) := (blk_cell BK4.out 2).trans rfl; have m3_ : w4.cell? ⟨w.heap.size, 3, none⟩ = some (.int .u32 h.c3) := (blk_cell BK4.out 3).trans rfl; have m4_ : w4.cell? ⟨w.heap.size, 4, none⟩ = some (.int .u32 h.c4) := (blk_cell BK4.out 4).trans rfl; have m5_ : w4.cell? ⟨w.heap.size, 5, none⟩ = some (.int .u32 h.c5) := (blk_cell BK4.out 5).trans rfl; have m6_ : w4.cell? ⟨w.heap.size, 6, none⟩ = some (.int .u32 h.c6) := (blk_cell BK4.out 6).trans rfl; have m7_ : w4.cell? ⟨w.heap.size, 7, none⟩ = some (.int .u32 h.c7) := (blk_cell BK4.out 7).trans rfl; have m8_ : w4.cell? ⟨w.heap.size, 8, none⟩ = some (.int .u32 h.c8) := (blk_cell BK4.out 8).trans rfl; have m9_ : w4.cell? ⟨w.heap.size, 9, none⟩ = some (.int .u32 h.c9) := (blk_cell BK4.out 9).trans rfl; have hlt : w.heap.size < w4.heap.size := blk_lt BK4.out) | (go_at_call 18; refine (HW.out _ _ _ _).mono ?_; rintro e w5 ⟨rfl, ⟨nd, rfl⟩⟩))
          (go_ret; exact ⟨by first | rfl | (simp; done), by repeat (first | exact HB4.out | apply pw_below_drewN | (with_reducible refine below_alloc ?_ _))⟩)
      · have hE := HE.out
        rw [if_neg t0] at hE
        subst hE
        have t0b : (h.c0 != 3490578157) = true := bne_iff_ne.mpr t0
        clear t0
        go_wp2_with (first | (at_builtin; refine Kd.R_append_zeros (Kd.int .u8) (w0 := w) w.heap.size rfl (.tmp 23) (.tmp 25) 45 3 5 (.int .u8 0) 1 rfl Try.underlying45 Try.underlying3 info5 rfl (by decide) (by omega) u5 (hbytes h 10) 0 (n : Int) (fun _ => True) rfl rfl rfl (fun _ _ => trivial) HO.out (Int.natCast_nonneg n) HB.out HB.out.size (by rw [HL.out]; omega) ?_; intro v1 w3 ho hb hg hat; rw [Int.toNat_natCast, ← HBS.out] at ho; have HB3 := Aside0.mk hb; have BK3 := Aside0.mk (blk_grown BK.out hg (Kd.R_ne HO.out BK.out (by decide))); obtain ⟨Ab, cb, rfl, hlb, hCb⟩ := Kd.R_reads ho; have HCB := Aside0.mk hCb; have HLB := Aside0.mk hlb; clear ho hb hg hat hCb hlb) | (go_at_call 17; refine (decode_Header.calls Ab cb bs _ _ _ HCB.out HLB.out HH.out).mono ?_; simp only [Hdr.val]; rintro e w4 ⟨rfl, hb⟩; have HB4 := Aside0.mk (below_step HB3.out hb); have BK4 := Aside0.mk (blk_below BK3.out hb); clear hb; have m0_ : w4.cell? ⟨w.heap.size, 0, none⟩ = some (.int .u32 h.c0) := (blk_cell BK4.out 0).trans rfl; have m1_ : w4.cell? ⟨w.heap.size, 1, none⟩ = some (.int .u32 h.c1) := (blk_cell BK4.out 1).trans rfl; have m2_ : w4.cell? ⟨w.heap.size, 2, none⟩ = some (.int .u32 h.c2) := (blk_cell BK4.out 2).trans rfl; have m3_ : w4.cell? ⟨w.heap.size, 3, none⟩ = some (.int .u32 h.c3) := (blk_cell BK4.out 3).trans rfl; have m4_ : w4.cell? ⟨w.heap.size, 4, none⟩ = some (.int .u32 h.c4) := (blk_cell BK4.out 4).trans rfl; have m5_ : w4.cell? ⟨w.heap.size, 5, none⟩ = some (.int .u32 h.c5) := (blk_cell BK4.out 5).trans rfl; have m6_ : w4.cell? ⟨w.heap.size, 6, none⟩ = some (.int .u32 h.c6) := (blk_cell BK4.out 6).trans rfl; have m7_ : w4.cell? ⟨w.heap.size, 7, none⟩ = some (.int .u32 h.c7) := (blk_cell BK4.out 7).trans rfl; have m8_ : w4.cell? ⟨w.heap.size, 8, none⟩ = some (.int .u32 h.c8) := (blk_cell BK4.out 8).trans rfl; have m9_ : w4.cell? ⟨w.heap.size, 9, none⟩ = some (.int .u32 h.c9) := (blk_cell BK4.out 9).trans rfl; have hlt : w.heap.size < w4.heap.size := blk_lt BK4.out) | (go_at_call 18; refine (HW.out _ _ _ _).mono ?_; rintro e w5 ⟨rfl, ⟨nd, rfl⟩⟩))
        (go_ret; exact ⟨by first | rfl | (simp; done), by repeat (first | exact HB4.out | apply pw_below_drewN | (with_reducible refine below_alloc ?_ _))⟩)
end Go.Proofs.Ytkopmkinlanhoaa.PD

namespace Go.Proofs.Ytkopmkinlanhoaa.decodeHeaders
open Go.ChangeShapes Go.WideShapes Go.ChangeAt Go.RowKit Go.Proofs.Ytkopmkinlanhoaa.Rdr Go.Proofs.Ytkopmkinlanhoaa.PD
set_option linter.unusedVariables false
set_option linter.unusedSimpArgs false
theorem own : ownKnob Try.prog.godebug = none := by kernel_rfl
theorem laidOut : laidOutB Try.prog = true := by kernel_rfl
set_option maxRecDepth 100000 in
theorem contract (H : Type) (enc : TypeId × Value → H) (W : World) (base : Nat) (args : Array Value) (ds gs : List (DataW H)) (before : List MemPlace)
    (hval0 : ∀ (j : Nat) t v, Try.f4.params[j]? = some t → args[j]? = some v → Value.okWide Try.prog W .any base t v)
    (hW : DataW.Whole enc Try.prog Try.f4.params.toList Rows.decodeHeadersSpec.vars false W args.toList ds gs before) :
    Calls Try.prog 4 args W fun e W' => ∃ v, e = .returned v ∧ Rows.decodeHeadersSpec.post enc Try.prog Try.f4 false true false false W args v W' := by
  have hval : ∀ (j : Nat) t v, Try.f4.params[j]? = some t → args[j]? = some v → Value.okWide Try.prog W .any base t v := hval0
  have hW' := hW
  obtain ⟨p, q, hA0, hV, rfl, hfz, hnd⟩ := hW
  have hA : DataW.TrodAll enc Try.prog W 0 (fun _ => true) true Try.f4.params.toList args.toList ds p := hA0
  rw [Try.params4] at hA hval
  obtain ⟨v0, vs0, d0, ds0, p0, q0, hargs, rfl, rfl, h0, tr0⟩ := trodAll_cons hA
  obtain ⟨v1, vs1, d1, ds1, p1, q1, rfl, rfl, rfl, h1, tr1⟩ := trodAll_cons tr0
  obtain ⟨rfl, rfl, rfl⟩ := trodAll_nil tr1
  obtain rfl : args = #[v0, v1] := by cases args; simp_all
  obtain ⟨rfl, rfl⟩ := trodVars_none hV
  have k0 := h0
  have lt0 : ∀ x ∈ p0, x.block < W.heap.size := by obtain ⟨m, hm⟩ := k0; exact DataW.trod_lt m _ _ _ hm
  have k1 := h1
  have lt1 : ∀ x ∈ p1, x.block < W.heap.size := by obtain ⟨m, hm⟩ := k1; exact DataW.trod_lt m _ _ _ hm
  obtain ⟨cs0, rfl, hcs0⟩ : ∃ cs, v0 = .agg cs ∧ True := by
    have z := (hval 0 43 v0 rfl rfl)
    simp only [Value.okWide, Try.underlying43] at z
    obtain ⟨cs, hc, _⟩ := z
    exact ⟨cs, hc, trivial⟩
  obtain ⟨f0, hf0⟩ := h0
  obtain ⟨cl0⟩ := cs0
  obtain ⟨xs, m, hm, hx, hl, hlen, hf⟩ := DataW.trod_array Try.underlying43 hf0
  have hl' : cl0.length = 10 := hl.trans (by kernel_rfl)
  have z1 : Try.prog.cellsOf 22 = 1 := by kernel_rfl
  simp only [z1, Nat.mul_one] at hf
  obtain ⟨u0, u1, u2, u3, u4, u5, u6, u7, u8, u9, rfl⟩ := len_10 hl'
  have rd : ∀ (i : Nat) (u : Value), i < 10 → DataW.trod enc Try.prog W 0 (fun _ => true) true m 22 [u] = xs[i]? → ∃ c : Int, u = .int .u32 c ∧ 0 ≤ c ∧ c < 4294967296 := by
    intro i u hi hu
    rw [List.getElem?_eq_getElem (by omega)] at hu
    obtain ⟨c, hk, _, hg⟩ := rd_int (n := m) (W := W) Try.underlying22 H enc m (Nat.le_refl _) _ _ hu
    have hk' : [u] = [Value.int .u32 c] := hk
    have hw : (Lit.int .u32 c).wf = true := hg
    simp [Lit.wf, IntKind.min, IntKind.max, IntKind.signed, IntKind.bits] at hw
    refine ⟨c, by injection hk', hw.1, by omega⟩
  obtain ⟨c0, rfl, g0⟩ := rd 0 u0 (by decide) (hf 0 (by decide))
  obtain ⟨c1, rfl, g1⟩ := rd 1 u1 (by decide) (hf 1 (by decide))
  obtain ⟨c2, rfl, g2⟩ := rd 2 u2 (by decide) (hf 2 (by decide))
  obtain ⟨c3, rfl, g3⟩ := rd 3 u3 (by decide) (hf 3 (by decide))
  obtain ⟨c4, rfl, g4⟩ := rd 4 u4 (by decide) (hf 4 (by decide))
  obtain ⟨c5, rfl, g5⟩ := rd 5 u5 (by decide) (hf 5 (by decide))
  obtain ⟨c6, rfl, g6⟩ := rd 6 u6 (by decide) (hf 6 (by decide))
  obtain ⟨c7, rfl, g7⟩ := rd 7 u7 (by decide) (hf 7 (by decide))
  obtain ⟨c8, rfl, g8⟩ := rd 8 u8 (by decide) (hf 8 (by decide))
  obtain ⟨c9, rfl, g9⟩ := rd 9 u9 (by decide) (hf 9 (by decide))
  obtain ⟨x1, rfl, rfl, rfl, w1⟩ := open_int Try.underlying44 (hval 1 44 v1 rfl rfl) h1
  have hx1 : 0 ≤ x1 ∧ x1 ≤ 65535 := by
    simp [Lit.wf, IntKind.min, IntKind.max, IntKind.signed, IntKind.bits] at w1
    omega
  have hg : Hdr.good ⟨c0, c1, c2, c3, c4, c5, c6, c7, c8, c9⟩ := by
    intro c hc
    simp only [Hdr.cells, List.mem_cons, List.not_mem_nil, or_false] at hc
    rcases hc with rfl | rfl | rfl | rfl | rfl | rfl | rfl | rfl | rfl | rfl <;> assumption
  refine (arboretlaw04_DecodeHeaders.calls ⟨c0, c1, c2, c3, c4, c5, c6, c7, c8, c9⟩ x1 W hg hx1).mono fun e W' ⟨he, bel0⟩ => ?_
  have bel : Below W.heap.size W W' := bel0
  subst he
  exact ⟨_, rfl, _, _, _, [], _, [], hW', trodAll_mk1 (shut_bool Try.underlying4 _), (trodAll_cons_mk (Below.trod laidOut (by kernel_rfl) (of_decide_eq_true (by kernel_rfl)) k0 bel lt0) (trodAll_cons_mk (Below.trod laidOut (by kernel_rfl) (of_decide_eq_true (by kernel_rfl)) k1 bel lt1) trodAll_mk0)), rfl, bel.frame _, fun h => by cases h⟩
set_option maxRecDepth 100000 in
theorem lifted (os : Os) (started : os.Started) (H : Type) (enc : TypeId × Value → H) :
    ReturnsInHanded {} Try.checked os 4 .any (Rows.decodeHeadersSpec.pre6 enc Try.prog Try.f4 Rows.decodeHeadersRow.domain false) (Rows.decodeHeadersSpec.post enc Try.prog Try.f4 false true false false) := by
  refine returnsInHanded_of_change_sized (C := Try.checked) own started (by kernel_rfl) Try.func4
    (ChangeSpec.witness6 (enc := enc) (C := Try.checked) false ⟨#[], #[.agg #[.int .u32 0, .int .u32 0, .int .u32 0, .int .u32 0, .int .u32 0, .int .u32 0, .int .u32 0, .int .u32 0, .int .u32 0, .int .u32 0], .int .u16 0], []⟩ 16 (by kernel_rfl) (by kernel_rfl) (by kernel_rfl) (by kernel_rfl)) ?_
  intro W base args ds gs before hval hW _ hsz _
  exact contract H enc W base args ds gs before hval hW
theorem over : Rows.decodeHeadersRow.holds Try.pinned (OpenSpec.ofChange Rows.decodeHeadersSpec) :=
  OpenClaim.holds_of_wide 4 Try.f4 rfl rfl rfl rfl rfl rfl rfl ⟨rfl, rfl, rfl, rfl, rfl⟩ rfl rfl rfl rfl rfl (by kernel_rfl) Try.func4 (by kernel_rfl)
    (of_decide_eq_true (by kernel_rfl)) (by unfold Func.isWrapper; first | (rw [if_pos (by decide +kernel)]; kernel_rfl) | (rw [if_neg (by decide +kernel)]; exact ⟨rfl, rfl⟩))
    (fun os started H enc _ => lifted os started H enc)
theorem proved : Rows.DecodeHeadersSaid := over
end Go.Proofs.Ytkopmkinlanhoaa.decodeHeaders
namespace Go.Proofs.Ytkopmkinlanhoaa
theorem decodeHeaders_holds : Rows.DecodeHeadersSaid := decodeHeaders.proved
end Go.Proofs.Ytkopmkinlanhoaa
