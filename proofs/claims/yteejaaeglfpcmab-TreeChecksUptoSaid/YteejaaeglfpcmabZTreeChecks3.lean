/- TreeChecks: texts of this session's, and what the kit's print laid for this seat, as far as the law's row uses them (PCKinds, PCStateTreeChecks, Aid, Tree, Name, NameRef, NameEv, Chk, PureTreeChecks, LawTreeChecks). -/
import Derived.Lib.EndianBits
import Derived.Lib.PathFns
import Derived.Lib.RowBridge
import Derived.ProofKit
import Derived.OpenShut
import Derived.ShutString
import Derived.ChangeOld
import Derived.JoinedCond
import Derived.Deep.CondSized
import Derived.Test.YteejaaeglfpcmabZTreeChecks2
set_option linter.unusedVariables false
set_option linter.unusedSimpArgs false
set_option linter.unusedVariables false
set_option linter.unusedSimpArgs false
namespace Go.Proofs.Yteejaaeglfpcmab.PC
open Go.RowKit Go.Proofs.Yteejaaeglfpcmab.Rdr Go.Proofs.YteejaaeglfpcmabW.PrintWords Go.Proofs.YteejaaeglfpcmabW.PrintLast Go.Proofs.YteejaaeglfpcmabW.PrintMore
def bulk94 (x : S94) : Nat := (fun _ => 1) x.f0 + (fun _ => 1) x.f1 + 1
def good94 (x : S94) : Prop := (wfI .u64) x.f0 ∧ (wfI .u64) x.f1
theorem rd94 (W : World) (n : Nat) : RdF Try.prog W n k94 94 bulk94 good94 := by
  intro H enc fuel hfu cs x h
  cases n with
  | zero =>
    obtain rfl : fuel = 0 := by omega
    simp [DataW.trod] at h
  | succ n =>
  obtain ⟨xs, m, rfl, rfl, hl, hlen, hf⟩ := DataW.trod_struct Try.underlying94 h
  have hl' : cs.length = 2 := hl.trans (by kernel_rfl)
  clear hl
  obtain ⟨u0, u1, rfl⟩ := len_2 hl'
  have z43 : Try.prog.cellsOf 43 = 1 := by kernel_rfl
  obtain ⟨y0, hy0⟩ : ∃ y, xs[0]? = some y := ⟨_, List.getElem?_eq_getElem (by rw [hlen]; decide)⟩
  have h0 := hf 0 _ rfl
  rw [hy0] at h0
  simp only [z43, List.getElem_toArray, List.getElem_cons_zero, List.getElem_cons_succ, List.drop_zero, List.drop_succ_cons, List.take_succ_cons, List.take_zero] at h0
  have h0' : DataW.trod enc Try.prog W 0 (fun _ => true) true m 43 [u0] = some y0 := h0
  obtain ⟨y1, hy1⟩ : ∃ y, xs[1]? = some y := ⟨_, List.getElem?_eq_getElem (by rw [hlen]; decide)⟩
  have h1 := hf 1 _ rfl
  rw [hy1] at h1
  simp only [z43, List.getElem_toArray, List.getElem_cons_zero, List.getElem_cons_succ, List.drop_zero, List.drop_succ_cons, List.take_succ_cons, List.take_zero] at h1
  have h1' : DataW.trod enc Try.prog W 0 (fun _ => true) true m 43 [u1] = some y1 := h1
  obtain ⟨a0, k0, b0, g0⟩ := (rd_int (n := (n + 1)) Try.underlying43) H enc m (by omega) _ _ h0'
  obtain ⟨a1, k1, b1, g1⟩ := (rd_int (n := (n + 1)) Try.underlying43) H enc m (by omega) _ _ h1'
  have hall : xs = [y0, y1] := by
    obtain ⟨q0, q1, rfl⟩ := len_2 (l := xs) hlen
    simp only [List.getElem?_cons_zero, List.getElem?_cons_succ, Option.some.injEq] at hy0 hy1
    rw [hy0, hy1]
  subst hall
  refine ⟨⟨a0, a1⟩, ⟨[u0], [u1], rfl, k0, k1⟩, ?_, ?_⟩
  · (try dsimp only at b0); (try dsimp only at b1); simp only [bulk94, Rows.uptoBulk, Rows.uptoBulkAll, List.map_cons, List.map_nil]; omega
  · exact ⟨g0, g1⟩
def bulk77 (x : S77) : Nat := (fun s => s.size + 1) x.f0 + (fun xs => sumB (fun _ => 1) xs + 1) x.f1 + 1
def good77 (x : S77) : Prop := (fun _ => True) x.f0 ∧ (fun xs => ∀ x ∈ xs, (wfI .u8) x) x.f1
theorem rd77 (W : World) (n : Nat) : RdF Try.prog W n k77 77 bulk77 good77 := by
  intro H enc fuel hfu cs x h
  cases n with
  | zero =>
    obtain rfl : fuel = 0 := by omega
    simp [DataW.trod] at h
  | succ n =>
  obtain ⟨xs, m, rfl, rfl, hl, hlen, hf⟩ := DataW.trod_struct Try.underlying77 h
  have hl' : cs.length = 2 := hl.trans (by kernel_rfl)
  clear hl
  obtain ⟨u0, u1, rfl⟩ := len_2 hl'
  have z9 : Try.prog.cellsOf 9 = 1 := by kernel_rfl
  have z72 : Try.prog.cellsOf 72 = 1 := by kernel_rfl
  obtain ⟨y0, hy0⟩ : ∃ y, xs[0]? = some y := ⟨_, List.getElem?_eq_getElem (by rw [hlen]; decide)⟩
  have h0 := hf 0 _ rfl
  rw [hy0] at h0
  simp only [z9, List.getElem_toArray, List.getElem_cons_zero, List.getElem_cons_succ, List.drop_zero, List.drop_succ_cons, List.take_succ_cons, List.take_zero] at h0
  have h0' : DataW.trod enc Try.prog W 0 (fun _ => true) true m 9 [u0] = some y0 := h0
  obtain ⟨y1, hy1⟩ : ∃ y, xs[1]? = some y := ⟨_, List.getElem?_eq_getElem (by rw [hlen]; decide)⟩
  have h1 := hf 1 _ rfl
  rw [hy1] at h1
  simp only [z72, List.getElem_toArray, List.getElem_cons_zero, List.getElem_cons_succ, List.drop_zero, List.drop_succ_cons, List.take_succ_cons, List.take_zero] at h1
  have h1' : DataW.trod enc Try.prog W 0 (fun _ => true) true m 72 [u1] = some y1 := h1
  obtain ⟨a0, k0, b0, g0⟩ := (rd_string (n := (n + 1)) Try.underlying9) H enc m (by omega) _ _ h0'
  obtain ⟨a1, k1, b1, g1⟩ := (rd_slice (n := n) Try.underlying72 (by kernel_rfl) (rd_int (n := n) Try.underlying5)) H enc m (by omega) _ _ h1'
  have hall : xs = [y0, y1] := by
    obtain ⟨q0, q1, rfl⟩ := len_2 (l := xs) hlen
    simp only [List.getElem?_cons_zero, List.getElem?_cons_succ, Option.some.injEq] at hy0 hy1
    rw [hy0, hy1]
  subst hall
  refine ⟨⟨a0, a1⟩, ⟨[u0], [u1], rfl, k0, k1⟩, ?_, ?_⟩
  · (try dsimp only at b0); (try dsimp only at b1); simp only [bulk77, Rows.uptoBulk, Rows.uptoBulkAll, List.map_cons, List.map_nil]; omega
  · exact ⟨g0, g1⟩
mutual
def bulk30 : S30 → Nat
  | ⟨x0, x1, x2⟩ => (fun s => s.size + 1) x0 + (fun xs => sumB bulk77 xs + 1) x1 + (bulks30 x2 + 1) + 1
def bulks30 : List S30 → Nat
  | [] => 0
  | x :: r => bulk30 x + bulks30 r
end
theorem bulks30_eq (l : List S30) : bulks30 l = sumB bulk30 l := by
  induction l with
  | nil => rfl
  | cons x r ih => simp only [bulks30, sumB, ih]
mutual
def good30 : S30 → Prop
  | ⟨x0, x1, x2⟩ => (fun _ => True) x0 ∧ (fun xs => ∀ x ∈ xs, good77 x) x1 ∧ goods30 x2
def goods30 : List S30 → Prop
  | [] => True
  | x :: r => good30 x ∧ goods30 r
end
theorem goods30_iff (l : List S30) : goods30 l ↔ ∀ x ∈ l, good30 x := by
  induction l with
  | nil => simp [goods30]
  | cons x r ih => simp [goods30, ih]
theorem rd30 (W : World) (n : Nat) : RdF Try.prog W n k30 30 bulk30 good30 := by
  induction n with
  | zero =>
    intro H enc fuel hf cs x h
    obtain rfl : fuel = 0 := by omega
    simp [DataW.trod] at h
  | succ n ih =>
  intro H enc fuel hfu cs x h
  obtain ⟨xs, m, rfl, rfl, hl, hlen, hf⟩ := DataW.trod_struct Try.underlying30 h
  have hl' : cs.length = 3 := hl.trans (by kernel_rfl)
  clear hl
  obtain ⟨u0, u1, u2, rfl⟩ := len_3 hl'
  have z9 : Try.prog.cellsOf 9 = 1 := by kernel_rfl
  have z27 : Try.prog.cellsOf 27 = 1 := by kernel_rfl
  have z28 : Try.prog.cellsOf 28 = 1 := by kernel_rfl
  obtain ⟨y0, hy0⟩ : ∃ y, xs[0]? = some y := ⟨_, List.getElem?_eq_getElem (by rw [hlen]; decide)⟩
  have h0 := hf 0 _ rfl
  rw [hy0] at h0
  simp only [z9, List.getElem_toArray, List.getElem_cons_zero, List.getElem_cons_succ, List.drop_zero, List.drop_succ_cons, List.take_succ_cons, List.take_zero] at h0
  have h0' : DataW.trod enc Try.prog W 0 (fun _ => true) true m 9 [u0] = some y0 := h0
  obtain ⟨y1, hy1⟩ : ∃ y, xs[1]? = some y := ⟨_, List.getElem?_eq_getElem (by rw [hlen]; decide)⟩
  have h1 := hf 1 _ rfl
  rw [hy1] at h1
  simp only [z27, List.getElem_toArray, List.getElem_cons_zero, List.getElem_cons_succ, List.drop_zero, List.drop_succ_cons, List.take_succ_cons, List.take_zero] at h1
  have h1' : DataW.trod enc Try.prog W 0 (fun _ => true) true m 27 [u1] = some y1 := h1
  obtain ⟨y2, hy2⟩ : ∃ y, xs[2]? = some y := ⟨_, List.getElem?_eq_getElem (by rw [hlen]; decide)⟩
  have h2 := hf 2 _ rfl
  rw [hy2] at h2
  simp only [z28, List.getElem_toArray, List.getElem_cons_zero, List.getElem_cons_succ, List.drop_zero, List.drop_succ_cons, List.take_succ_cons, List.take_zero] at h2
  have h2' : DataW.trod enc Try.prog W 0 (fun _ => true) true m 28 [u2] = some y2 := h2
  obtain ⟨a0, k0, b0, g0⟩ := (rd_string (n := (n + 1)) Try.underlying9) H enc m (by omega) _ _ h0'
  obtain ⟨a1, k1, b1, g1⟩ := (rd_slice (n := n) Try.underlying27 (by kernel_rfl) (rd77 W n)) H enc m (by omega) _ _ h1'
  obtain ⟨a2, k2, b2, g2⟩ := (rd_slice (n := n) Try.underlying28 (by kernel_rfl) ih) H enc m (by omega) _ _ h2'
  have hall : xs = [y0, y1, y2] := by
    obtain ⟨q0, q1, q2, rfl⟩ := len_3 (l := xs) hlen
    simp only [List.getElem?_cons_zero, List.getElem?_cons_succ, Option.some.injEq] at hy0 hy1 hy2
    rw [hy0, hy1, hy2]
  subst hall
  cases k0
  obtain ⟨A1, c1, e1, l1, r1⟩ := k1
  cases e1
  obtain ⟨A2, c2, e2, l2, r2⟩ := k2
  cases e2
  refine ⟨⟨a0, a1, a2⟩, k30_mk W ⟨a0, a1, a2⟩ l1 r1 l2 r2, ?_, ?_⟩
  · (try dsimp only at b0); (try dsimp only at b1); (try dsimp only at b2); simp only [bulk30, bulks30_eq, Rows.uptoBulk, Rows.uptoBulkAll, List.map_cons, List.map_nil]; omega
  · exact ⟨g0, g1, (goods30_iff _).mpr g2⟩
def bulk35 (x : S35) : Nat := (fun _ => 1) x.f0 + (fun xs => sumB bulk94 xs + 1) x.f1 + bulk30 x.f2 + 1
def good35 (x : S35) : Prop := (wfI .u32) x.f0 ∧ (fun xs => ∀ x ∈ xs, good94 x) x.f1 ∧ good30 x.f2
theorem rd35 (W : World) (n : Nat) : RdF Try.prog W n k35 35 bulk35 good35 := by
  intro H enc fuel hfu cs x h
  cases n with
  | zero =>
    obtain rfl : fuel = 0 := by omega
    simp [DataW.trod] at h
  | succ n =>
  obtain ⟨xs, m, rfl, rfl, hl, hlen, hf⟩ := DataW.trod_struct Try.underlying35 h
  have hl' : cs.length = 5 := hl.trans (by kernel_rfl)
  clear hl
  obtain ⟨u0, u1, u2, u3, u4, rfl⟩ := len_5 hl'
  have z30 : Try.prog.cellsOf 30 = 3 := by kernel_rfl
  have z32 : Try.prog.cellsOf 32 = 1 := by kernel_rfl
  have z33 : Try.prog.cellsOf 33 = 1 := by kernel_rfl
  obtain ⟨y0, hy0⟩ : ∃ y, xs[0]? = some y := ⟨_, List.getElem?_eq_getElem (by rw [hlen]; decide)⟩
  have h0 := hf 0 _ rfl
  rw [hy0] at h0
  simp only [z32, List.getElem_toArray, List.getElem_cons_zero, List.getElem_cons_succ, List.drop_zero, List.drop_succ_cons, List.take_succ_cons, List.take_zero] at h0
  have h0' : DataW.trod enc Try.prog W 0 (fun _ => true) true m 32 [u0] = some y0 := h0
  obtain ⟨y1, hy1⟩ : ∃ y, xs[1]? = some y := ⟨_, List.getElem?_eq_getElem (by rw [hlen]; decide)⟩
  have h1 := hf 1 _ rfl
  rw [hy1] at h1
  simp only [z33, List.getElem_toArray, List.getElem_cons_zero, List.getElem_cons_succ, List.drop_zero, List.drop_succ_cons, List.take_succ_cons, List.take_zero] at h1
  have h1' : DataW.trod enc Try.prog W 0 (fun _ => true) true m 33 [u1] = some y1 := h1
  obtain ⟨y2, hy2⟩ : ∃ y, xs[2]? = some y := ⟨_, List.getElem?_eq_getElem (by rw [hlen]; decide)⟩
  have h2 := hf 2 _ rfl
  rw [hy2] at h2
  simp only [z30, List.getElem_toArray, List.getElem_cons_zero, List.getElem_cons_succ, List.drop_zero, List.drop_succ_cons, List.take_succ_cons, List.take_zero] at h2
  have h2' : DataW.trod enc Try.prog W 0 (fun _ => true) true m 30 [u2, u3, u4] = some y2 := h2
  obtain ⟨a0, k0, b0, g0⟩ := (rd_int (n := (n + 1)) Try.underlying32) H enc m (by omega) _ _ h0'
  obtain ⟨a1, k1, b1, g1⟩ := (rd_slice (n := n) Try.underlying33 (by kernel_rfl) (rd94 W n)) H enc m (by omega) _ _ h1'
  obtain ⟨a2, k2, b2, g2⟩ := (rd30 W (n + 1)) H enc m (by omega) _ _ h2'
  have hall : xs = [y0, y1, y2] := by
    obtain ⟨q0, q1, q2, rfl⟩ := len_3 (l := xs) hlen
    simp only [List.getElem?_cons_zero, List.getElem?_cons_succ, Option.some.injEq] at hy0 hy1 hy2
    rw [hy0, hy1, hy2]
  subst hall
  refine ⟨⟨a0, a1, a2⟩, ⟨[u0], [u1, u2, u3, u4], rfl, k0, ⟨[u1], [u2, u3, u4], rfl, k1, k2⟩⟩, ?_, ?_⟩
  · (try dsimp only at b0); (try dsimp only at b1); (try dsimp only at b2); simp only [bulk35, Rows.uptoBulk, Rows.uptoBulkAll, List.map_cons, List.map_nil]; omega
  · exact ⟨g0, g1, g2⟩
end Go.Proofs.Yteejaaeglfpcmab.PC

namespace Go.Proofs.Yteejaaeglfpcmab.PC
open Go.RowKit Go.Proofs.Yteejaaeglfpcmab.Rdr Go.Proofs.YteejaaeglfpcmabW.PrintWords Go.Proofs.YteejaaeglfpcmabW.PrintLast Go.Proofs.YteejaaeglfpcmabW.PrintMore
def arboretlaw03_TreeChecks.Pure : Prop := ∀ (x0 : S35), bulk35 x0 ≤ 1048576 → good35 x0 → ∃ k, arboretlaw03_TreeChecks.f k x0.f0 x0.f1 x0.f2.f0 x0.f2.f1 x0.f2.f2 = some true
end Go.Proofs.Yteejaaeglfpcmab.PC

set_option linter.unusedVariables false
set_option linter.unusedSimpArgs false
namespace Go.Proofs.Yteejaaeglfpcmab.Aid
open Go.RowKit Go.Proofs.YteejaaeglfpcmabW.PrintWords
section
variable {α β : Type} {r : α}
theorem Ev.pos {c : Prop} [Decidable c] {A B : Nat → Option α} (h : c) (hA : Ev A r) : Ev (fun k => if c then A k else B k) r := by
  simp only [if_pos h]
  exact hA
theorem Ev.neg {c : Prop} [Decidable c] {A B : Nat → Option α} (h : ¬ c) (hB : Ev B r) : Ev (fun k => if c then A k else B k) r := by
  simp only [if_neg h]
  exact hB
theorem Ev.succ {g : Nat → Option α} (h : Ev (fun k => g (k + 1)) r) : Ev g r := Ev.step (fun _ => rfl) h
theorem Ev.some (r : α) : Ev (fun _ => some r) r := ⟨0, fun _ _ => rfl⟩
theorem Ev.fix {g : Option α} (h : g = Option.some r) : Ev (fun _ => g) r := ⟨0, fun _ _ => h⟩
theorem Ev.then {g : Nat → Option α} {f : Nat → α → Option β} {a : α} {b : β} (h : Ev g a) (k : Ev (fun n => f n a) b) : Ev (fun n => (g n).bind (f n)) b := Ev.bind h k
theorem Ev.out {g : Nat → Option α} (h : Ev g r) : ∃ k, g k = Option.some r := Ev.rounds h
end
theorem w64 {x : Int} (h0 : -9223372036854775808 ≤ x) (h1 : x ≤ 9223372036854775807) : wrap64 x = x := by unfold wrap64; omega
theorem getD_at {α : Type} {l : List α} {d : α} {i : Nat} (h : i < l.length) : l.getD i d = l[i] := by simp [List.getD_eq_getElem?_getD, List.getElem?_eq_getElem h]
theorem drop_at {α : Type} {l : List α} {d : α} {i : Nat} (h : i < l.length) : l.drop i = l.getD i d :: l.drop (i + 1) := by rw [getD_at h]; exact List.drop_eq_getElem_cons h
theorem loop {α β : Type} (l : List α) (F : List α → β) (g : Nat → Int → Option β)
    (hend : Ev (fun k => g k (l.length : Int)) (F []))
    (hstep : ∀ i : Nat, (h : i < l.length) → Ev (fun k => g k ((i + 1 : Nat) : Int)) (F (l.drop (i + 1))) → Ev (fun k => g k (i : Int)) (F (l[i] :: l.drop (i + 1)))) :
    ∀ i : Nat, i ≤ l.length → Ev (fun k => g k (i : Int)) (F (l.drop i)) := by
  have key : ∀ (d i : Nat), i + d = l.length → Ev (fun k => g k (i : Int)) (F (l.drop i)) := by
    intro d
    induction d with
    | zero =>
      intro i hi
      have : i = l.length := by omega
      subst this
      rw [List.drop_length]
      exact hend
    | succ d ih =>
      intro i hi
      have h : i < l.length := by omega
      rw [List.drop_eq_getElem_cons h]
      exact hstep i h (ih (i + 1) (by omega))
  intro i hi
  exact key (l.length - i) i (by omega)
end Go.Proofs.Yteejaaeglfpcmab.Aid

set_option linter.unusedVariables false
set_option linter.unusedSimpArgs false
namespace Go.Proofs.Yteejaaeglfpcmab.PC
open Go.RowKit Go.Proofs.Yteejaaeglfpcmab.Rdr Go.Proofs.Yteejaaeglfpcmab.Aid Go.Proofs.YteejaaeglfpcmabW.PrintWords
theorem rdN (xs : List S30) (i : Nat) : rd_T30 xs (i : Int) = xs.getD i z30 := by simp [rd_T30]
theorem rdP (xs : List S77) (i : Nat) : rd_T77 xs (i : Int) = xs.getD i z77 := by simp [rd_T77]
theorem getN {xs : List S30} {i : Nat} (h : i < xs.length) : xs.getD i z30 ∈ xs := by rw [getD_at h]; exact List.getElem_mem h
theorem getP {xs : List S77} {i : Nat} (h : i < xs.length) : xs.getD i z77 ∈ xs := by rw [getD_at h]; exact List.getElem_mem h
theorem bulk_pos (x : S30) : 1 ≤ bulk30 x := by
  cases x
  simp only [bulk30]
  omega
theorem bulk_eq (x : S30) : bulk30 x = x.f0.size + sumB bulk77 x.f1 + sumB bulk30 x.f2 + 4 := by
  cases x
  simp only [bulk30, bulks30_eq]
  omega
theorem bulk_kid {x k : S30} (h : k ∈ x.f2) : bulk30 k + 4 ≤ bulk30 x := by
  have := sumB_mem (B := bulk30) h
  rw [bulk_eq x]
  omega
theorem bulk_prop {x : S30} {p : S77} (h : p ∈ x.f1) : bulk77 p + 4 ≤ bulk30 x := by
  have := sumB_mem (B := bulk77) h
  rw [bulk_eq x]
  omega
theorem bulk_kids (x : S30) : x.f2.length + 4 ≤ bulk30 x := by
  have := sumB_len bulk_pos x.f2
  rw [bulk_eq x]
  omega
theorem bulk_props (x : S30) : x.f1.length + 4 ≤ bulk30 x := by
  have := sumB_len (B := bulk77) (fun p => by unfold bulk77; omega) x.f1
  rw [bulk_eq x]
  omega
theorem bulk_name (x : S30) : x.f0.size + 4 ≤ bulk30 x := by
  rw [bulk_eq x]
  omega
theorem bulk_value (p : S77) : p.f0.size + p.f1.length + 3 ≤ bulk77 p := by
  unfold bulk77
  simp only [sumB_one]
  omega
theorem step64 {i n : Nat} (h : i < n) (hn : n ≤ 1048576) : wrap64 ((i : Int) + 1) = ((i + 1 : Nat) : Int) := by unfold wrap64; omega
theorem size_ends (m : Nat) (hm : m ≤ 1048576) : ∀ x : S30, bulk30 x ≤ m → ∀ d : Int, ∃ v, Ev (fun k => arboretlaw03_size.f k x.f0 x.f1 x.f2 d) v := by
  induction m with
  | zero => intro x hx; have := bulk_pos x; omega
  | succ m ih =>
    intro x hx d
    have hk := bulk_kids x
    have hp := bulk_props x
    have kids : ∀ (j i : Nat) (acc : Int), i + j = x.f2.length → ∃ v, Ev (fun k => arboretlaw03_size.l1 k d acc (x.f2.length : Int) (i : Int) x.f0 x.f1 x.f2) v := by
      intro j
      induction j with
      | zero =>
        intro i acc hi
        refine ⟨acc, Ev.succ ?_⟩
        simp only [arboretlaw03_size.l1]
        exact Ev.neg (by omega) (Ev.some _)
      | succ j ihj =>
        intro i acc hi
        have hw := step64 (i := i) (n := x.f2.length) (by omega) (by omega)
        by_cases h1 : d > 20
        · refine ⟨1048576, Ev.succ ?_⟩
          simp only [arboretlaw03_size.l1]
          exact Ev.pos (by omega) (Ev.pos h1 (Ev.some _))
        by_cases h2 : acc > 100000
        · refine ⟨1048576, Ev.succ ?_⟩
          simp only [arboretlaw03_size.l1]
          exact Ev.pos (by omega) (Ev.neg h1 (Ev.pos h2 (Ev.some _)))
        have hmem := getN (xs := x.f2) (i := i) (by omega)
        obtain ⟨v, hv⟩ := ih (by omega) (x.f2.getD i z30) (by have := bulk_kid hmem; omega) (wrap64 (d + 1))
        obtain ⟨r, hr⟩ := ihj (i + 1) (wrap64 (acc + v)) (by omega)
        refine ⟨r, Ev.succ ?_⟩
        simp only [arboretlaw03_size.l1, rdN, hw]
        exact Ev.pos (by omega) (Ev.neg h1 (Ev.neg h2 (Ev.pos (by omega) (Ev.pos (by omega) (Ev.then hv hr)))))
    have props : ∀ (j i : Nat) (acc : Int), i + j = x.f1.length → ∃ v, Ev (fun k => arboretlaw03_size.l0 k d acc (x.f1.length : Int) (i : Int) x.f0 x.f1 x.f2) v := by
      intro j
      induction j with
      | zero =>
        intro i acc hi
        obtain ⟨v, hv⟩ := kids x.f2.length 0 acc (by omega)
        refine ⟨v, Ev.succ ?_⟩
        simp only [arboretlaw03_size.l0]
        exact Ev.neg (by omega) hv
      | succ j ihj =>
        intro i acc hi
        have hw := step64 (i := i) (n := x.f1.length) (by omega) (by omega)
        obtain ⟨v, hv⟩ := ihj (i + 1) (wrap64 ((wrap64 ((wrap64 (acc + 1)) + (((rd_T77 x.f1 i).f0).size : Int))) + (((rd_T77 x.f1 i).f1).length : Int))) (by omega)
        refine ⟨v, Ev.succ ?_⟩
        simp only [arboretlaw03_size.l0, hw]
        exact Ev.pos (by omega) (Ev.pos (by omega) (Ev.pos (by omega) hv))
    obtain ⟨v, hv⟩ := props x.f1.length 0 (wrap64 (1 + (x.f0.size : Int))) (by omega)
    refine ⟨v, Ev.succ ?_⟩
    simp only [arboretlaw03_size.f]
    exact hv
theorem few_ends (b : Int) (l : List S94) (x : S30) (hx : bulk30 x ≤ 1048576) : ∃ v, Ev (fun k => arboretlaw03_Few.f k b l x.f0 x.f1 x.f2) v := by
  obtain ⟨v, hv⟩ := size_ends 1048576 (by omega) x hx 0
  by_cases h : v ≤ 100000
  · refine ⟨decide ((l.length : Int) ≤ 200), ?_⟩
    unfold arboretlaw03_Few.f
    exact Ev.then hv (Ev.pos h (Ev.some _))
  · refine ⟨false, ?_⟩
    unfold arboretlaw03_Few.f
    exact Ev.then hv (Ev.neg h (Ev.some _))
end Go.Proofs.Yteejaaeglfpcmab.PC

set_option linter.unusedVariables false
set_option linter.unusedSimpArgs false
namespace Go.Proofs.Yteejaaeglfpcmab.PC
open Go.RowKit Go.Proofs.Yteejaaeglfpcmab.Aid Go.Proofs.YteejaaeglfpcmabW.PrintWords
def letterB (c : Int) : Bool := (decide (97 ≤ c) && decide (c ≤ 122)) || (decide (65 ≤ c) && decide (c ≤ 90))
def plainB (c : Int) : Bool := letterB c || (decide (48 ≤ c) && decide (c ≤ 57)) || c == 44 || c == 46 || c == 95 || c == 43 || c == 45
def okB (more : ByteArray) (c : Int) : Bool := plainB c || decide (0 ≤ Lib.indexByte more.data.toList c.toNat.toUInt8)
theorem byte_all {p : Int → Prop} (h : ∀ n : Fin 256, p (n.val : Int)) {c : Int} (h0 : 0 ≤ c) (h1 : c ≤ 255) : p c := by
  have := h ⟨c.toNat, by omega⟩
  simp only at this
  rwa [Int.toNat_of_nonneg h0] at this
theorem plain_f {c : Int} (h0 : 0 ≤ c) (h1 : c ≤ 255) : name_plain.f c = some (plainB c) := byte_all (p := fun c => name_plain.f c = some (plainB c)) (by decide +kernel) h0 h1
theorem letter_f {c : Int} (h0 : 0 ≤ c) (h1 : c ≤ 255) : name_letter.f c = some (letterB c) := byte_all (p := fun c => name_letter.f c = some (letterB c)) (by decide +kernel) h0 h1
theorem stands_f {c : Int} (h0 : 0 ≤ c) (h1 : c ≤ 255) : arboretref01_stands.f c = some (plainB c) := byte_all (p := fun c => arboretref01_stands.f c = some (plainB c)) (by decide +kernel) h0 h1
theorem ok_none {c : Int} (h0 : 0 ≤ c) (h1 : c ≤ 255) : okB ⟨#[]⟩ c = plainB c := byte_all (p := fun c => okB ⟨#[]⟩ c = plainB c) (by decide +kernel) h0 h1
theorem ok_prop {c : Int} (h0 : 0 ≤ c) (h1 : c ≤ 255) : okB ⟨#[63, 35]⟩ c = (plainB c || c == 63 || c == 35) := byte_all (p := fun c => okB ⟨#[63, 35]⟩ c = (plainB c || c == 63 || c == 35)) (by decide +kernel) h0 h1
theorem bytesOf_range (s : ByteArray) : ∀ b ∈ bytesOf s, 0 ≤ b ∧ b ≤ 255 := by
  intro b hb
  simp only [bytesOf, List.mem_map] at hb
  obtain ⟨u, _, rfl⟩ := hb
  have := u.toNat_lt
  omega
theorem bytesOf_at (s : ByteArray) (i : Nat) (h : i < (bytesOf s).length) : bt s (i : Int) = (bytesOf s)[i] := by
  rw [← rd_bytesOf]
  simp [rd, List.getD_eq_getElem?_getD, List.getElem?_eq_getElem h]
theorem bytesOf_upto (s : ByteArray) (k : Nat) : bytesOf (s.extract 0 k) = (bytesOf s).take k := by
  unfold bytesOf
  rw [Lib.Pa.extract_upto_list, List.map_take]
theorem bytesOf_from (s : ByteArray) (k : Nat) : bytesOf (s.extract k s.size) = (bytesOf s).drop k := by
  unfold bytesOf
  rw [Lib.Pa.extract_from, ← List.map_drop]
def allB (more : ByteArray) (l : List Int) : Bool := l.all (okB more) && (decide (1 ≤ l.length) && decide (l.length ≤ 31))
theorem all_ev (s more : ByteArray) (hs : s.size ≤ 140737488351232) : Ev (fun k => name_all.f k s more) (allB more (bytesOf s)) := by
  have hn : (bytesOf s).length = s.size := bytesOf_length s
  have main := loop (bytesOf s) (fun l => l.all (okB more) && (decide (1 ≤ s.size) && decide (s.size ≤ 31))) (fun k i => name_all.l0 k s more (s.size : Int) i) ?_ ?_ 0 (Nat.zero_le _)
  · have e : allB more (bytesOf s) = (((bytesOf s).drop 0).all (okB more) && (decide (1 ≤ s.size) && decide (s.size ≤ 31))) := by
      unfold allB
      rw [List.drop_zero, hn]
    rw [e]
    exact main
  · rw [hn]
    refine Ev.succ ⟨0, fun k _ => ?_⟩
    simp only [name_all.l0]
    rw [if_neg (by omega)]
    by_cases h : (s.size : Int) ≥ 1
    · rw [if_pos h]
      have h1 : 1 ≤ s.size := by omega
      simp [h1, Int.ofNat_le]
      omega
    · rw [if_neg h]
      have h1 : ¬ 1 ≤ s.size := by omega
      simp [h1]
  · intro i h ih
    obtain ⟨b0, b1⟩ := bytesOf_range s _ (List.getElem_mem h)
    refine Ev.succ ?_
    have hw : wrap64 ((i : Int) + 1) = ((i + 1 : Nat) : Int) := by rw [w64 (by omega) (by omega)]; omega
    simp only [name_all.l0, bytesOf_at s i h, plain_f b0 b1, hw, Option.bind_some, List.all_cons]
    refine Ev.pos (by omega) (Ev.pos (Int.natCast_nonneg i) (Ev.pos (by omega) ?_))
    cases hp : plainB (bytesOf s)[i] with
    | true =>
      have ho : okB more (bytesOf s)[i] = true := by unfold okB; rw [hp]; rfl
      rw [ho, Bool.true_and]
      exact Ev.pos rfl ih
    | false =>
      refine Ev.neg (by decide) ?_
      simp only [strings_IndexByte.f, Option.bind_some]
      by_cases hx : Lib.indexByte more.data.toList (bytesOf s)[i].toNat.toUInt8 < 0
      · have ho : okB more (bytesOf s)[i] = false := by unfold okB; rw [hp, decide_eq_false (by omega)]; rfl
        rw [ho]
        exact Ev.pos hx (Ev.some _)
      · have ho : okB more (bytesOf s)[i] = true := by unfold okB; rw [hp, decide_eq_true (by omega)]; rfl
        rw [ho, Bool.true_and]
        exact Ev.neg hx ih
def idx (c : Int) : List Int → Int
  | [] => -1
  | a :: l => if a = c then 0 else if idx c l = -1 then -1 else idx c l + 1
theorem idx_lib (c : UInt8) : ∀ l : List UInt8, Lib.indexByte l c = idx (c.toNat : Int) (l.map fun b => (b.toNat : Int))
  | [] => rfl
  | a :: l => by
    have ih := idx_lib c l
    simp only [Lib.indexByte, idx, List.map_cons, ih]
    by_cases h : a = c
    · simp [h]
    · have h2 : ¬ ((a.toNat : Int) = (c.toNat : Int)) := by
        intro e
        exact h (UInt8.toNat_inj.mp (by omega))
      simp [h, h2]
theorem idx_range (c : Int) : ∀ l : List Int, idx c l = -1 ∨ (0 ≤ idx c l ∧ idx c l < l.length)
  | [] => .inl rfl
  | a :: l => by
    have ih := idx_range c l
    simp only [idx, List.length_cons]
    by_cases h : a = c
    · rw [if_pos h]; right; omega
    · rw [if_neg h]
      by_cases h1 : idx c l = -1
      · rw [if_pos h1]; left; rfl
      · rw [if_neg h1]; right; omega
theorem idx_split (c : Int) : ∀ (l : List Int) (j : Nat), idx c l = (j : Int) → l = l.take j ++ c :: l.drop (j + 1)
  | [], j, h => by simp [idx] at h
  | a :: l, j, h => by
    simp only [idx] at h
    by_cases h0 : a = c
    · rw [if_pos h0] at h
      have : j = 0 := by omega
      subst this; subst h0; simp
    · rw [if_neg h0] at h
      by_cases h1 : idx c l = -1
      · rw [if_pos h1] at h; omega
      · rw [if_neg h1] at h
        obtain ⟨j, rfl⟩ : ∃ m, j = m + 1 := ⟨j - 1, by have := idx_range c l; omega⟩
        have := idx_split c l j (by omega)
        simp only [List.take_succ_cons, List.drop_succ_cons, List.cons_append]
        rw [← this]
theorem index_f (s : ByteArray) (u : UInt8) : stringslite_Index.f s ⟨#[u]⟩ = some (idx (u.toNat : Int) (bytesOf s)) := by
  unfold stringslite_Index.f
  simp only
  rw [idx_lib]
  rfl
theorem refcut_ev (s : ByteArray) (hs : s.size ≤ 140737488351232) : Ev (fun k => arboretref01_Cut.f k s) (idx 64 (bytesOf s)) := by
  have hn : (bytesOf s).length = s.size := bytesOf_length s
  have main := loop (bytesOf s) (fun l => if idx 64 l = -1 then -1 else idx 64 l + ((s.size : Int) - l.length)) (fun k i => arboretref01_Cut.l0 k s (s.size : Int) i) ?_ ?_ 0 (Nat.zero_le _)
  · have e : (if idx 64 ((bytesOf s).drop 0) = -1 then -1 else idx 64 ((bytesOf s).drop 0) + ((s.size : Int) - ((bytesOf s).drop 0).length)) = idx 64 (bytesOf s) := by
      rw [List.drop_zero, hn]
      split <;> omega
    rw [← e]
    exact main
  · rw [hn]
    refine Ev.succ ⟨0, fun k _ => ?_⟩
    simp only [arboretref01_Cut.l0]
    rw [if_neg (by omega)]
    rfl
  · intro i h ih
    refine Ev.succ ?_
    have hw : wrap64 ((i : Int) + 1) = ((i + 1 : Nat) : Int) := by rw [w64 (by omega) (by omega)]; omega
    simp only [arboretref01_Cut.l0, bytesOf_at s i h, hw]
    refine Ev.pos (by omega) (Ev.pos (Int.natCast_nonneg i) (Ev.pos (by omega) ?_))
    have hl : ((bytesOf s).drop (i + 1)).length = s.size - (i + 1) := by rw [List.length_drop, hn]
    simp only [idx, List.length_cons, hl]
    simp only [hl] at ih
    by_cases hc : (bytesOf s)[i] = 64
    · rw [if_pos hc, if_neg (by omega)]
      refine Ev.pos hc (Ev.fix ?_)
      congr 1
      omega
    · rw [if_neg hc]
      refine Ev.neg hc ?_
      by_cases h1 : idx 64 ((bytesOf s).drop (i + 1)) = -1
      · rw [if_pos h1] at ih
        rw [if_pos h1, if_pos rfl]
        exact ih
      · rw [if_neg h1] at ih
        have hr := idx_range 64 ((bytesOf s).drop (i + 1))
        rw [if_neg h1, if_neg (by omega)]
        have e : idx 64 ((bytesOf s).drop (i + 1)) + ((s.size : Int) - ((s.size - (i + 1) : Nat) : Int)) = idx 64 ((bytesOf s).drop (i + 1)) + 1 + ((s.size : Int) - ((s.size - (i + 1) + 1 : Nat) : Int)) := by omega
        rw [← e]
        exact ih
def cutB (s : ByteArray) : ByteArray × ByteArray × Bool := if idx 64 (bytesOf s) = -1 then (s, ⟨#[]⟩, false) else (s.extract 0 (idx 64 (bytesOf s)).toNat, s.extract ((idx 64 (bytesOf s)).toNat + 1) s.size, true)
theorem cut_f (s : ByteArray) (hs : s.size ≤ 140737488351232) : strings_Cut.f s ⟨#[64]⟩ = some (cutB s) := by
  have hr := idx_range 64 (bytesOf s)
  rw [bytesOf_length] at hr
  have e : stringslite_Cut.f s ⟨#[64]⟩ = some (cutB s) := by
    unfold stringslite_Cut.f cutB
    rw [index_f]
    have e64 : ((64 : UInt8).toNat : Int) = 64 := rfl
    rw [e64]
    simp only [Option.bind_some]
    obtain ⟨j, hj⟩ : ∃ j, j = idx 64 (bytesOf s) := ⟨_, rfl⟩
    rw [← hj] at hr ⊢
    have h1 : (((⟨#[64]⟩ : ByteArray).size : Nat) : Int) = 1 := rfl
    rw [h1]
    by_cases h : j = -1
    · rw [if_pos h, if_neg (by omega)]
    · have hw : wrap64 (j + 1) = j + 1 := w64 (by omega) (by omega)
      rw [if_neg h, hw, if_pos (by omega), if_pos (by omega), if_pos (by omega), if_pos (by omega), if_pos (by omega)]
      have e1 : (j + 1).toNat = j.toNat + 1 := by omega
      rw [e1]
  unfold strings_Cut.f
  rw [e]
  rfl
end Go.Proofs.Yteejaaeglfpcmab.PC

set_option linter.unusedVariables false
set_option linter.unusedSimpArgs false
namespace Go.Proofs.Yteejaaeglfpcmab.PC
open Go.RowKit Go.Proofs.Yteejaaeglfpcmab.Aid Go.Proofs.YteejaaeglfpcmabW.PrintWords
def firstB (c : Int) : Bool := letterB c || c == 95
def unitB (l : List Int) : Bool := l.all plainB && (decide (1 ≤ l.length) && decide (l.length ≤ 31))
def baseB (l : List Int) : Bool := unitB l && firstB (l.getD 0 0)
def nodeB (s : ByteArray) : Bool := baseB (bytesOf (cutB s).1) && (!(cutB s).2.2 || unitB (bytesOf (cutB s).2.1))
def allBut (n : Nat) (at_ : Int) : List Int → Bool
  | [] => true
  | a :: l => (decide ((n : Int) - (l.length + 1 : Nat) = at_) || plainB a) && allBut n at_ l
theorem allBut_behind (n : Nat) (at_ : Int) : ∀ l : List Int, at_ < (n : Int) - l.length → allBut n at_ l = l.all plainB
  | [], _ => rfl
  | a :: l, h => by
    rw [List.length_cons] at h
    have ih := allBut_behind n at_ l (by omega)
    simp only [allBut, List.all_cons, ih]
    rw [decide_eq_false (by omega), Bool.false_or]
theorem allBut_at (n : Nat) (at_ : Int) (c : Int) (r : List Int) : ∀ l : List Int, (n : Int) = at_ + 1 + r.length → allBut n at_ (l ++ c :: r) = (l.all plainB && r.all plainB) := by
  intro l h
  induction l with
  | nil =>
    simp only [List.nil_append, allBut, List.all_nil, Bool.true_and]
    rw [decide_eq_true (by omega), Bool.true_or, Bool.true_and, allBut_behind n at_ r (by omega)]
  | cons a l ih =>
    simp only [List.cons_append, allBut, List.all_cons, ih, Bool.and_assoc]
    rw [decide_eq_false (by simp only [List.length_append, List.length_cons]; omega), Bool.false_or]
def endB (l : List Int) : Bool := decide (1 ≤ l.length) && decide (l.length ≤ 31) && firstB (l.getD 0 0)
theorem refnode_loop (s b : ByteArray) (at_ : Int) (hs : s.size ≤ 140737488351232) :
    Ev (fun k => arboretref01_Node.j0 k s at_ b) (allBut s.size at_ (bytesOf s) && endB (bytesOf b)) := by
  have hn : (bytesOf s).length = s.size := bytesOf_length s
  refine Ev.succ ?_
  simp only [arboretref01_Node.j0]
  have main := loop (bytesOf s) (fun l => allBut s.size at_ l && endB (bytesOf b)) (fun k i => arboretref01_Node.l0 k s at_ b (s.size : Int) i) ?_ ?_ 0 (Nat.zero_le _)
  · exact main
  · rw [hn]
    refine Ev.succ ?_
    simp only [arboretref01_Node.l0, allBut, Bool.true_and]
    refine Ev.neg (by omega) ⟨0, fun k _ => ?_⟩
    have hl : (bytesOf b).length = b.size := bytesOf_length _
    unfold endB
    rw [hl]
    by_cases h1 : (b.size : Int) ≥ 1
    · rw [if_pos h1, decide_eq_true (by omega : 1 ≤ b.size)]
      by_cases h2 : (b.size : Int) ≤ 31
      · have hp : 0 < (bytesOf b).length := by omega
        have e0 : bt b 0 = (bytesOf b).getD 0 0 := by
          rw [getD_at hp]
          exact bytesOf_at b 0 hp
        rw [if_pos h2, if_pos (by omega), decide_eq_true (by omega : b.size ≤ 31), e0]
        obtain ⟨b0, b1⟩ := bytesOf_range b _ (List.getElem_mem hp)
        rw [← getD_at (d := 0) hp] at b0 b1
        generalize (bytesOf b).getD 0 0 = c at b0 b1
        revert c
        intro c b0 b1
        exact byte_all (p := fun c => (if c = 95 then some true else if c ≥ 97 then if c ≤ 122 then some true else if c ≥ 65 then some (decide (c ≤ 90)) else some false else if c ≥ 65 then some (decide (c ≤ 90)) else some false) = some (true && true && firstB c)) (by decide +kernel) b0 b1
      · rw [if_neg h2, decide_eq_false (by omega : ¬ b.size ≤ 31)]
        rfl
    · rw [if_neg h1, decide_eq_false (by omega : ¬ 1 ≤ b.size)]
      rfl
  · intro i h ih
    have hw : wrap64 ((i : Int) + 1) = ((i + 1 : Nat) : Int) := by rw [w64 (by omega) (by omega)]; omega
    have hl : ((bytesOf s).drop (i + 1)).length = s.size - (i + 1) := by rw [List.length_drop, hn]
    refine Ev.succ ?_
    simp only [arboretref01_Node.l0, allBut, hl, hw]
    refine Ev.pos (by omega) ?_
    by_cases ha : (i : Int) = at_
    · rw [decide_eq_true (by omega), Bool.true_or, Bool.true_and]
      exact Ev.pos ha ih
    · rw [decide_eq_false (by omega), Bool.false_or]
      obtain ⟨b0, b1⟩ := bytesOf_range s _ (List.getElem_mem h)
      simp only [bytesOf_at s i h, stands_f b0 b1, Option.bind_some]
      refine Ev.neg ha (Ev.pos (Int.natCast_nonneg i) (Ev.pos (by omega) ?_))
      cases plainB (bytesOf s)[i] with
      | true => exact Ev.pos rfl (by rw [Bool.true_and]; exact ih)
      | false => exact Ev.neg (by decide) (Ev.some _)
theorem refnode_ev (s : ByteArray) (hs : s.size ≤ 140737488351232) : Ev (fun k => arboretref01_Node.f k s) (nodeB s) := by
  have hn : (bytesOf s).length = s.size := bytesOf_length s
  have hr := idx_range 64 (bytesOf s)
  unfold arboretref01_Node.f
  refine Ev.then (refcut_ev s hs) ?_
  by_cases h : idx 64 (bytesOf s) = -1
  · have e : nodeB s = (allBut s.size (-1) (bytesOf s) && endB (bytesOf s)) := by
      unfold nodeB baseB cutB unitB endB
      rw [if_pos h, allBut_behind _ _ _ (by omega)]
      simp only [Bool.not_false, Bool.true_or, Bool.and_true, Bool.and_assoc]
    rw [e, h]
    exact Ev.neg (by decide) (refnode_loop s s (-1) hs)
  · obtain ⟨j, hj⟩ : ∃ j : Nat, idx 64 (bytesOf s) = (j : Int) := ⟨(idx 64 (bytesOf s)).toNat, by omega⟩
    have hsp := idx_split 64 (bytesOf s) j hj
    have e1 : bytesOf (cutB s).1 = (bytesOf s).take j := by
      unfold cutB
      rw [if_neg h, hj, Int.toNat_natCast]
      exact bytesOf_upto s j
    have e2 : bytesOf (cutB s).2.1 = (bytesOf s).drop (j + 1) := by
      unfold cutB
      rw [if_neg h, hj, Int.toNat_natCast]
      exact bytesOf_from s (j + 1)
    have e3 : (cutB s).2.2 = true := by
      unfold cutB
      rw [if_neg h]
    have hdl : ((bytesOf s).drop (j + 1)).length = s.size - (j + 1) := by rw [List.length_drop, hn]
    have eall : allBut s.size (j : Int) (bytesOf s) = (((bytesOf s).take j).all plainB && ((bytesOf s).drop (j + 1)).all plainB) := by
      have := allBut_at s.size (j : Int) 64 ((bytesOf s).drop (j + 1)) ((bytesOf s).take j) (by rw [hdl]; omega)
      rw [← hsp] at this
      exact this
    have e : nodeB s = (decide (1 ≤ s.size - (j + 1)) && decide (s.size - (j + 1) ≤ 31) && (allBut s.size (j : Int) (bytesOf s) && endB (bytesOf (s.extract 0 j)))) := by
      rw [eall, bytesOf_upto]
      unfold nodeB baseB unitB endB
      rw [e1, e2, e3, hdl]
      simp only [Bool.not_true, Bool.false_or]
      generalize (List.all (List.take j (bytesOf s)) plainB) = a
      generalize (List.all (List.drop (j + 1) (bytesOf s)) plainB) = b
      generalize decide (1 ≤ s.size - (j + 1)) = c
      generalize decide (s.size - (j + 1) ≤ 31) = d
      generalize decide (1 ≤ (List.take j (bytesOf s)).length) = e
      generalize decide ((List.take j (bytesOf s)).length ≤ 31) = f
      generalize firstB ((List.take j (bytesOf s)).getD 0 0) = g
      cases a <;> cases b <;> cases c <;> cases d <;> cases e <;> cases f <;> cases g <;> rfl
    have hw : wrap64 (wrap64 ((s.size : Int) - (j : Int)) - 1) = ((s.size - (j + 1) : Nat) : Int) := by
      rw [w64 (x := (s.size : Int) - (j : Int)) (by omega) (by omega), w64 (by omega) (by omega)]
      omega
    rw [hj, e, hw, Int.toNat_natCast]
    refine Ev.pos (Int.natCast_nonneg j) (Ev.pos (Int.natCast_nonneg j) (Ev.pos (by omega) ?_))
    by_cases h1 : ((s.size - (j + 1) : Nat) : Int) < 1
    · rw [decide_eq_false (by omega : ¬ 1 ≤ s.size - (j + 1))]
      exact Ev.pos h1 (Ev.some _)
    · rw [decide_eq_true (by omega : 1 ≤ s.size - (j + 1))]
      refine Ev.neg h1 ?_
      by_cases h2 : ((s.size - (j + 1) : Nat) : Int) > 31
      · rw [decide_eq_false (by omega : ¬ s.size - (j + 1) ≤ 31)]
        exact Ev.pos h2 (Ev.some _)
      · rw [decide_eq_true (by omega : s.size - (j + 1) ≤ 31)]
        exact Ev.neg h2 (refnode_loop s (s.extract 0 j) (j : Int) hs)
def propB (l : List Int) : Bool := l.all (fun c => plainB c || c == 63 || c == 35) && (decide (1 ≤ l.length) && decide (l.length ≤ 31))
theorem refprop_ev (s : ByteArray) (hs : s.size ≤ 140737488351232) : Ev (fun k => arboretref01_Prop.f k s) (propB (bytesOf s)) := by
  have hn : (bytesOf s).length = s.size := bytesOf_length s
  have main := loop (bytesOf s) (fun l => l.all (fun c => plainB c || c == 63 || c == 35) && (decide (1 ≤ s.size) && decide (s.size ≤ 31))) (fun k i => arboretref01_Prop.l0 k s (s.size : Int) i) ?_ ?_ 0 (Nat.zero_le _)
  · unfold propB
    rw [hn]
    exact main
  · rw [hn]
    refine Ev.succ ?_
    simp only [arboretref01_Prop.l0]
    refine Ev.neg (by omega) (Ev.fix ?_)
    by_cases h : (s.size : Int) ≥ 1
    · rw [if_pos h, decide_eq_true (by omega : 1 ≤ s.size)]
      have : decide ((s.size : Int) ≤ 31) = decide (s.size ≤ 31) := decide_eq_decide.mpr (by omega)
      rw [this]
      rfl
    · rw [if_neg h, decide_eq_false (by omega : ¬ 1 ≤ s.size)]
      rfl
  · intro i h ih
    have hw : wrap64 ((i : Int) + 1) = ((i + 1 : Nat) : Int) := by rw [w64 (by omega) (by omega)]; omega
    obtain ⟨b0, b1⟩ := bytesOf_range s _ (List.getElem_mem h)
    refine Ev.succ ?_
    simp only [arboretref01_Prop.l0, bytesOf_at s i h, stands_f b0 b1, hw, Option.bind_some, List.all_cons]
    refine Ev.pos (by omega) (Ev.pos (Int.natCast_nonneg i) (Ev.pos (by omega) ?_))
    cases plainB (bytesOf s)[i] with
    | true =>
      simp only [Bool.true_or, Bool.true_and, if_true]
      exact ih
    | false =>
      refine Ev.neg (by decide) ?_
      by_cases h63 : (bytesOf s)[i] = 63
      · rw [h63]
        exact Ev.pos rfl ih
      · by_cases h35 : (bytesOf s)[i] = 35
        · rw [h35]
          exact Ev.neg (by decide) (Ev.pos rfl ih)
        · have e1 : ((bytesOf s)[i] == 63) = false := by simpa using h63
          have e2 : ((bytesOf s)[i] == 35) = false := by simpa using h35
          rw [e1, e2]
          exact Ev.neg h63 (Ev.neg h35 (Ev.some _))
end Go.Proofs.Yteejaaeglfpcmab.PC

set_option linter.unusedVariables false
set_option linter.unusedSimpArgs false
namespace Go.Proofs.Yteejaaeglfpcmab.PC
open Go.RowKit Go.Proofs.Yteejaaeglfpcmab.Aid Go.Proofs.YteejaaeglfpcmabW.PrintWords
theorem all_none (s : ByteArray) : allB ⟨#[]⟩ (bytesOf s) = unitB (bytesOf s) := by
  unfold allB unitB
  congr 1
  rw [Bool.eq_iff_iff, List.all_eq_true, List.all_eq_true]
  constructor
  · intro h x hx
    obtain ⟨h0, h1⟩ := bytesOf_range s x hx
    rw [← ok_none h0 h1]
    exact h x hx
  · intro h x hx
    obtain ⟨h0, h1⟩ := bytesOf_range s x hx
    rw [ok_none h0 h1]
    exact h x hx
theorem cutB_size (s : ByteArray) : (cutB s).1.size ≤ s.size ∧ (cutB s).2.1.size ≤ s.size := by
  unfold cutB
  split
  · exact ⟨Nat.le_refl _, Nat.zero_le _⟩
  · simp only [ByteArray.size_extract]
    omega
theorem node_ev (s : ByteArray) (hs : s.size ≤ 140737488351232) : Ev (fun k => name_Node.f k s) (nodeB s) := by
  have hz := cutB_size s
  unfold name_Node.f
  refine Ev.then (Ev.fix (cut_f s hs)) ?_
  have h1 := all_ev (cutB s).1 ⟨#[]⟩ (by omega)
  have h2 := all_ev (cutB s).2.1 ⟨#[]⟩ (by omega)
  rw [all_none] at h1 h2
  refine Ev.then h1 ?_
  have hl : (bytesOf (cutB s).1).length = (cutB s).1.size := bytesOf_length _
  unfold nodeB baseB
  cases hb : unitB (bytesOf (cutB s).1) with
  | false => exact Ev.neg (by decide) (Ev.some _)
  | true =>
    have hp : 0 < (bytesOf (cutB s).1).length := by
      unfold unitB at hb
      simp only [Bool.and_eq_true, decide_eq_true_eq] at hb
      omega
    refine Ev.pos rfl (Ev.pos (by omega) ?_)
    have e0 : bt (cutB s).1 0 = (bytesOf (cutB s).1).getD 0 0 := by
      rw [getD_at hp]
      exact bytesOf_at (cutB s).1 0 hp
    obtain ⟨b0, b1⟩ := bytesOf_range (cutB s).1 _ (List.getElem_mem hp)
    rw [← getD_at (d := 0) hp] at b0 b1
    rw [e0]
    refine Ev.then (Ev.fix (letter_f b0 b1)) ?_
    unfold firstB
    have tail : Ev (fun k => if (cutB s).2.2 = true then ((name_all.f k (cutB s).2.1 (⟨#[]⟩ : ByteArray)).bind fun t214 => (some t214)) else (some true)) (!(cutB s).2.2 || unitB (bytesOf (cutB s).2.1)) := by
      cases (cutB s).2.2 with
      | false => exact Ev.neg (by decide) (Ev.some _)
      | true => exact Ev.pos rfl (Ev.then h2 (Ev.some _))
    cases hc : letterB ((bytesOf (cutB s).1).getD 0 0) with
    | true =>
      simp only [Bool.true_or, Bool.and_true, Bool.true_and, if_true]
      exact tail
    | false =>
      refine Ev.neg (by decide) ?_
      by_cases h95 : (bytesOf (cutB s).1).getD 0 0 = 95
      · rw [h95]
        exact Ev.pos rfl tail
      · have : ((bytesOf (cutB s).1).getD 0 0 == 95) = false := by simpa using h95
        rw [this]
        exact Ev.neg h95 (Ev.some _)
theorem prop_ev (s : ByteArray) (hs : s.size ≤ 140737488351232) : Ev (fun k => name_Prop.f k s) (propB (bytesOf s)) := by
  have e : allB ⟨#[63, 35]⟩ (bytesOf s) = propB (bytesOf s) := by
    unfold allB propB
    congr 1
    rw [Bool.eq_iff_iff, List.all_eq_true, List.all_eq_true]
    constructor
    · intro h x hx
      obtain ⟨h0, h1⟩ := bytesOf_range s x hx
      rw [← ok_prop h0 h1]
      exact h x hx
    · intro h x hx
      obtain ⟨h0, h1⟩ := bytesOf_range s x hx
      rw [ok_prop h0 h1]
      exact h x hx
  unfold name_Prop.f
  refine Ev.then (all_ev s ⟨#[63, 35]⟩ hs) ?_
  rw [e]
  exact Ev.some _
end Go.Proofs.Yteejaaeglfpcmab.PC

set_option linter.unusedVariables false
set_option linter.unusedSimpArgs false
namespace Go.Proofs.Yteejaaeglfpcmab.PC
open Go.RowKit Go.Proofs.Yteejaaeglfpcmab.Rdr Go.Proofs.Yteejaaeglfpcmab.Aid Go.Proofs.YteejaaeglfpcmabW.PrintWords
def TwiceFrom {α : Type} (l : List α) (i : Nat) : Prop := ∃ j, ∃ h : j < l.length, i ≤ j ∧ ∃ q, ∃ h' : q < j, l[q] = l[j]
theorem twice_nodup {α : Type} (l : List α) : TwiceFrom l 0 ↔ ¬ l.Nodup := by
  constructor
  · rintro ⟨j, h, _, q, h', e⟩ hn
    exact List.pairwise_iff_getElem.mp hn q j (by omega) h h' e
  · intro hn
    refine Classical.byContradiction fun ht => hn ?_
    refine List.pairwise_iff_getElem.mpr fun q j hq hj hqj e => ht ⟨j, hj, Nat.zero_le _, q, hqj, e⟩
theorem dupB_iff (xs : List ByteArray) : dupB xs = true ↔ ¬ (txts xs).Nodup := by
  obtain ⟨ss, hss⟩ : ∃ ss, ss = (txts xs).mergeSort fun x y => decide (x ≤ y) := ⟨_, rfl⟩
  have hp : ss.Perm (txts xs) := by rw [hss]; exact List.mergeSort_perm _ _
  have hl : ss.length = xs.length := by rw [hp.length_eq, txts_len]
  have hs : ss.Pairwise (fun x y => x ≤ y) := by
    have := List.pairwise_mergeSort (le := fun x y : List UInt8 => decide (x ≤ y)) (fun a b c h1 h2 => by
      simp only [decide_eq_true_eq] at h1 h2 ⊢
      exact List.le_trans h1 h2) (fun a b => by
      simp only [Bool.or_eq_true, decide_eq_true_eq]
      exact List.le_total a b) (txts xs)
    rw [← hss] at this
    exact this.imp (fun h => by simpa using h)
  have hd : dupB xs = decide ((Lib.compact ss).length < xs.length) := by rw [hss]; rfl
  rw [hd, decide_eq_true_eq, ← hl, ← hp.nodup_iff]
  constructor
  · intro h hn
    have : Lib.compact ss = ss := Lib.compact_all ss (fun j hj => by
      rcases Nat.eq_zero_or_pos j with rfl | h0
      · exact Lib.keeps_lt_one _ 0 (by omega)
      · refine Lib.keeps_pos ?_
        rw [List.getElem!_toArray, List.getElem!_toArray, getElem!_pos ss j hj, getElem!_pos ss (j - 1) (by omega)]
        exact fun e => List.pairwise_iff_getElem.mp hn (j - 1) j (by omega) hj (by omega) e.symm)
    rw [this] at h
    omega
  · intro hn
    refine Classical.byContradiction fun hlen => hn ?_
    have hle := Lib.compact_length_le ss
    have heq : (Lib.compact ss).length = ss.length := by omega
    have hk : ∀ j, j < ss.length → Lib.keeps ss.toArray j = true := by
      unfold Lib.compact Lib.compactUpTo at heq
      rw [List.length_map] at heq
      have h2 : ((List.range ss.length).filter (Lib.keeps ss.toArray)).length = (List.range ss.length).length := by rw [heq, List.length_range]
      have h3 := List.length_filter_eq_length_iff.mp h2
      exact fun j hj => h3 j (List.mem_range.mpr hj)
    refine List.pairwise_iff_getElem.mpr fun q j hq hj hqj e => ?_
    have h1 := hk (q + 1) (by omega)
    have h2 : ss[q + 1]'(by omega) ≠ ss[q] := by
      unfold Lib.keeps at h1
      simp only [decide_eq_true_eq] at h1
      rcases h1 with h1 | h1
      · omega
      · rw [List.getElem!_toArray, List.getElem!_toArray, getElem!_pos ss (q + 1) (by omega), getElem!_pos ss (q + 1 - 1) (by omega)] at h1
        exact h1
    have h3 := List.pairwise_iff_getElem.mp hs q (q + 1) hq (by omega) (by omega)
    rcases Nat.lt_or_ge (q + 1) j with h4 | h4
    · have h5 := List.pairwise_iff_getElem.mp hs (q + 1) j (by omega) hj h4
      rw [← e] at h5
      exact h2 (List.le_antisymm h5 h3)
    · have : q + 1 = j := by omega
      subst this
      exact h2 e.symm
theorem dup_twice {α : Type} (l : List α) (f : α → ByteArray) : dupB (l.map f) = true ↔ TwiceFrom (l.map fun x => (f x).toList) 0 := by
  rw [dupB_iff, twice_nodup]
  have : txts (l.map f) = l.map fun x => (f x).toList := by
    unfold txts
    rw [List.map_map]
    apply List.map_congr_left
    intro x _
    show (f x).data.toList = (f x).toList
    exact (ByteArray.toList_eq (f x)).symm
  rw [this]
theorem names_ev (nm : ByteArray) (ps : List S77) (ks : List S30) (hp : ps.length ≤ 1048576) (hk : ks.length ≤ 1048576) : Ev (fun k => tree_names.f k nm ps ks) (ps.map (·.f0), ks.map (·.f0)) := by
  have l1 : ∀ (j i : Nat) (acc : List ByteArray), i + j = ks.length → acc.length ≤ i → Ev (fun k => tree_names.l1 k (ps.map (·.f0)) acc ks (ks.length : Int) (i : Int)) (ps.map (·.f0), acc ++ (ks.drop i).map (·.f0)) := by
    intro j
    induction j with
    | zero =>
      intro i acc hi ha
      rw [List.drop_of_length_le (by omega)]
      refine Ev.succ ?_
      simp only [tree_names.l1, List.map_nil, List.append_nil]
      exact Ev.neg (by omega) (Ev.some _)
    | succ j ih =>
      intro i acc hi ha
      have hw := step64 (i := i) (n := ks.length) (by omega) hk
      have := ih (i + 1) (acc ++ [(ks.getD i z30).f0]) (by omega) (by simp; omega)
      rw [drop_at (l := ks) (d := z30) (i := i) (by omega), List.map_cons]
      rw [List.append_assoc] at this
      refine Ev.succ ?_
      simp only [tree_names.l1, rdN, hw]
      exact Ev.pos (by omega) (Ev.pos (Int.natCast_nonneg i) (Ev.pos (by omega) (Ev.pos (by omega) this)))
  have l0 : ∀ (j i : Nat) (acc : List ByteArray), i + j = ps.length → acc.length ≤ i → acc ++ (ps.drop i).map (·.f0) = ps.map (·.f0) → Ev (fun k => tree_names.l0 k acc ps (ps.length : Int) (i : Int) nm ps ks) (ps.map (·.f0), ks.map (·.f0)) := by
    intro j
    induction j with
    | zero =>
      intro i acc hi ha he
      rw [List.drop_of_length_le (by omega), List.map_nil, List.append_nil] at he
      refine Ev.succ ?_
      simp only [tree_names.l0]
      rw [he]
      have := l1 ks.length 0 [] (by omega) (by simp)
      exact Ev.neg (by omega) (by simpa using this)
    | succ j ih =>
      intro i acc hi ha he
      have hw := step64 (i := i) (n := ps.length) (by omega) hp
      rw [drop_at (l := ps) (d := z77) (i := i) (by omega), List.map_cons] at he
      have := ih (i + 1) (acc ++ [(ps.getD i z77).f0]) (by omega) (by simp; omega) (by rw [List.append_assoc]; exact he)
      refine Ev.succ ?_
      simp only [tree_names.l0, rdP, hw]
      exact Ev.pos (by omega) (Ev.pos (Int.natCast_nonneg i) (Ev.pos (by omega) (Ev.pos (by omega) this)))
  have := l0 ps.length 0 [] (by omega) (by simp) (by simp)
  unfold tree_names.f
  exact this
theorem bad_ev (xs : List ByteArray) (hs : ∀ s ∈ xs, s.size ≤ 1048576) : ∀ i : Nat, ∃ v : Int, Ev (fun k => badIx k xs i) v ∧ (0 ≤ v ↔ ¬ ∀ s ∈ xs, propB (bytesOf s) = true) := by
  induction xs with
  | nil => exact fun i => ⟨-1, Ev.some _, by simp⟩
  | cons s r ih =>
    intro i
    have hp := prop_ev s (by have := hs s (by simp); omega)
    obtain ⟨v, hv, hi⟩ := ih (fun s h => hs s (by simp [h])) (i + 1)
    cases hb : propB (bytesOf s) with
    | true =>
      rw [hb] at hp
      refine ⟨v, ?_, by rw [hi]; simp [hb]⟩
      simp only [badIx]
      exact Ev.then hp (Ev.pos rfl hv)
    | false =>
      rw [hb] at hp
      refine ⟨(i : Int), ?_, by simp [hb]⟩
      simp only [badIx]
      exact Ev.then hp (Ev.neg (by decide) (Ev.some _))
theorem ref_kids_twice (x : S30) (d : Int) (v5 : Int) (hk : x.f2.length ≤ 1048576) (e5 : Ev (fun k => arboretref01_wrong.l5 k d (x.f2.length : Int) 0 x.f0 x.f1 x.f2) v5) :
    ∃ v, Ev (fun k => arboretref01_wrong.l3 k d (x.f2.length : Int) 0 x.f0 x.f1 x.f2) v ∧ (TwiceFrom (x.f2.map fun y => y.f0.toList) 0 → v = 9) ∧ (¬ TwiceFrom (x.f2.map fun y => y.f0.toList) 0 → v = v5) := by
  have l34 : ∀ (j i : Nat), i + j = x.f2.length → ∃ v : Int, Ev (fun k => arboretref01_wrong.l3 k d (x.f2.length : Int) (i : Int) x.f0 x.f1 x.f2) v ∧ ((∃ a, a < x.f2.length ∧ i ≤ a ∧ ∃ q, q < a ∧ (x.f2.getD q z30).f0.toList = (x.f2.getD a z30).f0.toList) → v = 9) ∧ ((¬ ∃ a, a < x.f2.length ∧ i ≤ a ∧ ∃ q, q < a ∧ (x.f2.getD q z30).f0.toList = (x.f2.getD a z30).f0.toList) → v = v5) := by
    intro j
    induction j with
    | zero =>
      intro i hi
      refine ⟨v5, Ev.succ ?_, fun ⟨a, h1, h2, _⟩ => by omega, fun _ => rfl⟩
      simp only [arboretref01_wrong.l3]
      exact Ev.neg (by omega) e5
    | succ j ihj =>
      intro i hi
      obtain ⟨r, hr, hr9, hr5⟩ := ihj (i + 1) (by omega)
      have hw := step64 (i := i) (n := x.f2.length) (by omega) (by omega)
      have inner : ∀ (p q : Nat), q + p = i → ∃ v : Int, Ev (fun k => arboretref01_wrong.l4 k d (i : Int) (x.f2.length : Int) (i : Int) (i : Int) (q : Int) x.f0 x.f1 x.f2) v ∧ ((∃ a, a < i ∧ q ≤ a ∧ (x.f2.getD a z30).f0.toList = (x.f2.getD i z30).f0.toList) → v = 9) ∧ ((¬ ∃ a, a < i ∧ q ≤ a ∧ (x.f2.getD a z30).f0.toList = (x.f2.getD i z30).f0.toList) → v = r) := by
        intro p
        induction p with
        | zero =>
          intro q hq0
          refine ⟨r, Ev.succ ?_, fun ⟨a, h1, h2, _⟩ => by omega, fun _ => rfl⟩
          simp only [arboretref01_wrong.l4, hw]
          exact Ev.neg (by omega) hr
        | succ p ihp =>
          intro q hq0
          have hw2 := step64 (i := q) (n := x.f2.length) (by omega) (by omega)
          obtain ⟨u, hu, hu9, hur⟩ := ihp (q + 1) (by omega)
          by_cases c : (x.f2.getD q z30).f0.toList = (x.f2.getD i z30).f0.toList
          · refine ⟨9, Ev.succ ?_, fun _ => rfl, fun h => absurd ⟨q, by omega, Nat.le_refl _, c⟩ h⟩
            simp only [arboretref01_wrong.l4, rdN]
            exact Ev.pos (by omega) (Ev.pos (Int.natCast_nonneg q) (Ev.pos (by omega) (Ev.pos (Int.natCast_nonneg i) (Ev.pos (by omega) (Ev.pos c (Ev.some _))))))
          · refine ⟨u, Ev.succ ?_, fun ⟨a, h1, h2, h3⟩ => hu9 ⟨a, h1, ?_, h3⟩, fun h => hur fun ⟨a, h1, h2, h3⟩ => h ⟨a, h1, by omega, h3⟩⟩
            · simp only [arboretref01_wrong.l4, rdN, hw2]
              exact Ev.pos (by omega) (Ev.pos (Int.natCast_nonneg q) (Ev.pos (by omega) (Ev.pos (Int.natCast_nonneg i) (Ev.pos (by omega) (Ev.neg c hu)))))
            · rcases Nat.lt_or_ge q a with h4 | h4
              · exact h4
              · obtain rfl : a = q := by omega
                exact absurd h3 c
      obtain ⟨u, hu, hu9, hur⟩ := inner i 0 (by omega)
      refine ⟨u, Ev.succ ?_, ?_, ?_⟩
      · simp only [arboretref01_wrong.l3]
        exact Ev.pos (by omega) hu
      · rintro ⟨a, h1, h2, q, h3, h4⟩
        rcases Nat.lt_or_ge i a with h5 | h5
        · have hr' := hr9 ⟨a, h1, h5, q, h3, h4⟩
          by_cases hh : ∃ a, a < i ∧ 0 ≤ a ∧ (x.f2.getD a z30).f0.toList = (x.f2.getD i z30).f0.toList
          · exact hu9 hh
          · rw [hur hh, hr']
        · obtain rfl : a = i := by omega
          exact hu9 ⟨q, h3, Nat.zero_le _, h4⟩
      · intro h
        rw [hur (fun ⟨a, h1, _, h3⟩ => h ⟨i, by omega, Nat.le_refl _, a, h1, h3⟩)]
        exact hr5 (fun ⟨a, h1, h2, h3⟩ => h ⟨a, h1, by omega, h3⟩)
  obtain ⟨v, hv, h9, h5⟩ := l34 x.f2.length 0 (by omega)
  refine ⟨v, hv, ?_, ?_⟩
  · rintro ⟨a, ha, _, q, hq, e⟩
    have ha' : a < x.f2.length := by simpa using ha
    refine h9 ⟨a, ha', Nat.zero_le _, q, hq, ?_⟩
    rw [List.getElem_map, List.getElem_map] at e
    rw [getD_at (by omega), getD_at ha']
    exact e
  · intro h
    refine h5 ?_
    rintro ⟨a, ha, _, q, hq, e⟩
    rw [getD_at (by omega), getD_at ha] at e
    exact h ⟨a, by simpa using ha, Nat.zero_le _, q, hq, by rw [List.getElem_map, List.getElem_map]; exact e⟩
theorem ref_props_twice (x : S30) (d : Int) (v3 : Int) (hk : x.f1.length ≤ 1048576) (e3 : Ev (fun k => arboretref01_wrong.l3 k d (x.f2.length : Int) 0 x.f0 x.f1 x.f2) v3) :
    ∃ v, Ev (fun k => arboretref01_wrong.l1 k d (x.f1.length : Int) 0 x.f0 x.f1 x.f2) v ∧ (TwiceFrom (x.f1.map fun y => y.f0.toList) 0 → v = 9) ∧ (¬ TwiceFrom (x.f1.map fun y => y.f0.toList) 0 → v = v3) := by
  have l34 : ∀ (j i : Nat), i + j = x.f1.length → ∃ v : Int, Ev (fun k => arboretref01_wrong.l1 k d (x.f1.length : Int) (i : Int) x.f0 x.f1 x.f2) v ∧ ((∃ a, a < x.f1.length ∧ i ≤ a ∧ ∃ q, q < a ∧ (x.f1.getD q z77).f0.toList = (x.f1.getD a z77).f0.toList) → v = 9) ∧ ((¬ ∃ a, a < x.f1.length ∧ i ≤ a ∧ ∃ q, q < a ∧ (x.f1.getD q z77).f0.toList = (x.f1.getD a z77).f0.toList) → v = v3) := by
    intro j
    induction j with
    | zero =>
      intro i hi
      refine ⟨v3, Ev.succ ?_, fun ⟨a, h1, h2, _⟩ => by omega, fun _ => rfl⟩
      simp only [arboretref01_wrong.l1]
      exact Ev.neg (by omega) e3
    | succ j ihj =>
      intro i hi
      obtain ⟨r, hr, hr9, hr5⟩ := ihj (i + 1) (by omega)
      have hw := step64 (i := i) (n := x.f1.length) (by omega) (by omega)
      have inner : ∀ (p q : Nat), q + p = i → ∃ v : Int, Ev (fun k => arboretref01_wrong.l2 k d (i : Int) (x.f1.length : Int) (i : Int) (i : Int) (q : Int) x.f0 x.f1 x.f2) v ∧ ((∃ a, a < i ∧ q ≤ a ∧ (x.f1.getD a z77).f0.toList = (x.f1.getD i z77).f0.toList) → v = 9) ∧ ((¬ ∃ a, a < i ∧ q ≤ a ∧ (x.f1.getD a z77).f0.toList = (x.f1.getD i z77).f0.toList) → v = r) := by
        intro p
        induction p with
        | zero =>
          intro q hq0
          refine ⟨r, Ev.succ ?_, fun ⟨a, h1, h2, _⟩ => by omega, fun _ => rfl⟩
          simp only [arboretref01_wrong.l2, hw]
          exact Ev.neg (by omega) hr
        | succ p ihp =>
          intro q hq0
          have hw2 := step64 (i := q) (n := x.f1.length) (by omega) (by omega)
          obtain ⟨u, hu, hu9, hur⟩ := ihp (q + 1) (by omega)
          by_cases c : (x.f1.getD q z77).f0.toList = (x.f1.getD i z77).f0.toList
          · refine ⟨9, Ev.succ ?_, fun _ => rfl, fun h => absurd ⟨q, by omega, Nat.le_refl _, c⟩ h⟩
            simp only [arboretref01_wrong.l2, rdP]
            exact Ev.pos (by omega) (Ev.pos (Int.natCast_nonneg q) (Ev.pos (by omega) (Ev.pos (Int.natCast_nonneg i) (Ev.pos (by omega) (Ev.pos c (Ev.some _))))))
          · refine ⟨u, Ev.succ ?_, fun ⟨a, h1, h2, h3⟩ => hu9 ⟨a, h1, ?_, h3⟩, fun h => hur fun ⟨a, h1, h2, h3⟩ => h ⟨a, h1, by omega, h3⟩⟩
            · simp only [arboretref01_wrong.l2, rdP, hw2]
              exact Ev.pos (by omega) (Ev.pos (Int.natCast_nonneg q) (Ev.pos (by omega) (Ev.pos (Int.natCast_nonneg i) (Ev.pos (by omega) (Ev.neg c hu)))))
            · rcases Nat.lt_or_ge q a with h4 | h4
              · exact h4
              · obtain rfl : a = q := by omega
                exact absurd h3 c
      obtain ⟨u, hu, hu9, hur⟩ := inner i 0 (by omega)
      refine ⟨u, Ev.succ ?_, ?_, ?_⟩
      · simp only [arboretref01_wrong.l1]
        exact Ev.pos (by omega) hu
      · rintro ⟨a, h1, h2, q, h3, h4⟩
        rcases Nat.lt_or_ge i a with h5 | h5
        · have hr' := hr9 ⟨a, h1, h5, q, h3, h4⟩
          by_cases hh : ∃ a, a < i ∧ 0 ≤ a ∧ (x.f1.getD a z77).f0.toList = (x.f1.getD i z77).f0.toList
          · exact hu9 hh
          · rw [hur hh, hr']
        · obtain rfl : a = i := by omega
          exact hu9 ⟨q, h3, Nat.zero_le _, h4⟩
      · intro h
        rw [hur (fun ⟨a, h1, _, h3⟩ => h ⟨i, by omega, Nat.le_refl _, a, h1, h3⟩)]
        exact hr5 (fun ⟨a, h1, h2, h3⟩ => h ⟨a, h1, by omega, h3⟩)
  obtain ⟨v, hv, h9, h5⟩ := l34 x.f1.length 0 (by omega)
  refine ⟨v, hv, ?_, ?_⟩
  · rintro ⟨a, ha, _, q, hq, e⟩
    have ha' : a < x.f1.length := by simpa using ha
    refine h9 ⟨a, ha', Nat.zero_le _, q, hq, ?_⟩
    rw [List.getElem_map, List.getElem_map] at e
    rw [getD_at (by omega), getD_at ha']
    exact e
  · intro h
    refine h5 ?_
    rintro ⟨a, ha, _, q, hq, e⟩
    rw [getD_at (by omega), getD_at ha] at e
    exact h ⟨a, by simpa using ha, Nat.zero_le _, q, hq, by rw [List.getElem_map, List.getElem_map]; exact e⟩
theorem both_wrong (m : Nat) (hm : m ≤ 1048576) : ∀ (x : S30) (d : Nat), bulk30 x ≤ m → 1 ≤ d → ∃ v : Int, Ev (fun k => tree_check.f k x.f0 x.f1 x.f2 (d : Int)) v ∧ Ev (fun k => arboretref01_wrong.f k x.f0 x.f1 x.f2 (d : Int)) v := by
  induction m with
  | zero => intro x d hx; have := bulk_pos x; omega
  | succ m ih =>
    intro x d hx hd1
    have hk := bulk_kids x
    have hp := bulk_props x
    have hnm := bulk_name x
    have en := names_ev x.f0 x.f1 x.f2 (by omega) (by omega)
    by_cases hd : (d : Int) > 16
    · refine ⟨6, Ev.succ ?_, Ev.succ ?_⟩
      · simp only [tree_check.f, tree_check.node]
        exact Ev.then (a := 6) (Ev.then en (Ev.pos hd (Ev.some _))) (Ev.neg (by decide) (Ev.some _))
      · simp only [arboretref01_wrong.f]
        exact Ev.pos hd (Ev.some _)
    have hdd : wrap64 ((d : Int) + 1) = ((d + 1 : Nat) : Int) := by rw [w64 (by omega) (by omega)]; omega
    have l5 : ∀ (j i : Nat), i + j = x.f2.length → ∃ v : Int, Ev (fun k => tree_check.kids (fun a b c => tree_check.f k a b c (wrap64 ((d : Int) + 1))) (x.f2.drop i)) v ∧ Ev (fun k => arboretref01_wrong.l5 k (d : Int) (x.f2.length : Int) (i : Int) x.f0 x.f1 x.f2) v := by
      intro j
      induction j with
      | zero =>
        intro i hi
        rw [List.drop_of_length_le (by omega)]
        refine ⟨0, Ev.some _, Ev.succ ?_⟩
        simp only [arboretref01_wrong.l5]
        exact Ev.neg (by omega) (Ev.some _)
      | succ j ihj =>
        intro i hi
        have hw := step64 (i := i) (n := x.f2.length) (by omega) (by omega)
        have hmem := getN (xs := x.f2) (i := i) (by omega)
        obtain ⟨v, hv, hv2⟩ := ih (by omega) (x.f2.getD i z30) (d + 1) (by have := bulk_kid hmem; omega) (by omega)
        obtain ⟨r, hr, hr2⟩ := ihj (i + 1) (by omega)
        rw [drop_at (l := x.f2) (d := z30) (i := i) (by omega)]
        rw [← hdd] at hv hv2
        by_cases h0 : v = 0
        · refine ⟨r, ?_, Ev.succ ?_⟩
          · simp only [tree_check.kids]
            exact Ev.then hv (Ev.pos h0 hr)
          · simp only [arboretref01_wrong.l5, rdN, hw]
            exact Ev.pos (by omega) (Ev.pos (Int.natCast_nonneg i) (Ev.pos (by omega) (Ev.then hv2 (Ev.pos h0 hr2))))
        · refine ⟨v, ?_, Ev.succ ?_⟩
          · simp only [tree_check.kids]
            exact Ev.then hv (Ev.neg h0 (Ev.some _))
          · simp only [arboretref01_wrong.l5, rdN, hw]
            exact Ev.pos (by omega) (Ev.pos (Int.natCast_nonneg i) (Ev.pos (by omega) (Ev.then hv2 (Ev.neg h0 (Ev.some _)))))
    obtain ⟨v5, c5, e5⟩ := l5 x.f2.length 0 (by omega)
    rw [List.drop_zero] at c5
    obtain ⟨v3, e3, h39, h35⟩ := ref_kids_twice x (d : Int) v5 (by omega) e5
    obtain ⟨v1, e1, h19, h13⟩ := ref_props_twice x (d : Int) v3 (by omega) e3
    have dk := dup_twice x.f2 (·.f0)
    have dp := dup_twice x.f1 (·.f0)
    -- the reference's first loop, and its head
    have l0 : ∀ (j i : Nat), i + j = x.f1.length → ∃ v : Int, Ev (fun k => arboretref01_wrong.l0 k (d : Int) (x.f1.length : Int) (i : Int) x.f0 x.f1 x.f2) v ∧ ((∀ s ∈ (x.f1.drop i).map (·.f0), propB (bytesOf s) = true) → v = v1) ∧ ((¬ ∀ s ∈ (x.f1.drop i).map (·.f0), propB (bytesOf s) = true) → v = 5) := by
      intro j
      induction j with
      | zero =>
        intro i hi
        rw [List.drop_of_length_le (by omega)]
        refine ⟨v1, Ev.succ ?_, fun _ => rfl, fun h => absurd (by simp) h⟩
        simp only [arboretref01_wrong.l0]
        exact Ev.neg (by omega) e1
      | succ j ihj =>
        intro i hi
        obtain ⟨r, hr, hr1, hr5⟩ := ihj (i + 1) (by omega)
        have hw := step64 (i := i) (n := x.f1.length) (by omega) (by omega)
        have hmem := getP (xs := x.f1) (i := i) (by omega)
        have hb := bulk_prop hmem
        have hv := bulk_value (x.f1.getD i z77)
        have hn := refprop_ev (x.f1.getD i z77).f0 (by omega)
        rw [drop_at (l := x.f1) (d := z77) (i := i) (by omega)]
        simp only [List.map_cons, List.mem_cons, forall_eq_or_imp]
        cases hc : propB (bytesOf (x.f1.getD i z77).f0) with
        | true =>
          rw [hc] at hn
          refine ⟨r, Ev.succ ?_, fun h => hr1 h.2, fun h => hr5 (fun h2 => h ⟨rfl, h2⟩)⟩
          simp only [arboretref01_wrong.l0, rdP, hw]
          exact Ev.pos (by omega) (Ev.pos (Int.natCast_nonneg i) (Ev.pos (by omega) (Ev.then hn (Ev.pos rfl hr))))
        | false =>
          rw [hc] at hn
          refine ⟨5, Ev.succ ?_, fun h => Bool.noConfusion h.1, fun _ => rfl⟩
          simp only [arboretref01_wrong.l0, rdP, hw]
          exact Ev.pos (by omega) (Ev.pos (Int.natCast_nonneg i) (Ev.pos (by omega) (Ev.then hn (Ev.neg (by decide) (Ev.some _)))))
    obtain ⟨v0, e0, h01, h05⟩ := l0 x.f1.length 0 (by omega)
    rw [List.drop_zero] at h01 h05
    obtain ⟨b0, eb, hb⟩ := bad_ev (x.f1.map (·.f0)) (fun s hs => by
      obtain ⟨p, hp1, rfl⟩ := List.mem_map.mp hs
      have h1 := bulk_prop hp1
      have h2 := bulk_value p
      omega) 0
    have tail : ∃ w : Int, Ev (fun k => (badIx k (x.f1.map (·.f0)) 0).bind fun i => if 0 ≤ i then some 5 else if (x.f1.map (·.f0)).length < 4611686018427387904 ∧ (x.f2.map (·.f0)).length < 4611686018427387904 then (if dupB (x.f1.map (·.f0)) = true then some 9 else if dupB (x.f2.map (·.f0)) = true then some 9 else some 0) else none) w ∧ ((w = 0 ∧ v0 = v5) ∨ (w = v0 ∧ v0 ≠ 0)) := by
      by_cases hb0 : 0 ≤ b0
      · have hv0 : v0 = 5 := h05 (hb.mp hb0)
        exact ⟨5, Ev.then eb (Ev.pos hb0 (Ev.some _)), .inr ⟨hv0.symm, by omega⟩⟩
      · have hv0 : v0 = v1 := h01 (Classical.byContradiction fun h => hb0 (hb.mpr h))
        have hlen : (x.f1.map (·.f0)).length < 4611686018427387904 ∧ (x.f2.map (·.f0)).length < 4611686018427387904 := by simp only [List.length_map]; omega
        cases h1 : dupB (x.f1.map (·.f0)) with
        | true =>
          have hv9 : v0 = 9 := by rw [hv0]; exact h19 (dp.mp h1)
          exact ⟨9, Ev.then eb (Ev.neg hb0 (Ev.pos hlen (Ev.pos rfl (Ev.some _)))), .inr ⟨hv9.symm, by omega⟩⟩
        | false =>
          have hv3 : v0 = v3 := by rw [hv0]; exact h13 (fun h => by rw [dp.mpr h] at h1; cases h1)
          cases h2 : dupB (x.f2.map (·.f0)) with
          | true =>
            have hv9 : v0 = 9 := by rw [hv3]; exact h39 (dk.mp h2)
            exact ⟨9, Ev.then eb (Ev.neg hb0 (Ev.pos hlen (Ev.neg (by decide) (Ev.pos rfl (Ev.some _))))), .inr ⟨hv9.symm, by omega⟩⟩
          | false =>
            have hv5 : v0 = v5 := by rw [hv3]; exact h35 (fun h => by rw [dk.mpr h] at h2; cases h2)
            exact ⟨0, Ev.then eb (Ev.neg hb0 (Ev.pos hlen (Ev.neg (by decide) (Ev.neg (by decide) (Ev.some _))))), .inl ⟨rfl, hv5⟩⟩
    obtain ⟨wt, tail, htail⟩ := tail
    have nn := node_ev x.f0 (by omega)
    have rn := refnode_ev x.f0 (by omega)
    -- whatever a node's own answer, the whole one
    have whole : ∀ w : Int, w ≠ 0 → Ev (fun k => tree_check.node k x.f0 x.f1 x.f2 (d : Int)) w → Ev (fun k => tree_check.f k x.f0 x.f1 x.f2 (d : Int)) w := fun w h0 hw => by
      refine Ev.succ ?_
      simp only [tree_check.f]
      exact Ev.then hw (Ev.neg h0 (Ev.some _))
    have whole0 : Ev (fun k => tree_check.node k x.f0 x.f1 x.f2 (d : Int)) 0 → Ev (fun k => tree_check.f k x.f0 x.f1 x.f2 (d : Int)) v5 := fun hw => by
      refine Ev.succ ?_
      simp only [tree_check.f]
      exact Ev.then hw (Ev.pos rfl c5)
    have good : Ev (fun k => tree_check.node k x.f0 x.f1 x.f2 (d : Int)) wt → Ev (fun k => tree_check.f k x.f0 x.f1 x.f2 (d : Int)) v0 := by
      intro hh
      rcases htail with ⟨h1, h2⟩ | ⟨h1, h2⟩
      · rw [h1] at hh
        rw [h2]
        exact whole0 hh
      · rw [h1] at hh
        exact whole v0 h2 hh
    have j0 : Ev (fun k => arboretref01_wrong.j0 k (d : Int) false x.f0 x.f1 x.f2) v0 := by
      refine Ev.succ ?_
      simp only [arboretref01_wrong.j0]
      exact Ev.neg (fun h => Bool.noConfusion h) e0
    have j5 : Ev (fun k => arboretref01_wrong.j0 k (d : Int) true x.f0 x.f1 x.f2) 5 := by
      refine Ev.succ ?_
      simp only [arboretref01_wrong.j0]
      exact Ev.pos trivial (Ev.some _)
    by_cases h1 : (d : Int) = 1
    · by_cases hz : x.f0.toList = ([] : List UInt8)
      · refine ⟨v0, good ?_, Ev.succ ?_⟩
        · unfold tree_check.node
          exact Ev.then en (Ev.neg hd (Ev.neg (by omega) (Ev.then nn (Ev.neg (fun h => h.2 hz) (Ev.neg (by omega) tail)))))
        · simp only [arboretref01_wrong.f]
          exact Ev.neg hd (Ev.pos h1 (Ev.pos hz (Ev.neg (by omega) j0)))
      · refine ⟨5, whole 5 (by decide) ?_, Ev.succ ?_⟩
        · unfold tree_check.node
          exact Ev.then en (Ev.neg hd (Ev.neg (by omega) (Ev.then nn (Ev.pos ⟨h1, hz⟩ (Ev.some _)))))
        · simp only [arboretref01_wrong.f]
          exact Ev.neg hd (Ev.pos h1 (Ev.neg hz j5))
    · cases hb1 : nodeB x.f0 with
      | true =>
        rw [hb1] at nn rn
        refine ⟨v0, good ?_, Ev.succ ?_⟩
        · unfold tree_check.node
          exact Ev.then en (Ev.neg hd (Ev.neg (by omega) (Ev.then nn (Ev.neg (fun h => h1 h.1) (Ev.neg (fun h => Bool.noConfusion h.2) tail)))))
        · simp only [arboretref01_wrong.f]
          exact Ev.neg hd (Ev.neg h1 (Ev.pos (by omega) (Ev.then rn j0)))
      | false =>
        rw [hb1] at nn rn
        refine ⟨5, whole 5 (by decide) ?_, Ev.succ ?_⟩
        · unfold tree_check.node
          exact Ev.then en (Ev.neg hd (Ev.neg (by omega) (Ev.then nn (Ev.neg (fun h => h1 h.1) (Ev.pos ⟨by omega, rfl⟩ (Ev.some _))))))
        · simp only [arboretref01_wrong.f]
          exact Ev.neg hd (Ev.neg h1 (Ev.pos (by omega) (Ev.then rn j5)))
theorem count_both (m : Nat) (hm : m ≤ 1048576) : ∀ x : S30, bulk30 x ≤ m → ∃ v : Int × Int, Ev (fun k => tree_Count.f k x.f0 x.f1 x.f2) v ∧ Ev (fun k => arboretref01_Count.f k x.f0 x.f1 x.f2) v := by
  induction m with
  | zero => intro x hx; have := bulk_pos x; omega
  | succ m ih =>
    intro x hx
    have hk := bulk_kids x
    have kids : ∀ (j i : Nat) (a b : Int), i + j = x.f2.length → ∃ v : Int × Int, Ev (fun k => tree_Count.l0 k a b x.f2 (x.f2.length : Int) (i : Int)) v ∧ Ev (fun k => arboretref01_Count.l0 k a b (x.f2.length : Int) (i : Int) x.f0 x.f1 x.f2) v := by
      intro j
      induction j with
      | zero =>
        intro i a b hi
        refine ⟨(a, b), Ev.succ ?_, Ev.succ ?_⟩
        · simp only [tree_Count.l0]
          exact Ev.neg (by omega) (Ev.some _)
        · simp only [arboretref01_Count.l0]
          exact Ev.neg (by omega) (Ev.some _)
      | succ j ihj =>
        intro i a b hi
        have hw := step64 (i := i) (n := x.f2.length) (by omega) (by omega)
        have hmem := getN (xs := x.f2) (i := i) (by omega)
        obtain ⟨v, hv, hv2⟩ := ih (by omega) (x.f2.getD i z30) (by have := bulk_kid hmem; omega)
        obtain ⟨r, hr, hr2⟩ := ihj (i + 1) (wrap64 (a + v.1)) (wrap64 (b + v.2)) (by omega)
        refine ⟨r, Ev.succ ?_, Ev.succ ?_⟩
        · simp only [tree_Count.l0, rdN, hw]
          exact Ev.pos (by omega) (Ev.pos (Int.natCast_nonneg i) (Ev.pos (by omega) (Ev.then hv hr)))
        · simp only [arboretref01_Count.l0, rdN, hw]
          exact Ev.pos (by omega) (Ev.pos (Int.natCast_nonneg i) (Ev.pos (by omega) (Ev.then hv2 hr2)))
    obtain ⟨v, hv, hv2⟩ := kids x.f2.length 0 1 (x.f1.length : Int) (by omega)
    refine ⟨v, Ev.succ ?_, Ev.succ ?_⟩
    · simp only [tree_Count.f]
      exact hv
    · simp only [arboretref01_Count.f]
      exact hv2
theorem both_check (b : Int) (res : List S94) (x : S30) (hx : bulk30 x ≤ 1048576) (hr : res.length ≤ 1048576) :
    ∃ v : Int, Ev (fun k => tree_Check.f k b res x.f0 x.f1 x.f2) v ∧ Ev (fun k => arboretref01_Check.f k b res x.f0 x.f1 x.f2) v := by
  obtain ⟨v, hv, hv2⟩ := both_wrong 1048576 (by omega) x 1 hx (by omega)
  obtain ⟨c, hc, hc2⟩ := count_both 1048576 (by omega) x hx
  have l0 : ∀ (j i : Nat), i + j = res.length → ∃ v : Int, Ev (fun k => api_Reserve_82.l0 k res (res.length : Int) (i : Int) 0 0) v ∧ Ev (fun k => arboretref01_Check.l0 k (res.length : Int) (i : Int) b res x.f0 x.f1 x.f2) (if v ≥ 0 then 7 else 0) := by
    intro j
    induction j with
    | zero =>
      intro i hi
      refine ⟨-1, Ev.succ ?_, Ev.succ ?_⟩
      · simp only [api_Reserve_82.l0]
        exact Ev.neg (by omega) (Ev.some _)
      · simp only [arboretref01_Check.l0]
        exact Ev.neg (by omega) (Ev.some _)
    | succ j ihj =>
      intro i hi
      have hw := step64 (i := i) (n := res.length) (by omega) hr
      obtain ⟨r, hq, hq2⟩ := ihj (i + 1) (by omega)
      by_cases h0 : (rd_T94 res (i : Int)).f0 = 0
      · by_cases h1 : (rd_T94 res (i : Int)).f1 = 0
        · refine ⟨(i : Int), Ev.succ ?_, Ev.succ ?_⟩
          · simp only [api_Reserve_82.l0, hw]
            exact Ev.pos (by omega) (Ev.pos (Int.natCast_nonneg i) (Ev.pos (by omega) (Ev.pos (by rw [h0, h1]; rfl) (Ev.some _))))
          · simp only [arboretref01_Check.l0, hw]
            rw [if_pos (Int.natCast_nonneg i)]
            exact Ev.pos (by omega) (Ev.pos (Int.natCast_nonneg i) (Ev.pos (by omega) (Ev.pos h0 (Ev.pos h1 (Ev.some _)))))
        · refine ⟨r, Ev.succ ?_, Ev.succ ?_⟩
          · simp only [api_Reserve_82.l0, hw]
            exact Ev.pos (by omega) (Ev.pos (Int.natCast_nonneg i) (Ev.pos (by omega) (Ev.neg (by simp only [Bool.and_eq_true, beq_iff_eq]; exact fun h => h1 h.2.symm) hq)))
          · simp only [arboretref01_Check.l0, hw]
            exact Ev.pos (by omega) (Ev.pos (Int.natCast_nonneg i) (Ev.pos (by omega) (Ev.pos h0 (Ev.neg h1 hq2))))
      · refine ⟨r, Ev.succ ?_, Ev.succ ?_⟩
        · simp only [api_Reserve_82.l0, hw]
          exact Ev.pos (by omega) (Ev.pos (Int.natCast_nonneg i) (Ev.pos (by omega) (Ev.neg (by simp only [Bool.and_eq_true, beq_iff_eq]; exact fun h => h0 h.1.symm) hq)))
        · simp only [arboretref01_Check.l0, hw]
          exact Ev.pos (by omega) (Ev.pos (Int.natCast_nonneg i) (Ev.pos (by omega) (Ev.neg h0 hq2)))
  obtain ⟨w, hw, hw2⟩ := l0 res.length 0 (by omega)
  have j7 : Ev (fun k => arboretref01_Check.j0 k true b res x.f0 x.f1 x.f2) 7 := by
    refine Ev.succ ?_
    simp only [arboretref01_Check.j0]
    exact Ev.pos trivial (Ev.some _)
  by_cases h0 : v = 0
  · by_cases h1 : c.1 > 4096
    · refine ⟨7, ?_, ?_⟩
      · unfold tree_Check.f
        exact Ev.then hv (Ev.pos h0 (Ev.then hc (Ev.pos h1 (Ev.some _))))
      · unfold arboretref01_Check.f
        exact Ev.then hv2 (Ev.pos h0 (Ev.then hc2 (Ev.pos h1 j7)))
    by_cases h2 : c.2 > 8192
    · refine ⟨7, ?_, ?_⟩
      · unfold tree_Check.f
        exact Ev.then hv (Ev.pos h0 (Ev.then hc (Ev.neg h1 (Ev.pos h2 (Ev.some _)))))
      · unfold arboretref01_Check.f
        exact Ev.then hv2 (Ev.pos h0 (Ev.then hc2 (Ev.neg h1 (Ev.pos h2 j7))))
    by_cases h3 : (res.length : Int) > 64
    · refine ⟨7, ?_, ?_⟩
      · unfold tree_Check.f
        exact Ev.then hv (Ev.pos h0 (Ev.then hc (Ev.neg h1 (Ev.neg h2 (Ev.pos h3 (Ev.some _))))))
      · unfold arboretref01_Check.f
        rw [show decide ((res.length : Int) > 64) = true from decide_eq_true h3]
        exact Ev.then hv2 (Ev.pos h0 (Ev.then hc2 (Ev.neg h1 (Ev.neg h2 j7))))
    · refine ⟨if w ≥ 0 then 7 else 0, ?_, ?_⟩
      · unfold tree_Check.f
        refine Ev.then hv (Ev.pos h0 (Ev.then hc (Ev.neg h1 (Ev.neg h2 (Ev.neg h3 ?_)))))
        refine Ev.then (a := decide (w ≥ 0)) ?_ ?_
        · unfold api_Reserve_56.f api_Reserve_82.f
          exact Ev.then hw (Ev.some _)
        · by_cases h4 : w ≥ 0
          · rw [if_pos h4]
            exact Ev.pos (decide_eq_true h4) (Ev.some _)
          · rw [if_neg h4]
            exact Ev.neg (by simpa using h4) (Ev.some _)
      · unfold arboretref01_Check.f
        rw [show decide ((res.length : Int) > 64) = false from decide_eq_false h3]
        refine Ev.then hv2 (Ev.pos h0 (Ev.then hc2 (Ev.neg h1 (Ev.neg h2 (Ev.succ ?_)))))
        simp only [arboretref01_Check.j0]
        exact Ev.neg (fun h => Bool.noConfusion h) hw2
  · refine ⟨v, ?_, ?_⟩
    · unfold tree_Check.f
      exact Ev.then hv (Ev.neg h0 (Ev.some _))
    · unfold arboretref01_Check.f
      exact Ev.then hv2 (Ev.neg h0 (Ev.some _))
end Go.Proofs.Yteejaaeglfpcmab.PC

set_option linter.unusedVariables false
set_option linter.unusedSimpArgs false
namespace Go.Proofs.Yteejaaeglfpcmab.Pure
open Go.RowKit Go.Proofs.Yteejaaeglfpcmab.PC Go.Proofs.Yteejaaeglfpcmab.Rdr Go.Proofs.Yteejaaeglfpcmab.Aid Go.Proofs.YteejaaeglfpcmabW.PrintWords
theorem TreeChecks : arboretlaw03_TreeChecks.Pure := by
  intro t hb gt
  have hb2 : 1 + (sumB bulk94 t.f1 + 1) + bulk30 t.f2 + 1 ≤ 1048576 := hb
  have hx : bulk30 t.f2 ≤ 1048576 := by omega
  have hr : t.f1.length ≤ 1048576 := by
    have := sumB_len (B := bulk94) (fun r => by unfold bulk94; omega) t.f1
    omega
  obtain ⟨v, hv⟩ := few_ends t.f0 t.f1 t.f2 hx
  obtain ⟨e, he, he2⟩ := both_check t.f0 t.f1 t.f2 hx hr
  have aw : Ev (fun _ => arboretlaw03_awake.f) true := Ev.fix rfl
  refine Ev.out (?_ : Ev (fun k => arboretlaw03_TreeChecks.f k t.f0 t.f1 t.f2.f0 t.f2.f1 t.f2.f2) true)
  unfold arboretlaw03_TreeChecks.f
  refine Ev.then aw (Ev.pos rfl (Ev.then hv (Ev.succ ?_)))
  simp only [arboretlaw03_TreeChecks.j0]
  cases v with
  | false => exact Ev.pos rfl (Ev.then aw (Ev.some _))
  | true => exact Ev.neg (by decide) (Ev.then he (Ev.then he2 (Ev.fix (by simp))))
end Go.Proofs.Yteejaaeglfpcmab.Pure

namespace Go.Proofs.Yteejaaeglfpcmab.treeChecks
open Go.ChangeShapes Go.WideShapes Go.ChangeAt Go.RowKit Go.Proofs.Yteejaaeglfpcmab.Rdr Go.Proofs.Yteejaaeglfpcmab.PC
open Go.ChangeMaps (open_string shut_string)
set_option linter.unusedVariables false
set_option linter.unusedSimpArgs false
theorem own : ownKnob Try.prog.godebug = none := by kernel_rfl
theorem laidOut : laidOutB Try.prog = true := by kernel_rfl
set_option maxRecDepth 100000 in
theorem contract (H : Type) (enc : TypeId × Value → H) (W : World) (base : Nat) (args : Array Value) (ds gs : List (DataW H)) (before : List MemPlace)
    (hval0 : ∀ (j : Nat) t v, Try.f8.params[j]? = some t → args[j]? = some v → Value.okWide Try.prog W .any base t v)
    (hW : DataW.Whole enc Try.prog Try.f8.params.toList Rows.treeChecksSpec.vars false W args.toList ds gs before) (hk : Rows.uptoSmall H (ds ++ gs) = true) :
    Calls Try.prog 8 args W fun e W' => ∃ v, e = .returned v ∧ Rows.treeChecksSpec.post enc Try.prog Try.f8 false true false false W args v W' := by
  have hval : ∀ (j : Nat) t v, Try.f8.params[j]? = some t → args[j]? = some v → Value.okWide Try.prog W .any base t v := hval0
  have hW' := hW
  obtain ⟨p, q, hA0, hV, rfl, hfz, hnd⟩ := hW
  have hA : DataW.TrodAll enc Try.prog W 0 (fun _ => true) true Try.f8.params.toList args.toList ds p := hA0
  rw [Try.params8] at hA hval
  obtain ⟨v0, vs0, d0, ds0, p0, q0, hargs, rfl, rfl, h0, tr0⟩ := trodAll_cons hA
  obtain ⟨rfl, rfl, rfl⟩ := trodAll_nil tr0
  obtain rfl : args = #[v0] := by cases args; simp_all
  obtain ⟨rfl, rfl⟩ := trodVars_none hV
  have hb := bound hk
  simp only [List.append_nil, Rows.uptoBulkAll, List.nil_append] at hb
  have k0 := h0
  have lt0 : ∀ x ∈ p0, x.block < W.heap.size := by obtain ⟨m, hm⟩ := k0; exact DataW.trod_lt m _ _ _ hm
  obtain ⟨cs0, rfl, hcs0⟩ : ∃ cs, v0 = .agg cs ∧ True := by
    have z := (hval 0 35 v0 rfl rfl)
    simp only [Value.okWide, Try.underlying35] at z
    obtain ⟨cs, hc, _⟩ := z
    exact ⟨cs, hc, trivial⟩
  obtain ⟨f0, hf0⟩ := h0
  obtain ⟨x0, K0, b0, g0⟩ := rd35 W f0 H enc f0 (Nat.le_refl _) _ _ hf0
  obtain ⟨A0_1, c0_1, A0_3, c0_3, A0_4, c0_4, e0, l0_1, r0_1, l0_3, r0_3, l0_4, r0_4⟩ := k35_open K0
  obtain ⟨cl0⟩ := cs0
  have e0' : cl0 = _ := e0
  subst e0'
  obtain ⟨k, hk_⟩ := Pure.TreeChecks x0 (by (try simp only [Rows.uptoBulk, Array.length_toList] at hb); first | omega | (simp only [ByteArray.size] at *; omega)) g0
  refine (arboretlaw03_TreeChecks.calls k x0.f0 A0_1 c0_1 x0.f1 x0.f2.f0 A0_3 c0_3 x0.f2.f1 A0_4 c0_4 x0.f2.f2 true W r0_1 l0_1 r0_3 l0_3 r0_4 l0_4 hk_).mono fun e W' ⟨he, bel0⟩ => ?_
  have bel : Below W.heap.size W W' := bel0
  subst he
  exact ⟨_, rfl, _, _, _, [], _, [], hW', trodAll_mk1 (shut_bool Try.underlying4 _), (trodAll_cons_mk (Below.trod laidOut (by kernel_rfl) (of_decide_eq_true (by kernel_rfl)) k0 bel lt0) trodAll_mk0), rfl, bel.frame _, fun h => by cases h⟩
set_option maxRecDepth 100000 in
theorem lifted (os : Os) (started : os.Started) (H : Type) (enc : TypeId × Value → H) (F : Stop.Interp) :
    ReturnsInHanded {} Try.checked os 8 .any ((Rows.OpenSpec.upto Rows.treeChecksSpec).pre6 enc Try.prog Try.f8 Rows.treeChecksUptoRow.domain false) (((Rows.OpenSpec.upto Rows.treeChecksSpec).at F).post enc Try.prog Try.f8 false true false false) := by
  refine returnsInHanded_of_cond (C := Try.checked) (s := Rows.OpenSpec.upto Rows.treeChecksSpec) (k := Rows.uptoSmall) rfl own started (by kernel_rfl) Try.func8
    (OpenSpec.witness (enc := enc) (C := Try.checked) (s := Rows.OpenSpec.upto Rows.treeChecksSpec) (k := Rows.uptoSmall) rfl false ⟨#[], #[.agg #[.int .u32 0, .slice none 0 0, .string ByteArray.empty, .slice none 0 0, .slice none 0 0]], []⟩ 16 (by kernel_rfl) (by kernel_rfl) (by kernel_rfl)
      (x := ([.agg [.lit (.int .u32 0), .nil, .agg [.lit (.string []), .nil, .nil]]], [], [])) (by kernel_rfl) rfl (by kernel_rfl)) ?_
  intro W base args ds gs before hval hW _ hk _
  exact contract H enc W base args ds gs before hval hW hk
theorem over : Rows.treeChecksUptoRow.holds Try.pinned (Rows.OpenSpec.upto Rows.treeChecksSpec) :=
  OpenClaim.holds_of_cond 8 Try.f8 rfl rfl rfl rfl rfl rfl rfl ⟨rfl, rfl, rfl, rfl, rfl⟩ rfl rfl rfl rfl rfl (by kernel_rfl) Try.func8 (by kernel_rfl)
    (of_decide_eq_true (by kernel_rfl)) (by unfold Func.isWrapper; first | (rw [if_pos (by decide +kernel)]; kernel_rfl) | (rw [if_neg (by decide +kernel)]; exact ⟨rfl, rfl⟩))
    (fun os started H enc _ F => lifted os started H enc F)
theorem proved : Rows.TreeChecksUptoSaid := over
end Go.Proofs.Yteejaaeglfpcmab.treeChecks
namespace Go.Proofs.Yteejaaeglfpcmab
theorem treeChecks_holds : Rows.TreeChecksUptoSaid := treeChecks.proved
end Go.Proofs.Yteejaaeglfpcmab
