/- XlateWindows: texts of this session's, and what the kit's print laid for this seat, as far as the law's row uses them (PXKinds, Aid, Tree, Num, One, PXx_arboretref12_Meet, Win2, RGet, PXx_strings_IndexByte, Name, Form, PureXlateWindows, LawXlateWindows). -/
import Derived.Test.YteejaaeglfpcmabZXlateWindows4
set_option linter.unusedVariables false
set_option linter.unusedSimpArgs false
namespace Go.Proofs.Yteejaaeglfpcmab.PX
open Go.RowKit Go.Proofs.Yteejaaeglfpcmab.Rdr Go.Proofs.YteejaaeglfpcmabW.PrintWords Go.Proofs.YteejaaeglfpcmabW.PrintLast Go.Proofs.YteejaaeglfpcmabW.PrintMore
def bulk77 (x : S77) : Nat := (fun s => s.size + 1) x.f0 + (fun xs => sumB (fun _ => 1) xs + 1) x.f1 + 1
def good77 (x : S77) : Prop := (fun _ => True) x.f0 ∧ (fun xs => ∀ x ∈ xs, (wfI .u8) x) x.f1
theorem rd77 (W : World) (n : Nat) : RdF Try.prog W n k77 77 bulk77 good77 := by
 intro H enc fuel hfu cs x h
 cases n with
 | zero =>
  obtain rfl : fuel = 0 := by omega
  simp [DataW.trod] at h
 | succ n =>
 obtain ⟨xs, m, rfl, rfl, hl, hlen, hf⟩ := DataW.trod_struct Try.underlying77 h; have hl' : cs.length = 2 := hl.trans Zq2; clear hl; obtain ⟨u0, u1, rfl⟩ := len_2 hl'
 have z9 : Try.prog.cellsOf 9 = 1 := by kernel_rfl
 have z72 : Try.prog.cellsOf 72 = 1 := by kernel_rfl
 obtain ⟨y0, hy0⟩ : ∃ y, xs[0]? = some y := ⟨_, List.getElem?_eq_getElem (by rw [hlen]; decide)⟩
 have h0 := hf 0 _ rfl; rw [hy0] at h0; simp only [z9, List.getElem_toArray, List.getElem_cons_zero, List.getElem_cons_succ, List.drop_zero, List.drop_succ_cons, List.take_succ_cons, List.take_zero] at h0; have h0' : DataW.trod enc Try.prog W 0 (fun _ => true) true m 9 [u0] = some y0 := h0
 obtain ⟨y1, hy1⟩ : ∃ y, xs[1]? = some y := ⟨_, List.getElem?_eq_getElem (by rw [hlen]; decide)⟩
 have h1 := hf 1 _ rfl; rw [hy1] at h1; simp only [z72, List.getElem_toArray, List.getElem_cons_zero, List.getElem_cons_succ, List.drop_zero, List.drop_succ_cons, List.take_succ_cons, List.take_zero] at h1; have h1' : DataW.trod enc Try.prog W 0 (fun _ => true) true m 72 [u1] = some y1 := h1; obtain ⟨a0, k0, b0, g0⟩ := (rd_string (n := (n + 1)) Try.underlying9) H enc m Zq1 _ _ h0'; obtain ⟨a1, k1, b1, g1⟩ := (rd_slice (n := n) Try.underlying72 Zq2 (rd_int (n := n) Try.underlying5)) H enc m Zq1 _ _ h1'
 have hall : xs = [y0, y1] := by
  obtain ⟨q0, q1, rfl⟩ := len_2 (l := xs) hlen; simp only [List.getElem?_cons_zero, List.getElem?_cons_succ, Option.some.injEq] at hy0 hy1; rw [hy0, hy1]
 subst hall; refine ⟨⟨a0, a1⟩, ⟨[u0], [u1], rfl, k0, k1⟩, ?_, ?_⟩; (·(try dsimp only at b0); (try dsimp only at b1); simp only [bulk77, Rows.uptoBulk, Rows.uptoBulkAll, List.map_cons, List.map_nil]; omega); (·exact ⟨g0, g1⟩)
mutual
def bulk30 : S30 → Nat
 | ⟨x0, x1, x2⟩ => (fun s => s.size + 1) x0 + (fun xs => sumB bulk77 xs + 1) x1 + (bulks30 x2 + 1) + 1
def bulks30 : List S30 → Nat
 | [] => 0
 | x :: r => bulk30 x + bulks30 r
end
theorem bulks30_eq (l : List S30) : bulks30 l = sumB bulk30 l := by
 induction l with
 | nil => rfl
 | cons x r ih => simp only [bulks30, sumB, ih]
mutual
def good30 : S30 → Prop
 | ⟨x0, x1, x2⟩ => (fun _ => True) x0 ∧ (fun xs => ∀ x ∈ xs, good77 x) x1 ∧ goods30 x2
def goods30 : List S30 → Prop
 | [] => True
 | x :: r => good30 x ∧ goods30 r
end
theorem goods30_iff (l : List S30) : goods30 l ↔ ∀ x ∈ l, good30 x := by
 induction l with
 | nil => simp [goods30]
 | cons x r ih => simp [goods30, ih]
theorem rd30 (W : World) (n : Nat) : RdF Try.prog W n k30 30 bulk30 good30 := by
 induction n with
 | zero =>
  intro H enc fuel hf cs x h
  obtain rfl : fuel = 0 := by omega
  simp [DataW.trod] at h
 | succ n ih =>
 intro H enc fuel hfu cs x h; obtain ⟨xs, m, rfl, rfl, hl, hlen, hf⟩ := DataW.trod_struct Try.underlying30 h; have hl' : cs.length = 3 := hl.trans Zq2; clear hl; obtain ⟨u0, u1, u2, rfl⟩ := len_3 hl'
 have z9 : Try.prog.cellsOf 9 = 1 := by kernel_rfl
 have z27 : Try.prog.cellsOf 27 = 1 := by kernel_rfl
 have z28 : Try.prog.cellsOf 28 = 1 := by kernel_rfl
 obtain ⟨y0, hy0⟩ : ∃ y, xs[0]? = some y := ⟨_, List.getElem?_eq_getElem (by rw [hlen]; decide)⟩
 have h0 := hf 0 _ rfl; rw [hy0] at h0; simp only [z9, List.getElem_toArray, List.getElem_cons_zero, List.getElem_cons_succ, List.drop_zero, List.drop_succ_cons, List.take_succ_cons, List.take_zero] at h0; have h0' : DataW.trod enc Try.prog W 0 (fun _ => true) true m 9 [u0] = some y0 := h0
 obtain ⟨y1, hy1⟩ : ∃ y, xs[1]? = some y := ⟨_, List.getElem?_eq_getElem (by rw [hlen]; decide)⟩
 have h1 := hf 1 _ rfl; rw [hy1] at h1; simp only [z27, List.getElem_toArray, List.getElem_cons_zero, List.getElem_cons_succ, List.drop_zero, List.drop_succ_cons, List.take_succ_cons, List.take_zero] at h1; have h1' : DataW.trod enc Try.prog W 0 (fun _ => true) true m 27 [u1] = some y1 := h1
 obtain ⟨y2, hy2⟩ : ∃ y, xs[2]? = some y := ⟨_, List.getElem?_eq_getElem (by rw [hlen]; decide)⟩
 have h2 := hf 2 _ rfl; rw [hy2] at h2; simp only [z28, List.getElem_toArray, List.getElem_cons_zero, List.getElem_cons_succ, List.drop_zero, List.drop_succ_cons, List.take_succ_cons, List.take_zero] at h2; have h2' : DataW.trod enc Try.prog W 0 (fun _ => true) true m 28 [u2] = some y2 := h2; obtain ⟨a0, k0, b0, g0⟩ := (rd_string (n := (n + 1)) Try.underlying9) H enc m Zq1 _ _ h0'; obtain ⟨a1, k1, b1, g1⟩ := (rd_slice (n := n) Try.underlying27 Zq2 (rd77 W n)) H enc m Zq1 _ _ h1'; obtain ⟨a2, k2, b2, g2⟩ := (rd_slice (n := n) Try.underlying28 Zq2 ih) H enc m Zq1 _ _ h2'
 have hall : xs = [y0, y1, y2] := by
  obtain ⟨q0, q1, q2, rfl⟩ := len_3 (l := xs) hlen; simp only [List.getElem?_cons_zero, List.getElem?_cons_succ, Option.some.injEq] at hy0 hy1 hy2; rw [hy0, hy1, hy2]
 subst hall; cases k0; obtain ⟨A1, c1, e1, l1, r1⟩ := k1; cases e1; obtain ⟨A2, c2, e2, l2, r2⟩ := k2; cases e2; refine ⟨⟨a0, a1, a2⟩, k30_mk W ⟨a0, a1, a2⟩ l1 r1 l2 r2, ?_, ?_⟩; (·(try dsimp only at b0); (try dsimp only at b1); (try dsimp only at b2); simp only [bulk30, bulks30_eq, Rows.uptoBulk, Rows.uptoBulkAll, List.map_cons, List.map_nil]; omega); (·exact ⟨g0, g1, (goods30_iff _).mpr g2⟩)
def bulk94 (x : S94) : Nat := (fun _ => 1) x.f0 + (fun _ => 1) x.f1 + 1
def good94 (x : S94) : Prop := (wfI .u64) x.f0 ∧ (wfI .u64) x.f1
theorem rd94 (W : World) (n : Nat) : RdF Try.prog W n k94 94 bulk94 good94 := by
 intro H enc fuel hfu cs x h
 cases n with
 | zero =>
  obtain rfl : fuel = 0 := by omega
  simp [DataW.trod] at h
 | succ n =>
 obtain ⟨xs, m, rfl, rfl, hl, hlen, hf⟩ := DataW.trod_struct Try.underlying94 h; have hl' : cs.length = 2 := hl.trans Zq2; clear hl; obtain ⟨u0, u1, rfl⟩ := len_2 hl'
 have z43 : Try.prog.cellsOf 43 = 1 := by kernel_rfl
 obtain ⟨y0, hy0⟩ : ∃ y, xs[0]? = some y := ⟨_, List.getElem?_eq_getElem (by rw [hlen]; decide)⟩
 have h0 := hf 0 _ rfl; rw [hy0] at h0; simp only [z43, List.getElem_toArray, List.getElem_cons_zero, List.getElem_cons_succ, List.drop_zero, List.drop_succ_cons, List.take_succ_cons, List.take_zero] at h0; have h0' : DataW.trod enc Try.prog W 0 (fun _ => true) true m 43 [u0] = some y0 := h0
 obtain ⟨y1, hy1⟩ : ∃ y, xs[1]? = some y := ⟨_, List.getElem?_eq_getElem (by rw [hlen]; decide)⟩
 have h1 := hf 1 _ rfl; rw [hy1] at h1; simp only [z43, List.getElem_toArray, List.getElem_cons_zero, List.getElem_cons_succ, List.drop_zero, List.drop_succ_cons, List.take_succ_cons, List.take_zero] at h1; have h1' : DataW.trod enc Try.prog W 0 (fun _ => true) true m 43 [u1] = some y1 := h1; obtain ⟨a0, k0, b0, g0⟩ := (rd_int (n := (n + 1)) Try.underlying43) H enc m Zq1 _ _ h0'; obtain ⟨a1, k1, b1, g1⟩ := (rd_int (n := (n + 1)) Try.underlying43) H enc m Zq1 _ _ h1'
 have hall : xs = [y0, y1] := by
  obtain ⟨q0, q1, rfl⟩ := len_2 (l := xs) hlen; simp only [List.getElem?_cons_zero, List.getElem?_cons_succ, Option.some.injEq] at hy0 hy1; rw [hy0, hy1]
 subst hall; refine ⟨⟨a0, a1⟩, ⟨[u0], [u1], rfl, k0, k1⟩, ?_, ?_⟩; (·(try dsimp only at b0); (try dsimp only at b1); simp only [bulk94, Rows.uptoBulk, Rows.uptoBulkAll, List.map_cons, List.map_nil]; omega); (·exact ⟨g0, g1⟩)
def bulk35 (x : S35) : Nat := (fun _ => 1) x.f0 + (fun xs => sumB bulk94 xs + 1) x.f1 + bulk30 x.f2 + 1
def good35 (x : S35) : Prop := (wfI .u32) x.f0 ∧ (fun xs => ∀ x ∈ xs, good94 x) x.f1 ∧ good30 x.f2
theorem rd35 (W : World) (n : Nat) : RdF Try.prog W n k35 35 bulk35 good35 := by
 intro H enc fuel hfu cs x h
 cases n with
 | zero =>
  obtain rfl : fuel = 0 := by omega
  simp [DataW.trod] at h
 | succ n =>
 obtain ⟨xs, m, rfl, rfl, hl, hlen, hf⟩ := DataW.trod_struct Try.underlying35 h; have hl' : cs.length = 5 := hl.trans Zq2; clear hl; obtain ⟨u0, u1, u2, u3, u4, rfl⟩ := len_5 hl'
 have z30 : Try.prog.cellsOf 30 = 3 := by kernel_rfl
 have z32 : Try.prog.cellsOf 32 = 1 := by kernel_rfl
 have z33 : Try.prog.cellsOf 33 = 1 := by kernel_rfl
 obtain ⟨y0, hy0⟩ : ∃ y, xs[0]? = some y := ⟨_, List.getElem?_eq_getElem (by rw [hlen]; decide)⟩
 have h0 := hf 0 _ rfl; rw [hy0] at h0; simp only [z32, List.getElem_toArray, List.getElem_cons_zero, List.getElem_cons_succ, List.drop_zero, List.drop_succ_cons, List.take_succ_cons, List.take_zero] at h0; have h0' : DataW.trod enc Try.prog W 0 (fun _ => true) true m 32 [u0] = some y0 := h0
 obtain ⟨y1, hy1⟩ : ∃ y, xs[1]? = some y := ⟨_, List.getElem?_eq_getElem (by rw [hlen]; decide)⟩
 have h1 := hf 1 _ rfl; rw [hy1] at h1; simp only [z33, List.getElem_toArray, List.getElem_cons_zero, List.getElem_cons_succ, List.drop_zero, List.drop_succ_cons, List.take_succ_cons, List.take_zero] at h1; have h1' : DataW.trod enc Try.prog W 0 (fun _ => true) true m 33 [u1] = some y1 := h1
 obtain ⟨y2, hy2⟩ : ∃ y, xs[2]? = some y := ⟨_, List.getElem?_eq_getElem (by rw [hlen]; decide)⟩
 have h2 := hf 2 _ rfl; rw [hy2] at h2; simp only [z30, List.getElem_toArray, List.getElem_cons_zero, List.getElem_cons_succ, List.drop_zero, List.drop_succ_cons, List.take_succ_cons, List.take_zero] at h2; have h2' : DataW.trod enc Try.prog W 0 (fun _ => true) true m 30 [u2, u3, u4] = some y2 := h2; obtain ⟨a0, k0, b0, g0⟩ := (rd_int (n := (n + 1)) Try.underlying32) H enc m Zq1 _ _ h0'; obtain ⟨a1, k1, b1, g1⟩ := (rd_slice (n := n) Try.underlying33 Zq2 (rd94 W n)) H enc m Zq1 _ _ h1'; obtain ⟨a2, k2, b2, g2⟩ := (rd30 W (n + 1)) H enc m Zq1 _ _ h2'
 have hall : xs = [y0, y1, y2] := by
  obtain ⟨q0, q1, q2, rfl⟩ := len_3 (l := xs) hlen; simp only [List.getElem?_cons_zero, List.getElem?_cons_succ, Option.some.injEq] at hy0 hy1 hy2; rw [hy0, hy1, hy2]
 subst hall; refine ⟨⟨a0, a1, a2⟩, ⟨[u0], [u1, u2, u3, u4], rfl, k0, ⟨[u1], [u2, u3, u4], rfl, k1, k2⟩⟩, ?_, ?_⟩; (·(try dsimp only at b0); (try dsimp only at b1); (try dsimp only at b2); simp only [bulk35, Rows.uptoBulk, Rows.uptoBulkAll, List.map_cons, List.map_nil]; omega); (·exact ⟨g0, g1, g2⟩)
def arboretlaw13_XlateWindows.Pure : Prop := ∀ (x0 : S35) (x1 : List Int), bulk35 x0 + (fun xs => sumB (fun _ => 1) xs + 1) x1 ≤ 1048576 → good35 x0 → (fun xs => ∀ x ∈ xs, (wfI .i64) x) x1 → ∃ k, arboretlaw13_XlateWindows.f k x0.f0 x0.f1 x0.f2.f0 x0.f2.f1 x0.f2.f2 x1 = some true
end Go.Proofs.Yteejaaeglfpcmab.PX

namespace Go.Proofs.Yteejaaeglfpcmab.Aid
open Go.RowKit Go.Proofs.YteejaaeglfpcmabW.PrintWords
section
variable {α β : Type} {r : α}
theorem Ev.pos {c : Prop} [Decidable c] {A B : Nat → Option α} (h : c) (hA : Ev A r) : Ev (fun k => if c then A k else B k) r := by
 simp only [if_pos h]; exact hA
theorem Ev.neg {c : Prop} [Decidable c] {A B : Nat → Option α} (h : ¬ c) (hB : Ev B r) : Ev (fun k => if c then A k else B k) r := by
 simp only [if_neg h]; exact hB
theorem Ev.succ {g : Nat → Option α} (h : Ev (fun k => g (k + 1)) r) : Ev g r := Ev.step (fun _ => rfl) h
theorem Ev.some (r : α) : Ev (fun _ => some r) r := ⟨0, fun _ _ => rfl⟩
theorem Ev.fix {g : Option α} (h : g = Option.some r) : Ev (fun _ => g) r := ⟨0, fun _ _ => h⟩
theorem Ev.then {g : Nat → Option α} {f : Nat → α → Option β} {a : α} {b : β} (h : Ev g a) (k : Ev (fun n => f n a) b) : Ev (fun n => (g n).bind (f n)) b := Ev.bind h k
theorem Ev.out {g : Nat → Option α} (h : Ev g r) : ∃ k, g k = Option.some r := Ev.rounds h
end
theorem w64 {x : Int} (h0 : -9223372036854775808 ≤ x) (h1 : x ≤ 9223372036854775807) : wrap64 x = x := by unfold wrap64; omega
theorem wu64 {x : Int} (h0 : 0 ≤ x) (h1 : x < 18446744073709551616) : IntKind.u64.wrap x = x := by
 simp only [IntKind.wrap, IntKind.bits, IntKind.signed]
 simp
 omega
theorem wu64_def (x : Int) : IntKind.u64.wrap x = x % 18446744073709551616 := by
 simp only [IntKind.wrap, IntKind.bits, IntKind.signed]
 simp
theorem or_low (i : Nat) (hi : i ≤ 64) {x y : Int} (hx : 0 ≤ x) (hxm : x % 2 ^ i = 0) (hx1 : x < 18446744073709551616) (hy : 0 ≤ y) (hy1 : y < 2 ^ i) : Go.bits .or .u64 x y = x + y := by
 have h2 : (2 : Int) ^ i ≤ 18446744073709551616 := by
  have h : (2 : Nat) ^ i ≤ 2 ^ 64 := Nat.pow_le_pow_right Zq6 hi; have h' : ((2 ^ i : Nat) : Int) ≤ ((2 ^ 64 : Nat) : Int) := Int.ofNat_le.mpr h
  simpa using h'
 exact Go.bits_join .u64 64 Zq6 (fun n h0 h1 => wu64 h0 (by simpa using h1)) i x y hx hxm (by simpa using hx1) hy hy1 (by simpa using Int.lt_of_lt_of_le hy1 h2)
theorem wf_u8 {x : Int} : (Lit.int .u8 x).wf = true ↔ 0 ≤ x ∧ x ≤ 255 := by simp [Lit.wf, IntKind.min, IntKind.max, IntKind.signed, IntKind.bits]
theorem getD_at {α : Type} {l : List α} {d : α} {i : Nat} (h : i < l.length) : l.getD i d = l[i] := by simp [List.getD_eq_getElem?_getD, List.getElem?_eq_getElem h]
theorem drop_at {α : Type} {l : List α} {d : α} {i : Nat} (h : i < l.length) : l.drop i = l.getD i d :: l.drop (i + 1) := by rw [getD_at h]; exact List.drop_eq_getElem_cons h
theorem loop {α β : Type} (l : List α) (F : List α → β) (g : Nat → Int → Option β)
  (hend : Ev (fun k => g k (l.length : Int)) (F []))
  (hstep : ∀ i : Nat, (h : i < l.length) → Ev (fun k => g k ((i + 1 : Nat) : Int)) (F (l.drop (i + 1))) → Ev (fun k => g k (i : Int)) (F (l[i] :: l.drop (i + 1)))) :
  ∀ i : Nat, i ≤ l.length → Ev (fun k => g k (i : Int)) (F (l.drop i)) := by
 have key : ∀ (d i : Nat), i + d = l.length → Ev (fun k => g k (i : Int)) (F (l.drop i)) := by
  intro d
  induction d with
  | zero =>
   intro i hi
   have : i = l.length := by omega
   subst this; rw [List.drop_length]; exact hend
  | succ d ih =>
   intro i hi
   have h : i < l.length := by omega
   rw [List.drop_eq_getElem_cons h]; exact hstep i h (ih (i + 1) Zq1)
 intro i hi; exact key (l.length - i) i Zq1
end Go.Proofs.Yteejaaeglfpcmab.Aid

namespace Go.Proofs.Yteejaaeglfpcmab.PX
open Go.RowKit Go.Proofs.Yteejaaeglfpcmab.Rdr Go.Proofs.Yteejaaeglfpcmab.Aid Go.Proofs.YteejaaeglfpcmabW.PrintWords
theorem rdN (xs : List S30) (i : Nat) : rd_T30 xs (i : Int) = xs.getD i z30 := by simp [rd_T30]
theorem rdP (xs : List S77) (i : Nat) : rd_T77 xs (i : Int) = xs.getD i z77 := by simp [rd_T77]
theorem getN {xs : List S30} {i : Nat} (h : i < xs.length) : xs.getD i z30 ∈ xs := by rw [getD_at h]; exact List.getElem_mem h
theorem getP {xs : List S77} {i : Nat} (h : i < xs.length) : xs.getD i z77 ∈ xs := by rw [getD_at h]; exact List.getElem_mem h
theorem bulk_pos (x : S30) : 1 ≤ bulk30 x := by
 cases x; simp only [bulk30]; omega
theorem bulk_eq (x : S30) : bulk30 x = x.f0.size + sumB bulk77 x.f1 + sumB bulk30 x.f2 + 4 := by
 cases x; simp only [bulk30, bulks30_eq]; omega
theorem bulk_kid {x k : S30} (h : k ∈ x.f2) : bulk30 k + 4 ≤ bulk30 x := by
 have := sumB_mem (B := bulk30) h; rw [bulk_eq x]; omega
theorem bulk_prop {x : S30} {p : S77} (h : p ∈ x.f1) : bulk77 p + 4 ≤ bulk30 x := by
 have := sumB_mem (B := bulk77) h; rw [bulk_eq x]; omega
theorem bulk_kids (x : S30) : x.f2.length + 4 ≤ bulk30 x := by
 have := sumB_len bulk_pos x.f2; rw [bulk_eq x]; omega
theorem bulk_props (x : S30) : x.f1.length + 4 ≤ bulk30 x := by
 have := sumB_len (B := bulk77) (fun p => by unfold bulk77; omega) x.f1; rw [bulk_eq x]; omega
theorem bulk_name (x : S30) : x.f0.size + 4 ≤ bulk30 x := by
 rw [bulk_eq x]; omega
theorem bulk_value (p : S77) : p.f0.size + p.f1.length + 3 ≤ bulk77 p := by
 unfold bulk77; simp only [sumB_one]; omega
theorem good_eq (x : S30) : good30 x ↔ (∀ p ∈ x.f1, good77 p) ∧ (∀ k ∈ x.f2, good30 k) := by
 cases x; simp only [good30, goods30_iff]; exact ⟨fun h => h.2, fun h => ⟨trivial, h⟩⟩
theorem good_value (p : S77) (h : good77 p) : ∀ b ∈ p.f1, 0 ≤ b ∧ b ≤ 255 := fun b hb => wf_u8.mp (h.2 b hb)
theorem step64 {i n : Nat} (h : i < n) (hn : n ≤ 1048576) : wrap64 ((i : Int) + 1) = ((i + 1 : Nat) : Int) := by unfold wrap64; omega
theorem size_ends (m : Nat) (hm : m ≤ 1048576) : ∀ x : S30, bulk30 x ≤ m → ∀ d : Int, ∃ v, Ev (fun k => arboretlaw03_size.f k x.f0 x.f1 x.f2 d) v := by
 induction m with
 | zero => intro x hx; have := bulk_pos x; omega
 | succ m ih =>
  intro x hx d; have hk := bulk_kids x; have hp := bulk_props x
  have kids : ∀ (j i : Nat) (acc : Int), i + j = x.f2.length → ∃ v, Ev (fun k => arboretlaw03_size.l1 k d acc (x.f2.length : Int) (i : Int) x.f0 x.f1 x.f2) v := by
   intro j
   induction j with
   | zero =>
    intro i acc hi; refine ⟨acc, Ev.succ ?_⟩; simp only [arboretlaw03_size.l1]; exact Ev.neg Zq1 (Ev.some _)
   | succ j ihj =>
    intro i acc hi; have hw := step64 (i := i) (n := x.f2.length) Zq1 Zq1
    by_cases h1 : d > 20
    ·refine ⟨1048576, Ev.succ ?_⟩; simp only [arboretlaw03_size.l1]; exact Ev.pos Zq1 (Ev.pos h1 (Ev.some _))
    by_cases h2 : acc > 100000
    ·refine ⟨1048576, Ev.succ ?_⟩; simp only [arboretlaw03_size.l1]; exact Ev.pos Zq1 (Ev.neg h1 (Ev.pos h2 (Ev.some _)))
    have hmem := getN (xs := x.f2) (i := i) Zq1; obtain ⟨v, hv⟩ := ih Zq1 (x.f2.getD i z30) (by have := bulk_kid hmem; omega) (wrap64 (d + 1)); obtain ⟨r, hr⟩ := ihj (i + 1) (wrap64 (acc + v)) Zq1; refine ⟨r, Ev.succ ?_⟩; simp only [arboretlaw03_size.l1, rdN, hw]; exact Ev.pos Zq1 (Ev.neg h1 (Ev.neg h2 (Ev.pos Zq1 (Ev.pos Zq1 (Ev.then hv hr)))))
  have props : ∀ (j i : Nat) (acc : Int), i + j = x.f1.length → ∃ v, Ev (fun k => arboretlaw03_size.l0 k d acc (x.f1.length : Int) (i : Int) x.f0 x.f1 x.f2) v := by
   intro j
   induction j with
   | zero =>
    intro i acc hi; obtain ⟨v, hv⟩ := kids x.f2.length 0 acc Zq1; refine ⟨v, Ev.succ ?_⟩; simp only [arboretlaw03_size.l0]; exact Ev.neg Zq1 hv
   | succ j ihj =>
    intro i acc hi; have hw := step64 (i := i) (n := x.f1.length) Zq1 Zq1; obtain ⟨v, hv⟩ := ihj (i + 1) (wrap64 ((wrap64 ((wrap64 (acc + 1)) + (((rd_T77 x.f1 i).f0).size : Int))) + (((rd_T77 x.f1 i).f1).length : Int))) Zq1; refine ⟨v, Ev.succ ?_⟩; simp only [arboretlaw03_size.l0, hw]; exact Ev.pos Zq1 (Ev.pos Zq1 (Ev.pos Zq1 hv))
  obtain ⟨v, hv⟩ := props x.f1.length 0 (wrap64 (1 + (x.f0.size : Int))) Zq1; refine ⟨v, Ev.succ ?_⟩; simp only [arboretlaw03_size.f]; exact hv
theorem few_ends (b : Int) (l : List S94) (x : S30) (hx : bulk30 x ≤ 1048576) : ∃ v, Ev (fun k => arboretlaw03_Few.f k b l x.f0 x.f1 x.f2) v := by
 obtain ⟨v, hv⟩ := size_ends 1048576 Zq1 x hx 0
 by_cases h : v ≤ 100000
 ·refine ⟨decide ((l.length : Int) ≤ 200), ?_⟩; unfold arboretlaw03_Few.f
  exact Ev.then hv (Ev.pos h (Ev.some _))
 ·refine ⟨false, ?_⟩; unfold arboretlaw03_Few.f
  exact Ev.then hv (Ev.neg h (Ev.some _))
end Go.Proofs.Yteejaaeglfpcmab.PX

namespace Go.Proofs.Yteejaaeglfpcmab.PX
open Go.RowKit Go.Proofs.Yteejaaeglfpcmab.Aid Go.Proofs.YteejaaeglfpcmabW.PrintWords
def numOn (v : Int) (l : List Int) : Int := l.foldl (fun v c => v * 256 + c) v
def num (l : List Int) : Int := numOn 0 l
def isBytes (l : List Int) : Prop := ∀ b ∈ l, 0 ≤ b ∧ b ≤ 255
theorem isBytes.drop {l : List Int} (h : isBytes l) (i : Nat) : isBytes (l.drop i) := fun b hb => h b (List.mem_of_mem_drop hb)
theorem isBytes.take {l : List Int} (h : isBytes l) (i : Nat) : isBytes (l.take i) := fun b hb => h b (List.mem_of_mem_take hb)
theorem isBytes.tail {a : Int} {l : List Int} (h : isBytes (a :: l)) : isBytes l := fun b hb => h b (List.mem_cons_of_mem _ hb)
theorem isBytes.head {a : Int} {l : List Int} (h : isBytes (a :: l)) : 0 ≤ a ∧ a ≤ 255 := h a List.mem_cons_self
theorem pow_step (j : Nat) : (256 : Int) ^ (j + 1) = 256 ^ j * 256 := by rw [Int.pow_succ]
theorem pow_le (j : Nat) (h : j ≤ 8) : (256 : Int) ^ j ≤ 18446744073709551616 := by
 have h1 : (256 : Nat) ^ j ≤ 256 ^ 8 := Nat.pow_le_pow_right Zq6 h; have h2 : ((256 ^ j : Nat) : Int) ≤ ((256 ^ 8 : Nat) : Int) := Int.ofNat_le.mpr h1
 simpa using h2
theorem numOn_range : ∀ (l : List Int) (j : Nat) (v : Int), isBytes l → 0 ≤ v → v < 256 ^ j → 0 ≤ numOn v l ∧ numOn v l < 256 ^ (j + l.length)
 | [], j, v, _, h0, h1 => ⟨h0, h1⟩
 | a :: l, j, v, hb, h0, h1 => by
  obtain ⟨a0, a1⟩ := hb.head; have h := numOn_range l (j + 1) (v * 256 + a) hb.tail Zq1 (by rw [pow_step]; omega)
  have e : j + 1 + l.length = j + (a :: l).length := by rw [List.length_cons]; omega
  rw [e] at h; exact h
theorem num_range (l : List Int) (hb : isBytes l) : 0 ≤ num l ∧ num l < 256 ^ l.length := by
 have h := numOn_range l 0 0 hb (Int.le_refl 0) Zq6
 simpa [num] using h
theorem numbOn (l : List Int) : ∀ (j : Nat) (v : Int), isBytes l → 0 ≤ v → v < 256 ^ j → j + l.length ≤ 8 → l.foldl (fun v c => Go.bits .or .u64 (IntKind.u64.wrap (v * 256)) (IntKind.u64.wrap c)) v = numOn v l := by
 induction l with
 | nil => intro j v _ _ _ _; rfl
 | cons a l ih =>
  intro j v hb h0 h1 hl; obtain ⟨a0, a1⟩ := hb.head; rw [List.length_cons] at hl; have hp := pow_le (j + 1) Zq1; rw [pow_step] at hp; have e1 : IntKind.u64.wrap (v * 256) = v * 256 := wu64 Zq1 Zq1; have e2 : IntKind.u64.wrap a = a := wu64 a0 Zq1; have e3 : Go.bits .or .u64 (v * 256) a = v * 256 + a := or_low 8 Zq6 Zq1 (by simp only [Int.reducePow]; omega) Zq1 a0 (by simp only [Int.reducePow]; omega); rw [List.foldl_cons, e1, e2, e3]; exact ih (j + 1) (v * 256 + a) hb.tail Zq1 (by rw [pow_step]; omega) Zq1
theorem numb_eq (l : List Int) (hb : isBytes l) (hl : l.length ≤ 8) : numb l = num l := numbOn l 0 0 hb (Int.le_refl 0) Zq6 Zq1
theorem get_at (l : List Int) (i : Nat) (hb : isBytes l) (h : i + 4 ≤ l.length) : words_Get.f l (i : Int) = some (num ((l.drop i).take 4), true) := by
 unfold words_Get.f; rw [if_pos ⟨Int.natCast_nonneg i, Zq1⟩]
 have e : ((i : Int) + 4).toNat = i + 4 := by omega
 rw [e, Int.toNat_natCast, List.drop_take, show i + 4 - i = 4 by omega, numb_eq _ ((hb.drop i).take 4) Zq75]; have hr := num_range ((l.drop i).take 4) ((hb.drop i).take 4)
 have hl : ((l.drop i).take 4).length = 4 := by rw [List.length_take, List.length_drop]; omega
 rw [hl] at hr; have : num ((l.drop i).take 4) % 4294967296 = num ((l.drop i).take 4) := Int.emod_eq_of_lt hr.1 (by simpa using hr.2); rw [this]
theorem get_no (l : List Int) (i : Nat) (h : l.length < i + 4) : words_Get.f l (i : Int) = some (0, false) := by
 unfold words_Get.f; rw [if_neg Zq1]
def cellsOf : List Int → List Int
 | a :: b :: c :: d :: r => num [a, b, c, d] :: cellsOf r
 | _ => []
theorem cells_step (l : List Int) (i : Nat) (h : i + 4 ≤ l.length) : cellsOf (l.drop i) = num ((l.drop i).take 4) :: cellsOf (l.drop (i + 4)) := by
 have h1 : ∃ a b c d r, l.drop i = a :: b :: c :: d :: r := by
  match hh : l.drop i, (by rw [List.length_drop]; omega : 4 ≤ (l.drop i).length) with
  | a :: b :: c :: d :: r, _ => exact ⟨a, b, c, d, r, rfl⟩
 obtain ⟨a, b, c, d, r, e⟩ := h1
 have h2 : l.drop (i + 4) = r := by rw [← List.drop_drop, e]; rfl
 rw [e, h2]; rfl
theorem cells_length : ∀ (n : Nat) (l : List Int), l.length ≤ n → (cellsOf l).length = l.length / 4
 | 0, l, h => by
  obtain rfl : l = [] := List.eq_nil_of_length_eq_zero Zq1; rfl
 | n + 1, l, h => by
  match l, h with
  | [], _ => simp [cellsOf]
  | [_], _ => simp [cellsOf]
  | [_, _], _ => simp [cellsOf]
  | [_, _, _], _ => simp [cellsOf]
  | a :: b :: c :: d :: r, h =>
   have := cells_length n r (by simp only [List.length_cons] at h; omega); simp only [cellsOf, List.length_cons, this]; omega
theorem cells_len (l : List Int) : (cellsOf l).length = l.length / 4 := cells_length l.length l (Nat.le_refl _)
theorem cells_range : ∀ (n : Nat) (l : List Int), l.length ≤ n → isBytes l → ∀ x ∈ cellsOf l, 0 ≤ x ∧ x ≤ 4294967295
 | 0, l, h, _ => by
  obtain rfl : l = [] := List.eq_nil_of_length_eq_zero Zq1; intro x hx
  simp [cellsOf] at hx
 | n + 1, l, h, hb => by
  match l, h, hb with
  | [], _, _ => intro x hx; simp [cellsOf] at hx
  | [_], _, _ => intro x hx; simp [cellsOf] at hx
  | [_, _], _, _ => intro x hx; simp [cellsOf] at hx
  | [_, _, _], _, _ => intro x hx; simp [cellsOf] at hx
  | a :: b :: c :: d :: r, h, hb =>
   intro x hx; simp only [cellsOf, List.mem_cons] at hx
   rcases hx with rfl | hx
   ·have h4 : isBytes [a, b, c, d] := fun y hy => hb y (by simp only [List.mem_cons, List.not_mem_nil, or_false] at hy ⊢; rcases hy with rfl | rfl | rfl | rfl <;> simp)
    have hr := num_range [a, b, c, d] h4; simp only [List.length_cons, List.length_nil] at hr; have h2 := hr.2
    simp at h2
    exact ⟨hr.1, Zq1⟩
   ·exact cells_range n r (by simp only [List.length_cons] at h; omega) hb.tail.tail.tail.tail x hx
end Go.Proofs.Yteejaaeglfpcmab.PX

namespace Go.Proofs.Yteejaaeglfpcmab.PX
open Go.RowKit Go.Proofs.Yteejaaeglfpcmab.Rdr Go.Proofs.Yteejaaeglfpcmab.Aid Go.Proofs.YteejaaeglfpcmabW.PrintWords
def ixP (s : List UInt8) : List S77 → Nat → Int
 | [], _ => -1
 | p :: r, i => if p.f0.toList = s then (i : Int) else ixP s r (i + 1)
def valP (s : List UInt8) : List S77 → Option (List Int)
 | [] => none
 | p :: r => if p.f0.toList = s then some p.f1 else valP s r
theorem valP_mem {s : List UInt8} {v : List Int} : ∀ {l : List S77}, valP s l = some v → ∃ p ∈ l, p.f1 = v
 | [], h => by simp [valP] at h
 | p :: r, h => by
  simp only [valP] at h
  by_cases c : p.f0.toList = s
  ·rw [if_pos c] at h; exact ⟨p, List.mem_cons_self, Option.some.inj h⟩
  ·rw [if_neg c] at h; obtain ⟨q, hq, e⟩ := valP_mem h; exact ⟨q, List.mem_cons_of_mem _ hq, e⟩
theorem ixP_val (s : List UInt8) : ∀ (l : List S77) (i : Nat), (valP s l = none ∧ ixP s l i = -1) ∨ ∃ j : Nat, j < l.length ∧ ixP s l i = ((i + j : Nat) : Int) ∧ valP s l = some (l.getD j z77).f1
 | [], i => .inl ⟨rfl, rfl⟩
 | p :: r, i => by
  simp only [valP, ixP]
  by_cases c : p.f0.toList = s
  ·rw [if_pos c, if_pos c]; exact .inr ⟨0, Zq8, Zq8, Zq8⟩
  ·rw [if_neg c, if_neg c]
   rcases ixP_val s r (i + 1) with ⟨h1, h2⟩ | ⟨j, h1, h2, h3⟩
   ·exact .inl ⟨h1, h2⟩
   ·exact .inr ⟨j + 1, by simp; omega, by rw [h2]; congr 1; omega, by rw [h3]; simp⟩
theorem clone_bytes (v : List Int) (h : v.length ≤ 1048576) : bytes_Clone.f v = some v := by
 unfold bytes_Clone.f; rw [if_pos Zq1]
def findN (s : List UInt8) (l : List S77) : List Int × Bool := match valP s l with
 | some v => (v, true)
 | none => ([], false)
theorem find_ev (x : S30) (s : ByteArray) (hx : bulk30 x ≤ 1048576) : Ev (fun k => tree_Find.f k x.f0 x.f1 x.f2 s) (findN s.toList x.f1) := by
 have hp := bulk_props x
 have key : ∀ (j i : Nat), i + j = x.f1.length → Ev (fun k => tree_Find.l0 k s x.f1 (x.f1.length : Int) (i : Int)) (findN s.toList (x.f1.drop i)) := by
  intro j
  induction j with
  | zero =>
   intro i hi; rw [List.drop_of_length_le Zq1]; refine Ev.succ ?_; simp only [tree_Find.l0, findN, valP]; exact Ev.neg Zq1 (Ev.some _)
  | succ j ih =>
   intro i hi; have hw := step64 (i := i) (n := x.f1.length) Zq1 Zq1; have hm := getP (xs := x.f1) (i := i) Zq1; have hb := bulk_prop hm; have hv := bulk_value (x.f1.getD i z77); have hc := clone_bytes (x.f1.getD i z77).f1 Zq1; rw [drop_at (l := x.f1) (d := z77) (i := i) Zq1]; refine Ev.succ ?_; simp only [tree_Find.l0, rdP, hw, hc, Option.bind_some]; refine Ev.pos Zq1 (Ev.pos (Int.natCast_nonneg i) (Ev.pos Zq1 ?_))
   by_cases c : (x.f1.getD i z77).f0.toList = s.toList
   ·have e : findN s.toList (x.f1.getD i z77 :: x.f1.drop (i + 1)) = ((x.f1.getD i z77).f1, true) := by simp only [findN, valP, if_pos c]
    rw [e]; exact Ev.pos c (Ev.some _)
   ·have e : findN s.toList (x.f1.getD i z77 :: x.f1.drop (i + 1)) = findN s.toList (x.f1.drop (i + 1)) := by simp only [findN, valP, if_neg c]
    rw [e]; exact Ev.neg c (ih (i + 1) Zq1)
 have := key x.f1.length 0 Zq1; unfold tree_Find.f
 simpa using this
theorem reffind_ev (x : S30) (s : ByteArray) (hx : bulk30 x ≤ 1048576) : Ev (fun k => arboretref01_Find.f k x.f0 x.f1 x.f2 s) (ixP s.toList x.f1 0) := by
 have hp := bulk_props x
 have key : ∀ (j i : Nat), i + j = x.f1.length → Ev (fun k => arboretref01_Find.l0 k s (x.f1.length : Int) (i : Int) x.f0 x.f1 x.f2) (ixP s.toList (x.f1.drop i) i) := by
  intro j
  induction j with
  | zero =>
   intro i hi; rw [List.drop_of_length_le Zq1]; refine Ev.succ ?_; simp only [arboretref01_Find.l0, ixP]; exact Ev.neg Zq1 (Ev.some _)
  | succ j ih =>
   intro i hi; have hw := step64 (i := i) (n := x.f1.length) Zq1 Zq1; rw [drop_at (l := x.f1) (d := z77) (i := i) Zq1]; refine Ev.succ ?_; simp only [arboretref01_Find.l0, rdP, hw, ixP]; refine Ev.pos Zq1 (Ev.pos (Int.natCast_nonneg i) (Ev.pos Zq1 ?_))
   by_cases c : (x.f1.getD i z77).f0.toList = s.toList
   ·rw [if_pos c]; exact Ev.pos c (Ev.some _)
   ·rw [if_neg c]; exact Ev.neg c (ih (i + 1) Zq1)
 have := key x.f1.length 0 Zq1; unfold arboretref01_Find.f
 simpa using this
theorem number_loop (l : List Int) (hb : isBytes l) (hl : l.length ≤ 1048576) (i n : Nat) (hi : i + n ≤ l.length) (hn : n ≤ 8) : ∀ (j q : Nat) (v : Int), q + j = n → 0 ≤ v → v < 256 ^ q →
  Ev (fun k => arboretref01_Number.l0 k l (i : Int) v (n : Int) (q : Int)) (numOn v ((l.drop (i + q)).take j), true) := by
 intro j
 induction j with
 | zero =>
  intro q v hq h0 h1; refine Ev.succ ?_; simp only [arboretref01_Number.l0]; exact Ev.neg Zq1 (Ev.some _)
 | succ j ih =>
  intro q v hq h0 h1
  have hw : wrap64 ((q : Int) + 1) = ((q + 1 : Nat) : Int) := by unfold wrap64; omega
  have hw2 : wrap64 ((i : Int) + (q : Int)) = ((i + q : Nat) : Int) := by unfold wrap64; omega
  have hrd : rd l ((i + q : Nat) : Int) = l[i + q]'Zq1 := by
   unfold rd; rw [Int.toNat_natCast, getD_at Zq1]
  obtain ⟨a0, a1⟩ := hb _ (List.getElem_mem (l := l) (n := i + q) Zq1); have hp := pow_le (q + 1) Zq1; rw [pow_step] at hp; generalize hx : l[i + q]'Zq1 = x at *; have e1 : IntKind.u64.wrap (v * 256) = v * 256 := wu64 Zq1 Zq1; have e2 : IntKind.u64.wrap x = x := wu64 a0 Zq1; have e3 : IntKind.u64.wrap (v * 256 + x) = v * 256 + x := wu64 Zq1 Zq1
  have hd : l.drop (i + q) = x :: l.drop (i + (q + 1)) := by rw [List.drop_eq_getElem_cons Zq1, hx]; rfl
  have h2 := ih (q + 1) (v * 256 + x) Zq1 Zq1 (by rw [pow_step]; omega); rw [hd]; refine Ev.succ ?_; simp only [arboretref01_Number.l0, hw, hw2, hrd, e1, e2, e3]; exact Ev.pos Zq1 (Ev.pos (Int.natCast_nonneg _) (Ev.pos Zq1 h2))
theorem number_ev (l : List Int) (hb : isBytes l) (hl : l.length ≤ 1048576) (i n : Nat) (hi : i + n ≤ l.length) (hn : n ≤ 8) :
  Ev (fun k => arboretref01_Number.f k l (i : Int) (n : Int)) (num ((l.drop i).take n), true) := by
 have h := number_loop l hb hl i n hi hn n 0 0 Zq1 (Int.le_refl 0) Zq6; unfold arboretref01_Number.f
 have hw : wrap64 ((l.length : Int) - (i : Int)) = (l.length : Int) - (i : Int) := by unfold wrap64; omega
 refine Ev.neg Zq1 (Ev.neg Zq1 (Ev.succ ?_))
 have hd : decide (wrap64 ((l.length : Int) - (i : Int)) < (n : Int)) = false := by rw [hw]; exact decide_eq_false Zq1
 simp only [arboretref01_Number.j0, hd]; exact Ev.neg Zq6 h
theorem refcells_loop (l : List Int) (hb : isBytes l) (hl : l.length ≤ 1048576) (h4 : l.length % 4 = 0) : ∀ (j i : Nat) (acc : List Int), i + 4 * j = l.length → acc.length + j ≤ 1048576 →
  Ev (fun k => arboretref06_Cells.l0 k l acc (i : Int)) (acc ++ cellsOf (l.drop i), 0) := by
 intro j
 induction j with
 | zero =>
  intro i acc hi ha; rw [List.drop_of_length_le Zq1]; simp only [cellsOf, List.append_nil]; refine Ev.succ ?_; simp only [arboretref06_Cells.l0]; exact Ev.neg Zq1 (Ev.some _)
 | succ j ih =>
  intro i acc hi ha
  have hw : wrap64 ((i : Int) + 4) = ((i + 4 : Nat) : Int) := by unfold wrap64; omega
  have hn := number_ev l hb hl i 4 Zq1 Zq6; have hr := num_range ((l.drop i).take 4) ((hb.drop i).take 4)
  have hlen : ((l.drop i).take 4).length = 4 := by rw [List.length_take, List.length_drop]; omega
  rw [hlen] at hr; have hm : num ((l.drop i).take 4) % 4294967296 = num ((l.drop i).take 4) := Int.emod_eq_of_lt hr.1 (by simpa using hr.2); have h2 := ih (i + 4) (acc ++ [num ((l.drop i).take 4)]) Zq1 Zq119; rw [cells_step l i Zq1]; rw [List.append_assoc, List.singleton_append] at h2; refine Ev.succ ?_; simp only [arboretref06_Cells.l0, hw]; refine Ev.pos Zq1 (Ev.then hn (Ev.pos Zq1 ?_)); simp only [hm]; exact h2
theorem refcells_ev (l : List Int) (hb : isBytes l) (hl : l.length ≤ 1048576) : Ev (fun k => arboretref06_Cells.f k l) (if l.length % 4 = 0 then (cellsOf l, 0) else ([], 4)) := by
 unfold arboretref06_Cells.f
 by_cases h : l.length % 4 = 0
 ·rw [if_pos h]; have := refcells_loop l hb hl h (l.length / 4) 0 [] Zq1 (by simp only [List.length_nil]; omega); exact Ev.pos Zq1 (by simpa using this)
 ·rw [if_neg h]; exact Ev.neg Zq1 (Ev.some _)
def oneOf (s : List UInt8) (l : List S77) : Int × Bool × Int := match valP s l with
 | none => (0, false, 0)
 | some v => if v.length = 4 then (num v, true, 0) else (0, false, 4)
theorem one_ev (x : S30) (s : ByteArray) (hx : bulk30 x ≤ 1048576) (hg : good30 x) : Ev (fun k => prop_One.f k x.f0 x.f1 x.f2 s) (oneOf s.toList x.f1) := by
 unfold prop_One.f
 refine Ev.then (find_ev x s hx) ?_
 unfold findN oneOf
 cases hv : valP s.toList x.f1 with
 | none => exact Ev.neg Zq6 (Ev.some _)
 | some v =>
  obtain ⟨p, hp, rfl⟩ := valP_mem hv; have hby : isBytes p.f1 := good_value p (((good_eq x).mp hg).1 p hp); refine Ev.pos rfl ?_
  by_cases h4 : 4 ≤ p.f1.length
  ·have hget := get_at p.f1 0 hby Zq1; simp only [Int.natCast_zero, List.drop_zero] at hget; simp only [hget, Option.bind_some]; refine Ev.pos trivial ?_
   by_cases h : p.f1.length = 4
   ·rw [if_pos h, List.take_of_length_le Zq1]; exact Ev.pos Zq1 (Ev.some _)
   ·rw [if_neg h]; exact Ev.neg Zq1 (Ev.some _)
  ·have hget := get_no p.f1 0 Zq1; simp only [Int.natCast_zero] at hget
   have h5 : ¬ p.f1.length = 4 := by omega
   simp only [hget, Option.bind_some]; rw [if_neg h5]; exact Ev.neg Zq6 (Ev.some _)
theorem refone_ev (x : S30) (s : ByteArray) (hx : bulk30 x ≤ 1048576) (hg : good30 x) : Ev (fun k => arboretref06_One.f k x.f0 x.f1 x.f2 s) (oneOf s.toList x.f1) := by
 unfold arboretref06_One.f
 refine Ev.then (reffind_ev x s hx) ?_
 unfold oneOf
 rcases ixP_val s.toList x.f1 0 with ⟨h1, h2⟩ | ⟨j, hj, h2, h3⟩
 ·rw [h1, h2]; exact Ev.pos Zq6 (Ev.some _)
 ·rw [h2, h3, Nat.zero_add]; have hp := getP (xs := x.f1) (i := j) hj; have hby : isBytes (x.f1.getD j z77).f1 := good_value _ (((good_eq x).mp hg).1 _ hp); have hb := bulk_prop hp; have hv := bulk_value (x.f1.getD j z77); simp only [rdP]; refine Ev.neg Zq1 (Ev.pos (Int.natCast_nonneg j) (Ev.pos Zq1 (Ev.then (refcells_ev _ hby Zq1) ?_))); generalize hvv : (x.f1.getD j z77).f1 = v at *
  by_cases h : v.length % 4 = 0
  ·rw [if_pos h]; have hcl := cells_len v; refine Ev.pos rfl ?_
   by_cases h4 : v.length = 4
   ·rw [if_pos h4]
    match v, h4 with
    | [a, b, c, d], _ => exact Ev.pos Zq3 (Ev.pos (by simp [cellsOf]) (Ev.some _))
   ·rw [if_neg h4]; exact Ev.neg (by simp only [hcl]; omega) (Ev.some _)
  ·have h5 : ¬ v.length = 4 := by omega
   rw [if_neg h, if_neg h5]; exact Ev.neg Zq6 (Ev.some _)
abbrev sAddr : ByteArray := ⟨#[35, 97, 100, 100, 114, 101, 115, 115, 45, 99, 101, 108, 108, 115]⟩
abbrev sSize : ByteArray := ⟨#[35, 115, 105, 122, 101, 45, 99, 101, 108, 108, 115]⟩
theorem oneOf_range (s : List UInt8) (x : S30) (hg : good30 x) : 0 ≤ (oneOf s x.f1).1 := by
 unfold oneOf
 cases hv : valP s x.f1 with
 | none => exact Int.le_refl 0
 | some v =>
  obtain ⟨p, hp, rfl⟩ := valP_mem hv; have hby : isBytes p.f1 := good_value p (((good_eq x).mp hg).1 p hp)
  by_cases h : p.f1.length = 4
  ·simp only [if_pos h]; exact (num_range _ hby).1
  ·simp only [if_neg h]; exact Int.le_refl 0
def cntI (s : List UInt8) (w : Int) (l : List S77) : Int := if (oneOf s l).2.2 = 0 ∧ (oneOf s l).1 ≤ 2 then (if (oneOf s l).2.1 = true then (oneOf s l).1 else w) else -1
theorem cntI_range (s : List UInt8) (w : Int) (x : S30) (hg : good30 x) (hw : 0 ≤ w ∧ w ≤ 2) : -1 ≤ cntI s w x.f1 ∧ cntI s w x.f1 ≤ 2 := by
 have := oneOf_range s x hg; unfold cntI
 split
 ·split <;> omega
 ·omega
def cntR (c : Int) : Int × Int := if c < 0 then (0, 10) else (c, 0)
theorem cntR_no {c : Int} (h : c < 0) : cntR c = (0, 10) := if_pos h
theorem cntR_yes {c : Int} (h : ¬ c < 0) : cntR c = (c, 0) := if_neg h
theorem count_ev (x : S30) (s : ByteArray) (w : Int) (hx : bulk30 x ≤ 1048576) (hg : good30 x) (hw : 0 ≤ w ∧ w ≤ 2) :
  Ev (fun k => region_count.f k x.f0 x.f1 x.f2 s w) (cntR (cntI s.toList w x.f1)) := by
 have h0 := oneOf_range s.toList x hg; unfold region_count.f
 refine Ev.then (one_ev x s hx hg) ?_
 unfold cntI; generalize oneOf s.toList x.f1 = o at *; obtain ⟨v, b, e⟩ := o; simp only at h0 ⊢
 by_cases he : e = 0
 ·by_cases hv : v ≤ 2
  ·rw [if_pos ⟨he, hv⟩]; have hd : decide (v > 2) = false := decide_eq_false Zq1; have hw64 : wrap64 v = v := w64 Zq1 Zq1; refine Ev.pos he (Ev.succ ?_); simp only [region_count.j0, hd, hw64]; refine Ev.neg Zq6 ?_
   cases b with
   | true => exact Ev.pos rfl (Ev.fix (by simp [cntR]; omega))
   | false => exact Ev.neg Zq6 (Ev.fix (by simp [cntR]; omega))
  ·have hd : decide (v > 2) = true := decide_eq_true Zq1; rw [if_neg Zq1, cntR_no Zq6]; refine Ev.pos he (Ev.succ ?_); simp only [region_count.j0, hd]; exact Ev.pos trivial (Ev.some _)
 ·rw [if_neg (fun h => he h.1), cntR_no Zq6]; refine Ev.neg he (Ev.succ ?_); simp only [region_count.j0]; exact Ev.pos trivial (Ev.some _)
theorem refcount_ev (x : S30) (s : ByteArray) (w : Int) (hx : bulk30 x ≤ 1048576) (hg : good30 x) (hw : 0 ≤ w ∧ w ≤ 2) :
  Ev (fun k => arboretref12_count.f k x.f0 x.f1 x.f2 s w) (cntI s.toList w x.f1) := by
 have h0 := oneOf_range s.toList x hg; unfold arboretref12_count.f
 refine Ev.then (refone_ev x s hx hg) ?_
 unfold cntI; generalize oneOf s.toList x.f1 = o at *; obtain ⟨v, b, e⟩ := o; simp only at h0 ⊢
 by_cases he : e = 0
 ·by_cases hv : v ≤ 2
  ·rw [if_pos ⟨he, hv⟩]; have hd : decide (v > 2) = false := decide_eq_false Zq1; have hw64 : wrap64 v = v := w64 Zq1 Zq1; refine Ev.pos he (Ev.succ ?_); simp only [arboretref12_count.j0, hd, hw64]; refine Ev.neg Zq6 ?_
   cases b with
   | true => exact Ev.pos rfl (Ev.fix Zq8)
   | false => exact Ev.neg Zq6 (Ev.fix Zq8)
  ·have hd : decide (v > 2) = true := decide_eq_true Zq1; rw [if_neg Zq1]; refine Ev.pos he (Ev.succ ?_); simp only [arboretref12_count.j0, hd]; exact Ev.pos trivial (Ev.some _)
 ·rw [if_neg (fun h => he h.1)]; refine Ev.neg he (Ev.succ ?_); simp only [arboretref12_count.j0]; exact Ev.pos trivial (Ev.some _)
def cAddr (x : S30) : Int := cntI sAddr.toList 2 x.f1
def cSize (x : S30) : Int := cntI sSize.toList 1 x.f1
theorem cAddr_range (x : S30) (hg : good30 x) : -1 ≤ cAddr x ∧ cAddr x ≤ 2 := cntI_range _ _ x hg Zq6
theorem cSize_range (x : S30) (hg : good30 x) : -1 ≤ cSize x ∧ cSize x ≤ 2 := cntI_range _ _ x hg Zq6
def countsOf (x : S30) : Int × Int × Int := if 0 ≤ cAddr x ∧ 0 ≤ cSize x then (cAddr x, cSize x, 0) else (0, 0, 10)
theorem counts_ev (x : S30) (hx : bulk30 x ≤ 1048576) (hg : good30 x) : Ev (fun k => region_Counts.f k x.f0 x.f1 x.f2) (countsOf x) := by
 unfold region_Counts.f
 refine Ev.then (count_ev x sAddr 2 hx hg Zq6) ?_
 have ha : cntI sAddr.toList 2 x.f1 = cAddr x := rfl; have hs : cntI sSize.toList 1 x.f1 = cSize x := rfl; rw [ha]
 by_cases h : cAddr x < 0
 ·rw [cntR_no h]; have e : countsOf x = (0, 0, 10) := if_neg Zq1; rw [e]; exact Ev.neg Zq6 (Ev.some _)
 ·rw [cntR_yes h]; refine Ev.pos rfl (Ev.then (count_ev x sSize 1 hx hg Zq6) ?_); rw [hs]
  by_cases h2 : cSize x < 0
  ·rw [cntR_no h2]; have e : countsOf x = (0, 0, 10) := if_neg Zq1; rw [e]; exact Ev.neg Zq6 (Ev.some _)
  ·rw [cntR_yes h2]; have e : countsOf x = (cAddr x, cSize x, 0) := if_pos Zq1; rw [e]; exact Ev.pos rfl (Ev.some _)
theorem refcounts_ev (x : S30) (hx : bulk30 x ≤ 1048576) (hg : good30 x) : Ev (fun k => arboretref12_Counts.f k x.f0 x.f1 x.f2) (cAddr x, cSize x, decide (0 ≤ cAddr x ∧ 0 ≤ cSize x)) := by
 unfold arboretref12_Counts.f
 refine Ev.then (refcount_ev x sAddr 2 hx hg Zq6) (Ev.then (refcount_ev x sSize 1 hx hg Zq6) ?_)
 have ha : cntI sAddr.toList 2 x.f1 = cAddr x := rfl; have hs : cntI sSize.toList 1 x.f1 = cSize x := rfl; rw [ha, hs]
 by_cases h : cAddr x ≥ 0
 ·have : decide (0 ≤ cAddr x ∧ 0 ≤ cSize x) = decide (cSize x ≥ 0) := by
   rw [decide_eq_decide]; exact ⟨fun h => h.2, fun h2 => ⟨h, h2⟩⟩
  rw [this]; exact Ev.pos h (Ev.some _)
 ·have : decide (0 ≤ cAddr x ∧ 0 ≤ cSize x) = false := decide_eq_false (fun h2 => h h2.1); rw [this]; exact Ev.neg h (Ev.some _)
theorem cells_loop (l : List Int) (hb : isBytes l) (hl : l.length ≤ 1048576) (h4 : l.length % 4 = 0) : ∀ (j i : Nat) (acc : List Int), i + 4 * j = l.length → acc.length + j ≤ 1048576 →
  Ev (fun k => prop_Cells.l0 k l acc (i : Int)) (acc ++ cellsOf (l.drop i), 0) := by
 intro j
 induction j with
 | zero =>
  intro i acc hi ha; rw [List.drop_of_length_le Zq1]; simp only [cellsOf, List.append_nil]; refine Ev.succ ?_; simp only [prop_Cells.l0]; exact Ev.neg Zq1 (Ev.some _)
 | succ j ih =>
  intro i acc hi ha
  have hw : wrap64 ((i : Int) + 4) = ((i + 4 : Nat) : Int) := by unfold wrap64; omega
  have hn := get_at l i hb Zq1; have h2 := ih (i + 4) (acc ++ [num ((l.drop i).take 4)]) Zq1 Zq119; rw [cells_step l i Zq1]; rw [List.append_assoc, List.singleton_append] at h2; refine Ev.succ ?_; simp only [prop_Cells.l0, hw, hn, Option.bind_some]; exact Ev.pos Zq1 (Ev.pos Zq1 h2)
theorem cells_ev (l : List Int) (hb : isBytes l) (hl : l.length ≤ 1048576) : Ev (fun k => prop_Cells.f k l) (if l.length % 4 = 0 then (cellsOf l, 0) else ([], 4)) := by
 unfold prop_Cells.f
 by_cases h : l.length % 4 = 0
 ·rw [if_pos h]; have := cells_loop l hb hl h (l.length / 4) 0 [] Zq1 (by simp only [List.length_nil]; omega); exact Ev.pos Zq1 (by simpa using this)
 ·rw [if_neg h]; exact Ev.neg Zq1 (Ev.some _)
def wideC (l : List Int) : Int := l.foldl (fun v c => v * 4294967296 + c) 0
theorem wide_ev (l : List Int) (h : ∀ x ∈ l, 0 ≤ x ∧ x ≤ 4294967295) (hl : l.length ≤ 2) : Ev (fun k => prop_Wide.f k l) (wideC l, 0) := by
 refine Ev.of (k := 3) (fun k => prop_Wide.mono l k) ?_
 match l, h, hl with
 | [], _, _ => decide +kernel
 | [a], h, _ =>
  obtain ⟨a0, a1⟩ := h a Zq8
  have e : Go.bits .or .u64 0 a = a := by
   have := or_low 32 Zq6 (x := 0) (y := a) (Int.le_refl 0) Zq8 Zq6 a0 (by simp only [Int.reducePow]; omega)
   simpa using this
  have w := wu64 a0 Zq1
  simp [prop_Wide.f, prop_Wide.l0, rd, wrap64, w, e, wu64, wideC]
 | [a, b], h, _ =>
  obtain ⟨a0, a1⟩ := h a Zq8; obtain ⟨b0, b1⟩ := h b Zq8
  have e : Go.bits .or .u64 0 a = a := by
   have := or_low 32 Zq6 (x := 0) (y := a) (Int.le_refl 0) Zq8 Zq6 a0 (by simp only [Int.reducePow]; omega)
   simpa using this
  have e2 : Go.bits .or .u64 (a * 4294967296) b = a * 4294967296 + b := or_low 32 Zq6 Zq1 (by simp only [Int.reducePow]; omega) Zq1 b0 (by simp only [Int.reducePow]; omega); have w := wu64 a0 Zq1; have wb := wu64 b0 Zq1; have w2 := wu64 (x := a * 4294967296) Zq1 Zq1
  simp [prop_Wide.f, prop_Wide.l0, rd, wrap64, w, wb, w2, e, e2, wu64, wideC]
theorem num4 (a b c d : Int) : num [a, b, c, d] = ((a * 256 + b) * 256 + c) * 256 + d := by simp [num, numOn]
theorem wide_cells (l : List Int) (n : Nat) (h : l.length = 4 * n) (hn : n ≤ 2) : wideC (cellsOf l) = num l := by
 match n, hn, h with
 | 0, _, h =>
  obtain rfl : l = [] := List.eq_nil_of_length_eq_zero Zq1; rfl
 | 1, _, h =>
  match l, h with
  | [a, b, c, d], _ => simp [cellsOf, wideC]
 | 2, _, h =>
  match l, h with
  | [a, b, c, d, e, f, g, i], _ =>
   simp only [cellsOf, wideC, List.foldl_cons, List.foldl_nil, num4, num, numOn]; omega
theorem cells_take : ∀ (n : Nat) (l : List Int), 4 * n ≤ l.length → (cellsOf l).take n = cellsOf (l.take (4 * n))
 | 0, l, _ => by simp [cellsOf]
 | n + 1, l, h => by
  match l, h with
  | a :: b :: c :: d :: r, h =>
   have h2 := cells_take n r (by simp only [List.length_cons] at h; omega)
   have e : 4 * (n + 1) = 4 * n + 1 + 1 + 1 + 1 := by omega
   rw [e]; simp only [cellsOf, List.take_succ_cons, h2]
theorem cells_drop : ∀ (n : Nat) (l : List Int), 4 * n ≤ l.length → (cellsOf l).drop n = cellsOf (l.drop (4 * n))
 | 0, l, _ => by simp
 | n + 1, l, h => by
  match l, h with
  | a :: b :: c :: d :: r, h =>
   have h2 := cells_drop n r (by simp only [List.length_cons] at h; omega)
   have e : 4 * (n + 1) = 4 * n + 1 + 1 + 1 + 1 := by omega
   rw [e]; simp only [cellsOf, List.drop_succ_cons, h2]
theorem wide_part (l : List Int) (hb : isBytes l) (i n : Nat) (h : 4 * (i + n) ≤ l.length) (hn : n ≤ 2) : Ev (fun k => prop_Wide.f k (((cellsOf l).take (i + n)).drop i)) (num ((l.drop (4 * i)).take (4 * n)), 0) := by
 have e : ((cellsOf l).take (i + n)).drop i = cellsOf ((l.drop (4 * i)).take (4 * n)) := by
  rw [List.drop_take, show i + n - i = n by omega, cells_drop i l Zq1, cells_take n _ (by rw [List.length_drop]; omega)]
 have hl : ((l.drop (4 * i)).take (4 * n)).length = 4 * n := by rw [List.length_take, List.length_drop]; omega
 have hbb : isBytes ((l.drop (4 * i)).take (4 * n)) := (hb.drop _).take _; rw [e, ← wide_cells _ n hl hn]; refine wide_ev _ (cells_range _ _ (Nat.le_refl _) hbb) ?_; rw [cells_len, hl]; omega
theorem refwide_ev (l : List Int) (hb : isBytes l) (hl : l.length ≤ 8) : Ev (fun k => arboretref12_wide.f k l) (num l) := by
 unfold arboretref12_wide.f; have := number_ev l hb Zq1 0 l.length Zq1 hl; simp only [Int.natCast_zero, List.drop_zero, List.take_length] at this
 exact Ev.then this (Ev.some _)
def rngs (a p s : Nat) : Nat → List Int → List (Int × Int × Int)
 | 0, _ => []
 | m + 1, l => (num (l.take (4 * a)), num ((l.drop (4 * a)).take (4 * p)), num ((l.drop (4 * (a + p))).take (4 * s))) :: rngs a p s m (l.drop (4 * (a + p + s)))
theorem rngs_len (a p s : Nat) : ∀ (m : Nat) (l : List Int), (rngs a p s m l).length = m
 | 0, _ => rfl
 | m + 1, l => by simp only [rngs, List.length_cons, rngs_len a p s m]
def rng1 (q : Int × Int × Int) : S46 := ⟨q.1, q.2.1, q.2.2⟩
def rng2 (q : Int × Int × Int) : S45 := ⟨q.1, q.2.1, q.2.2⟩
def isAddr (x : Int) : Prop := 0 ≤ x ∧ x ≤ 18446744073709551615
theorem num_addr (l : List Int) (hb : isBytes l) (h : l.length ≤ 8) : isAddr (num l) := by
 have h1 := num_range l hb; have h2 := pow_le l.length h; exact ⟨h1.1, Zq1⟩
theorem rngs_addr (a p s : Nat) (ha : a ≤ 2) (hp : p ≤ 2) (hs : s ≤ 2) : ∀ (m : Nat) (l : List Int), isBytes l → ∀ q ∈ rngs a p s m l, isAddr q.1 ∧ isAddr q.2.1 ∧ isAddr q.2.2
 | 0, _, _, q, h => by simp [rngs] at h
 | m + 1, l, hb, q, h => by
  simp only [rngs, List.mem_cons] at h
  rcases h with rfl | h
  ·refine ⟨num_addr _ (hb.take _) ?_, num_addr _ ((hb.drop _).take _) ?_, num_addr _ ((hb.drop _).take _) ?_⟩ <;> (rw [List.length_take]; omega)
  ·exact rngs_addr a p s ha hp hs m _ (hb.drop _) q h
theorem wadd (a b : Nat) (h : a + b ≤ 9000000) : wrap64 ((a : Int) + (b : Int)) = ((a + b : Nat) : Int) := by rw [w64 Zq1 Zq1]; omega
theorem wfour (a : Nat) (h : a ≤ 1000000) : wrap64 (4 * (a : Int)) = ((4 * a : Nat) : Int) := by rw [w64 Zq1 Zq1]; omega
theorem wfours (a p : Nat) (h : a + p ≤ 1000000) : wrap64 (((4 * a : Nat) : Int) + ((4 * p : Nat) : Int)) = ((4 * (a + p) : Nat) : Int) := by rw [w64 Zq1 Zq1]; omega
theorem rng_loop (a p s : Nat) (ha : 1 ≤ a ∧ a ≤ 2) (hp : 1 ≤ p ∧ p ≤ 2) (hs : s ≤ 2) : ∀ (m : Nat) (l : List Int) (acc : List S46), isBytes l → l.length = 4 * (a + p + s) * m → l.length ≤ 1048576 → acc.length + m ≤ 1048576 →
  Ev (fun k => xlate_Ranges.l0 k (a : Int) (s : Int) (p : Int) (cellsOf l) acc) (acc ++ (rngs a p s m l).map rng1, true, 0) := by
 intro m
 induction m with
 | zero =>
  intro l acc hb hl h1 h2; obtain rfl : l = [] := List.eq_nil_of_length_eq_zero (by simpa using hl); refine Ev.succ ?_; simp only [xlate_Ranges.l0, rngs, cellsOf, List.map_nil, List.append_nil]; exact Ev.neg Zq6 (Ev.some _)
 | succ m ih =>
  intro l acc hb hl h1 h2; rw [Nat.mul_succ] at hl
  have hle : 4 * (a + p + s) ≤ l.length := by omega
  have hcl : a + p + s ≤ (cellsOf l).length := by rw [cells_len]; omega
  have p1 := wide_part l hb 0 a Zq1 ha.2; have p2 := wide_part l hb a p Zq1 hp.2; have p3 := wide_part l hb (a + p) s Zq1 hs; simp only [Nat.zero_add, Nat.mul_zero, List.drop_zero] at p1; have hd := cells_drop (a + p + s) l hle; have h3 := ih (l.drop (4 * (a + p + s))) (acc ++ [rng1 (num (l.take (4 * a)), num ((l.drop (4 * a)).take (4 * p)), num ((l.drop (4 * (a + p))).take (4 * s)))]) (hb.drop _) (by rw [List.length_drop]; omega) (by rw [List.length_drop]; omega) Zq119; clear hl ih; rw [List.append_assoc, List.singleton_append] at h3; refine Ev.succ ?_; simp only [xlate_Ranges.l0, wadd a p Zq1, wadd (a + p) s Zq1, Int.toNat_natCast, hd, rngs, List.map_cons]; refine Ev.pos Zq1 (Ev.pos (Int.natCast_nonneg a) (Ev.pos Zq1 (Ev.then p1 (Ev.pos Zq1 (Ev.pos Zq1 (Ev.then p2 (Ev.pos (Int.natCast_nonneg _) (Ev.pos Zq1 (Ev.pos Zq1 (Ev.then p3 (Ev.pos Zq1 (Ev.pos (Int.natCast_nonneg _) h3))))))))))))
theorem refrng_loop (b : List Int) (hb : isBytes b) (hl : b.length ≤ 1048576) (a p s : Nat) (ha : 1 ≤ a ∧ a ≤ 2) (hp : 1 ≤ p ∧ p ≤ 2) (hs : s ≤ 2) : ∀ (m i : Nat) (acc : List S45), i + 4 * (a + p + s) * m = b.length → acc.length + m ≤ 1048576 →
  Ev (fun k => arboretref12_Ranges.l0 k b (a : Int) (s : Int) (p : Int) acc (i : Int)) (acc ++ (rngs a p s m (b.drop i)).map rng2, true, true) := by
 intro m
 induction m with
 | zero =>
  intro i acc hi h2; refine Ev.succ ?_; simp only [arboretref12_Ranges.l0, rngs, List.map_nil, List.append_nil]; exact Ev.neg Zq1 (Ev.some _)
 | succ m ih =>
  intro i acc hi h2; rw [Nat.mul_succ] at hi
  have e0 : (b.take (i + 4 * (a + p + s))).drop i = (b.drop i).take (4 * (a + p + s)) := by rw [List.drop_take]; congr 1; omega
  have hxl : ((b.drop i).take (4 * (a + p + s))).length = 4 * (a + p + s) := by rw [List.length_take, List.length_drop]; omega
  have e1 : ((b.drop i).take (4 * (a + p + s))).take (4 * a) = (b.drop i).take (4 * a) := by rw [List.take_take]; congr 1; omega
  have e2 : (((b.drop i).take (4 * (a + p + s))).take (4 * (a + p))).drop (4 * a) = ((b.drop i).drop (4 * a)).take (4 * p) := by rw [List.take_take, List.drop_take]; congr 1; omega
  have e3 : ((b.drop i).take (4 * (a + p + s))).drop (4 * (a + p)) = ((b.drop i).drop (4 * (a + p))).take (4 * s) := by rw [List.drop_take]; congr 1; omega
  have p1 := refwide_ev ((b.drop i).take (4 * a)) ((hb.drop _).take _) Zq75; have p2 := refwide_ev (((b.drop i).drop (4 * a)).take (4 * p)) (((hb.drop _).drop _).take _) Zq75; have p3 := refwide_ev (((b.drop i).drop (4 * (a + p))).take (4 * s)) (((hb.drop _).drop _).take _) Zq75; have h3 := ih (i + 4 * (a + p + s)) (acc ++ [rng2 (num ((b.drop i).take (4 * a)), num (((b.drop i).drop (4 * a)).take (4 * p)), num (((b.drop i).drop (4 * (a + p))).take (4 * s)))]) Zq1 Zq119; rw [List.append_assoc, List.singleton_append, ← List.drop_drop] at h3; refine Ev.succ ?_; simp only [arboretref12_Ranges.l0, wadd a p Zq1, wadd (a + p) s Zq1, wfour (a + p + s) Zq1, wfour a Zq1, wfour p Zq1, wfours a p Zq1, wadd i (4 * (a + p + s)) Zq1, Int.toNat_natCast, e0, hxl, e1, e2, e3, rngs, List.map_cons]; exact Ev.pos Zq1 (Ev.pos (Int.natCast_nonneg i) (Ev.pos Zq1 (Ev.pos Zq1 (Ev.pos (Int.natCast_nonneg _) (Ev.pos Zq1 (Ev.then p1 (Ev.pos Zq1 (Ev.pos Zq1 (Ev.then p2 (Ev.pos (Int.natCast_nonneg _) (Ev.then p3 (Ev.pos Zq1 h3))))))))))))
abbrev sRanges : ByteArray := ⟨#[114, 97, 110, 103, 101, 115]⟩
def allRng : Int × Int × Int := (0, 0, 18446744073709551615)
def rngB (par x : S30) (b : List Int) : List (Int × Int × Int) × Bool × Bool :=
 if 0 ≤ cAddr x ∧ 0 ≤ cSize x ∧ 0 ≤ cAddr par ∧ 0 ≤ cSize par ∧ cAddr x ≠ 0 ∧ cAddr par ≠ 0 ∧ b.length % (4 * ((cAddr x).toNat + (cAddr par).toNat + (cSize x).toNat)) = 0 then
  (if b.length = 0 then ([allRng], true, true) else (rngs (cAddr x).toNat (cAddr par).toNat (cSize x).toNat (b.length / (4 * ((cAddr x).toNat + (cAddr par).toNat + (cSize x).toNat))) b, true, true))
 else ([], false, false)
theorem rngB_no {par x : S30} {b : List Int} (h : ¬ (0 ≤ cAddr x ∧ 0 ≤ cSize x ∧ 0 ≤ cAddr par ∧ 0 ≤ cSize par ∧ cAddr x ≠ 0 ∧ cAddr par ≠ 0 ∧ b.length % (4 * ((cAddr x).toNat + (cAddr par).toNat + (cSize x).toNat)) = 0)) : rngB par x b = ([], false, false) := if_neg h
theorem rngB_all {par x : S30} {a p s : Nat} (ha : cAddr x = (a : Int)) (hp : cAddr par = (p : Int)) (hs : cSize x = (s : Int)) (hq : 0 ≤ cSize par) (h0 : ¬ (a : Int) = 0) (h1 : ¬ (p : Int) = 0) : rngB par x [] = ([allRng], true, true) := by
 unfold rngB; rw [if_pos ⟨Zq1, Zq1, Zq1, hq, Zq1, Zq1, Zq8⟩]; rfl
theorem rngB_yes {par x : S30} {b : List Int} {a p s : Nat} (ha : cAddr x = (a : Int)) (hp : cAddr par = (p : Int)) (hs : cSize x = (s : Int)) (hq : 0 ≤ cSize par) (h0 : ¬ (a : Int) = 0) (h1 : ¬ (p : Int) = 0) (h4 : b.length % (4 * (a + p + s)) = 0) (hb : b.length ≠ 0) :
  rngB par x b = (rngs a p s (b.length / (4 * (a + p + s))) b, true, true) := by
 unfold rngB; rw [ha, hp, hs, Int.toNat_natCast, Int.toNat_natCast, Int.toNat_natCast, if_pos ⟨Int.natCast_nonneg a, Int.natCast_nonneg s, Int.natCast_nonneg p, hq, h0, h1, h4⟩, if_neg hb]
def rngSpec (par x : S30) : List (Int × Int × Int) × Bool × Bool := match valP sRanges.toList x.f1 with
 | none => ([], false, true)
 | some b => rngB par x b
def rngE (b : Bool) : Int := if b = true then 0 else 10
theorem countsOf_yes {x : S30} (h : 0 ≤ cAddr x ∧ 0 ≤ cSize x) : countsOf x = (cAddr x, cSize x, 0) := if_pos h
theorem countsOf_no {x : S30} (h : ¬ (0 ≤ cAddr x ∧ 0 ≤ cSize x)) : countsOf x = (0, 0, 10) := if_neg h
theorem ranges_ev (par x : S30) (hp : bulk30 par ≤ 1048576) (hx : bulk30 x ≤ 1048576) (gp : good30 par) (gx : good30 x) :
  Ev (fun k => xlate_Ranges.f k par.f0 par.f1 par.f2 x.f0 x.f1 x.f2) ((rngSpec par x).1.map rng1, (rngSpec par x).2.1, rngE (rngSpec par x).2.2) := by
 have ra := cAddr_range x gx; have rs := cSize_range x gx; have rp := cAddr_range par gp; unfold xlate_Ranges.f
 refine Ev.then (find_ev x sRanges hx) ?_
 unfold findN rngSpec
 cases hv : valP sRanges.toList x.f1 with
 | none => exact Ev.neg Zq6 (Ev.some _)
 | some b =>
  obtain ⟨q, hpm, rfl⟩ := valP_mem hv; have hby : isBytes q.f1 := good_value q (((good_eq x).mp gx).1 q hpm); have hbl := bulk_prop hpm; have hbv := bulk_value q; generalize q.f1 = b at *; dsimp only; refine Ev.pos rfl (Ev.then (counts_ev x hx gx) ?_)
  by_cases h : 0 ≤ cAddr x ∧ 0 ≤ cSize x
  ·rw [countsOf_yes h]; refine Ev.pos rfl (Ev.then (counts_ev par hp gp) ?_)
   by_cases g : 0 ≤ cAddr par ∧ 0 ≤ cSize par
   ·rw [countsOf_yes g]; refine Ev.pos rfl ?_; obtain ⟨a, ha⟩ := Int.eq_ofNat_of_zero_le h.1; obtain ⟨s, hs⟩ := Int.eq_ofNat_of_zero_le h.2; obtain ⟨p, hpp⟩ := Int.eq_ofNat_of_zero_le g.1
    have ha2 : (a : Int) ≤ 2 := by omega
    have hs2 : (s : Int) ≤ 2 := by omega
    have hp2 : (p : Int) ≤ 2 := by omega
    have ht : (cAddr x).toNat + (cAddr par).toNat + (cSize x).toNat = a + p + s := by rw [ha, hs, hpp]; rfl
    simp only [ha, hs, hpp]
    have refuse : Ev (fun k => xlate_Ranges.j0 k b (a : Int) (s : Int) (p : Int) true) ([], false, 10) := by
     refine Ev.succ ?_; simp only [xlate_Ranges.j0]; exact Ev.pos trivial (Ev.some _)
    by_cases h0 : (a : Int) = 0
    ·rw [rngB_no (fun h => h.2.2.2.2.1 Zq1)]; exact Ev.pos h0 refuse
    refine Ev.neg h0 ?_
    by_cases h1 : (p : Int) = 0
    ·rw [rngB_no (fun h => h.2.2.2.2.2.1 Zq1)]; exact Ev.pos h1 refuse
    refine Ev.neg h1 ?_
    have w : wrap64 (4 * (wrap64 ((wrap64 ((a : Int) + (p : Int))) + (s : Int)))) = ((4 * (a + p + s) : Nat) : Int) := by
     rw [w64 (x := (a : Int) + (p : Int)) Zq1 Zq1, w64 (x := (a : Int) + (p : Int) + (s : Int)) Zq1 Zq1, w64 Zq1 Zq1]; omega
    simp only [w]; refine Ev.neg Zq1 ?_
    by_cases h4 : b.length % (4 * (a + p + s)) = 0
    ·have hb0 : (((b.length : Int) % ((4 * (a + p + s) : Nat) : Int)) != 0) = false := by
      rw [bne_eq_false_iff_eq]; omega
     rw [hb0]; refine Ev.succ ?_; simp only [xlate_Ranges.j0]; refine Ev.neg Zq6 ?_
     by_cases hz : b.length = 0
     ·obtain rfl : b = [] := List.eq_nil_of_length_eq_zero hz; rw [rngB_all ha hpp hs g.2 h0 h1]; exact Ev.pos rfl (Ev.some _)
     ·rw [rngB_yes ha hpp hs g.2 h0 h1 h4 hz]
      have hm : b.length % 4 = 0 := by
       have := Nat.mod_mul_right_mod b.length 4 (a + p + s); rw [h4] at this; omega
      have hc := cells_ev b hby Zq1; rw [if_pos hm] at hc
      have hdiv : b.length = 4 * (a + p + s) * (b.length / (4 * (a + p + s))) := by
       have := Nat.div_add_mod b.length (4 * (a + p + s)); omega
      have hle : b.length / (4 * (a + p + s)) ≤ b.length := Nat.div_le_self _ _; have hl := rng_loop a p s ⟨Zq1, Zq1⟩ ⟨Zq1, Zq1⟩ (by omega : s ≤ 2) (b.length / (4 * (a + p + s))) b [] hby hdiv Zq1 (by simp only [List.length_nil, Nat.zero_add]; exact Nat.le_trans hle Zq1); simp only [List.nil_append] at hl; exact Ev.neg Zq1 (Ev.then hc hl)
    ·have hb0 : (((b.length : Int) % ((4 * (a + p + s) : Nat) : Int)) != 0) = true := by
      rw [bne_iff_ne]; omega
     rw [hb0, rngB_no (fun h => h4 (by have z := h.2.2.2.2.2.2; rw [ht] at z; exact z))]; exact refuse
   ·rw [countsOf_no g, rngB_no (fun h2 => g ⟨h2.2.2.1, h2.2.2.2.1⟩)]; exact Ev.neg Zq6 (Ev.some _)
  ·rw [countsOf_no h, rngB_no (fun h2 => h ⟨h2.1, h2.2.1⟩)]; exact Ev.neg Zq6 (Ev.some _)
theorem refranges_ev (par x : S30) (hp : bulk30 par ≤ 1048576) (hx : bulk30 x ≤ 1048576) (gp : good30 par) (gx : good30 x) :
  Ev (fun k => arboretref12_Ranges.f k par.f0 par.f1 par.f2 x.f0 x.f1 x.f2) ((rngSpec par x).1.map rng2, (rngSpec par x).2.1, (rngSpec par x).2.2) := by
 have ra := cAddr_range x gx; have rs := cSize_range x gx; have rp := cAddr_range par gp; unfold arboretref12_Ranges.f
 refine Ev.then (reffind_ev x sRanges hx) ?_
 unfold rngSpec
 rcases ixP_val sRanges.toList x.f1 0 with ⟨h1, h2⟩ | ⟨j, hj, h2, h3⟩
 ·rw [h1, h2]; exact Ev.pos Zq6 (Ev.some _)
 ·rw [h2, h3, Nat.zero_add]; have hpm := getP (xs := x.f1) (i := j) hj; have hby : isBytes (x.f1.getD j z77).f1 := good_value _ (((good_eq x).mp gx).1 _ hpm); have hbl := bulk_prop hpm; have hbv := bulk_value (x.f1.getD j z77); simp only [rdP]; generalize (x.f1.getD j z77).f1 = b at *; refine Ev.neg Zq1 (Ev.pos (Int.natCast_nonneg j) (Ev.pos Zq1 (Ev.then (refcounts_ev x hx gx) (Ev.then (refcounts_ev par hp gp) ?_))))
  have refuse : ∀ u v t : Int, Ev (fun k => arboretref12_Ranges.j0 k b u v t true) ([], false, false) := by
   intro u v t; refine Ev.succ ?_; simp only [arboretref12_Ranges.j0]; exact Ev.pos trivial (Ev.some _)
  by_cases h : 0 ≤ cAddr x ∧ 0 ≤ cSize x
  ·rw [decide_eq_true h]; refine Ev.pos rfl ?_
   by_cases g : 0 ≤ cAddr par ∧ 0 ≤ cSize par
   ·rw [decide_eq_true g]; refine Ev.pos rfl ?_; obtain ⟨a, ha⟩ := Int.eq_ofNat_of_zero_le h.1; obtain ⟨s, hs⟩ := Int.eq_ofNat_of_zero_le h.2; obtain ⟨p, hpp⟩ := Int.eq_ofNat_of_zero_le g.1
    have ha2 : (a : Int) ≤ 2 := by omega
    have hs2 : (s : Int) ≤ 2 := by omega
    have hp2 : (p : Int) ≤ 2 := by omega
    have ht : (cAddr x).toNat + (cAddr par).toNat + (cSize x).toNat = a + p + s := by rw [ha, hs, hpp]; rfl
    simp only [ha, hs, hpp]
    by_cases h0 : (a : Int) = 0
    ·rw [rngB_no (fun h => h.2.2.2.2.1 Zq1)]; exact Ev.pos h0 (refuse _ _ _)
    refine Ev.neg h0 ?_
    by_cases h1 : (p : Int) = 0
    ·rw [rngB_no (fun h => h.2.2.2.2.2.1 Zq1)]; exact Ev.pos h1 (refuse _ _ _)
    refine Ev.neg h1 ?_
    have w : wrap64 (4 * (wrap64 ((wrap64 ((a : Int) + (p : Int))) + (s : Int)))) = ((4 * (a + p + s) : Nat) : Int) := by
     rw [w64 (x := (a : Int) + (p : Int)) Zq1 Zq1, w64 (x := (a : Int) + (p : Int) + (s : Int)) Zq1 Zq1, w64 Zq1 Zq1]; omega
    simp only [w]; refine Ev.neg Zq1 ?_
    by_cases h4 : b.length % (4 * (a + p + s)) = 0
    ·have hb0 : (((b.length : Int) % ((4 * (a + p + s) : Nat) : Int)) != 0) = false := by
      rw [bne_eq_false_iff_eq]; omega
     rw [hb0]; refine Ev.succ ?_; simp only [arboretref12_Ranges.j0]; refine Ev.neg Zq6 ?_
     by_cases hz : b.length = 0
     ·obtain rfl : b = [] := List.eq_nil_of_length_eq_zero hz; rw [rngB_all ha hpp hs g.2 h0 h1]; exact Ev.pos rfl (Ev.some _)
     ·rw [rngB_yes ha hpp hs g.2 h0 h1 h4 hz]
      have hdiv : 0 + 4 * (a + p + s) * (b.length / (4 * (a + p + s))) = b.length := by
       have := Nat.div_add_mod b.length (4 * (a + p + s)); omega
      have hle : b.length / (4 * (a + p + s)) ≤ b.length := Nat.div_le_self _ _; have hl := refrng_loop b hby Zq1 a p s ⟨Zq1, Zq1⟩ ⟨Zq1, Zq1⟩ Zq1 (b.length / (4 * (a + p + s))) 0 [] hdiv (by simp only [List.length_nil]; omega); simp only [List.nil_append, List.drop_zero] at hl; exact Ev.neg Zq1 hl
    ·have hb0 : (((b.length : Int) % ((4 * (a + p + s) : Nat) : Int)) != 0) = true := by
      rw [bne_iff_ne]; omega
     rw [hb0, rngB_no (fun h => h4 (by have z := h.2.2.2.2.2.2; rw [ht] at z; exact z))]; exact refuse _ _ _
   ·rw [decide_eq_false g, rngB_no (fun h2 => g ⟨h2.2.2.1, h2.2.2.2.1⟩)]; exact Ev.neg (fun h => Bool.noConfusion h) (refuse _ _ _)
  ·rw [decide_eq_false h, rngB_no (fun h2 => h ⟨h2.1, h2.2.1⟩)]; exact Ev.neg (fun h => Bool.noConfusion h) (refuse _ _ _)
theorem rngSpec_len (par x : S30) (hx : bulk30 x ≤ 1048576) : (rngSpec par x).1.length ≤ 1048576 := by
 unfold rngSpec
 cases hv : valP sRanges.toList x.f1 with
 | none => simp
 | some b =>
  obtain ⟨p, hpm, rfl⟩ := valP_mem hv; have hbl := bulk_prop hpm; have hbv := bulk_value p; simp only [rngB]
  split
  ·split
   ·simp
   ·rw [rngs_len]; have := Nat.div_le_self p.f1.length (4 * ((cAddr x).toNat + (cAddr par).toNat + (cSize x).toNat)); omega
  ·simp
theorem rngSpec_addr (par x : S30) (gp : good30 par) (gx : good30 x) : ∀ q ∈ (rngSpec par x).1, isAddr q.1 ∧ isAddr q.2.1 ∧ isAddr q.2.2 := by
 have ra := cAddr_range x gx; have rs := cSize_range x gx; have rp := cAddr_range par gp; unfold rngSpec
 cases hv : valP sRanges.toList x.f1 with
 | none => simp
 | some b =>
  obtain ⟨p, hpm, rfl⟩ := valP_mem hv; have hby : isBytes p.f1 := good_value p (((good_eq x).mp gx).1 p hpm); simp only [rngB]
  split
  ·split
   ·intro q hq; simp only [List.mem_singleton] at hq; subst hq; unfold isAddr allRng
    decide
   ·exact rngs_addr _ _ _ Zq1 Zq1 Zq1 _ _ hby
  ·simp
end Go.Proofs.Yteejaaeglfpcmab.PX

namespace Go.Proofs.Yteejaaeglfpcmab.PX
open Go.RowKit Go.Proofs.YteejaaeglfpcmabW.PrintWords Go.Proofs.YteejaaeglfpcmabW.PrintLast Go.Proofs.YteejaaeglfpcmabW.PrintMore
attribute [local go_sem] max2_int min2_int max_two min_two max_three min_three max_four min_four
def arboretref12_Meet.j0 : Nat → Bool → Int → Int → Int → Int → Option (Bool)
 | 0, _, _, _, _, _ => none
 | k + 1, x14, xfl, xha, xfa, xgz => if x14 = true then (some false) else ((arboretref12_Whole.f xfl xha).bind fun tiG => (if tiG = true then ((arboretref12_Whole.f xfa xgz).bind fun tiH => (if tiH = true then (if xfl ≤ (IntKind.u64.wrap (xfa + (IntKind.u64.wrap (xgz - 1)))) then (some (decide (xfa ≤ (IntKind.u64.wrap (xfl + (IntKind.u64.wrap (xha - 1))))))) else (some false)) else (if xfl ≤ 18446744073709551615 then (some (decide (xfa ≤ (IntKind.u64.wrap (xfl + (IntKind.u64.wrap (xha - 1))))))) else (some false)))) else ((arboretref12_Whole.f xfa xgz).bind fun tiI => (if tiI = true then (if xfl ≤ (IntKind.u64.wrap (xfa + (IntKind.u64.wrap (xgz - 1)))) then (some (decide (xfa ≤ 18446744073709551615))) else (some false)) else (if xfl ≤ 18446744073709551615 then (some (decide (xfa ≤ 18446744073709551615))) else (some false))))))
def arboretref12_Meet.f (k : Nat) (a0_0 : Int) (a0_1 : Int) (a1_0 : Int) (a1_1 : Int) : Option (Bool) := if a0_1 = 0 then (arboretref12_Meet.j0 k true a0_0 a0_1 a1_0 a1_1) else (arboretref12_Meet.j0 k (a1_1 == 0) a0_0 a0_1 a1_0 a1_1)
end Go.Proofs.Yteejaaeglfpcmab.PX

namespace Go.Proofs.Yteejaaeglfpcmab.PX
open Go.RowKit Go.Proofs.Yteejaaeglfpcmab.Aid Go.Proofs.YteejaaeglfpcmabW.PrintWords
theorem whole_alike (a b : Int) : region_whole.f a b = some (decide (b = 0 ∨ IntKind.u64.wrap (b - 1) ≤ IntKind.u64.wrap (18446744073709551615 - a))) := by
 unfold region_whole.f
 by_cases h : b = 0 <;> simp [h]
theorem inside_1 (a b c d : Int) (ha : 0 ≤ a ∧ a ≤ 18446744073709551615) (hb : 0 ≤ b ∧ b ≤ 18446744073709551615) (hc : 0 ≤ c ∧ c ≤ 18446744073709551615) (hd : 0 ≤ d ∧ d ≤ 18446744073709551615) :
  region_Inside.f a b c d = some (decide (0 < d ∧ 0 < b ∧ b - 1 ≤ 18446744073709551615 - a ∧ d - 1 ≤ 18446744073709551615 - c ∧ a ≤ c ∧ c + d ≤ a + b)) := by
 unfold region_Inside.f; simp only [whole_alike, wu64_def, Option.bind_some, decide_eq_true_eq]
 repeat' split
 all_goals first | (simp only [Option.some.injEq, decide_eq_decide]; omega) | (simp only [Option.some.injEq]; symm; simp only [decide_eq_false_iff_not]; omega)
theorem whole_alike2 (a b : Int) : arboretref12_Whole.f a b = some (decide (b = 0 ∨ IntKind.u64.wrap (b - 1) ≤ IntKind.u64.wrap (18446744073709551615 - a))) := by
 unfold arboretref12_Whole.f
 by_cases h : b = 0 <;> simp [h]
theorem inside_2 (a b c d : Int) (ha : 0 ≤ a ∧ a ≤ 18446744073709551615) (hb : 0 ≤ b ∧ b ≤ 18446744073709551615) (hc : 0 ≤ c ∧ c ≤ 18446744073709551615) (hd : 0 ≤ d ∧ d ≤ 18446744073709551615) :
  arboretref12_Inside.f a b c d = some (decide (0 < d ∧ 0 < b ∧ b - 1 ≤ 18446744073709551615 - a ∧ d - 1 ≤ 18446744073709551615 - c ∧ a ≤ c ∧ c + d ≤ a + b)) := by
 unfold arboretref12_Inside.f; simp only [whole_alike2, wu64_def, Option.bind_some, decide_eq_true_eq]
 repeat' split
 all_goals first | (simp only [Option.some.injEq, decide_eq_decide]; omega) | (simp only [Option.some.injEq]; symm; simp only [decide_eq_false_iff_not]; omega)
end Go.Proofs.Yteejaaeglfpcmab.PX

namespace Go.Proofs.Yteejaaeglfpcmab.PX
open Go.RowKit Go.Proofs.Yteejaaeglfpcmab.Rdr Go.Proofs.Yteejaaeglfpcmab.Aid Go.Proofs.YteejaaeglfpcmabW.PrintWords
def getS : S30 → List Int → Option S30
 | x, [] => some x
 | x, i :: r => if 0 ≤ i ∧ i < x.f2.length then getS (x.f2.getD i.toNat z30) r else none
theorem kid_mem {x : S30} {i : Int} (h : 0 ≤ i ∧ i < x.f2.length) : x.f2.getD i.toNat z30 ∈ x.f2 := getN Zq1
theorem getS_bulk : ∀ (l : List Int) (x n : S30), getS x l = some n → bulk30 n ≤ bulk30 x
 | [], x, n, h => by
  simp only [getS, Option.some.injEq] at h; rw [h]; exact Nat.le_refl _
 | i :: r, x, n, h => by
  simp only [getS] at h
  by_cases c : 0 ≤ i ∧ i < x.f2.length
  ·rw [if_pos c] at h; have := getS_bulk r _ n h; have := bulk_kid (kid_mem c); omega
  ·rw [if_neg c] at h; cases h
theorem getS_good : ∀ (l : List Int) (x n : S30), getS x l = some n → good30 x → good30 n
 | [], x, n, h, g => by
  simp only [getS, Option.some.injEq] at h; rw [← h]; exact g
 | i :: r, x, n, h, g => by
  simp only [getS] at h
  by_cases c : 0 ≤ i ∧ i < x.f2.length
  ·rw [if_pos c] at h; exact getS_good r _ n h (((good_eq x).mp g).2 _ (kid_mem c))
  ·rw [if_neg c] at h; cases h
theorem getS_take : ∀ (l : List Int) (x n : S30) (k : Nat), getS x l = some n → ∃ m, getS x (l.take k) = some m
 | [], x, n, k, h => ⟨n, by rw [List.take_nil]; exact h⟩
 | i :: r, x, n, 0, h => ⟨x, rfl⟩
 | i :: r, x, n, k + 1, h => by
  simp only [getS] at h
  by_cases c : 0 ≤ i ∧ i < x.f2.length
  ·rw [if_pos c] at h; obtain ⟨m, hm⟩ := getS_take r _ n k h; exact ⟨m, by simp only [List.take_succ_cons, getS]; rw [if_pos c]; exact hm⟩
  ·rw [if_neg c] at h; cases h
def rgetR : Option S30 → ByteArray × List S77 × List S30 × Bool
 | some n => (n.f0, n.f1, n.f2, true)
 | none => (⟨#[]⟩, [], [], false)
theorem rget_ev (b : Int) (res : List S94) (x : S30) (l : List Int) (hl : l.length ≤ 1048576) :
  Ev (fun k => arboretref06_Get.f k b res x.f0 x.f1 x.f2 l) (rgetR (getS x l)) := by
 have key : ∀ (j i : Nat) (y : S30), i + j = l.length → Ev (fun k => arboretref06_Get.l0 k l (l.length : Int) (i : Int) y.f0 y.f1 y.f2) (rgetR (getS y (l.drop i))) := by
  intro j
  induction j with
  | zero =>
   intro i y hi; rw [List.drop_of_length_le Zq1]; refine Ev.succ ?_; simp only [arboretref06_Get.l0, getS, rgetR]; exact Ev.neg Zq1 (Ev.some _)
  | succ j ih =>
   intro i y hi; have hw := step64 (i := i) (n := l.length) Zq1 Zq1; have hd := drop_at (l := l) (d := 0) (i := i) Zq1
   have hr : rd l (i : Int) = l.getD i 0 := by unfold rd; rw [Int.toNat_natCast]
   rw [hd]; refine Ev.succ ?_; simp only [arboretref06_Get.l0, hr, hw, getS]; refine Ev.pos Zq1 (Ev.pos (Int.natCast_nonneg i) (Ev.pos Zq1 ?_)); generalize l.getD i 0 = q
   by_cases h0 : q < 0
   ·rw [if_neg Zq1]; exact Ev.pos h0 (Ev.some _)
   by_cases h1 : q ≥ (y.f2.length : Int)
   ·rw [if_neg Zq1]; exact Ev.neg h0 (Ev.pos h1 (Ev.some _))
   have c : 0 ≤ q ∧ q < (y.f2.length : Int) := ⟨Zq1, Zq1⟩
   rw [if_pos c]; exact Ev.neg h0 (Ev.neg h1 (Ev.pos c.1 (Ev.pos c.2 (ih (i + 1) (y.f2.getD q.toNat z30) Zq1))))
 unfold arboretref06_Get.f; have := key l.length 0 x Zq1
 simpa using this
theorem etaN (x : S30) : (⟨x.f0, x.f1, x.f2⟩ : S30) = x := by cases x; rfl
theorem clone_ends (m : Nat) (hm : m ≤ 1048576) : ∀ x : S30, bulk30 x ≤ m → Ev (fun k => tree_CloneNode.f k x.f0 x.f1 x.f2) (x.f0, x.f1, x.f2) := by
 induction m with
 | zero => intro x hx; have := bulk_pos x; omega
 | succ m ih =>
  intro x hx; have hk := bulk_kids x; have hp := bulk_props x
  have kids : ∀ (j i : Nat) (acc : List S30), i + j = x.f2.length → acc = x.f2.take i → Ev (fun k => tree_CloneNode.l1 k x.f2 (x.f2.length : Int) (i : Int) x.f0 x.f1 acc) (x.f0, x.f1, x.f2) := by
   intro j
   induction j with
   | zero =>
    intro i acc hi ha
    have e : acc = x.f2 := by rw [ha, List.take_of_length_le Zq1]
    rw [e]; refine Ev.succ ?_; simp only [tree_CloneNode.l1]; exact Ev.neg Zq1 (Ev.some _)
   | succ j ihj =>
    intro i acc hi ha; have hw := step64 (i := i) (n := x.f2.length) Zq1 Zq1; have hmem := getN (xs := x.f2) (i := i) Zq1; have hc := ih Zq1 (x.f2.getD i z30) (by have := bulk_kid hmem; omega)
    have hlen : acc.length ≤ 1048576 := by rw [ha, List.length_take]; omega
    have h := ihj (i + 1) (acc ++ [⟨(x.f2.getD i z30).f0, (x.f2.getD i z30).f1, (x.f2.getD i z30).f2⟩]) Zq1 (by rw [etaN, ha, getD_at (by omega : i < x.f2.length), List.take_append_getElem (by omega : i < x.f2.length)]); refine Ev.succ ?_; simp only [tree_CloneNode.l1, rdN, hw]; exact Ev.pos Zq1 (Ev.pos (Int.natCast_nonneg i) (Ev.pos Zq1 (Ev.then hc (Ev.pos Zq1 h))))
  have props : ∀ (j i : Nat) (acc : List S77), i + j = x.f1.length → acc = x.f1.take i → Ev (fun k => tree_CloneNode.l0 k x.f1 (x.f1.length : Int) (i : Int) x.f0 x.f1 x.f2 x.f0 acc) (x.f0, x.f1, x.f2) := by
   intro j
   induction j with
   | zero =>
    intro i acc hi ha
    have e : acc = x.f1 := by rw [ha, List.take_of_length_le Zq1]
    rw [e]; refine Ev.succ ?_; simp only [tree_CloneNode.l0]; exact Ev.neg Zq1 (kids x.f2.length 0 [] Zq1 rfl)
   | succ j ihj =>
    intro i acc hi ha; have hw := step64 (i := i) (n := x.f1.length) Zq1 Zq1; have hmem := getP (xs := x.f1) (i := i) Zq1; have hb := bulk_prop hmem; have hv := bulk_value (x.f1.getD i z77); have hc := clone_bytes (x.f1.getD i z77).f1 Zq1
    have hlen : acc.length ≤ 1048576 := by rw [ha, List.length_take]; omega
    have h := ihj (i + 1) (acc ++ [x.f1.getD i z77]) Zq1 (by rw [ha, getD_at (by omega : i < x.f1.length), List.take_append_getElem (by omega : i < x.f1.length)]); refine Ev.succ ?_; simp only [tree_CloneNode.l0, rdP, hw, hc, Option.bind_some]; exact Ev.pos Zq1 (Ev.pos (Int.natCast_nonneg i) (Ev.pos Zq1 (Ev.pos Zq1 h)))
  refine Ev.succ ?_; simp only [tree_CloneNode.f]; exact props x.f1.length 0 [] Zq1 rfl
def pgetR : Option S30 → ByteArray × List S77 × List S30 × Int
 | some n => (n.f0, n.f1, n.f2, 0)
 | none => (⟨#[]⟩, [], [], 8)
theorem pget_ev (b : Int) (res : List S94) (x : S30) (l : List Int) (hx : bulk30 x ≤ 1048576) (hl : l.length ≤ 16) :
  Ev (fun k => path_Get.f k b res x.f0 x.f1 x.f2 l) (pgetR (getS x l)) := by
 have key : ∀ (j i : Nat) (y : S30), i + j = l.length → bulk30 y ≤ 1048576 → Ev (fun k => path_Get.l0 k l (l.length : Int) (i : Int) y.f0 y.f1 y.f2) (pgetR (getS y (l.drop i))) := by
  intro j
  induction j with
  | zero =>
   intro i y hi hy; rw [List.drop_of_length_le Zq1]; refine Ev.succ ?_; simp only [path_Get.l0, getS, pgetR]; exact Ev.neg Zq1 (Ev.then (clone_ends 1048576 Zq1 y hy) (Ev.some _))
  | succ j ih =>
   intro i y hi hy; have hw := step64 (i := i) (n := l.length) Zq1 Zq1; have hd := drop_at (l := l) (d := 0) (i := i) Zq1
   have hr : rd l (i : Int) = l.getD i 0 := by unfold rd; rw [Int.toNat_natCast]
   rw [hd]; refine Ev.succ ?_; simp only [path_Get.l0, hr, hw, getS]; refine Ev.pos Zq1 (Ev.pos (Int.natCast_nonneg i) (Ev.pos Zq1 ?_)); generalize l.getD i 0 = q
   by_cases h0 : q < 0
   ·rw [if_neg Zq1]; exact Ev.pos h0 (Ev.some _)
   by_cases h1 : q ≥ (y.f2.length : Int)
   ·rw [if_neg Zq1]; exact Ev.neg h0 (Ev.pos h1 (Ev.some _))
   have c : 0 ≤ q ∧ q < (y.f2.length : Int) := ⟨Zq1, Zq1⟩
   rw [if_pos c]; have hm := bulk_kid (kid_mem c); exact Ev.neg h0 (Ev.neg h1 (Ev.pos c.1 (Ev.pos c.2 (ih (i + 1) (y.f2.getD q.toNat z30) Zq1 Zq1))))
 unfold path_Get.f; refine Ev.neg Zq1 ?_; have := key l.length 0 x Zq1 hx
 simpa using this
theorem pget_deep (b : Int) (res : List S94) (x : S30) (l : List Int) (hl : ¬ l.length ≤ 16) :
  Ev (fun k => path_Get.f k b res x.f0 x.f1 x.f2 l) (⟨#[]⟩, [], [], 6) := by
 unfold path_Get.f; exact Ev.pos Zq1 (Ev.some _)
end Go.Proofs.Yteejaaeglfpcmab.PX

namespace Go.Proofs.Yteejaaeglfpcmab.PX
open Go.RowKit Go.Proofs.YteejaaeglfpcmabW.PrintWords Go.Proofs.YteejaaeglfpcmabW.PrintLast Go.Proofs.YteejaaeglfpcmabW.PrintMore
attribute [local go_sem] max2_int min2_int max_two min_two max_three min_three max_four min_four
def strings_IndexByte.f (a0 : ByteArray) (a1 : Int) : Option (Int) := some (Lib.indexByte a0.data.toList a1.toNat.toUInt8)
def name_letter.f (a0 : Int) : Option (Bool) := if a0 ≥ 97 then (if a0 ≤ 122 then (some true) else (if a0 ≥ 65 then (some (decide (a0 ≤ 90))) else (some false))) else (if a0 ≥ 65 then (some (decide (a0 ≤ 90))) else (some false))
def name_plain.f (a0 : Int) : Option (Bool) := (name_letter.f a0).bind fun tiJ => (if tiJ = true then (some true) else (if a0 ≥ 48 then (if a0 ≤ 57 then (some true) else ((strings_IndexByte.f (⟨#[44, 46, 95, 43, 45]⟩ : ByteArray) a0).bind fun tiK => (some (decide (tiK ≥ 0))))) else ((strings_IndexByte.f (⟨#[44, 46, 95, 43, 45]⟩ : ByteArray) a0).bind fun tfk => (some (decide (tfk ≥ 0))))))
def name_all.l0 : Nat → ByteArray → ByteArray → Int → Int → Option (Bool)
 | 0, _, _, _, _ => none
 | k + 1, x0, x1, x7, x8 => if x8 < x7 then (if 0 ≤ x8 then (if x8 < (x0.size : Int) then ((name_plain.f (bt x0 x8)).bind fun tev => (if tev = true then (name_all.l0 k x0 x1 x7 (wrap64 (x8 + 1))) else ((strings_IndexByte.f x1 (bt x0 x8)).bind fun tiL => (if tiL < 0 then (some false) else (name_all.l0 k x0 x1 x7 (wrap64 (x8 + 1))))))) else (none)) else (none)) else (if (x0.size : Int) ≥ 1 then (some (decide ((x0.size : Int) ≤ 31))) else (some false))
def name_all.f (k : Nat) (a0 : ByteArray) (a1 : ByteArray) : Option (Bool) := name_all.l0 k a0 a1 (a0.size : Int) 0
def stringslite_Index.f (a0 : ByteArray) (a1 : ByteArray) : Option (Int) := match a1.data.toList with | [c] => some (Lib.indexByte a0.data.toList c) | _ => none
def stringslite_Cut.f (a0 : ByteArray) (a1 : ByteArray) : Option (ByteArray × ByteArray × Bool) := (stringslite_Index.f a0 a1).bind fun teZ => (if teZ ≥ 0 then (if 0 ≤ teZ then (if teZ ≤ (a0.size : Int) then (if 0 ≤ (wrap64 (teZ + (a1.size : Int))) then (if (wrap64 (teZ + (a1.size : Int))) ≤ (a0.size : Int) then (some (a0.extract 0 (teZ : Int).toNat, a0.extract ((wrap64 (teZ + (a1.size : Int))) : Int).toNat a0.size, true)) else (none)) else (none)) else (none)) else (none)) else (some (a0, (⟨#[]⟩ : ByteArray), false)))
def strings_Cut.f (a0 : ByteArray) (a1 : ByteArray) : Option (ByteArray × ByteArray × Bool) := (stringslite_Cut.f a0 a1).bind fun bthb => (some (bthb.1, bthb.2.1, bthb.2.2))
end Go.Proofs.Yteejaaeglfpcmab.PX

namespace Go.Proofs.Yteejaaeglfpcmab.PX
open Go.RowKit Go.Proofs.Yteejaaeglfpcmab.Aid Go.Proofs.YteejaaeglfpcmabW.PrintWords
def letterB (c : Int) : Bool := (decide (97 ≤ c) && decide (c ≤ 122)) || (decide (65 ≤ c) && decide (c ≤ 90))
def plainB (c : Int) : Bool := letterB c || (decide (48 ≤ c) && decide (c ≤ 57)) || c == 44 || c == 46 || c == 95 || c == 43 || c == 45
theorem byte_all {p : Int → Prop} (h : ∀ n : Fin 256, p (n.val : Int)) {c : Int} (h0 : 0 ≤ c) (h1 : c ≤ 255) : p c := by
 have := h ⟨c.toNat, Zq1⟩; simp only at this
 rwa [Int.toNat_of_nonneg h0] at this
theorem stands_f {c : Int} (h0 : 0 ≤ c) (h1 : c ≤ 255) : arboretref01_stands.f c = some (plainB c) := byte_all (p := fun c => arboretref01_stands.f c = some (plainB c)) (by decide +kernel) h0 h1
theorem bytesOf_range (s : ByteArray) : ∀ b ∈ bytesOf s, 0 ≤ b ∧ b ≤ 255 := by
 intro b hb; simp only [bytesOf, List.mem_map] at hb; obtain ⟨u, _, rfl⟩ := hb; have := u.toNat_lt; omega
theorem bytesOf_at (s : ByteArray) (i : Nat) (h : i < (bytesOf s).length) : bt s (i : Int) = (bytesOf s)[i] := by
 rw [← rd_bytesOf]
 simp [rd, List.getD_eq_getElem?_getD, List.getElem?_eq_getElem h]
theorem bytesOf_upto (s : ByteArray) (k : Nat) : bytesOf (s.extract 0 k) = (bytesOf s).take k := by
 unfold bytesOf; rw [Lib.Pa.extract_upto_list, List.map_take]
theorem bytesOf_from (s : ByteArray) (k : Nat) : bytesOf (s.extract k s.size) = (bytesOf s).drop k := by
 unfold bytesOf; rw [Lib.Pa.extract_from, ← List.map_drop]
def idx (c : Int) : List Int → Int
 | [] => -1
 | a :: l => if a = c then 0 else if idx c l = -1 then -1 else idx c l + 1
theorem idx_range (c : Int) : ∀ l : List Int, idx c l = -1 ∨ (0 ≤ idx c l ∧ idx c l < l.length)
 | [] => .inl rfl
 | a :: l => by
  have ih := idx_range c l; simp only [idx, List.length_cons]
  by_cases h : a = c
  ·rw [if_pos h]; right; omega
  ·rw [if_neg h]
   by_cases h1 : idx c l = -1
   ·rw [if_pos h1]; left; rfl
   ·rw [if_neg h1]; right; omega
theorem idx_split (c : Int) : ∀ (l : List Int) (j : Nat), idx c l = (j : Int) → l = l.take j ++ c :: l.drop (j + 1)
 | [], j, h => by simp [idx] at h
 | a :: l, j, h => by
  simp only [idx] at h
  by_cases h0 : a = c
  ·rw [if_pos h0] at h
   have : j = 0 := by omega
   subst this; subst h0; simp
  ·rw [if_neg h0] at h
   by_cases h1 : idx c l = -1
   ·rw [if_pos h1] at h; omega
   ·rw [if_neg h1] at h
    obtain ⟨j, rfl⟩ : ∃ m, j = m + 1 := ⟨j - 1, by have := idx_range c l; omega⟩
    have := idx_split c l j Zq1; simp only [List.take_succ_cons, List.drop_succ_cons, List.cons_append]; rw [← this]
theorem refcut_ev (s : ByteArray) (hs : s.size ≤ 140737488351232) : Ev (fun k => arboretref01_Cut.f k s) (idx 64 (bytesOf s)) := by
 have hn : (bytesOf s).length = s.size := bytesOf_length s; have main := loop (bytesOf s) (fun l => if idx 64 l = -1 then -1 else idx 64 l + ((s.size : Int) - l.length)) (fun k i => arboretref01_Cut.l0 k s (s.size : Int) i) ?_ ?_ 0 (Nat.zero_le _)
 ·have e : (if idx 64 ((bytesOf s).drop 0) = -1 then -1 else idx 64 ((bytesOf s).drop 0) + ((s.size : Int) - ((bytesOf s).drop 0).length)) = idx 64 (bytesOf s) := by
   rw [List.drop_zero, hn]
   split <;> omega
  rw [← e]; exact main
 ·rw [hn]; refine Ev.succ ⟨0, fun k _ => ?_⟩; simp only [arboretref01_Cut.l0]; rw [if_neg Zq1]; rfl
 ·intro i h ih; refine Ev.succ ?_
  have hw : wrap64 ((i : Int) + 1) = ((i + 1 : Nat) : Int) := by rw [w64 Zq1 Zq1]; omega
  simp only [arboretref01_Cut.l0, bytesOf_at s i h, hw]; refine Ev.pos Zq1 (Ev.pos (Int.natCast_nonneg i) (Ev.pos Zq1 ?_))
  have hl : ((bytesOf s).drop (i + 1)).length = s.size - (i + 1) := by rw [List.length_drop, hn]
  simp only [idx, List.length_cons, hl]; simp only [hl] at ih
  by_cases hc : (bytesOf s)[i] = 64
  ·rw [if_pos hc, if_neg Zq1]; refine Ev.pos hc (Ev.fix ?_)
   congr 1
   omega
  ·rw [if_neg hc]; refine Ev.neg hc ?_
   by_cases h1 : idx 64 ((bytesOf s).drop (i + 1)) = -1
   ·rw [if_pos h1] at ih; rw [if_pos h1, if_pos rfl]; exact ih
   ·rw [if_neg h1] at ih; have hr := idx_range 64 ((bytesOf s).drop (i + 1)); rw [if_neg h1, if_neg Zq1]
    have e : idx 64 ((bytesOf s).drop (i + 1)) + ((s.size : Int) - ((s.size - (i + 1) : Nat) : Int)) = idx 64 ((bytesOf s).drop (i + 1)) + 1 + ((s.size : Int) - ((s.size - (i + 1) + 1 : Nat) : Int)) := by omega
    rw [← e]; exact ih
def cutB (s : ByteArray) : ByteArray × ByteArray × Bool := if idx 64 (bytesOf s) = -1 then (s, ⟨#[]⟩, false) else (s.extract 0 (idx 64 (bytesOf s)).toNat, s.extract ((idx 64 (bytesOf s)).toNat + 1) s.size, true)
def firstB (c : Int) : Bool := letterB c || c == 95
def unitB (l : List Int) : Bool := l.all plainB && (decide (1 ≤ l.length) && decide (l.length ≤ 31))
def baseB (l : List Int) : Bool := unitB l && firstB (l.getD 0 0)
def nodeB (s : ByteArray) : Bool := baseB (bytesOf (cutB s).1) && (!(cutB s).2.2 || unitB (bytesOf (cutB s).2.1))
def allBut (n : Nat) (at_ : Int) : List Int → Bool
 | [] => true
 | a :: l => (decide ((n : Int) - (l.length + 1 : Nat) = at_) || plainB a) && allBut n at_ l
theorem allBut_behind (n : Nat) (at_ : Int) : ∀ l : List Int, at_ < (n : Int) - l.length → allBut n at_ l = l.all plainB
 | [], _ => rfl
 | a :: l, h => by
  rw [List.length_cons] at h; have ih := allBut_behind n at_ l Zq1; simp only [allBut, List.all_cons, ih]; rw [decide_eq_false Zq1, Bool.false_or]
theorem allBut_at (n : Nat) (at_ : Int) (c : Int) (r : List Int) : ∀ l : List Int, (n : Int) = at_ + 1 + r.length → allBut n at_ (l ++ c :: r) = (l.all plainB && r.all plainB) := by
 intro l h
 induction l with
 | nil =>
  simp only [List.nil_append, allBut, List.all_nil, Bool.true_and]; rw [decide_eq_true Zq1, Bool.true_or, Bool.true_and, allBut_behind n at_ r Zq1]
 | cons a l ih =>
  simp only [List.cons_append, allBut, List.all_cons, ih, Bool.and_assoc]; rw [decide_eq_false (by simp only [List.length_append, List.length_cons]; omega), Bool.false_or]
def endB (l : List Int) : Bool := decide (1 ≤ l.length) && decide (l.length ≤ 31) && firstB (l.getD 0 0)
theorem refnode_loop (s b : ByteArray) (at_ : Int) (hs : s.size ≤ 140737488351232) :
  Ev (fun k => arboretref01_Node.j0 k s at_ b) (allBut s.size at_ (bytesOf s) && endB (bytesOf b)) := by
 have hn : (bytesOf s).length = s.size := bytesOf_length s; refine Ev.succ ?_; simp only [arboretref01_Node.j0]; have main := loop (bytesOf s) (fun l => allBut s.size at_ l && endB (bytesOf b)) (fun k i => arboretref01_Node.l0 k s at_ b (s.size : Int) i) ?_ ?_ 0 (Nat.zero_le _); (·exact main)
 ·rw [hn]; refine Ev.succ ?_; simp only [arboretref01_Node.l0, allBut, Bool.true_and]; refine Ev.neg Zq1 ⟨0, fun k _ => ?_⟩; have hl : (bytesOf b).length = b.size := bytesOf_length _; unfold endB; rw [hl]
  by_cases h1 : (b.size : Int) ≥ 1
  ·rw [if_pos h1, decide_eq_true (by omega : 1 ≤ b.size)]
   by_cases h2 : (b.size : Int) ≤ 31
   ·have hp : 0 < (bytesOf b).length := by omega
    have e0 : bt b 0 = (bytesOf b).getD 0 0 := by
     rw [getD_at hp]; exact bytesOf_at b 0 hp
    rw [if_pos h2, if_pos Zq1, decide_eq_true (by omega : b.size ≤ 31), e0]; obtain ⟨b0, b1⟩ := bytesOf_range b _ (List.getElem_mem hp); rw [← getD_at (d := 0) hp] at b0 b1; generalize (bytesOf b).getD 0 0 = c at b0 b1
    revert c
    intro c b0 b1; exact byte_all (p := fun c => (if c = 95 then some true else if c ≥ 97 then if c ≤ 122 then some true else if c ≥ 65 then some (decide (c ≤ 90)) else some false else if c ≥ 65 then some (decide (c ≤ 90)) else some false) = some (true && true && firstB c)) (by decide +kernel) b0 b1
   ·rw [if_neg h2, decide_eq_false (by omega : ¬ b.size ≤ 31)]; rfl
  ·rw [if_neg h1, decide_eq_false (by omega : ¬ 1 ≤ b.size)]; rfl
 ·intro i h ih
  have hw : wrap64 ((i : Int) + 1) = ((i + 1 : Nat) : Int) := by rw [w64 Zq1 Zq1]; omega
  have hl : ((bytesOf s).drop (i + 1)).length = s.size - (i + 1) := by rw [List.length_drop, hn]
  refine Ev.succ ?_; simp only [arboretref01_Node.l0, allBut, hl, hw]; refine Ev.pos Zq1 ?_
  by_cases ha : (i : Int) = at_
  ·rw [decide_eq_true Zq1, Bool.true_or, Bool.true_and]; exact Ev.pos ha ih
  ·rw [decide_eq_false Zq1, Bool.false_or]; obtain ⟨b0, b1⟩ := bytesOf_range s _ (List.getElem_mem h); simp only [bytesOf_at s i h, stands_f b0 b1, Option.bind_some]; refine Ev.neg ha (Ev.pos (Int.natCast_nonneg i) (Ev.pos Zq1 ?_))
   cases plainB (bytesOf s)[i] with
   | true => exact Ev.pos rfl (by rw [Bool.true_and]; exact ih)
   | false => exact Ev.neg Zq6 (Ev.some _)
theorem refnode_ev (s : ByteArray) (hs : s.size ≤ 140737488351232) : Ev (fun k => arboretref01_Node.f k s) (nodeB s) := by
 have hn : (bytesOf s).length = s.size := bytesOf_length s; have hr := idx_range 64 (bytesOf s); unfold arboretref01_Node.f
 refine Ev.then (refcut_ev s hs) ?_
 by_cases h : idx 64 (bytesOf s) = -1
 ·have e : nodeB s = (allBut s.size (-1) (bytesOf s) && endB (bytesOf s)) := by
   unfold nodeB baseB cutB unitB endB; rw [if_pos h, allBut_behind _ _ _ Zq1]; simp only [Bool.not_false, Bool.true_or, Bool.and_true, Bool.and_assoc]
  rw [e, h]; exact Ev.neg Zq6 (refnode_loop s s (-1) hs)
 ·obtain ⟨j, hj⟩ : ∃ j : Nat, idx 64 (bytesOf s) = (j : Int) := ⟨(idx 64 (bytesOf s)).toNat, Zq1⟩
  have hsp := idx_split 64 (bytesOf s) j hj
  have e1 : bytesOf (cutB s).1 = (bytesOf s).take j := by
   unfold cutB; rw [if_neg h, hj, Int.toNat_natCast]; exact bytesOf_upto s j
  have e2 : bytesOf (cutB s).2.1 = (bytesOf s).drop (j + 1) := by
   unfold cutB; rw [if_neg h, hj, Int.toNat_natCast]; exact bytesOf_from s (j + 1)
  have e3 : (cutB s).2.2 = true := by
   unfold cutB; rw [if_neg h]
  have hdl : ((bytesOf s).drop (j + 1)).length = s.size - (j + 1) := by rw [List.length_drop, hn]
  have eall : allBut s.size (j : Int) (bytesOf s) = (((bytesOf s).take j).all plainB && ((bytesOf s).drop (j + 1)).all plainB) := by
   have := allBut_at s.size (j : Int) 64 ((bytesOf s).drop (j + 1)) ((bytesOf s).take j) (by rw [hdl]; omega); rw [← hsp] at this; exact this
  have e : nodeB s = (decide (1 ≤ s.size - (j + 1)) && decide (s.size - (j + 1) ≤ 31) && (allBut s.size (j : Int) (bytesOf s) && endB (bytesOf (s.extract 0 j)))) := by
   rw [eall, bytesOf_upto]; unfold nodeB baseB unitB endB; rw [e1, e2, e3, hdl]; simp only [Bool.not_true, Bool.false_or]; generalize (List.all (List.take j (bytesOf s)) plainB) = a; generalize (List.all (List.drop (j + 1) (bytesOf s)) plainB) = b; generalize decide (1 ≤ s.size - (j + 1)) = c; generalize decide (s.size - (j + 1) ≤ 31) = d; generalize decide (1 ≤ (List.take j (bytesOf s)).length) = e; generalize decide ((List.take j (bytesOf s)).length ≤ 31) = f; generalize firstB ((List.take j (bytesOf s)).getD 0 0) = g; cases a <;> cases b <;> cases c <;> cases d <;> cases e <;> cases f <;> cases g <;> rfl
  have hw : wrap64 (wrap64 ((s.size : Int) - (j : Int)) - 1) = ((s.size - (j + 1) : Nat) : Int) := by
   rw [w64 (x := (s.size : Int) - (j : Int)) Zq1 Zq1, w64 Zq1 Zq1]; omega
  rw [hj, e, hw, Int.toNat_natCast]; refine Ev.pos (Int.natCast_nonneg j) (Ev.pos (Int.natCast_nonneg j) (Ev.pos Zq1 ?_))
  by_cases h1 : ((s.size - (j + 1) : Nat) : Int) < 1
  ·rw [decide_eq_false (by omega : ¬ 1 ≤ s.size - (j + 1))]; exact Ev.pos h1 (Ev.some _)
  ·rw [decide_eq_true (by omega : 1 ≤ s.size - (j + 1))]; refine Ev.neg h1 ?_
   by_cases h2 : ((s.size - (j + 1) : Nat) : Int) > 31
   ·rw [decide_eq_false (by omega : ¬ s.size - (j + 1) ≤ 31)]; exact Ev.pos h2 (Ev.some _)
   ·rw [decide_eq_true (by omega : s.size - (j + 1) ≤ 31)]; exact Ev.neg h2 (refnode_loop s (s.extract 0 j) (j : Int) hs)
def propB (l : List Int) : Bool := l.all (fun c => plainB c || c == 63 || c == 35) && (decide (1 ≤ l.length) && decide (l.length ≤ 31))
theorem refprop_ev (s : ByteArray) (hs : s.size ≤ 140737488351232) : Ev (fun k => arboretref01_Prop.f k s) (propB (bytesOf s)) := by
 have hn : (bytesOf s).length = s.size := bytesOf_length s; have main := loop (bytesOf s) (fun l => l.all (fun c => plainB c || c == 63 || c == 35) && (decide (1 ≤ s.size) && decide (s.size ≤ 31))) (fun k i => arboretref01_Prop.l0 k s (s.size : Int) i) ?_ ?_ 0 (Nat.zero_le _); (·unfold propB; rw [hn]; exact main)
 ·rw [hn]; refine Ev.succ ?_; simp only [arboretref01_Prop.l0]; refine Ev.neg Zq1 (Ev.fix ?_)
  by_cases h : (s.size : Int) ≥ 1
  ·rw [if_pos h, decide_eq_true (by omega : 1 ≤ s.size)]; have : decide ((s.size : Int) ≤ 31) = decide (s.size ≤ 31) := decide_eq_decide.mpr Zq1; rw [this]; rfl
  ·rw [if_neg h, decide_eq_false (by omega : ¬ 1 ≤ s.size)]; rfl
 ·intro i h ih
  have hw : wrap64 ((i : Int) + 1) = ((i + 1 : Nat) : Int) := by rw [w64 Zq1 Zq1]; omega
  obtain ⟨b0, b1⟩ := bytesOf_range s _ (List.getElem_mem h); refine Ev.succ ?_; simp only [arboretref01_Prop.l0, bytesOf_at s i h, stands_f b0 b1, hw, Option.bind_some, List.all_cons]; refine Ev.pos Zq1 (Ev.pos (Int.natCast_nonneg i) (Ev.pos Zq1 ?_))
  cases plainB (bytesOf s)[i] with
  | true =>
   simp only [Bool.true_or, Bool.true_and, if_true]; exact ih
  | false =>
   refine Ev.neg Zq6 ?_
   by_cases h63 : (bytesOf s)[i] = 63
   ·rw [h63]; exact Ev.pos rfl ih
   ·by_cases h35 : (bytesOf s)[i] = 35
    ·rw [h35]; exact Ev.neg Zq6 (Ev.pos rfl ih)
    ·have e1 : ((bytesOf s)[i] == 63) = false := by simpa using h63
     have e2 : ((bytesOf s)[i] == 35) = false := by simpa using h35
     rw [e1, e2]; exact Ev.neg h63 (Ev.neg h35 (Ev.some _))
end Go.Proofs.Yteejaaeglfpcmab.PX

namespace Go.Proofs.Yteejaaeglfpcmab.PX
open Go.RowKit Go.Proofs.Yteejaaeglfpcmab.Rdr Go.Proofs.Yteejaaeglfpcmab.Aid Go.Proofs.YteejaaeglfpcmabW.PrintWords
theorem count_ends (m : Nat) (hm : m ≤ 1048576) : ∀ x : S30, bulk30 x ≤ m → ∃ v : Int × Int, Ev (fun k => arboretref01_Count.f k x.f0 x.f1 x.f2) v := by
 induction m with
 | zero => intro x hx; have := bulk_pos x; omega
 | succ m ih =>
  intro x hx; have hk := bulk_kids x
  have kids : ∀ (j i : Nat) (a b : Int), i + j = x.f2.length → ∃ v : Int × Int, Ev (fun k => arboretref01_Count.l0 k a b (x.f2.length : Int) (i : Int) x.f0 x.f1 x.f2) v := by
   intro j
   induction j with
   | zero =>
    intro i a b hi; refine ⟨(a, b), Ev.succ ?_⟩; simp only [arboretref01_Count.l0]; exact Ev.neg Zq1 (Ev.some _)
   | succ j ihj =>
    intro i a b hi; have hw := step64 (i := i) (n := x.f2.length) Zq1 Zq1; have hmem := getN (xs := x.f2) (i := i) Zq1; obtain ⟨v, hv⟩ := ih Zq1 (x.f2.getD i z30) (by have := bulk_kid hmem; omega); obtain ⟨r, hr⟩ := ihj (i + 1) (wrap64 (a + v.1)) (wrap64 (b + v.2)) Zq1; refine ⟨r, Ev.succ ?_⟩; simp only [arboretref01_Count.l0, rdN, hw]; exact Ev.pos Zq1 (Ev.pos (Int.natCast_nonneg i) (Ev.pos Zq1 (Ev.then hv hr)))
  obtain ⟨v, hv⟩ := kids x.f2.length 0 1 (x.f1.length : Int) Zq1; refine ⟨v, Ev.succ ?_⟩; simp only [arboretref01_Count.f]; exact hv
theorem wrong_ends (m : Nat) (hm : m ≤ 1048576) : ∀ (x : S30) (d : Nat), bulk30 x ≤ m → ∃ v : Int, Ev (fun k => arboretref01_wrong.f k x.f0 x.f1 x.f2 (d : Int)) v ∧ (v = 0 → ∀ (l : List Int) (n : S30), getS x l = some n → d + l.length ≤ 16) := by
 induction m with
 | zero => intro x d hx; have := bulk_pos x; omega
 | succ m ih =>
  intro x d hx; have hk := bulk_kids x; have hp := bulk_props x; have hnm := bulk_name x
  by_cases hd : (d : Int) > 16
  ·refine ⟨6, Ev.succ ?_, fun h => absurd h Zq6⟩; simp only [arboretref01_wrong.f]; exact Ev.pos hd (Ev.some _)
  have hd1 : wrap64 ((d : Int) + 1) = ((d + 1 : Nat) : Int) := by rw [w64 Zq1 Zq1]; omega
  have l5 : ∀ (j i : Nat), i + j = x.f2.length → ∃ v : Int, Ev (fun k => arboretref01_wrong.l5 k (d : Int) (x.f2.length : Int) (i : Int) x.f0 x.f1 x.f2) v ∧ (v = 0 → ∀ q : Nat, i ≤ q → q < x.f2.length → ∀ (l : List Int) (n : S30), getS (x.f2.getD q z30) l = some n → d + 1 + l.length ≤ 16) := by
   intro j
   induction j with
   | zero =>
    intro i hi; refine ⟨0, Ev.succ ?_, fun _ q h1 h2 => by omega⟩; simp only [arboretref01_wrong.l5]; exact Ev.neg Zq1 (Ev.some _)
   | succ j ihj =>
    intro i hi; have hw := step64 (i := i) (n := x.f2.length) Zq1 Zq1; have hmem := getN (xs := x.f2) (i := i) Zq1; obtain ⟨v, hv, hg⟩ := ih Zq1 (x.f2.getD i z30) (d + 1) (by have := bulk_kid hmem; omega); obtain ⟨r, hr, hq⟩ := ihj (i + 1) Zq1
    by_cases h0 : v = 0
    ·refine ⟨r, Ev.succ ?_, fun e q h1 h2 => ?_⟩; (·simp only [arboretref01_wrong.l5, rdN, hw, hd1]; exact Ev.pos Zq1 (Ev.pos (Int.natCast_nonneg i) (Ev.pos Zq1 (Ev.then hv (Ev.pos h0 hr)))))
     ·rcases Nat.lt_or_ge i q with h3 | h3
      ·exact hq e q h3 h2
      ·obtain rfl : q = i := by omega
       exact hg h0
    ·refine ⟨v, Ev.succ ?_, fun e => absurd e h0⟩; simp only [arboretref01_wrong.l5, rdN, hw, hd1]; exact Ev.pos Zq1 (Ev.pos (Int.natCast_nonneg i) (Ev.pos Zq1 (Ev.then hv (Ev.neg h0 (Ev.some _)))))
  obtain ⟨v5, e5, g5⟩ := l5 x.f2.length 0 Zq1
  have G : v5 = 0 → ∀ (l : List Int) (n : S30), getS x l = some n → d + l.length ≤ 16 := by
   intro h l n hl
   cases l with
   | nil => simp only [List.length_nil]; omega
   | cons q r =>
    simp only [getS] at hl
    by_cases c : 0 ≤ q ∧ q < (x.f2.length : Int)
    ·rw [if_pos c] at hl; have := g5 h q.toNat (Nat.zero_le _) Zq1 r n hl; simp only [List.length_cons]; omega
    ·rw [if_neg c] at hl; cases hl
  have l34 : ∀ (j i : Nat), i + j = x.f2.length → ∃ v : Int, Ev (fun k => arboretref01_wrong.l3 k (d : Int) (x.f2.length : Int) (i : Int) x.f0 x.f1 x.f2) v ∧ (v = 0 → v5 = 0) := by
   intro j
   induction j with
   | zero =>
    intro i hi; refine ⟨v5, Ev.succ ?_, fun h => h⟩; simp only [arboretref01_wrong.l3]; exact Ev.neg Zq1 e5
   | succ j ihj =>
    intro i hi; obtain ⟨r, hr, hq⟩ := ihj (i + 1) Zq1; have hw := step64 (i := i) (n := x.f2.length) Zq1 Zq1
    have inner : ∀ (p q : Nat), q + p = i → ∃ v : Int, Ev (fun k => arboretref01_wrong.l4 k (d : Int) (i : Int) (x.f2.length : Int) (i : Int) (i : Int) (q : Int) x.f0 x.f1 x.f2) v ∧ (v = 0 → v5 = 0) := by
     intro p
     induction p with
     | zero =>
      intro q hq0; refine ⟨r, Ev.succ ?_, hq⟩; simp only [arboretref01_wrong.l4, hw]; exact Ev.neg Zq1 hr
     | succ p ihp =>
      intro q hq0; have hw2 := step64 (i := q) (n := x.f2.length) Zq1 Zq1; obtain ⟨u, hu, hu0⟩ := ihp (q + 1) Zq1
      by_cases c : (x.f2.getD q z30).f0.toList = (x.f2.getD i z30).f0.toList
      ·refine ⟨9, Ev.succ ?_, fun h => absurd h Zq6⟩; simp only [arboretref01_wrong.l4, rdN]; exact Ev.pos Zq1 (Ev.pos (Int.natCast_nonneg q) (Ev.pos Zq1 (Ev.pos (Int.natCast_nonneg i) (Ev.pos Zq1 (Ev.pos c (Ev.some _))))))
      ·refine ⟨u, Ev.succ ?_, hu0⟩; simp only [arboretref01_wrong.l4, rdN, hw2]; exact Ev.pos Zq1 (Ev.pos (Int.natCast_nonneg q) (Ev.pos Zq1 (Ev.pos (Int.natCast_nonneg i) (Ev.pos Zq1 (Ev.neg c hu)))))
    obtain ⟨u, hu, hu0⟩ := inner i 0 Zq1; refine ⟨u, Ev.succ ?_, hu0⟩; simp only [arboretref01_wrong.l3]; exact Ev.pos Zq1 hu
  obtain ⟨v3, e3, g3⟩ := l34 x.f2.length 0 Zq1
  have l12 : ∀ (j i : Nat), i + j = x.f1.length → ∃ v : Int, Ev (fun k => arboretref01_wrong.l1 k (d : Int) (x.f1.length : Int) (i : Int) x.f0 x.f1 x.f2) v ∧ (v = 0 → v5 = 0) := by
   intro j
   induction j with
   | zero =>
    intro i hi; refine ⟨v3, Ev.succ ?_, g3⟩; simp only [arboretref01_wrong.l1]; exact Ev.neg Zq1 e3
   | succ j ihj =>
    intro i hi; obtain ⟨r, hr, hq⟩ := ihj (i + 1) Zq1; have hw := step64 (i := i) (n := x.f1.length) Zq1 Zq1
    have inner : ∀ (p q : Nat), q + p = i → ∃ v : Int, Ev (fun k => arboretref01_wrong.l2 k (d : Int) (i : Int) (x.f1.length : Int) (i : Int) (i : Int) (q : Int) x.f0 x.f1 x.f2) v ∧ (v = 0 → v5 = 0) := by
     intro p
     induction p with
     | zero =>
      intro q hq0; refine ⟨r, Ev.succ ?_, hq⟩; simp only [arboretref01_wrong.l2, hw]; exact Ev.neg Zq1 hr
     | succ p ihp =>
      intro q hq0; have hw2 := step64 (i := q) (n := x.f1.length) Zq1 Zq1; obtain ⟨u, hu, hu0⟩ := ihp (q + 1) Zq1
      by_cases c : (x.f1.getD q z77).f0.toList = (x.f1.getD i z77).f0.toList
      ·refine ⟨9, Ev.succ ?_, fun h => absurd h Zq6⟩; simp only [arboretref01_wrong.l2, rdP]; exact Ev.pos Zq1 (Ev.pos (Int.natCast_nonneg q) (Ev.pos Zq1 (Ev.pos (Int.natCast_nonneg i) (Ev.pos Zq1 (Ev.pos c (Ev.some _))))))
      ·refine ⟨u, Ev.succ ?_, hu0⟩; simp only [arboretref01_wrong.l2, rdP, hw2]; exact Ev.pos Zq1 (Ev.pos (Int.natCast_nonneg q) (Ev.pos Zq1 (Ev.pos (Int.natCast_nonneg i) (Ev.pos Zq1 (Ev.neg c hu)))))
    obtain ⟨u, hu, hu0⟩ := inner i 0 Zq1; refine ⟨u, Ev.succ ?_, hu0⟩; simp only [arboretref01_wrong.l1]; exact Ev.pos Zq1 hu
  obtain ⟨v1, e1, g1⟩ := l12 x.f1.length 0 Zq1
  have l0 : ∀ (j i : Nat), i + j = x.f1.length → ∃ v : Int, Ev (fun k => arboretref01_wrong.l0 k (d : Int) (x.f1.length : Int) (i : Int) x.f0 x.f1 x.f2) v ∧ (v = 0 → v5 = 0) := by
   intro j
   induction j with
   | zero =>
    intro i hi; refine ⟨v1, Ev.succ ?_, g1⟩; simp only [arboretref01_wrong.l0]; exact Ev.neg Zq1 e1
   | succ j ihj =>
    intro i hi; obtain ⟨r, hr, hq⟩ := ihj (i + 1) Zq1; have hw := step64 (i := i) (n := x.f1.length) Zq1 Zq1; have hmem := getP (xs := x.f1) (i := i) Zq1; have hb := bulk_prop hmem; have hv := bulk_value (x.f1.getD i z77); have hn := refprop_ev (x.f1.getD i z77).f0 Zq1
    cases hc : propB (bytesOf (x.f1.getD i z77).f0) with
    | true =>
     rw [hc] at hn; refine ⟨r, Ev.succ ?_, hq⟩; simp only [arboretref01_wrong.l0, rdP, hw]; exact Ev.pos Zq1 (Ev.pos (Int.natCast_nonneg i) (Ev.pos Zq1 (Ev.then hn (Ev.pos rfl hr))))
    | false =>
     rw [hc] at hn; refine ⟨5, Ev.succ ?_, fun h => absurd h Zq6⟩; simp only [arboretref01_wrong.l0, rdP, hw]; exact Ev.pos Zq1 (Ev.pos (Int.natCast_nonneg i) (Ev.pos Zq1 (Ev.then hn (Ev.neg Zq6 (Ev.some _)))))
  obtain ⟨v0, e0, g0⟩ := l0 x.f1.length 0 Zq1
  have j0 : ∀ b : Bool, ∃ v : Int, Ev (fun k => arboretref01_wrong.j0 k (d : Int) b x.f0 x.f1 x.f2) v ∧ (v = 0 → v5 = 0) := by
   intro b
   cases b with
   | true =>
    refine ⟨5, Ev.succ ?_, fun h => absurd h Zq6⟩; simp only [arboretref01_wrong.j0]; exact Ev.pos trivial (Ev.some _)
   | false =>
    refine ⟨v0, Ev.succ ?_, g0⟩; simp only [arboretref01_wrong.j0]; exact Ev.neg (fun h => Bool.noConfusion h) e0
  have hn := refnode_ev x.f0 Zq1
  by_cases h1 : (d : Int) = 1
  ·by_cases hz : x.f0.toList = ([] : List UInt8)
   ·by_cases h2 : (d : Int) > 1
    ·omega
    ·obtain ⟨v, hv, hg⟩ := j0 false; refine ⟨v, Ev.succ ?_, fun h => G (hg h)⟩; simp only [arboretref01_wrong.f]; exact Ev.neg hd (Ev.pos h1 (Ev.pos hz (Ev.neg h2 hv)))
   ·obtain ⟨v, hv, hg⟩ := j0 true; refine ⟨v, Ev.succ ?_, fun h => G (hg h)⟩; simp only [arboretref01_wrong.f]; exact Ev.neg hd (Ev.pos h1 (Ev.neg hz hv))
  ·by_cases h2 : (d : Int) > 1
   ·obtain ⟨v, hv, hg⟩ := j0 (!nodeB x.f0); refine ⟨v, Ev.succ ?_, fun h => G (hg h)⟩; simp only [arboretref01_wrong.f]; exact Ev.neg hd (Ev.neg h1 (Ev.pos h2 (Ev.then hn hv)))
   ·obtain ⟨v, hv, hg⟩ := j0 false; refine ⟨v, Ev.succ ?_, fun h => G (hg h)⟩; simp only [arboretref01_wrong.f]; exact Ev.neg hd (Ev.neg h1 (Ev.neg h2 hv))
theorem check_ends (b : Int) (res : List S94) (x : S30) (hx : bulk30 x ≤ 1048576) (hr : res.length ≤ 1048576) :
  ∃ v : Int, Ev (fun k => arboretref01_Check.f k b res x.f0 x.f1 x.f2) v ∧ (v = 0 → ∀ (l : List Int) (n : S30), getS x l = some n → l.length ≤ 15) := by
 obtain ⟨v, hv, hg⟩ := wrong_ends 1048576 Zq1 x 1 hx; obtain ⟨c, hc⟩ := count_ends 1048576 Zq1 x hx
 have l0 : ∀ (j i : Nat), i + j = res.length → ∃ v : Int, Ev (fun k => arboretref01_Check.l0 k (res.length : Int) (i : Int) b res x.f0 x.f1 x.f2) v := by
  intro j
  induction j with
  | zero =>
   intro i hi; refine ⟨0, Ev.succ ?_⟩; simp only [arboretref01_Check.l0]; exact Ev.neg Zq1 (Ev.some _)
  | succ j ihj =>
   intro i hi; have hw := step64 (i := i) (n := res.length) Zq1 hr; obtain ⟨r, hq⟩ := ihj (i + 1) Zq1
   by_cases h0 : (rd_T94 res (i : Int)).f0 = 0
   ·by_cases h1 : (rd_T94 res (i : Int)).f1 = 0
    ·refine ⟨7, Ev.succ ?_⟩; simp only [arboretref01_Check.l0, hw]; exact Ev.pos Zq1 (Ev.pos (Int.natCast_nonneg i) (Ev.pos Zq1 (Ev.pos h0 (Ev.pos h1 (Ev.some _)))))
    ·refine ⟨r, Ev.succ ?_⟩; simp only [arboretref01_Check.l0, hw]; exact Ev.pos Zq1 (Ev.pos (Int.natCast_nonneg i) (Ev.pos Zq1 (Ev.pos h0 (Ev.neg h1 hq))))
   ·refine ⟨r, Ev.succ ?_⟩; simp only [arboretref01_Check.l0, hw]; exact Ev.pos Zq1 (Ev.pos (Int.natCast_nonneg i) (Ev.pos Zq1 (Ev.neg h0 hq)))
 obtain ⟨w, hw⟩ := l0 res.length 0 Zq1
 have j0 : ∀ y : Bool, ∃ v : Int, Ev (fun k => arboretref01_Check.j0 k y b res x.f0 x.f1 x.f2) v := by
  intro y
  cases y with
  | true =>
   refine ⟨7, Ev.succ ?_⟩; simp only [arboretref01_Check.j0]; exact Ev.pos trivial (Ev.some _)
  | false =>
   refine ⟨w, Ev.succ ?_⟩; simp only [arboretref01_Check.j0]; exact Ev.neg (fun h => Bool.noConfusion h) hw
 by_cases h0 : v = 0
 ·have G : ∀ (l : List Int) (n : S30), getS x l = some n → l.length ≤ 15 := fun l n h => by
   have := hg h0 l n h; omega
  by_cases h1 : c.1 > 4096
  ·obtain ⟨r, hr⟩ := j0 true; refine ⟨r, ?_, fun _ => G⟩; unfold arboretref01_Check.f
   exact Ev.then hv (Ev.pos h0 (Ev.then hc (Ev.pos h1 hr)))
  by_cases h2 : c.2 > 8192
  ·obtain ⟨r, hr⟩ := j0 true; refine ⟨r, ?_, fun _ => G⟩; unfold arboretref01_Check.f
   exact Ev.then hv (Ev.pos h0 (Ev.then hc (Ev.neg h1 (Ev.pos h2 hr))))
  ·obtain ⟨r, hr⟩ := j0 (decide ((res.length : Int) > 64)); refine ⟨r, ?_, fun _ => G⟩; unfold arboretref01_Check.f
   exact Ev.then hv (Ev.pos h0 (Ev.then hc (Ev.neg h1 (Ev.neg h2 hr))))
 ·refine ⟨v, ?_, fun h => absurd h h0⟩; unfold arboretref01_Check.f
  exact Ev.then hv (Ev.neg h0 (Ev.some _))
def ins (q : Int × Int × Int) (at_ size : Int) : Prop := 0 < size ∧ 0 < q.2.2 ∧ q.2.2 - 1 ≤ 18446744073709551615 - q.1 ∧ size - 1 ≤ 18446744073709551615 - at_ ∧ q.1 ≤ at_ ∧ at_ + size ≤ q.1 + q.2.2
instance (q : Int × Int × Int) (at_ size : Int) : Decidable (ins q at_ size) := by unfold ins; infer_instance
def over (q : Int × Int × Int) (at_ size : Int) : Prop := at_ - q.1 > 18446744073709551615 - q.2.1 ∨ size - 1 > 18446744073709551615 - (q.2.1 + (at_ - q.1))
instance (q : Int × Int × Int) (at_ size : Int) : Decidable (over q at_ size) := by unfold over; infer_instance
def firstS (at_ size : Int) : List (Int × Int × Int) → Int × Int
 | [] => (0, 12)
 | q :: r => if ins q at_ size then (if over q at_ size then (0, 12) else (q.2.1 + (at_ - q.1), 0)) else firstS at_ size r
def stepS (par x : S30) (at_ size : Int) : Int × Int := if (rngSpec par x).2.2 = true then firstS at_ size (rngSpec par x).1 else (0, 10)
def allAddr (l : List (Int × Int × Int)) : Prop := ∀ q ∈ l, isAddr q.1 ∧ isAddr q.2.1 ∧ isAddr q.2.2
theorem inside1_q (q : Int × Int × Int) (a s : Int) (hq : isAddr q.1 ∧ isAddr q.2.1 ∧ isAddr q.2.2) (ha : isAddr a) (hs : isAddr s) : region_Inside.f (rng1 q).f0 (rng1 q).f2 a s = some (decide (ins q a s)) := by
 have h := inside_1 q.1 q.2.2 a s hq.1 hq.2.2 ha hs; exact h
theorem inside2_q (q : Int × Int × Int) (a s : Int) (hq : isAddr q.1 ∧ isAddr q.2.1 ∧ isAddr q.2.2) (ha : isAddr a) (hs : isAddr s) : arboretref12_Inside.f (rng2 q).f0 (rng2 q).f2 a s = some (decide (ins q a s)) := by
 have h := inside_2 q.1 q.2.2 a s hq.1 hq.2.2 ha hs; exact h
theorem firstS_fact (a s : Int) (ha : isAddr a) (hs : isAddr s) : ∀ l : List (Int × Int × Int), allAddr l → (firstS a s l).2 = 12 ∧ (firstS a s l).1 = 0 ∨ (firstS a s l).2 = 0 ∧ isAddr (firstS a s l).1 ∧ (firstS a s l).1 + (s - 1) ≤ 18446744073709551615 ∧ a + (s - 1) ≤ 18446744073709551615 ∧ ∃ q ∈ l, ins q a s
 | [], _ => .inl ⟨rfl, rfl⟩
 | q :: r, h => by
  have hq := h q List.mem_cons_self
  by_cases hi : ins q a s
  ·by_cases ho : over q a s
   ·have e : firstS a s (q :: r) = (0, 12) := by simp only [firstS, if_pos hi, if_pos ho]
    rw [e]; exact .inl ⟨rfl, rfl⟩
   ·have e : firstS a s (q :: r) = (q.2.1 + (a - q.1), 0) := by simp only [firstS, if_pos hi, if_neg ho]
    rw [e]; unfold over at ho; have hi' := hi; unfold ins at hi'; unfold isAddr at hq ⊢; refine .inr ⟨rfl, by simp only; omega, by simp only; omega, Zq1, q, List.mem_cons_self, hi⟩
  ·have e : firstS a s (q :: r) = firstS a s r := by simp only [firstS, if_neg hi]
   rw [e]
   rcases firstS_fact a s ha hs r (fun x hx => h x (List.mem_cons_of_mem _ hx)) with h1 | ⟨h1, h2, h3, h4, x, h5, h6⟩
   ·exact .inl h1
   ·exact .inr ⟨h1, h2, h3, h4, x, List.mem_cons_of_mem _ h5, h6⟩
theorem step_list (L : List (Int × Int × Int)) (hL : L.length ≤ 1048576) (hA : allAddr L) (a s : Int) (ha : isAddr a) (hs : isAddr s) :
  Ev (fun k => xlate_step.l0 k a s (L.map rng1) (L.length : Int) 0) (firstS a s L) := by
 have main := loop L (firstS a s) (fun k i => xlate_step.l0 k a s (L.map rng1) (L.length : Int) i) ?_ ?_ 0 (Nat.zero_le _); (·exact main); (·refine Ev.succ ?_; simp only [xlate_step.l0, firstS]; exact Ev.neg Zq1 (Ev.some _))
 ·intro i h ih; have hw := step64 (i := i) (n := L.length) h hL; have hq := hA _ (List.getElem_mem h)
  have e1 : rd_T46 (L.map rng1) (i : Int) = rng1 L[i] := by
   unfold rd_T46; rw [Int.toNat_natCast, getD_at (by rw [List.length_map]; exact h), List.getElem_map]
  generalize L[i] = q at hq e1; refine Ev.succ ?_; simp only [xlate_step.l0, hw, e1, inside1_q q a s hq ha hs, Option.bind_some, decide_eq_true_eq, firstS, List.length_map]; refine Ev.pos Zq1 (Ev.pos (Int.natCast_nonneg i) (Ev.pos Zq1 ?_))
  by_cases hi : ins q a s
  ·rw [if_pos hi]; refine Ev.pos hi ?_; clear ih e1 hw; unfold ins at hi; unfold isAddr at hq ha hs; have w1 : IntKind.u64.wrap (a - (rng1 q).f0) = a - q.1 := wu64 (by show 0 ≤ a - q.1; omega) (by show a - q.1 < 18446744073709551616; omega); have w2 : IntKind.u64.wrap (18446744073709551615 - (rng1 q).f1) = 18446744073709551615 - q.2.1 := wu64 (by show 0 ≤ 18446744073709551615 - q.2.1; omega) (by show 18446744073709551615 - q.2.1 < 18446744073709551616; omega); have w3 : IntKind.u64.wrap (s - 1) = s - 1 := wu64 Zq1 Zq1; rw [w1, w2, w3]
   by_cases h1 : a - q.1 > 18446744073709551615 - q.2.1
   ·rw [if_pos (show over q a s from Or.inl h1)]; exact Ev.pos h1 (Ev.some _)
   ·have w4 : IntKind.u64.wrap ((rng1 q).f1 + (a - q.1)) = q.2.1 + (a - q.1) := wu64 (by show 0 ≤ q.2.1 + (a - q.1); omega) (by show q.2.1 + (a - q.1) < 18446744073709551616; omega); have w5 : IntKind.u64.wrap (18446744073709551615 - (q.2.1 + (a - q.1))) = 18446744073709551615 - (q.2.1 + (a - q.1)) := wu64 Zq1 Zq1; rw [w4, w5]; refine Ev.neg h1 ?_
    by_cases h2 : s - 1 > 18446744073709551615 - (q.2.1 + (a - q.1))
    ·rw [if_pos (show over q a s from Or.inr h2)]; exact Ev.pos h2 (Ev.some _)
    ·rw [if_neg (show ¬ over q a s from fun h => h.elim h1 h2)]; exact Ev.neg h2 (Ev.some _)
  ·rw [if_neg hi]; exact Ev.neg hi ih
theorem step_ev (par x : S30) (a s : Int) (hp : bulk30 par ≤ 1048576) (hx : bulk30 x ≤ 1048576) (gp : good30 par) (gx : good30 x) (ha : isAddr a) (hs : isAddr s) :
  Ev (fun k => xlate_step.f k par.f0 par.f1 par.f2 x.f0 x.f1 x.f2 a s) (stepS par x a s) := by
 unfold xlate_step.f stepS
 refine Ev.then (ranges_ev par x hp hx gp gx) ?_
 cases hk : (rngSpec par x).2.2 with
 | true =>
  rw [if_pos rfl]; refine Ev.pos rfl ?_; have := step_list (rngSpec par x).1 (rngSpec_len par x hx) (rngSpec_addr par x gp gx) a s ha hs
  simpa only [List.length_map] using this
 | false =>
  rw [if_neg Zq6]; exact Ev.neg (by show ¬ rngE false = 0; decide) (Ev.some _)
theorem stepS_fact (par x : S30) (gp : good30 par) (gx : good30 x) (a s : Int) (ha : isAddr a) (hs : isAddr s) :
  ((stepS par x a s).2 = 12 ∨ (stepS par x a s).2 = 10) ∧ (stepS par x a s).1 = 0 ∨ (stepS par x a s).2 = 0 ∧ isAddr (stepS par x a s).1 ∧ (stepS par x a s).1 + (s - 1) ≤ 18446744073709551615 ∧ a + (s - 1) ≤ 18446744073709551615 := by
 unfold stepS
 by_cases hk : (rngSpec par x).2.2 = true
 ·rw [if_pos hk]
  rcases firstS_fact a s ha hs (rngSpec par x).1 (rngSpec_addr par x gp gx) with ⟨h1, h2⟩ | ⟨h1, h2, h3, h4, _⟩
  ·exact .inl ⟨.inl h1, h2⟩
  ·exact .inr ⟨h1, h2, h3, h4⟩
 ·rw [if_neg hk]; exact .inl ⟨.inr rfl, rfl⟩
def upS (x : S30) (place : List Int) (s : Int) : Nat → Int → Int × Int
 | 0, a => (a, 0)
 | k + 1, a => match getS x (place.take k), getS x (place.take (k + 1)) with
  | some par, some n => if (stepS par n a s).2 = 0 then upS x place s k (stepS par n a s).1 else (0, (stepS par n a s).2)
  | _, _ => (0, 12)
theorem upS_fact (x : S30) (gx : good30 x) (place : List Int) (s : Int) (hs : isAddr s) : ∀ (k : Nat) (a : Int), isAddr a → ((upS x place s k a).2 = 12 ∨ (upS x place s k a).2 = 10) ∧ (upS x place s k a).1 = 0 ∨ (upS x place s k a).2 = 0 ∧ isAddr (upS x place s k a).1 ∧ (0 < k → (upS x place s k a).1 + (s - 1) ≤ 18446744073709551615 ∧ a + (s - 1) ≤ 18446744073709551615)
 | 0, a, ha => .inr ⟨rfl, ha, fun h => absurd h Zq1⟩
 | k + 1, a, ha => by
  unfold upS
  cases h1 : getS x (place.take k) with
  | none => exact .inl ⟨.inl rfl, rfl⟩
  | some par =>
   cases h2 : getS x (place.take (k + 1)) with
   | none => exact .inl ⟨.inl rfl, rfl⟩
   | some n =>
    have hf := stepS_fact par n (getS_good _ _ _ h1 gx) (getS_good _ _ _ h2 gx) a s ha hs; simp only
    by_cases h0 : (stepS par n a s).2 = 0
    ·rw [if_pos h0]
     rcases hf with ⟨h3, _⟩ | ⟨_, h4, h5, h6⟩
     ·omega
     ·rcases upS_fact x gx place s hs k (stepS par n a s).1 h4 with h7 | ⟨h7, h8, h9⟩
      ·exact .inl h7
      ·refine .inr ⟨h7, h8, fun _ => ⟨?_, h6⟩⟩
       cases k with
       | zero => exact h5
       | succ k => exact (h9 (by omega)).1
    ·rw [if_neg h0]
     rcases hf with ⟨h3, _⟩ | ⟨h4, _⟩
     ·exact .inl ⟨h3, rfl⟩
     ·exact absurd h4 h0
theorem up_loop (b : Int) (res : List S94) (x : S30) (hx : bulk30 x ≤ 1048576) (gx : good30 x) (place : List Int) (hl : place.length ≤ 16) (s : Int) (hs : isAddr s) : ∀ (j : Nat) (a : Int) (n : S30), j ≤ place.length → isAddr a → getS x (place.take j) = some n →
  Ev (fun k => xlate_Up.l0 k place a s (j : Int) b res x.f0 x.f1 x.f2 n.f0 n.f1 n.f2) (upS x place s j a)
 | 0, a, n, _, ha, hn => by
  refine Ev.succ ?_; simp only [xlate_Up.l0, upS]; exact Ev.neg Zq1 (Ev.some _)
 | j + 1, a, n, hj, ha, hn => by
  obtain ⟨par, hp⟩ : ∃ m, getS x (place.take j) = some m := by
   have := getS_take (place.take (j + 1)) x n j hn; rw [List.take_take, Nat.min_eq_left Zq1] at this; exact this
  have hw : wrap64 (((j + 1 : Nat) : Int) - 1) = (j : Int) := by rw [w64 Zq1 Zq1]; omega
  have hg := pget_ev b res x (place.take j) hx Zq75; rw [hp] at hg; have bp := getS_bulk _ _ _ hp; have bn := getS_bulk _ _ _ hn; have gp := getS_good _ _ _ hp gx; have gn := getS_good _ _ _ hn gx; have hst := step_ev par n a s Zq1 Zq1 gp gn ha hs; have hf := stepS_fact par n gp gn a s ha hs
  have e : upS x place s (j + 1) a = (if (stepS par n a s).2 = 0 then upS x place s j (stepS par n a s).1 else (0, (stepS par n a s).2)) := by
   rw [upS, hp, hn]
  rw [e]; refine Ev.succ ?_; simp only [xlate_Up.l0, hw, Int.toNat_natCast]; refine Ev.pos Zq1 (Ev.pos (Int.natCast_nonneg j) (Ev.pos Zq1 (Ev.then hg (Ev.then hst ?_))))
  by_cases h0 : (stepS par n a s).2 = 0
  ·rw [if_pos h0]
   rcases hf with ⟨h3, _⟩ | ⟨_, h4, _⟩
   ·omega
   ·exact Ev.pos h0 (up_loop b res x hx gx place hl s hs j _ par Zq1 h4 hp)
  ·rw [if_neg h0]; exact Ev.neg h0 (Ev.some _)
theorem up_ev (b : Int) (res : List S94) (x : S30) (hx : bulk30 x ≤ 1048576) (gx : good30 x) (place : List Int) (hl : place.length ≤ 16) (s a : Int) (hs : isAddr s) (ha : isAddr a) (n : S30) (hn : getS x place = some n) :
  Ev (fun k => xlate_Up.f k b res x.f0 x.f1 x.f2 place a s) (upS x place s place.length a) := by
 unfold xlate_Up.f; have hg := pget_ev b res x place hx hl; rw [hn] at hg
 refine Ev.then hg (Ev.pos rfl ?_)
 exact up_loop b res x hx gx place hl s hs place.length a n (Nat.le_refl _) ha (by rw [List.take_length]; exact hn)
def okR (r : Int × Int) : Int × Bool := if r.2 = 0 then (r.1, true) else (0, false)
section
variable (b : Int) (res : List S94) (x : S30) (place : List Int) (s : Int) (hs : isAddr s) (L : List (Int × Int × Int)) (hL : L.length ≤ 1048576) (hA : allAddr L) (j : Int) (R : Int → Int × Bool)
theorem refup_rest (hL : L.length ≤ 1048576) (a : Int) (hR : Ev (fun k => arboretref12_Up.l0 k place a s (wrap64 (j - 1)) b res x.f0 x.f1 x.f2) (R a)) : ∀ (d i : Nat), i + d = L.length →
  Ev (fun k => arboretref12_Up.l1 k place a s j (L.map rng2) true (L.length : Int) (i : Int) b res x.f0 x.f1 x.f2) (R a)
 | 0, i, hi => by
  refine Ev.succ ?_; simp only [arboretref12_Up.l1]; exact Ev.neg Zq1 (Ev.pos trivial hR)
 | d + 1, i, hi => by
  have hw := step64 (i := i) (n := L.length) Zq1 hL; refine Ev.succ ?_; simp only [arboretref12_Up.l1]; refine Ev.pos Zq1 (Ev.pos trivial (Ev.succ ?_)); simp only [arboretref12_Up.j2, hw]; exact Ev.neg (fun h => Bool.noConfusion h) (refup_rest hL a hR d (i + 1) Zq1)
theorem refup_list (hs : isAddr s) (hL : L.length ≤ 1048576) (hA : allAddr L) (a : Int) (ha : isAddr a) (hR : ∀ c, isAddr c → Ev (fun k => arboretref12_Up.l0 k place c s (wrap64 (j - 1)) b res x.f0 x.f1 x.f2) (R c)) :
  Ev (fun k => arboretref12_Up.l1 k place a s j (L.map rng2) false (L.length : Int) 0 b res x.f0 x.f1 x.f2) (if (firstS a s L).2 = 0 then R (firstS a s L).1 else (0, false)) := by
 have main := loop L (fun l => if (firstS a s l).2 = 0 then R (firstS a s l).1 else (0, false)) (fun k i => arboretref12_Up.l1 k place a s j (L.map rng2) false (L.length : Int) i b res x.f0 x.f1 x.f2) ?_ ?_ 0 (Nat.zero_le _); (·exact main); (·refine Ev.succ ?_; simp only [arboretref12_Up.l1, firstS]; exact Ev.neg Zq1 (Ev.neg (fun h => Bool.noConfusion h) (Ev.some _)))
 ·intro i h ih; have hw := step64 (i := i) (n := L.length) h hL; have hq := hA _ (List.getElem_mem h)
  have e1 : rd_T45 (L.map rng2) (i : Int) = rng2 L[i] := by
   unfold rd_T45; rw [Int.toNat_natCast, getD_at (by rw [List.length_map]; exact h), List.getElem_map]
  generalize L[i] = q at hq e1; refine Ev.succ ?_; simp only [arboretref12_Up.l1, e1, inside2_q q a s hq ha hs, Option.bind_some, firstS, List.length_map]; refine Ev.pos Zq1 (Ev.neg (fun h => Bool.noConfusion h) (Ev.pos (Int.natCast_nonneg i) (Ev.pos Zq1 (Ev.succ ?_)))); simp only [arboretref12_Up.j2, hw, e1, decide_eq_true_eq, List.length_map]
  by_cases hi : ins q a s
  ·simp only [if_pos hi]; refine Ev.pos (Int.natCast_nonneg i) (Ev.pos Zq1 ?_); have hi' := hi; unfold ins at hi'; have hq' := hq; unfold isAddr at hq' ha hs; have w1 : IntKind.u64.wrap (a - (rng2 q).f0) = a - q.1 := wu64 (by show 0 ≤ a - q.1; omega) (by show a - q.1 < 18446744073709551616; omega); have w2 : IntKind.u64.wrap (18446744073709551615 - (rng2 q).f1) = 18446744073709551615 - q.2.1 := wu64 (by show 0 ≤ 18446744073709551615 - q.2.1; omega) (by show 18446744073709551615 - q.2.1 < 18446744073709551616; omega); rw [w1, w2]
   by_cases h1 : a - q.1 > 18446744073709551615 - q.2.1
   ·rw [if_pos (show over q a s from Or.inl h1)]; exact Ev.pos h1 (Ev.some _)
   ·have w4 : IntKind.u64.wrap ((rng2 q).f1 + (a - q.1)) = q.2.1 + (a - q.1) := wu64 (by show 0 ≤ q.2.1 + (a - q.1); omega) (by show q.2.1 + (a - q.1) < 18446744073709551616; omega); rw [w4]; refine Ev.neg h1 ?_; have w3 : IntKind.u64.wrap (s - 1) = s - 1 := wu64 Zq1 Zq1; have w5 : IntKind.u64.wrap (18446744073709551615 - (q.2.1 + (a - q.1))) = 18446744073709551615 - (q.2.1 + (a - q.1)) := wu64 Zq1 Zq1
    have hh : arboretref12_Whole.f (q.2.1 + (a - q.1)) s = some (decide (¬ (s - 1 > 18446744073709551615 - (q.2.1 + (a - q.1))))) := by
     rw [whole_alike2, w3, w5]
     congr 1
     rw [decide_eq_decide]; omega
    simp only [hh, Option.bind_some, decide_eq_true_eq]
    by_cases h2 : s - 1 > 18446744073709551615 - (q.2.1 + (a - q.1))
    ·rw [if_pos (show over q a s from Or.inr h2)]; exact Ev.neg (fun h => h h2) (Ev.some _)
    ·rw [if_neg (show ¬ over q a s from fun h => h.elim h1 h2)]
     have hc : isAddr (q.2.1 + (a - q.1)) := by unfold isAddr; omega
     exact Ev.pos h2 (refup_rest b res x place s L j R hL _ (hR _ hc) (L.length - (i + 1)) (i + 1) Zq1)
  ·simp only [if_neg hi]; exact ih
end
theorem refup_loop (b : Int) (res : List S94) (x : S30) (hx : bulk30 x ≤ 1048576) (gx : good30 x) (place : List Int) (hl : place.length ≤ 1048576) (s : Int) (hs : isAddr s) (hex : ∀ k, ∃ m, getS x (place.take k) = some m) : ∀ (j : Nat) (a : Int), j ≤ place.length → isAddr a →
  Ev (fun k => arboretref12_Up.l0 k place a s (j : Int) b res x.f0 x.f1 x.f2) (okR (upS x place s j a))
 | 0, a, _, ha => by
  refine Ev.succ ?_; simp only [arboretref12_Up.l0, upS, okR]; exact Ev.neg Zq1 (Ev.some _)
 | j + 1, a, hj, ha => by
  obtain ⟨par, hp⟩ := hex j; obtain ⟨n, hn⟩ := hex (j + 1)
  have hw : wrap64 (((j + 1 : Nat) : Int) - 1) = (j : Int) := by rw [w64 Zq1 Zq1]; omega
  have hg1 := rget_ev b res x (place.take j) Zq75; have hg2 := rget_ev b res x (place.take (j + 1)) Zq75; rw [hp] at hg1; rw [hn] at hg2; have bp := getS_bulk _ _ _ hp; have bn := getS_bulk _ _ _ hn; have gp := getS_good _ _ _ hp gx; have gn := getS_good _ _ _ hn gx; have hr := refranges_ev par n Zq1 Zq1 gp gn
  have e : upS x place s (j + 1) a = (if (stepS par n a s).2 = 0 then upS x place s j (stepS par n a s).1 else (0, (stepS par n a s).2)) := by
   rw [upS, hp, hn]
  rw [e]; refine Ev.succ ?_; simp only [arboretref12_Up.l0, hw, Int.toNat_natCast]; refine Ev.pos Zq1 (Ev.pos (Int.natCast_nonneg _) (Ev.pos Zq1 (Ev.then hg2 (Ev.pos (Int.natCast_nonneg j) (Ev.pos Zq1 (Ev.then hg1 (Ev.then hr ?_)))))))
  cases hk : (rngSpec par n).2.2 with
  | true =>
   have es : stepS par n a s = firstS a s (rngSpec par n).1 := by unfold stepS; rw [if_pos hk]
   refine Ev.pos rfl ?_; have h := refup_list b res x place s (rngSpec par n).1 ((j + 1 : Nat) : Int) (fun c => okR (upS x place s j c)) hs (rngSpec_len par n Zq1) (rngSpec_addr par n gp gn) a ha (fun c hc => by rw [hw]; exact refup_loop b res x hx gx place hl s hs hex j c Zq1 hc); simp only [List.length_map]; rw [es]
   by_cases h0 : (firstS a s (rngSpec par n).1).2 = 0
   ·rw [if_pos h0] at h ⊢; exact h
   ·rw [if_neg h0] at h ⊢; simp only [okR, if_neg h0]; exact h
  | false =>
   have es : stepS par n a s = (0, 10) := by unfold stepS; rw [if_neg (by rw [hk]; decide)]
   rw [es]; exact Ev.neg (fun h => Bool.noConfusion h) (Ev.some _)
theorem refup_ev (b : Int) (res : List S94) (x : S30) (hx : bulk30 x ≤ 1048576) (gx : good30 x) (place : List Int) (hl : place.length ≤ 1048576) (s a : Int) (hs : isAddr s) (ha : isAddr a) (n : S30) (hn : getS x place = some n) :
  Ev (fun k => arboretref12_Up.f k b res x.f0 x.f1 x.f2 place a s) (okR (upS x place s place.length a)) := by
 unfold arboretref12_Up.f; exact refup_loop b res x hx gx place hl s hs (fun k => getS_take place x n k hn) place.length a (Nat.le_refl _) ha
def regs (a s : Nat) : Nat → List Int → List (Int × Int)
 | 0, _ => []
 | m + 1, l => (num (l.take (4 * a)), num ((l.drop (4 * a)).take (4 * s))) :: regs a s m (l.drop (4 * (a + s)))
theorem regs_len (a s : Nat) : ∀ (m : Nat) (l : List Int), (regs a s m l).length = m
 | 0, _ => rfl
 | m + 1, l => by simp only [regs, List.length_cons, regs_len a s m]
def win1 (p : Int × Int) : S67 := ⟨p.1, p.2⟩
def win2 (p : Int × Int) : S66 := ⟨p.1, p.2⟩
theorem reg_loop (a s : Nat) (ha : 1 ≤ a ∧ a ≤ 2) (hs : s ≤ 2) : ∀ (m : Nat) (l : List Int) (acc : List S67), isBytes l → l.length = 4 * (a + s) * m → l.length ≤ 1048576 → acc.length + m ≤ 1048576 →
  Ev (fun k => region_Reg.l0 k (a : Int) (s : Int) (cellsOf l) acc) (acc ++ (regs a s m l).map win1, 0) := by
 intro m
 induction m with
 | zero =>
  intro l acc hb hl h1 h2; obtain rfl : l = [] := List.eq_nil_of_length_eq_zero (by simpa using hl); refine Ev.succ ?_; simp only [region_Reg.l0, regs, cellsOf, List.map_nil, List.append_nil]; exact Ev.neg Zq6 (Ev.some _)
 | succ m ih =>
  intro l acc hb hl h1 h2; rw [Nat.mul_succ] at hl; have hcl := cells_len l
  have hw : wrap64 ((a : Int) + (s : Int)) = ((a + s : Nat) : Int) := by unfold wrap64; omega
  have p1 := wide_part l hb 0 a Zq1 ha.2; have p2 := wide_part l hb a s Zq1 hs; simp only [Nat.zero_add, Nat.mul_zero, List.drop_zero] at p1; have hd := cells_drop (a + s) l Zq1; have h3 := ih (l.drop (4 * (a + s))) (acc ++ [win1 (num (l.take (4 * a)), num ((l.drop (4 * a)).take (4 * s)))]) (hb.drop _) (by rw [List.length_drop]; omega) (by rw [List.length_drop]; omega) Zq119; rw [List.append_assoc, List.singleton_append] at h3; refine Ev.succ ?_; simp only [region_Reg.l0, hw, Int.toNat_natCast, hd, regs, List.map_cons]; exact Ev.pos Zq1 (Ev.pos (Int.natCast_nonneg a) (Ev.pos Zq1 (Ev.then p1 (Ev.pos Zq1 (Ev.pos Zq1 (Ev.then p2 (Ev.pos Zq1 (Ev.pos (Int.natCast_nonneg _) h3))))))))
theorem refreg_loop (b : List Int) (hb : isBytes b) (hl : b.length ≤ 1048576) (a s : Nat) (ha : 1 ≤ a ∧ a ≤ 2) (hs : s ≤ 2) : ∀ (m i : Nat) (acc : List S66), i + 4 * (a + s) * m = b.length → acc.length + m ≤ 1048576 →
  Ev (fun k => arboretref12_Reg.l0 k b (a : Int) (s : Int) acc (i : Int)) (acc ++ (regs a s m (b.drop i)).map win2, true) := by
 intro m
 induction m with
 | zero =>
  intro i acc hi h2; refine Ev.succ ?_; simp only [arboretref12_Reg.l0, regs, List.map_nil, List.append_nil]; exact Ev.neg Zq1 (Ev.some _)
 | succ m ih =>
  intro i acc hi h2; rw [Nat.mul_succ] at hi
  have w1 : wrap64 (4 * (a : Int)) = ((4 * a : Nat) : Int) := by unfold wrap64; omega
  have w2 : wrap64 (4 * (s : Int)) = ((4 * s : Nat) : Int) := by unfold wrap64; omega
  have w3 : wrap64 ((i : Int) + ((4 * a : Nat) : Int)) = ((i + 4 * a : Nat) : Int) := by unfold wrap64; omega
  have w4 : wrap64 (((i + 4 * a : Nat) : Int) + ((4 * s : Nat) : Int)) = ((i + 4 * (a + s) : Nat) : Int) := by unfold wrap64; omega
  have e1 : (b.take (i + 4 * a)).drop i = (b.drop i).take (4 * a) := by rw [List.drop_take]; congr 1; omega
  have e2 : (b.take (i + 4 * (a + s))).drop (i + 4 * a) = ((b.drop i).drop (4 * a)).take (4 * s) := by rw [List.drop_take, List.drop_drop]; congr 1; omega
  have p1 := refwide_ev ((b.drop i).take (4 * a)) ((hb.drop _).take _) Zq75; have p2 := refwide_ev (((b.drop i).drop (4 * a)).take (4 * s)) (((hb.drop _).drop _).take _) Zq75; have h3 := ih (i + 4 * (a + s)) (acc ++ [win2 (num ((b.drop i).take (4 * a)), num (((b.drop i).drop (4 * a)).take (4 * s)))]) Zq1 Zq119; rw [List.append_assoc, List.singleton_append, ← List.drop_drop] at h3; refine Ev.succ ?_; simp only [arboretref12_Reg.l0, w1, w2, w3, w4, Int.toNat_natCast, e1, e2, regs, List.map_cons]; exact Ev.pos Zq1 (Ev.pos (Int.natCast_nonneg i) (Ev.pos Zq1 (Ev.pos Zq1 (Ev.then p1 (Ev.pos (Int.natCast_nonneg _) (Ev.pos Zq1 (Ev.pos Zq1 (Ev.then p2 (Ev.pos Zq1 h3)))))))))
abbrev sReg : ByteArray := ⟨#[114, 101, 103]⟩
def regE (b : Bool) : Int := if b = true then 0 else 10
def regB (par : S30) (b : List Int) : List (Int × Int) × Bool :=
 if 0 ≤ cAddr par ∧ 0 ≤ cSize par ∧ cAddr par ≠ 0 ∧ b.length % (4 * ((cAddr par).toNat + (cSize par).toNat)) = 0 then (regs (cAddr par).toNat (cSize par).toNat (b.length / (4 * ((cAddr par).toNat + (cSize par).toNat))) b, true) else ([], false)
theorem regB_yes {par : S30} {b : List Int} {a s : Nat} (ha : cAddr par = (a : Int)) (hs : cSize par = (s : Int)) (h0 : ¬ (a : Int) = 0) (h4 : b.length % (4 * (a + s)) = 0) : regB par b = (regs a s (b.length / (4 * (a + s))) b, true) := by
 unfold regB; rw [ha, hs, Int.toNat_natCast, Int.toNat_natCast, if_pos ⟨Int.natCast_nonneg a, Int.natCast_nonneg s, h0, h4⟩]
theorem regB_no {par : S30} {b : List Int} (h : ¬ (0 ≤ cAddr par ∧ 0 ≤ cSize par ∧ cAddr par ≠ 0 ∧ b.length % (4 * ((cAddr par).toNat + (cSize par).toNat)) = 0)) : regB par b = ([], false) := if_neg h
def regSpec (par x : S30) : List (Int × Int) × Bool := match valP sReg.toList x.f1 with
 | none => ([], true)
 | some b => regB par b
theorem reg_ev (par x : S30) (hp : bulk30 par ≤ 1048576) (hx : bulk30 x ≤ 1048576) (gp : good30 par) (gx : good30 x) :
  Ev (fun k => region_Reg.f k par.f0 par.f1 par.f2 x.f0 x.f1 x.f2) ((regSpec par x).1.map win1, regE (regSpec par x).2) := by
 have ra := cAddr_range par gp; have rs := cSize_range par gp; unfold region_Reg.f
 refine Ev.then (find_ev x sReg hx) ?_
 unfold findN regSpec
 cases hv : valP sReg.toList x.f1 with
 | none => exact Ev.neg Zq6 (Ev.some _)
 | some b =>
  obtain ⟨p, hpm, rfl⟩ := valP_mem hv; have hby : isBytes p.f1 := good_value p (((good_eq x).mp gx).1 p hpm); have hbl := bulk_prop hpm; have hbv := bulk_value p; generalize p.f1 = b at *; dsimp only; refine Ev.pos rfl (Ev.then (counts_ev par hp gp) ?_)
  by_cases h : 0 ≤ cAddr par ∧ 0 ≤ cSize par
  ·have e : countsOf par = (cAddr par, cSize par, 0) := if_pos h; rw [e]; refine Ev.pos rfl ?_; obtain ⟨a, ha⟩ := Int.eq_ofNat_of_zero_le h.1; obtain ⟨s, hs⟩ := Int.eq_ofNat_of_zero_le h.2
   have ha2 : (a : Int) ≤ 2 := by omega
   have hs2 : (s : Int) ≤ 2 := by omega
   have ht : (cAddr par).toNat + (cSize par).toNat = a + s := by rw [ha, hs]; rfl
   rw [ha, hs]
   by_cases h0 : (a : Int) = 0
   ·rw [regB_no (fun h => h.2.2.1 Zq1)]; exact Ev.pos h0 (Ev.some _)
   ·have w : wrap64 (4 * (wrap64 ((a : Int) + (s : Int)))) = ((4 * (a + s) : Nat) : Int) := by rw [w64 (x := (a : Int) + (s : Int)) Zq1 Zq1, w64 Zq1 Zq1]; omega
    simp only [w]; refine Ev.neg h0 (Ev.neg Zq1 ?_)
    by_cases h4 : b.length % (4 * (a + s)) = 0
    ·rw [regB_yes ha hs h0 h4]
     have hm : b.length % 4 = 0 := by
      have := Nat.mod_mul_right_mod b.length 4 (a + s); rw [h4] at this; omega
     have hc := cells_ev b hby Zq1; rw [if_pos hm] at hc
     have hdiv : b.length = 4 * (a + s) * (b.length / (4 * (a + s))) := by
      have := Nat.div_add_mod b.length (4 * (a + s)); omega
     have hle : b.length / (4 * (a + s)) ≤ b.length := Nat.div_le_self _ _; have hl := reg_loop a s ⟨Zq1, Zq1⟩ (by omega : s ≤ 2) (b.length / (4 * (a + s))) b [] hby hdiv Zq1 (by simp only [List.length_nil, Nat.zero_add]; exact Nat.le_trans hle Zq1); simp only [List.nil_append] at hl; refine Ev.pos Zq1 (Ev.then hc hl)
    ·rw [regB_no (fun h => h4 (by have z := h.2.2.2; rw [ht] at z; exact z))]; exact Ev.neg Zq1 (Ev.some _)
  ·have e : countsOf par = (0, 0, 10) := if_neg h; rw [e, regB_no (fun h2 => h ⟨h2.1, h2.2.1⟩)]; exact Ev.neg Zq6 (Ev.some _)
theorem refreg_ev (par x : S30) (hp : bulk30 par ≤ 1048576) (hx : bulk30 x ≤ 1048576) (gp : good30 par) (gx : good30 x) :
  Ev (fun k => arboretref12_Reg.f k par.f0 par.f1 par.f2 x.f0 x.f1 x.f2) ((regSpec par x).1.map win2, (regSpec par x).2) := by
 have ra := cAddr_range par gp; have rs := cSize_range par gp; unfold arboretref12_Reg.f
 refine Ev.then (reffind_ev x sReg hx) ?_
 unfold regSpec
 rcases ixP_val sReg.toList x.f1 0 with ⟨h1, h2⟩ | ⟨j, hj, h2, h3⟩
 ·rw [h1, h2]; exact Ev.pos Zq6 (Ev.some _)
 ·rw [h2, h3, Nat.zero_add]; have hpm := getP (xs := x.f1) (i := j) hj; have hby : isBytes (x.f1.getD j z77).f1 := good_value _ (((good_eq x).mp gx).1 _ hpm); have hbl := bulk_prop hpm; have hbv := bulk_value (x.f1.getD j z77); simp only [rdP]; generalize (x.f1.getD j z77).f1 = b at *; refine Ev.neg Zq1 (Ev.pos (Int.natCast_nonneg j) (Ev.pos Zq1 (Ev.then (refcounts_ev par hp gp) ?_)))
  by_cases h : 0 ≤ cAddr par ∧ 0 ≤ cSize par
  ·rw [decide_eq_true h]; refine Ev.pos rfl ?_; obtain ⟨a, ha⟩ := Int.eq_ofNat_of_zero_le h.1; obtain ⟨s, hs⟩ := Int.eq_ofNat_of_zero_le h.2
   have ha2 : (a : Int) ≤ 2 := by omega
   have hs2 : (s : Int) ≤ 2 := by omega
   have ht : (cAddr par).toNat + (cSize par).toNat = a + s := by rw [ha, hs]; rfl
   rw [ha, hs]
   by_cases h0 : (a : Int) = 0
   ·rw [regB_no (fun h => h.2.2.1 Zq1)]; refine Ev.pos h0 (Ev.succ ?_); simp only [arboretref12_Reg.j0]; exact Ev.pos trivial (Ev.some _)
   ·have w : wrap64 ((wrap64 (4 * (a : Int))) + (wrap64 (4 * (s : Int)))) = ((4 * (a + s) : Nat) : Int) := by rw [w64 (x := 4 * (a : Int)) Zq1 Zq1, w64 (x := 4 * (s : Int)) Zq1 Zq1, w64 Zq1 Zq1]; omega
    simp only [w]; refine Ev.neg h0 (Ev.neg Zq1 (Ev.succ ?_)); simp only [arboretref12_Reg.j0]
    by_cases h4 : b.length % (4 * (a + s)) = 0
    ·rw [regB_yes ha hs h0 h4]
     have hb0 : (((b.length : Int) % ((4 * (a + s) : Nat) : Int)) != 0) = false := by
      rw [bne_eq_false_iff_eq]; omega
     rw [hb0]
     have hdiv : 0 + 4 * (a + s) * (b.length / (4 * (a + s))) = b.length := by
      have := Nat.div_add_mod b.length (4 * (a + s)); omega
     have hle : b.length / (4 * (a + s)) ≤ b.length := Nat.div_le_self _ _; have hl := refreg_loop b hby Zq1 a s ⟨Zq1, Zq1⟩ Zq1 (b.length / (4 * (a + s))) 0 [] hdiv (by simp only [List.length_nil]; omega); simp only [List.nil_append, List.drop_zero] at hl; exact Ev.neg Zq6 hl
    ·rw [regB_no (fun h => h4 (by have z := h.2.2.2; rw [ht] at z; exact z))]
     have hb0 : (((b.length : Int) % ((4 * (a + s) : Nat) : Int)) != 0) = true := by
      rw [bne_iff_ne]; omega
     rw [hb0]; exact Ev.pos rfl (Ev.some _)
  ·rw [decide_eq_false h, regB_no (fun h2 => h ⟨h2.1, h2.2.1⟩)]; refine Ev.neg Zq8 (Ev.succ ?_); simp only [arboretref12_Reg.j0]; exact Ev.pos trivial (Ev.some _)
theorem regSpec_len (par x : S30) (hx : bulk30 x ≤ 1048576) : (regSpec par x).1.length ≤ 1048576 := by
 unfold regSpec
 cases hv : valP sReg.toList x.f1 with
 | none => simp
 | some b =>
  obtain ⟨p, hpm, rfl⟩ := valP_mem hv; have hbl := bulk_prop hpm; have hbv := bulk_value p; simp only [regB]
  split
  ·rw [regs_len]; have := Nat.div_le_self p.f1.length (4 * ((cAddr par).toNat + (cSize par).toNat)); omega
  ·simp
theorem regSpec_no (par x : S30) (h : (regSpec par x).2 = false) : (regSpec par x).1 = [] := by
 unfold regSpec at h ⊢
 cases hv : valP sReg.toList x.f1 with
 | none => rfl
 | some b =>
  rw [hv] at h; simp only [regB] at h ⊢
  split
  ·rename_i hc
   rw [if_pos hc] at h; cases h
  ·rfl
end Go.Proofs.Yteejaaeglfpcmab.PX

namespace Go.Proofs.Yteejaaeglfpcmab.Pure
open Go.RowKit Go.Proofs.Yteejaaeglfpcmab.PX Go.Proofs.Yteejaaeglfpcmab.Rdr Go.Proofs.Yteejaaeglfpcmab.Aid Go.Proofs.YteejaaeglfpcmabW.PrintWords
theorem xw_awake : Ev (fun k => arboretlaw13_awake.f k) true := Ev.of (k := 6) (fun k => arboretlaw13_awake.mono k) (by decide +kernel)
theorem regs_addr (a s : Nat) (ha : a ≤ 2) (hs : s ≤ 2) : ∀ (m : Nat) (l : List Int), isBytes l → ∀ q ∈ regs a s m l, isAddr q.1 ∧ isAddr q.2
 | 0, _, _, q, h => by simp [regs] at h
 | m + 1, l, hb, q, h => by
  simp only [regs, List.mem_cons] at h
  rcases h with h | h
  ·rw [h]; exact ⟨num_addr _ (hb.take _) Zq75, num_addr _ ((hb.drop _).take _) Zq75⟩
  ·exact regs_addr a s ha hs m _ (hb.drop _) q h
theorem regSpec_addr (par x : S30) (gp : good30 par) (gx : good30 x) : ∀ q ∈ (regSpec par x).1, isAddr q.1 ∧ isAddr q.2 := by
 unfold regSpec; have ra := cAddr_range par gp; have rs := cSize_range par gp
 cases hv : valP sReg.toList x.f1 with
 | none => simp
 | some b =>
  obtain ⟨p, hp, rfl⟩ := valP_mem hv; have hby : isBytes p.f1 := good_value p (((good_eq x).mp gx).1 p hp); simp only [regB]
  split
  ·exact regs_addr _ _ Zq1 Zq1 _ _ hby
  ·simp
def winStep (u : Int × Int) (s : Int) (g : List (Int × Int) × Int) : List (Int × Int) × Int := if u.2 = 0 then (if g.2 = 0 then ((u.1, s) :: g.1, 0) else ([], g.2)) else ([], u.2)
def winsUp (x : S30) (up : List Int) : List (Int × Int) → List (Int × Int) × Int
 | [] => ([], 0)
 | q :: r => winStep (upS x up q.2 up.length q.1) q.2 (winsUp x up r)
theorem winStep_no {u : Int × Int} {s : Int} {g : List (Int × Int) × Int} (h : ¬ u.2 = 0) : winStep u s g = ([], u.2) := if_neg h
theorem winStep_ok {u : Int × Int} {s : Int} {g : List (Int × Int) × Int} (h : u.2 = 0) (k : g.2 = 0) : winStep u s g = ((u.1, s) :: g.1, 0) := by unfold winStep; rw [if_pos h, if_pos k]
theorem winStep_on {u : Int × Int} {s : Int} {g : List (Int × Int) × Int} (h : u.2 = 0) (k : ¬ g.2 = 0) : winStep u s g = ([], g.2) := by unfold winStep; rw [if_pos h, if_neg k]
def winA (d : List (Int × Int)) (g : List (Int × Int) × Int) : List S67 × Int := if g.2 = 0 then ((d ++ g.1).map win1, 0) else ([], g.2)
def winB (d : List (Int × Int)) (g : List (Int × Int) × Int) : List S66 × Bool := if g.2 = 0 then ((d ++ g.1).map win2, true) else ([], false)
theorem winA_ok {d : List (Int × Int)} {g : List (Int × Int) × Int} (h : g.2 = 0) : winA d g = ((d ++ g.1).map win1, 0) := if_pos h
theorem winA_no {d : List (Int × Int)} {g : List (Int × Int) × Int} (h : ¬ g.2 = 0) : winA d g = ([], g.2) := if_neg h
theorem winB_ok {d : List (Int × Int)} {g : List (Int × Int) × Int} (h : g.2 = 0) : winB d g = ((d ++ g.1).map win2, true) := if_pos h
theorem winB_no {d : List (Int × Int)} {g : List (Int × Int) × Int} (h : ¬ g.2 = 0) : winB d g = ([], false) := if_neg h
theorem winA_step (d : List (Int × Int)) (u : Int × Int) (s : Int) (g : List (Int × Int) × Int) (h : u.2 = 0) : winA d (winStep u s g) = winA (d ++ [(u.1, s)]) g := by
 by_cases k : g.2 = 0
 ·rw [winStep_ok h k, winA_ok rfl, winA_ok k, List.append_assoc]; rfl
 ·rw [winStep_on h k, winA_no (g := ([], g.2)) k, winA_no k]
theorem winB_step (d : List (Int × Int)) (u : Int × Int) (s : Int) (g : List (Int × Int) × Int) (h : u.2 = 0) : winB d (winStep u s g) = winB (d ++ [(u.1, s)]) g := by
 by_cases k : g.2 = 0
 ·rw [winStep_ok h k, winB_ok rfl, winB_ok k, List.append_assoc]; rfl
 ·rw [winStep_on h k, winB_no (g := ([], g.2)) k, winB_no k]
theorem winsUp_len (x : S30) (up : List Int) : ∀ l, (winsUp x up l).1.length ≤ l.length
 | [] => by simp [winsUp]
 | q :: r => by
  have := winsUp_len x up r; simp only [winsUp, winStep]
  split
  ·split
   ·simp only [List.length_cons]; omega
   ·simp
  ·simp
theorem winsUp_bad (x : S30) (gx : good30 x) (up : List Int) : ∀ l : List (Int × Int), (∀ q ∈ l, isAddr q.1 ∧ isAddr q.2) → (winsUp x up l).2 = 0 ∨ ((winsUp x up l).2 = 12 ∨ (winsUp x up l).2 = 10) ∧ (winsUp x up l).1 = []
 | [], _ => .inl rfl
 | q :: r, h => by
  have ih := winsUp_bad x gx up r (fun q hq => h q (List.mem_cons_of_mem _ hq)); have hq := h q List.mem_cons_self; have hf := upS_fact x gx up q.2 hq.2 up.length q.1 hq.1; simp only [winsUp]
  by_cases h0 : (upS x up q.2 up.length q.1).2 = 0
  ·by_cases h1 : (winsUp x up r).2 = 0
   ·rw [winStep_ok h0 h1]; exact .inl rfl
   ·rw [winStep_on h0 h1]
    rcases ih with ih | ih
    ·exact absurd ih h1
    ·exact .inr ⟨ih.1, rfl⟩
  ·rw [winStep_no h0]
   rcases hf with ⟨h3, _⟩ | ⟨h3, _⟩
   ·exact .inr ⟨h3, rfl⟩
   ·exact absurd h3 h0
section
variable (b : Int) (res : List S94) (x : S30) (hx : bulk30 x ≤ 1048576) (gx : good30 x) (up : List Int) (n : S30) (hn : getS x up = some n)
include hx gx hn
theorem win_loop (hl : up.length ≤ 16) : ∀ (rest : List (Int × Int)) (done : List (Int × Int)), (∀ q ∈ rest, isAddr q.1 ∧ isAddr q.2) → done.length + rest.length ≤ 1048576 →
  Ev (fun k => xlate_Windows.l0 k up ((done ++ rest).map win1) ((done.length + rest.length : Nat) : Int) (done.length : Int) b res x.f0 x.f1 x.f2) (winA done (winsUp x up rest))
 | [], done, _, hd => by
  refine Ev.succ ?_; simp only [xlate_Windows.l0, winsUp]; rw [winA_ok rfl]; exact Ev.neg Zq8 (Ev.some _)
 | q :: r, done, hA, hd => by
  have hq := hA q List.mem_cons_self; simp only [List.length_cons] at hd; have hw := step64 (i := done.length) (n := done.length + (r.length + 1)) Zq1 hd
  have hr : rd_T67 ((done ++ q :: r).map win1) (done.length : Int) = win1 q := by
   unfold rd_T67; rw [Int.toNat_natCast, getD_at (by rw [List.length_map, List.length_append, List.length_cons]; omega), List.getElem_map]
   simp
  have hu := up_ev b res x hx gx up hl q.2 q.1 hq.2 hq.1 n hn
  have hset : ∀ v : Int × Int, ((done ++ q :: r).map win1).set done.length (win1 v) = ((done ++ [v]) ++ r).map win1 := by
   intro v; rw [List.map_append, List.set_append_right _ _ (by rw [List.length_map]; exact Nat.le_refl _), List.length_map, Nat.sub_self]
   simp
  refine Ev.succ ?_; simp only [xlate_Windows.l0, hr, hw, Int.toNat_natCast, winsUp]; refine Ev.pos (by simp only [List.length_cons]; omega) (Ev.pos (Int.natCast_nonneg _) (Ev.pos (by simp only [List.length_map, List.length_append, List.length_cons]; omega) (Ev.then hu ?_))); generalize upS x up q.2 up.length q.1 = u
  by_cases h0 : u.2 = 0
  ·rw [winA_step done u q.2 _ h0]; refine Ev.pos h0 ?_; have e := hset (u.1, q.2); have e2 : (⟨u.1, (win1 q).f1⟩ : S67) = win1 (u.1, q.2) := rfl; rw [e2, e]; have ih := win_loop hl r (done ++ [(u.1, q.2)]) (fun q hq => hA q (List.mem_cons_of_mem _ hq)) (by simp only [List.length_append, List.length_cons, List.length_nil]; clear hw; omega)
   have e3 : (done ++ [(u.1, q.2)]).length + r.length = done.length + (q :: r).length := by simp only [List.length_append, List.length_cons, List.length_nil]; clear hw; omega
   have e4 : (done ++ [(u.1, q.2)]).length = done.length + 1 := by simp
   rw [e3, e4] at ih; exact ih
  ·rw [winStep_no h0, winA_no h0]; exact Ev.neg h0 (Ev.some _)
theorem refwin_loop (hl : up.length ≤ 1048576) (L : List (Int × Int)) (hL : L.length ≤ 1048576) (hA : ∀ q ∈ L, isAddr q.1 ∧ isAddr q.2) : ∀ (j i : Nat) (acc : List (Int × Int)), i + j = L.length → acc.length ≤ i →
  Ev (fun k => arboretref12_Windows.l0 k up (L.map win2) (acc.map win2) (L.length : Int) (i : Int) b res x.f0 x.f1 x.f2) (winB acc (winsUp x up (L.drop i))) := by
 intro j
 induction j with
 | zero =>
  intro i acc hi ha; rw [List.drop_of_length_le Zq1]; refine Ev.succ ?_; simp only [arboretref12_Windows.l0, winsUp]; rw [winB_ok rfl]; exact Ev.neg Zq1 (Ev.fix Zq8)
 | succ j ih =>
  intro i acc hi ha; have hw := step64 (i := i) (n := L.length) Zq1 hL; have hd := drop_at (l := L) (d := ((0 : Int), (0 : Int))) (i := i) Zq1
  have hm : L.getD i (0, 0) ∈ L := by rw [getD_at (by omega : i < L.length)]; exact List.getElem_mem _
  have hq := hA _ hm
  have hr : rd_T66 (L.map win2) (i : Int) = win2 (L.getD i (0, 0)) := by
   unfold rd_T66; rw [Int.toNat_natCast, getD_at Zq87, List.getElem_map, getD_at Zq1]
  rw [hd]; generalize L.getD i (0, 0) = q at *; have hu := refup_ev b res x hx gx up hl q.2 q.1 hq.2 hq.1 n hn; refine Ev.succ ?_; simp only [arboretref12_Windows.l0, hr, hw, winsUp]; refine Ev.pos Zq1 (Ev.pos (Int.natCast_nonneg i) (Ev.pos Zq87 (Ev.then hu ?_))); generalize upS x up q.2 up.length q.1 = u
  by_cases h0 : u.2 = 0
  ·rw [winB_step acc u q.2 _ h0]; simp only [okR, if_pos h0]; have nx := ih (i + 1) (acc ++ [(u.1, q.2)]) Zq1 (by simp only [List.length_append, List.length_singleton]; omega); rw [List.map_append] at nx; exact Ev.pos trivial (Ev.pos Zq87 nx)
  ·rw [winStep_no h0, winB_no h0]; simp only [okR, if_neg h0]; exact Ev.neg Zq6 (Ev.some _)
end
theorem same_wins (l : List (Int × Int)) (hl : l.length ≤ 1048576) : ∀ (j i : Nat), i + j = l.length → Ev (fun k => arboretlaw13_XlateWindows.l0 k (l.map win1) (l.map win2) ((l.map win1).length : Int) (i : Int)) true := by
 intro j
 induction j with
 | zero =>
  intro i hi; refine Ev.succ ?_; simp only [arboretlaw13_XlateWindows.l0]; exact Ev.neg Zq87 (Ev.some _)
 | succ j ih =>
  intro i hi; have hw := step64 (i := i) (n := l.length) Zq1 hl
  have e1 : rd_T67 (l.map win1) (i : Int) = win1 (l[i]'Zq1) := by
   unfold rd_T67; rw [Int.toNat_natCast, getD_at Zq87, List.getElem_map]
  have e2 : rd_T66 (l.map win2) (i : Int) = win2 (l[i]'Zq1) := by
   unfold rd_T66; rw [Int.toNat_natCast, getD_at Zq87, List.getElem_map]
  refine Ev.succ ?_; simp only [arboretlaw13_XlateWindows.l0, hw, e1, e2]; exact Ev.pos Zq87 (Ev.pos (Int.natCast_nonneg i) (Ev.pos Zq87 (Ev.pos Zq87 (Ev.neg (by simp [win1, win2]) (ih (i + 1) Zq1)))))
theorem XlateWindows : arboretlaw13_XlateWindows.Pure := by
 intro t place hb gt gpl; obtain ⟨b, res, x⟩ := t; simp only [bulk35, sumB_one] at hb; have gx : good30 x := gt.2.2
 have hx : bulk30 x ≤ 1048576 := by omega
 have hres : res.length ≤ 1048576 := by
  have := sumB_len (B := bulk94) (fun p => by unfold bulk94; omega) res; omega
 have hpl : place.length ≤ 1048576 := by omega
 obtain ⟨v1, h1⟩ := few_ends b res x hx; obtain ⟨v2, h2, hform⟩ := check_ends b res x hx hres
 have asleep : Ev (fun k => arboretlaw13_XlateWindows.j0 k place true b res x.f0 x.f1 x.f2) true := by
  refine Ev.succ ?_; simp only [arboretlaw13_XlateWindows.j0]; exact Ev.pos trivial (Ev.then xw_awake (Ev.some _))
 have main : v2 = 0 → Ev (fun k => arboretlaw13_XlateWindows.j0 k place false b res x.f0 x.f1 x.f2) true := by
  intro h0; refine Ev.succ ?_; simp only [arboretlaw13_XlateWindows.j0]; refine Ev.neg (fun h => Bool.noConfusion h) ?_; have hg := rget_ev b res x place hpl
  cases hn : getS x place with
  | none =>
   rw [hn] at hg
   have hw : Ev (fun k => xlate_Windows.f k b res x.f0 x.f1 x.f2 place) ([], 8) := by
    unfold xlate_Windows.f
    by_cases hl : place.length ≤ 16
    ·have hp := pget_ev b res x place hx hl; rw [hn] at hp
     exact Ev.then hp (Ev.neg Zq6 (Ev.some _))
    ·exact Ev.then (pget_deep b res x place hl) (Ev.neg Zq6 (Ev.some _))
   exact Ev.then hw (Ev.then hg (Ev.neg (fun h => Bool.noConfusion h) (Ev.pos rfl (Ev.fix rfl))))
  | some n =>
   rw [hn] at hg; have hd := hform h0 place n hn; have hp := pget_ev b res x place hx Zq1; rw [hn] at hp
   by_cases hz : (place.length : Int) = 0
   ·have hw : Ev (fun k => xlate_Windows.f k b res x.f0 x.f1 x.f2 place) ([], 1) := by
     unfold xlate_Windows.f
     exact Ev.then hp (Ev.pos rfl (Ev.pos hz (Ev.some _)))
    exact Ev.then hw (Ev.then hg (Ev.pos rfl (Ev.pos hz (Ev.pos rfl (Ev.fix rfl)))))
   ·have hwr : wrap64 ((place.length : Int) - 1) = ((place.length - 1 : Nat) : Int) := by unfold wrap64; omega
    obtain ⟨up, hup⟩ : ∃ up, up = place.take (place.length - 1) := ⟨_, rfl⟩
    obtain ⟨par, hpar⟩ := getS_take place x n (place.length - 1) hn; rw [← hup] at hpar
    have hul : up.length = place.length - 1 := by rw [hup, List.length_take]; omega
    have hbn := getS_bulk _ _ _ hn; have hgn := getS_good _ _ _ hn gx; have hbp := getS_bulk _ _ _ hpar; have hgp := getS_good _ _ _ hpar gx; have hpp := pget_ev b res x up hx Zq1; rw [hpar] at hpp; have hgg := rget_ev b res x up Zq1; rw [hpar] at hgg; have hreg := reg_ev par n Zq1 Zq1 hgp hgn; have hrreg := refreg_ev par n Zq1 Zq1 hgp hgn; have hA := regSpec_addr par n hgp hgn; have hLn := regSpec_len par n Zq1; have hno := regSpec_no par n; generalize regSpec par n = g at *
    have hw : Ev (fun k => xlate_Windows.f k b res x.f0 x.f1 x.f2 place) (if g.2 = true then winA [] (winsUp x up g.1) else ([], 10)) := by
     unfold xlate_Windows.f; simp only [hwr, Int.toNat_natCast, ← hup]
     refine Ev.then hp (Ev.pos rfl (Ev.neg hz (Ev.pos (Int.natCast_nonneg _) (Ev.pos Zq1 (Ev.then hpp (Ev.then hreg ?_))))))
     cases hk : g.2 with
     | true =>
      rw [if_pos rfl]; refine Ev.pos rfl ?_; have := win_loop b res x hx gx up par hpar Zq1 g.1 [] hA (by simp only [List.length_nil]; omega)
      simpa using this
     | false =>
      rw [if_neg Zq6]; exact Ev.neg (by show ¬ regE false = 0; decide) (Ev.some _)
    have hrw : Ev (fun k => arboretref12_Windows.f k b res x.f0 x.f1 x.f2 place) (if g.2 = true then winB [] (winsUp x up g.1) else ([], false)) := by
     unfold arboretref12_Windows.f; simp only [hwr, Int.toNat_natCast, ← hup]; refine Ev.pos (Int.natCast_nonneg _) (Ev.pos Zq1 (Ev.then hgg (Ev.then hg (Ev.then hrreg ?_))))
     cases hk : g.2 with
     | true =>
      rw [if_pos rfl]; refine Ev.pos rfl ?_; have := refwin_loop b res x hx gx up par hpar Zq1 g.1 hLn hA g.1.length 0 [] Zq1 Zq8
      simpa using this
     | false =>
      rw [if_neg Zq6]; exact Ev.neg Zq6 (Ev.some _)
    have hbad := winsUp_bad x gx up g.1 hA; have hlen := winsUp_len x up g.1
    refine Ev.then hw (Ev.then hg (Ev.pos rfl (Ev.neg hz (Ev.then hrw ?_))))
    cases hk : g.2 with
    | true =>
     simp only [if_true]; generalize winsUp x up g.1 = r at *
     by_cases h0 : r.2 = 0
     ·rw [winA_ok h0, winB_ok h0]; refine Ev.pos rfl (Ev.pos rfl (Ev.succ ?_)); simp only [arboretlaw13_XlateWindows.j1, List.nil_append]; refine Ev.neg Zq8 ?_; have := same_wins r.1 Zq1 r.1.length 0 Zq1
      simpa using this
     ·rw [winA_no h0, winB_no h0]
      rcases hbad with h3 | ⟨h3, _⟩
      ·exact absurd h3 h0
      ·refine Ev.neg Zq6 (Ev.pos rfl ?_)
       rcases h3 with h3 | h3
       ·exact Ev.pos h3 (Ev.some _)
       ·refine Ev.neg (by show ¬ r.2 = 12; omega) (Ev.fix ?_); show some (r.2 == 10) = some true; rw [h3]; rfl
    | false =>
     simp only [Bool.false_eq_true, if_false]; exact Ev.pos rfl (Ev.neg Zq6 (Ev.fix rfl))
 refine Ev.out (?_ : Ev (fun k => arboretlaw13_XlateWindows.f k b res x.f0 x.f1 x.f2 place) true); unfold arboretlaw13_XlateWindows.f
 refine Ev.then xw_awake (Ev.pos rfl (Ev.then h1 ?_))
 cases v1 with
 | true =>
  refine Ev.pos rfl ?_
  by_cases hl : (place.length : Int) > 40
  ·exact Ev.pos hl asleep
  ·refine Ev.neg hl (Ev.then h2 ?_)
   by_cases h0 : v2 = 0
   ·have e : (v2 != 0) = false := by rw [h0]; rfl
    rw [e]; exact main h0
   ·have e : (v2 != 0) = true := by rw [bne_iff_ne]; exact h0
    rw [e]; exact asleep
 | false => exact Ev.neg Zq6 asleep
end Go.Proofs.Yteejaaeglfpcmab.Pure

namespace Go.Proofs.Yteejaaeglfpcmab.xlateWindows
open Go.ChangeShapes Go.WideShapes Go.ChangeAt Go.RowKit Go.Proofs.Yteejaaeglfpcmab.Rdr Go.Proofs.Yteejaaeglfpcmab.PX
open Go.ChangeMaps (open_string shut_string)
theorem own : ownKnob Try.prog.godebug = none := by kernel_rfl
theorem laidOut : laidOutB Try.prog = true := by kernel_rfl
set_option maxRecDepth 100000 in
theorem contract (H : Type) (enc : TypeId × Value → H) (W : World) (base : Nat) (args : Array Value) (ds gs : List (DataW H)) (before : List MemPlace)
  (hval0 : ∀ (j : Nat) t v, Try.f7.params[j]? = some t → args[j]? = some v → Value.okWide Try.prog W .any base t v)
  (hW : DataW.Whole enc Try.prog Try.f7.params.toList Rows.xlateWindowsSpec.vars false W args.toList ds gs before) (hk : Rows.uptoSmall H (ds ++ gs) = true) :
  Calls Try.prog 7 args W fun e W' => ∃ v, e = .returned v ∧ Rows.xlateWindowsSpec.post enc Try.prog Try.f7 false true false false W args v W' := by
 have hval : ∀ (j : Nat) t v, Try.f7.params[j]? = some t → args[j]? = some v → Value.okWide Try.prog W .any base t v := hval0; have hW' := hW; obtain ⟨p, q, hA0, hV, rfl, hfz, hnd⟩ := hW; have hA : DataW.TrodAll enc Try.prog W 0 (fun _ => true) true Try.f7.params.toList args.toList ds p := hA0; rw [Try.params7] at hA hval; obtain ⟨v0, vs0, d0, ds0, p0, q0, hargs, rfl, rfl, h0, tr0⟩ := trodAll_cons hA; obtain ⟨v1, vs1, d1, ds1, p1, q1, rfl, rfl, rfl, h1, tr1⟩ := trodAll_cons tr0; obtain ⟨rfl, rfl, rfl⟩ := trodAll_nil tr1
 obtain rfl : args = #[v0, v1] := by cases args; simp_all
 obtain ⟨rfl, rfl⟩ := trodVars_none hV; have hb := bound hk; simp only [List.append_nil, Rows.uptoBulkAll, List.nil_append] at hb; have k0 := h0
 have lt0 : ∀ x ∈ p0, x.block < W.heap.size := by obtain ⟨m, hm⟩ := k0; exact DataW.trod_lt m _ _ _ hm
 have k1 := h1
 have lt1 : ∀ x ∈ p1, x.block < W.heap.size := by obtain ⟨m, hm⟩ := k1; exact DataW.trod_lt m _ _ _ hm
 obtain ⟨cs0, rfl, hcs0⟩ : ∃ cs, v0 = .agg cs ∧ True := by
  have z := (hval 0 35 v0 rfl rfl)
  simp only [Value.okWide, Try.underlying35] at z; obtain ⟨cs, hc, _⟩ := z; exact ⟨cs, hc, trivial⟩
 obtain ⟨f0, hf0⟩ := h0; obtain ⟨x0, K0, b0, g0⟩ := rd35 W f0 H enc f0 (Nat.le_refl _) _ _ hf0; obtain ⟨A0_1, c0_1, A0_3, c0_3, A0_4, c0_4, e0, l0_1, r0_1, l0_3, r0_3, l0_4, r0_4⟩ := k35_open K0; obtain ⟨cl0⟩ := cs0; have e0' : cl0 = _ := e0; subst e0'; obtain ⟨A1, n1, c1, rfl⟩ := okWide_slice Try.underlying48 (hval 1 48 v1 rfl rfl); obtain ⟨f1, hf1⟩ := h1; obtain ⟨x1, ⟨A1', c1', e1, l1, r1⟩, b1, g1⟩ := rd_slice (n := f1) Try.underlying48 Zq2 (rd_int (n := f1) Try.underlying3) H enc f1 (Nat.le_succ _) _ _ hf1; have e1' : [Value.slice A1 n1 c1] = [Value.slice A1' x1.length c1'] := e1; simp only [List.cons.injEq, Value.slice.injEq, and_true] at e1'; obtain ⟨rfl, rfl, rfl⟩ := e1'; obtain ⟨k, hk_⟩ := Pure.XlateWindows x0 x1 (by (try simp only [Rows.uptoBulk, Array.length_toList] at hb); first | omega | (simp only [ByteArray.size] at *; omega)) g0 g1
 refine (arboretlaw13_XlateWindows.calls k x0.f0 A0_1 c0_1 x0.f1 x0.f2.f0 A0_3 c0_3 x0.f2.f1 A0_4 c0_4 x0.f2.f2 A1 c1 x1 true W r0_1 l0_1 r0_3 l0_3 r0_4 l0_4 r1 l1 hk_).mono fun e W' ⟨he, bel0⟩ => ?_
 have bel : Below W.heap.size W W' := bel0; subst he; exact ⟨_, rfl, _, _, _, [], _, [], hW', trodAll_mk1 (shut_bool Try.underlying4 _), (trodAll_cons_mk (Below.trod laidOut Zq2 (of_decide_eq_true Zq2) k0 bel lt0) (trodAll_cons_mk (Below.trod laidOut Zq2 (of_decide_eq_true Zq2) k1 bel lt1) trodAll_mk0)), rfl, bel.frame _, fun h => by cases h⟩
set_option maxRecDepth 100000 in
theorem lifted (os : Os) (started : os.Started) (H : Type) (enc : TypeId × Value → H) (F : Stop.Interp) :
  ReturnsInHanded {} Try.checked os 7 .any ((Rows.OpenSpec.upto Rows.xlateWindowsSpec).pre6 enc Try.prog Try.f7 Rows.xlateWindowsUptoRow.domain false) (((Rows.OpenSpec.upto Rows.xlateWindowsSpec).at F).post enc Try.prog Try.f7 false true false false) := by
 refine returnsInHanded_of_cond (C := Try.checked) (s := Rows.OpenSpec.upto Rows.xlateWindowsSpec) (k := Rows.uptoSmall) rfl own started Zq2 Try.func7
  (OpenSpec.witness (enc := enc) (C := Try.checked) (s := Rows.OpenSpec.upto Rows.xlateWindowsSpec) (k := Rows.uptoSmall) rfl false ⟨#[], #[.agg #[.int .u32 0, .slice none 0 0, .string ByteArray.empty, .slice none 0 0, .slice none 0 0], .slice none 0 0], []⟩ 16 Zq2 Zq2 Zq2
   (x := ([.agg [.lit (.int .u32 0), .nil, .agg [.lit (.string []), .nil, .nil]], .nil], [], [])) Zq2 rfl Zq2) ?_
 intro W base args ds gs before hval hW _ hk _; exact contract H enc W base args ds gs before hval hW hk
theorem over : Rows.xlateWindowsUptoRow.holds Try.pinned (Rows.OpenSpec.upto Rows.xlateWindowsSpec) :=
 OpenClaim.holds_of_cond 7 Try.f7 rfl rfl rfl rfl rfl rfl rfl ⟨rfl, rfl, rfl, rfl, rfl⟩ rfl rfl rfl rfl rfl Zq2 Try.func7 Zq2
  (of_decide_eq_true Zq2) (by unfold Func.isWrapper; first | (rw [if_pos (by decide +kernel)]; kernel_rfl) | (rw [if_neg (by decide +kernel)]; exact ⟨rfl, rfl⟩))
  (fun os started H enc _ F => lifted os started H enc F)
theorem proved : Rows.XlateWindowsUptoSaid := over
end Go.Proofs.Yteejaaeglfpcmab.xlateWindows
namespace Go.Proofs.Yteejaaeglfpcmab
theorem xlateWindows_holds : Rows.XlateWindowsUptoSaid := xlateWindows.proved
end Go.Proofs.Yteejaaeglfpcmab
