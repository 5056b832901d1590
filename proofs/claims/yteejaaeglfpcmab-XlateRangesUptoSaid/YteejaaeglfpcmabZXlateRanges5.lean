/- XlateRanges: texts of this session's, and what the kit's print laid for this seat, as far as the law's row uses them (Num, One, Counts, Wide, Ranges, PureXlateRanges, LawXlateRanges). -/
import Derived.ProofKit
import Derived.OpenShut
import Derived.ShutString
import Derived.ChangeOld
import Derived.JoinedCond
import Derived.Deep.CondSized
import Derived.Test.YteejaaeglfpcmabZXlateRanges4
set_option linter.unusedVariables false
set_option linter.unusedSimpArgs false
set_option linter.unusedVariables false
set_option linter.unusedSimpArgs false
namespace Go.Proofs.Yteejaaeglfpcmab.PX
open Go.RowKit Go.Proofs.Yteejaaeglfpcmab.Aid Go.Proofs.YteejaaeglfpcmabW.PrintWords
def numOn (v : Int) (l : List Int) : Int := l.foldl (fun v c => v * 256 + c) v
def num (l : List Int) : Int := numOn 0 l
def isBytes (l : List Int) : Prop := ∀ b ∈ l, 0 ≤ b ∧ b ≤ 255
theorem isBytes.drop {l : List Int} (h : isBytes l) (i : Nat) : isBytes (l.drop i) := fun b hb => h b (List.mem_of_mem_drop hb)
theorem isBytes.take {l : List Int} (h : isBytes l) (i : Nat) : isBytes (l.take i) := fun b hb => h b (List.mem_of_mem_take hb)
theorem isBytes.tail {a : Int} {l : List Int} (h : isBytes (a :: l)) : isBytes l := fun b hb => h b (List.mem_cons_of_mem _ hb)
theorem isBytes.head {a : Int} {l : List Int} (h : isBytes (a :: l)) : 0 ≤ a ∧ a ≤ 255 := h a List.mem_cons_self
theorem pow_step (j : Nat) : (256 : Int) ^ (j + 1) = 256 ^ j * 256 := by rw [Int.pow_succ]
theorem pow_le (j : Nat) (h : j ≤ 8) : (256 : Int) ^ j ≤ 18446744073709551616 := by
  have h1 : (256 : Nat) ^ j ≤ 256 ^ 8 := Nat.pow_le_pow_right (by decide) h
  have h2 : ((256 ^ j : Nat) : Int) ≤ ((256 ^ 8 : Nat) : Int) := Int.ofNat_le.mpr h1
  simpa using h2
theorem numOn_range : ∀ (l : List Int) (j : Nat) (v : Int), isBytes l → 0 ≤ v → v < 256 ^ j → 0 ≤ numOn v l ∧ numOn v l < 256 ^ (j + l.length)
  | [], j, v, _, h0, h1 => ⟨h0, h1⟩
  | a :: l, j, v, hb, h0, h1 => by
    obtain ⟨a0, a1⟩ := hb.head
    have h := numOn_range l (j + 1) (v * 256 + a) hb.tail (by omega) (by rw [pow_step]; omega)
    have e : j + 1 + l.length = j + (a :: l).length := by rw [List.length_cons]; omega
    rw [e] at h
    exact h
theorem num_range (l : List Int) (hb : isBytes l) : 0 ≤ num l ∧ num l < 256 ^ l.length := by
  have h := numOn_range l 0 0 hb (Int.le_refl 0) (by decide)
  simpa [num] using h
theorem numbOn (l : List Int) : ∀ (j : Nat) (v : Int), isBytes l → 0 ≤ v → v < 256 ^ j → j + l.length ≤ 8 → l.foldl (fun v c => Go.bits .or .u64 (IntKind.u64.wrap (v * 256)) (IntKind.u64.wrap c)) v = numOn v l := by
  induction l with
  | nil => intro j v _ _ _ _; rfl
  | cons a l ih =>
    intro j v hb h0 h1 hl
    obtain ⟨a0, a1⟩ := hb.head
    rw [List.length_cons] at hl
    have hp := pow_le (j + 1) (by omega)
    rw [pow_step] at hp
    have e1 : IntKind.u64.wrap (v * 256) = v * 256 := wu64 (by omega) (by omega)
    have e2 : IntKind.u64.wrap a = a := wu64 a0 (by omega)
    have e3 : Go.bits .or .u64 (v * 256) a = v * 256 + a := or_low 8 (by decide) (by omega) (by simp only [Int.reducePow]; omega) (by omega) a0 (by simp only [Int.reducePow]; omega)
    rw [List.foldl_cons, e1, e2, e3]
    exact ih (j + 1) (v * 256 + a) hb.tail (by omega) (by rw [pow_step]; omega) (by omega)
theorem numb_eq (l : List Int) (hb : isBytes l) (hl : l.length ≤ 8) : numb l = num l := numbOn l 0 0 hb (Int.le_refl 0) (by decide) (by omega)
theorem get_at (l : List Int) (i : Nat) (hb : isBytes l) (h : i + 4 ≤ l.length) : words_Get.f l (i : Int) = some (num ((l.drop i).take 4), true) := by
  unfold words_Get.f
  rw [if_pos ⟨Int.natCast_nonneg i, by omega⟩]
  have e : ((i : Int) + 4).toNat = i + 4 := by omega
  rw [e, Int.toNat_natCast, List.drop_take, show i + 4 - i = 4 by omega, numb_eq _ ((hb.drop i).take 4) (by rw [List.length_take]; omega)]
  have hr := num_range ((l.drop i).take 4) ((hb.drop i).take 4)
  have hl : ((l.drop i).take 4).length = 4 := by rw [List.length_take, List.length_drop]; omega
  rw [hl] at hr
  have : num ((l.drop i).take 4) % 4294967296 = num ((l.drop i).take 4) := Int.emod_eq_of_lt hr.1 (by simpa using hr.2)
  rw [this]
theorem get_no (l : List Int) (i : Nat) (h : l.length < i + 4) : words_Get.f l (i : Int) = some (0, false) := by
  unfold words_Get.f
  rw [if_neg (by omega)]
def cellsOf : List Int → List Int
  | a :: b :: c :: d :: r => num [a, b, c, d] :: cellsOf r
  | _ => []
theorem cells_step (l : List Int) (i : Nat) (h : i + 4 ≤ l.length) : cellsOf (l.drop i) = num ((l.drop i).take 4) :: cellsOf (l.drop (i + 4)) := by
  have h1 : ∃ a b c d r, l.drop i = a :: b :: c :: d :: r := by
    match hh : l.drop i, (by rw [List.length_drop]; omega : 4 ≤ (l.drop i).length) with
    | a :: b :: c :: d :: r, _ => exact ⟨a, b, c, d, r, rfl⟩
  obtain ⟨a, b, c, d, r, e⟩ := h1
  have h2 : l.drop (i + 4) = r := by rw [← List.drop_drop, e]; rfl
  rw [e, h2]
  rfl
theorem cells_length : ∀ (n : Nat) (l : List Int), l.length ≤ n → (cellsOf l).length = l.length / 4
  | 0, l, h => by
    obtain rfl : l = [] := List.eq_nil_of_length_eq_zero (by omega)
    rfl
  | n + 1, l, h => by
    match l, h with
    | [], _ => simp [cellsOf]
    | [_], _ => simp [cellsOf]
    | [_, _], _ => simp [cellsOf]
    | [_, _, _], _ => simp [cellsOf]
    | a :: b :: c :: d :: r, h =>
      have := cells_length n r (by simp only [List.length_cons] at h; omega)
      simp only [cellsOf, List.length_cons, this]
      omega
theorem cells_len (l : List Int) : (cellsOf l).length = l.length / 4 := cells_length l.length l (Nat.le_refl _)
theorem cells_range : ∀ (n : Nat) (l : List Int), l.length ≤ n → isBytes l → ∀ x ∈ cellsOf l, 0 ≤ x ∧ x ≤ 4294967295
  | 0, l, h, _ => by
    obtain rfl : l = [] := List.eq_nil_of_length_eq_zero (by omega)
    intro x hx
    simp [cellsOf] at hx
  | n + 1, l, h, hb => by
    match l, h, hb with
    | [], _, _ => intro x hx; simp [cellsOf] at hx
    | [_], _, _ => intro x hx; simp [cellsOf] at hx
    | [_, _], _, _ => intro x hx; simp [cellsOf] at hx
    | [_, _, _], _, _ => intro x hx; simp [cellsOf] at hx
    | a :: b :: c :: d :: r, h, hb =>
      intro x hx
      simp only [cellsOf, List.mem_cons] at hx
      rcases hx with rfl | hx
      · have h4 : isBytes [a, b, c, d] := fun y hy => hb y (by simp only [List.mem_cons, List.not_mem_nil, or_false] at hy ⊢; rcases hy with rfl | rfl | rfl | rfl <;> simp)
        have hr := num_range [a, b, c, d] h4
        simp only [List.length_cons, List.length_nil] at hr
        have h2 := hr.2
        simp at h2
        exact ⟨hr.1, by omega⟩
      · exact cells_range n r (by simp only [List.length_cons] at h; omega) hb.tail.tail.tail.tail x hx
end Go.Proofs.Yteejaaeglfpcmab.PX

set_option linter.unusedVariables false
set_option linter.unusedSimpArgs false
namespace Go.Proofs.Yteejaaeglfpcmab.PX
open Go.RowKit Go.Proofs.Yteejaaeglfpcmab.Rdr Go.Proofs.Yteejaaeglfpcmab.Aid Go.Proofs.YteejaaeglfpcmabW.PrintWords
def ixP (s : List UInt8) : List S77 → Nat → Int
  | [], _ => -1
  | p :: r, i => if p.f0.toList = s then (i : Int) else ixP s r (i + 1)
def valP (s : List UInt8) : List S77 → Option (List Int)
  | [] => none
  | p :: r => if p.f0.toList = s then some p.f1 else valP s r
theorem valP_mem {s : List UInt8} {v : List Int} : ∀ {l : List S77}, valP s l = some v → ∃ p ∈ l, p.f1 = v
  | [], h => by simp [valP] at h
  | p :: r, h => by
    simp only [valP] at h
    by_cases c : p.f0.toList = s
    · rw [if_pos c] at h
      exact ⟨p, List.mem_cons_self, Option.some.inj h⟩
    · rw [if_neg c] at h
      obtain ⟨q, hq, e⟩ := valP_mem h
      exact ⟨q, List.mem_cons_of_mem _ hq, e⟩
theorem ixP_val (s : List UInt8) : ∀ (l : List S77) (i : Nat), (valP s l = none ∧ ixP s l i = -1) ∨ ∃ j : Nat, j < l.length ∧ ixP s l i = ((i + j : Nat) : Int) ∧ valP s l = some (l.getD j z77).f1
  | [], i => .inl ⟨rfl, rfl⟩
  | p :: r, i => by
    simp only [valP, ixP]
    by_cases c : p.f0.toList = s
    · rw [if_pos c, if_pos c]
      exact .inr ⟨0, by simp, by simp, by simp⟩
    · rw [if_neg c, if_neg c]
      rcases ixP_val s r (i + 1) with ⟨h1, h2⟩ | ⟨j, h1, h2, h3⟩
      · exact .inl ⟨h1, h2⟩
      · exact .inr ⟨j + 1, by simp; omega, by rw [h2]; congr 1; omega, by rw [h3]; simp⟩
theorem clone_bytes (v : List Int) (h : v.length ≤ 1048576) : bytes_Clone.f v = some v := by
  unfold bytes_Clone.f
  rw [if_pos (by omega)]
def findN (s : List UInt8) (l : List S77) : List Int × Bool := match valP s l with
  | some v => (v, true)
  | none => ([], false)
theorem find_ev (x : S30) (s : ByteArray) (hx : bulk30 x ≤ 1048576) : Ev (fun k => tree_Find.f k x.f0 x.f1 x.f2 s) (findN s.toList x.f1) := by
  have hp := bulk_props x
  have key : ∀ (j i : Nat), i + j = x.f1.length → Ev (fun k => tree_Find.l0 k s x.f1 (x.f1.length : Int) (i : Int)) (findN s.toList (x.f1.drop i)) := by
    intro j
    induction j with
    | zero =>
      intro i hi
      rw [List.drop_of_length_le (by omega)]
      refine Ev.succ ?_
      simp only [tree_Find.l0, findN, valP]
      exact Ev.neg (by omega) (Ev.some _)
    | succ j ih =>
      intro i hi
      have hw := step64 (i := i) (n := x.f1.length) (by omega) (by omega)
      have hm := getP (xs := x.f1) (i := i) (by omega)
      have hb := bulk_prop hm
      have hv := bulk_value (x.f1.getD i z77)
      have hc := clone_bytes (x.f1.getD i z77).f1 (by omega)
      rw [drop_at (l := x.f1) (d := z77) (i := i) (by omega)]
      refine Ev.succ ?_
      simp only [tree_Find.l0, rdP, hw, hc, Option.bind_some]
      refine Ev.pos (by omega) (Ev.pos (Int.natCast_nonneg i) (Ev.pos (by omega) ?_))
      by_cases c : (x.f1.getD i z77).f0.toList = s.toList
      · have e : findN s.toList (x.f1.getD i z77 :: x.f1.drop (i + 1)) = ((x.f1.getD i z77).f1, true) := by simp only [findN, valP, if_pos c]
        rw [e]
        exact Ev.pos c (Ev.some _)
      · have e : findN s.toList (x.f1.getD i z77 :: x.f1.drop (i + 1)) = findN s.toList (x.f1.drop (i + 1)) := by simp only [findN, valP, if_neg c]
        rw [e]
        exact Ev.neg c (ih (i + 1) (by omega))
  have := key x.f1.length 0 (by omega)
  unfold tree_Find.f
  simpa using this
theorem reffind_ev (x : S30) (s : ByteArray) (hx : bulk30 x ≤ 1048576) : Ev (fun k => arboretref01_Find.f k x.f0 x.f1 x.f2 s) (ixP s.toList x.f1 0) := by
  have hp := bulk_props x
  have key : ∀ (j i : Nat), i + j = x.f1.length → Ev (fun k => arboretref01_Find.l0 k s (x.f1.length : Int) (i : Int) x.f0 x.f1 x.f2) (ixP s.toList (x.f1.drop i) i) := by
    intro j
    induction j with
    | zero =>
      intro i hi
      rw [List.drop_of_length_le (by omega)]
      refine Ev.succ ?_
      simp only [arboretref01_Find.l0, ixP]
      exact Ev.neg (by omega) (Ev.some _)
    | succ j ih =>
      intro i hi
      have hw := step64 (i := i) (n := x.f1.length) (by omega) (by omega)
      rw [drop_at (l := x.f1) (d := z77) (i := i) (by omega)]
      refine Ev.succ ?_
      simp only [arboretref01_Find.l0, rdP, hw, ixP]
      refine Ev.pos (by omega) (Ev.pos (Int.natCast_nonneg i) (Ev.pos (by omega) ?_))
      by_cases c : (x.f1.getD i z77).f0.toList = s.toList
      · rw [if_pos c]
        exact Ev.pos c (Ev.some _)
      · rw [if_neg c]
        exact Ev.neg c (ih (i + 1) (by omega))
  have := key x.f1.length 0 (by omega)
  unfold arboretref01_Find.f
  simpa using this
theorem number_loop (l : List Int) (hb : isBytes l) (hl : l.length ≤ 1048576) (i n : Nat) (hi : i + n ≤ l.length) (hn : n ≤ 8) : ∀ (j q : Nat) (v : Int), q + j = n → 0 ≤ v → v < 256 ^ q →
    Ev (fun k => arboretref01_Number.l0 k l (i : Int) v (n : Int) (q : Int)) (numOn v ((l.drop (i + q)).take j), true) := by
  intro j
  induction j with
  | zero =>
    intro q v hq h0 h1
    refine Ev.succ ?_
    simp only [arboretref01_Number.l0]
    exact Ev.neg (by omega) (Ev.some _)
  | succ j ih =>
    intro q v hq h0 h1
    have hw : wrap64 ((q : Int) + 1) = ((q + 1 : Nat) : Int) := by unfold wrap64; omega
    have hw2 : wrap64 ((i : Int) + (q : Int)) = ((i + q : Nat) : Int) := by unfold wrap64; omega
    have hrd : rd l ((i + q : Nat) : Int) = l[i + q]'(by omega) := by
      unfold rd
      rw [Int.toNat_natCast, getD_at (by omega)]
    obtain ⟨a0, a1⟩ := hb _ (List.getElem_mem (l := l) (n := i + q) (by omega))
    have hp := pow_le (q + 1) (by omega)
    rw [pow_step] at hp
    generalize hx : l[i + q]'(by omega) = x at *
    have e1 : IntKind.u64.wrap (v * 256) = v * 256 := wu64 (by omega) (by omega)
    have e2 : IntKind.u64.wrap x = x := wu64 a0 (by omega)
    have e3 : IntKind.u64.wrap (v * 256 + x) = v * 256 + x := wu64 (by omega) (by omega)
    have hd : l.drop (i + q) = x :: l.drop (i + (q + 1)) := by rw [List.drop_eq_getElem_cons (by omega), hx]; rfl
    have h2 := ih (q + 1) (v * 256 + x) (by omega) (by omega) (by rw [pow_step]; omega)
    rw [hd]
    refine Ev.succ ?_
    simp only [arboretref01_Number.l0, hw, hw2, hrd, e1, e2, e3]
    exact Ev.pos (by omega) (Ev.pos (Int.natCast_nonneg _) (Ev.pos (by omega) h2))
theorem number_ev (l : List Int) (hb : isBytes l) (hl : l.length ≤ 1048576) (i n : Nat) (hi : i + n ≤ l.length) (hn : n ≤ 8) :
    Ev (fun k => arboretref01_Number.f k l (i : Int) (n : Int)) (num ((l.drop i).take n), true) := by
  have h := number_loop l hb hl i n hi hn n 0 0 (by omega) (Int.le_refl 0) (by decide)
  unfold arboretref01_Number.f
  have hw : wrap64 ((l.length : Int) - (i : Int)) = (l.length : Int) - (i : Int) := by unfold wrap64; omega
  refine Ev.neg (by omega) (Ev.neg (by omega) (Ev.succ ?_))
  have hd : decide (wrap64 ((l.length : Int) - (i : Int)) < (n : Int)) = false := by rw [hw]; exact decide_eq_false (by omega)
  simp only [arboretref01_Number.j0, hd]
  exact Ev.neg (by decide) h
theorem refcells_loop (l : List Int) (hb : isBytes l) (hl : l.length ≤ 1048576) (h4 : l.length % 4 = 0) : ∀ (j i : Nat) (acc : List Int), i + 4 * j = l.length → acc.length + j ≤ 1048576 →
    Ev (fun k => arboretref06_Cells.l0 k l acc (i : Int)) (acc ++ cellsOf (l.drop i), 0) := by
  intro j
  induction j with
  | zero =>
    intro i acc hi ha
    rw [List.drop_of_length_le (by omega)]
    simp only [cellsOf, List.append_nil]
    refine Ev.succ ?_
    simp only [arboretref06_Cells.l0]
    exact Ev.neg (by omega) (Ev.some _)
  | succ j ih =>
    intro i acc hi ha
    have hw : wrap64 ((i : Int) + 4) = ((i + 4 : Nat) : Int) := by unfold wrap64; omega
    have hn := number_ev l hb hl i 4 (by omega) (by decide)
    have hr := num_range ((l.drop i).take 4) ((hb.drop i).take 4)
    have hlen : ((l.drop i).take 4).length = 4 := by rw [List.length_take, List.length_drop]; omega
    rw [hlen] at hr
    have hm : num ((l.drop i).take 4) % 4294967296 = num ((l.drop i).take 4) := Int.emod_eq_of_lt hr.1 (by simpa using hr.2)
    have h2 := ih (i + 4) (acc ++ [num ((l.drop i).take 4)]) (by omega) (by rw [List.length_append, List.length_singleton]; omega)
    rw [cells_step l i (by omega)]
    rw [List.append_assoc, List.singleton_append] at h2
    refine Ev.succ ?_
    simp only [arboretref06_Cells.l0, hw]
    refine Ev.pos (by omega) (Ev.then hn (Ev.pos (by omega) ?_))
    simp only [hm]
    exact h2
theorem refcells_ev (l : List Int) (hb : isBytes l) (hl : l.length ≤ 1048576) : Ev (fun k => arboretref06_Cells.f k l) (if l.length % 4 = 0 then (cellsOf l, 0) else ([], 4)) := by
  unfold arboretref06_Cells.f
  by_cases h : l.length % 4 = 0
  · rw [if_pos h]
    have := refcells_loop l hb hl h (l.length / 4) 0 [] (by omega) (by simp only [List.length_nil]; omega)
    exact Ev.pos (by omega) (by simpa using this)
  · rw [if_neg h]
    exact Ev.neg (by omega) (Ev.some _)
def oneOf (s : List UInt8) (l : List S77) : Int × Bool × Int := match valP s l with
  | none => (0, false, 0)
  | some v => if v.length = 4 then (num v, true, 0) else (0, false, 4)
theorem one_ev (x : S30) (s : ByteArray) (hx : bulk30 x ≤ 1048576) (hg : good30 x) : Ev (fun k => prop_One.f k x.f0 x.f1 x.f2 s) (oneOf s.toList x.f1) := by
  unfold prop_One.f
  refine Ev.then (find_ev x s hx) ?_
  unfold findN oneOf
  cases hv : valP s.toList x.f1 with
  | none => exact Ev.neg (by decide) (Ev.some _)
  | some v =>
    obtain ⟨p, hp, rfl⟩ := valP_mem hv
    have hby : isBytes p.f1 := good_value p (((good_eq x).mp hg).1 p hp)
    refine Ev.pos rfl ?_
    by_cases h4 : 4 ≤ p.f1.length
    · have hget := get_at p.f1 0 hby (by omega)
      simp only [Int.natCast_zero, List.drop_zero] at hget
      simp only [hget, Option.bind_some]
      refine Ev.pos trivial ?_
      by_cases h : p.f1.length = 4
      · rw [if_pos h, List.take_of_length_le (by omega)]
        exact Ev.pos (by omega) (Ev.some _)
      · rw [if_neg h]
        exact Ev.neg (by omega) (Ev.some _)
    · have hget := get_no p.f1 0 (by omega)
      simp only [Int.natCast_zero] at hget
      have h5 : ¬ p.f1.length = 4 := by omega
      simp only [hget, Option.bind_some]
      rw [if_neg h5]
      exact Ev.neg (by decide) (Ev.some _)
theorem refone_ev (x : S30) (s : ByteArray) (hx : bulk30 x ≤ 1048576) (hg : good30 x) : Ev (fun k => arboretref06_One.f k x.f0 x.f1 x.f2 s) (oneOf s.toList x.f1) := by
  unfold arboretref06_One.f
  refine Ev.then (reffind_ev x s hx) ?_
  unfold oneOf
  rcases ixP_val s.toList x.f1 0 with ⟨h1, h2⟩ | ⟨j, hj, h2, h3⟩
  · rw [h1, h2]
    exact Ev.pos (by decide) (Ev.some _)
  · rw [h2, h3, Nat.zero_add]
    have hp := getP (xs := x.f1) (i := j) hj
    have hby : isBytes (x.f1.getD j z77).f1 := good_value _ (((good_eq x).mp hg).1 _ hp)
    have hb := bulk_prop hp
    have hv := bulk_value (x.f1.getD j z77)
    simp only [rdP]
    refine Ev.neg (by omega) (Ev.pos (Int.natCast_nonneg j) (Ev.pos (by omega) (Ev.then (refcells_ev _ hby (by omega)) ?_)))
    generalize hvv : (x.f1.getD j z77).f1 = v at *
    by_cases h : v.length % 4 = 0
    · rw [if_pos h]
      have hcl := cells_len v
      refine Ev.pos rfl ?_
      by_cases h4 : v.length = 4
      · rw [if_pos h4]
        match v, h4 with
        | [a, b, c, d], _ => exact Ev.pos (by rfl) (Ev.pos (by simp [cellsOf]) (Ev.some _))
      · rw [if_neg h4]
        exact Ev.neg (by simp only [hcl]; omega) (Ev.some _)
    · have h5 : ¬ v.length = 4 := by omega
      rw [if_neg h, if_neg h5]
      exact Ev.neg (by decide) (Ev.some _)
end Go.Proofs.Yteejaaeglfpcmab.PX

set_option linter.unusedVariables false
set_option linter.unusedSimpArgs false
namespace Go.Proofs.Yteejaaeglfpcmab.PX
open Go.RowKit Go.Proofs.Yteejaaeglfpcmab.Rdr Go.Proofs.Yteejaaeglfpcmab.Aid Go.Proofs.YteejaaeglfpcmabW.PrintWords
abbrev sAddr : ByteArray := ⟨#[35, 97, 100, 100, 114, 101, 115, 115, 45, 99, 101, 108, 108, 115]⟩
abbrev sSize : ByteArray := ⟨#[35, 115, 105, 122, 101, 45, 99, 101, 108, 108, 115]⟩
theorem oneOf_range (s : List UInt8) (x : S30) (hg : good30 x) : 0 ≤ (oneOf s x.f1).1 := by
  unfold oneOf
  cases hv : valP s x.f1 with
  | none => exact Int.le_refl 0
  | some v =>
    obtain ⟨p, hp, rfl⟩ := valP_mem hv
    have hby : isBytes p.f1 := good_value p (((good_eq x).mp hg).1 p hp)
    by_cases h : p.f1.length = 4
    · simp only [if_pos h]
      exact (num_range _ hby).1
    · simp only [if_neg h]
      exact Int.le_refl 0
def cntI (s : List UInt8) (w : Int) (l : List S77) : Int := if (oneOf s l).2.2 = 0 ∧ (oneOf s l).1 ≤ 2 then (if (oneOf s l).2.1 = true then (oneOf s l).1 else w) else -1
theorem cntI_range (s : List UInt8) (w : Int) (x : S30) (hg : good30 x) (hw : 0 ≤ w ∧ w ≤ 2) : -1 ≤ cntI s w x.f1 ∧ cntI s w x.f1 ≤ 2 := by
  have := oneOf_range s x hg
  unfold cntI
  split
  · split <;> omega
  · omega
def cntR (c : Int) : Int × Int := if c < 0 then (0, 10) else (c, 0)
theorem cntR_no {c : Int} (h : c < 0) : cntR c = (0, 10) := if_pos h
theorem cntR_yes {c : Int} (h : ¬ c < 0) : cntR c = (c, 0) := if_neg h
theorem count_ev (x : S30) (s : ByteArray) (w : Int) (hx : bulk30 x ≤ 1048576) (hg : good30 x) (hw : 0 ≤ w ∧ w ≤ 2) :
    Ev (fun k => region_count.f k x.f0 x.f1 x.f2 s w) (cntR (cntI s.toList w x.f1)) := by
  have h0 := oneOf_range s.toList x hg
  unfold region_count.f
  refine Ev.then (one_ev x s hx hg) ?_
  unfold cntI
  generalize oneOf s.toList x.f1 = o at *
  obtain ⟨v, b, e⟩ := o
  simp only at h0 ⊢
  by_cases he : e = 0
  · by_cases hv : v ≤ 2
    · rw [if_pos ⟨he, hv⟩]
      have hd : decide (v > 2) = false := decide_eq_false (by omega)
      have hw64 : wrap64 v = v := w64 (by omega) (by omega)
      refine Ev.pos he (Ev.succ ?_)
      simp only [region_count.j0, hd, hw64]
      refine Ev.neg (by decide) ?_
      cases b with
      | true => exact Ev.pos rfl (Ev.fix (by simp [cntR]; omega))
      | false => exact Ev.neg (by decide) (Ev.fix (by simp [cntR]; omega))
    · have hd : decide (v > 2) = true := decide_eq_true (by omega)
      rw [if_neg (by omega), cntR_no (by decide)]
      refine Ev.pos he (Ev.succ ?_)
      simp only [region_count.j0, hd]
      exact Ev.pos trivial (Ev.some _)
  · rw [if_neg (fun h => he h.1), cntR_no (by decide)]
    refine Ev.neg he (Ev.succ ?_)
    simp only [region_count.j0]
    exact Ev.pos trivial (Ev.some _)
theorem refcount_ev (x : S30) (s : ByteArray) (w : Int) (hx : bulk30 x ≤ 1048576) (hg : good30 x) (hw : 0 ≤ w ∧ w ≤ 2) :
    Ev (fun k => arboretref12_count.f k x.f0 x.f1 x.f2 s w) (cntI s.toList w x.f1) := by
  have h0 := oneOf_range s.toList x hg
  unfold arboretref12_count.f
  refine Ev.then (refone_ev x s hx hg) ?_
  unfold cntI
  generalize oneOf s.toList x.f1 = o at *
  obtain ⟨v, b, e⟩ := o
  simp only at h0 ⊢
  by_cases he : e = 0
  · by_cases hv : v ≤ 2
    · rw [if_pos ⟨he, hv⟩]
      have hd : decide (v > 2) = false := decide_eq_false (by omega)
      have hw64 : wrap64 v = v := w64 (by omega) (by omega)
      refine Ev.pos he (Ev.succ ?_)
      simp only [arboretref12_count.j0, hd, hw64]
      refine Ev.neg (by decide) ?_
      cases b with
      | true => exact Ev.pos rfl (Ev.fix (by simp))
      | false => exact Ev.neg (by decide) (Ev.fix (by simp))
    · have hd : decide (v > 2) = true := decide_eq_true (by omega)
      rw [if_neg (by omega)]
      refine Ev.pos he (Ev.succ ?_)
      simp only [arboretref12_count.j0, hd]
      exact Ev.pos trivial (Ev.some _)
  · rw [if_neg (fun h => he h.1)]
    refine Ev.neg he (Ev.succ ?_)
    simp only [arboretref12_count.j0]
    exact Ev.pos trivial (Ev.some _)
def cAddr (x : S30) : Int := cntI sAddr.toList 2 x.f1
def cSize (x : S30) : Int := cntI sSize.toList 1 x.f1
theorem cAddr_range (x : S30) (hg : good30 x) : -1 ≤ cAddr x ∧ cAddr x ≤ 2 := cntI_range _ _ x hg (by decide)
theorem cSize_range (x : S30) (hg : good30 x) : -1 ≤ cSize x ∧ cSize x ≤ 2 := cntI_range _ _ x hg (by decide)
def countsOf (x : S30) : Int × Int × Int := if 0 ≤ cAddr x ∧ 0 ≤ cSize x then (cAddr x, cSize x, 0) else (0, 0, 10)
theorem counts_ev (x : S30) (hx : bulk30 x ≤ 1048576) (hg : good30 x) : Ev (fun k => region_Counts.f k x.f0 x.f1 x.f2) (countsOf x) := by
  unfold region_Counts.f
  refine Ev.then (count_ev x sAddr 2 hx hg (by decide)) ?_
  have ha : cntI sAddr.toList 2 x.f1 = cAddr x := rfl
  have hs : cntI sSize.toList 1 x.f1 = cSize x := rfl
  rw [ha]
  by_cases h : cAddr x < 0
  · rw [cntR_no h]
    have e : countsOf x = (0, 0, 10) := if_neg (by omega)
    rw [e]
    exact Ev.neg (by decide) (Ev.some _)
  · rw [cntR_yes h]
    refine Ev.pos rfl (Ev.then (count_ev x sSize 1 hx hg (by decide)) ?_)
    rw [hs]
    by_cases h2 : cSize x < 0
    · rw [cntR_no h2]
      have e : countsOf x = (0, 0, 10) := if_neg (by omega)
      rw [e]
      exact Ev.neg (by decide) (Ev.some _)
    · rw [cntR_yes h2]
      have e : countsOf x = (cAddr x, cSize x, 0) := if_pos (by omega)
      rw [e]
      exact Ev.pos rfl (Ev.some _)
theorem refcounts_ev (x : S30) (hx : bulk30 x ≤ 1048576) (hg : good30 x) : Ev (fun k => arboretref12_Counts.f k x.f0 x.f1 x.f2) (cAddr x, cSize x, decide (0 ≤ cAddr x ∧ 0 ≤ cSize x)) := by
  unfold arboretref12_Counts.f
  refine Ev.then (refcount_ev x sAddr 2 hx hg (by decide)) (Ev.then (refcount_ev x sSize 1 hx hg (by decide)) ?_)
  have ha : cntI sAddr.toList 2 x.f1 = cAddr x := rfl
  have hs : cntI sSize.toList 1 x.f1 = cSize x := rfl
  rw [ha, hs]
  by_cases h : cAddr x ≥ 0
  · have : decide (0 ≤ cAddr x ∧ 0 ≤ cSize x) = decide (cSize x ≥ 0) := by
      rw [decide_eq_decide]
      exact ⟨fun h => h.2, fun h2 => ⟨h, h2⟩⟩
    rw [this]
    exact Ev.pos h (Ev.some _)
  · have : decide (0 ≤ cAddr x ∧ 0 ≤ cSize x) = false := decide_eq_false (fun h2 => h h2.1)
    rw [this]
    exact Ev.neg h (Ev.some _)
end Go.Proofs.Yteejaaeglfpcmab.PX

set_option linter.unusedVariables false
set_option linter.unusedSimpArgs false
namespace Go.Proofs.Yteejaaeglfpcmab.PX
open Go.RowKit Go.Proofs.Yteejaaeglfpcmab.Rdr Go.Proofs.Yteejaaeglfpcmab.Aid Go.Proofs.YteejaaeglfpcmabW.PrintWords
theorem cells_loop (l : List Int) (hb : isBytes l) (hl : l.length ≤ 1048576) (h4 : l.length % 4 = 0) : ∀ (j i : Nat) (acc : List Int), i + 4 * j = l.length → acc.length + j ≤ 1048576 →
    Ev (fun k => prop_Cells.l0 k l acc (i : Int)) (acc ++ cellsOf (l.drop i), 0) := by
  intro j
  induction j with
  | zero =>
    intro i acc hi ha
    rw [List.drop_of_length_le (by omega)]
    simp only [cellsOf, List.append_nil]
    refine Ev.succ ?_
    simp only [prop_Cells.l0]
    exact Ev.neg (by omega) (Ev.some _)
  | succ j ih =>
    intro i acc hi ha
    have hw : wrap64 ((i : Int) + 4) = ((i + 4 : Nat) : Int) := by unfold wrap64; omega
    have hn := get_at l i hb (by omega)
    have h2 := ih (i + 4) (acc ++ [num ((l.drop i).take 4)]) (by omega) (by rw [List.length_append, List.length_singleton]; omega)
    rw [cells_step l i (by omega)]
    rw [List.append_assoc, List.singleton_append] at h2
    refine Ev.succ ?_
    simp only [prop_Cells.l0, hw, hn, Option.bind_some]
    exact Ev.pos (by omega) (Ev.pos (by omega) h2)
theorem cells_ev (l : List Int) (hb : isBytes l) (hl : l.length ≤ 1048576) : Ev (fun k => prop_Cells.f k l) (if l.length % 4 = 0 then (cellsOf l, 0) else ([], 4)) := by
  unfold prop_Cells.f
  by_cases h : l.length % 4 = 0
  · rw [if_pos h]
    have := cells_loop l hb hl h (l.length / 4) 0 [] (by omega) (by simp only [List.length_nil]; omega)
    exact Ev.pos (by omega) (by simpa using this)
  · rw [if_neg h]
    exact Ev.neg (by omega) (Ev.some _)
def wideC (l : List Int) : Int := l.foldl (fun v c => v * 4294967296 + c) 0
theorem wide_ev (l : List Int) (h : ∀ x ∈ l, 0 ≤ x ∧ x ≤ 4294967295) (hl : l.length ≤ 2) : Ev (fun k => prop_Wide.f k l) (wideC l, 0) := by
  refine Ev.of (k := 3) (fun k => prop_Wide.mono l k) ?_
  match l, h, hl with
  | [], _, _ => decide +kernel
  | [a], h, _ =>
    obtain ⟨a0, a1⟩ := h a (by simp)
    have e : Go.bits .or .u64 0 a = a := by
      have := or_low 32 (by decide) (x := 0) (y := a) (Int.le_refl 0) (by simp) (by decide) a0 (by simp only [Int.reducePow]; omega)
      simpa using this
    have w := wu64 a0 (by omega)
    simp [prop_Wide.f, prop_Wide.l0, rd, wrap64, w, e, wu64, wideC]
  | [a, b], h, _ =>
    obtain ⟨a0, a1⟩ := h a (by simp)
    obtain ⟨b0, b1⟩ := h b (by simp)
    have e : Go.bits .or .u64 0 a = a := by
      have := or_low 32 (by decide) (x := 0) (y := a) (Int.le_refl 0) (by simp) (by decide) a0 (by simp only [Int.reducePow]; omega)
      simpa using this
    have e2 : Go.bits .or .u64 (a * 4294967296) b = a * 4294967296 + b := or_low 32 (by decide) (by omega) (by simp only [Int.reducePow]; omega) (by omega) b0 (by simp only [Int.reducePow]; omega)
    have w := wu64 a0 (by omega)
    have wb := wu64 b0 (by omega)
    have w2 := wu64 (x := a * 4294967296) (by omega) (by omega)
    simp [prop_Wide.f, prop_Wide.l0, rd, wrap64, w, wb, w2, e, e2, wu64, wideC]
theorem num4 (a b c d : Int) : num [a, b, c, d] = ((a * 256 + b) * 256 + c) * 256 + d := by simp [num, numOn]
theorem wide_cells (l : List Int) (n : Nat) (h : l.length = 4 * n) (hn : n ≤ 2) : wideC (cellsOf l) = num l := by
  match n, hn, h with
  | 0, _, h =>
    obtain rfl : l = [] := List.eq_nil_of_length_eq_zero (by omega)
    rfl
  | 1, _, h =>
    match l, h with
    | [a, b, c, d], _ => simp [cellsOf, wideC]
  | 2, _, h =>
    match l, h with
    | [a, b, c, d, e, f, g, i], _ =>
      simp only [cellsOf, wideC, List.foldl_cons, List.foldl_nil, num4, num, numOn]
      omega
theorem cells_take : ∀ (n : Nat) (l : List Int), 4 * n ≤ l.length → (cellsOf l).take n = cellsOf (l.take (4 * n))
  | 0, l, _ => by simp [cellsOf]
  | n + 1, l, h => by
    match l, h with
    | a :: b :: c :: d :: r, h =>
      have h2 := cells_take n r (by simp only [List.length_cons] at h; omega)
      have e : 4 * (n + 1) = 4 * n + 1 + 1 + 1 + 1 := by omega
      rw [e]
      simp only [cellsOf, List.take_succ_cons, h2]
theorem cells_drop : ∀ (n : Nat) (l : List Int), 4 * n ≤ l.length → (cellsOf l).drop n = cellsOf (l.drop (4 * n))
  | 0, l, _ => by simp
  | n + 1, l, h => by
    match l, h with
    | a :: b :: c :: d :: r, h =>
      have h2 := cells_drop n r (by simp only [List.length_cons] at h; omega)
      have e : 4 * (n + 1) = 4 * n + 1 + 1 + 1 + 1 := by omega
      rw [e]
      simp only [cellsOf, List.drop_succ_cons, h2]
theorem wide_part (l : List Int) (hb : isBytes l) (i n : Nat) (h : 4 * (i + n) ≤ l.length) (hn : n ≤ 2) : Ev (fun k => prop_Wide.f k (((cellsOf l).take (i + n)).drop i)) (num ((l.drop (4 * i)).take (4 * n)), 0) := by
  have e : ((cellsOf l).take (i + n)).drop i = cellsOf ((l.drop (4 * i)).take (4 * n)) := by
    rw [List.drop_take, show i + n - i = n by omega, cells_drop i l (by omega), cells_take n _ (by rw [List.length_drop]; omega)]
  have hl : ((l.drop (4 * i)).take (4 * n)).length = 4 * n := by rw [List.length_take, List.length_drop]; omega
  have hbb : isBytes ((l.drop (4 * i)).take (4 * n)) := (hb.drop _).take _
  rw [e, ← wide_cells _ n hl hn]
  refine wide_ev _ (cells_range _ _ (Nat.le_refl _) hbb) ?_
  rw [cells_len, hl]
  omega
theorem refwide_ev (l : List Int) (hb : isBytes l) (hl : l.length ≤ 8) : Ev (fun k => arboretref12_wide.f k l) (num l) := by
  unfold arboretref12_wide.f
  have := number_ev l hb (by omega) 0 l.length (by omega) hl
  simp only [Int.natCast_zero, List.drop_zero, List.take_length] at this
  exact Ev.then this (Ev.some _)
end Go.Proofs.Yteejaaeglfpcmab.PX

set_option linter.unusedVariables false
set_option linter.unusedSimpArgs false
namespace Go.Proofs.Yteejaaeglfpcmab.PX
open Go.RowKit Go.Proofs.Yteejaaeglfpcmab.Rdr Go.Proofs.Yteejaaeglfpcmab.Aid Go.Proofs.YteejaaeglfpcmabW.PrintWords
def rngs (a p s : Nat) : Nat → List Int → List (Int × Int × Int)
  | 0, _ => []
  | m + 1, l => (num (l.take (4 * a)), num ((l.drop (4 * a)).take (4 * p)), num ((l.drop (4 * (a + p))).take (4 * s))) :: rngs a p s m (l.drop (4 * (a + p + s)))
theorem rngs_len (a p s : Nat) : ∀ (m : Nat) (l : List Int), (rngs a p s m l).length = m
  | 0, _ => rfl
  | m + 1, l => by simp only [rngs, List.length_cons, rngs_len a p s m]
def rng1 (q : Int × Int × Int) : S46 := ⟨q.1, q.2.1, q.2.2⟩
def rng2 (q : Int × Int × Int) : S45 := ⟨q.1, q.2.1, q.2.2⟩
theorem wadd (a b : Nat) (h : a + b ≤ 9000000) : wrap64 ((a : Int) + (b : Int)) = ((a + b : Nat) : Int) := by rw [w64 (by omega) (by omega)]; omega
theorem wfour (a : Nat) (h : a ≤ 1000000) : wrap64 (4 * (a : Int)) = ((4 * a : Nat) : Int) := by rw [w64 (by omega) (by omega)]; omega
theorem wfours (a p : Nat) (h : a + p ≤ 1000000) : wrap64 (((4 * a : Nat) : Int) + ((4 * p : Nat) : Int)) = ((4 * (a + p) : Nat) : Int) := by rw [w64 (by omega) (by omega)]; omega
theorem rng_loop (a p s : Nat) (ha : 1 ≤ a ∧ a ≤ 2) (hp : 1 ≤ p ∧ p ≤ 2) (hs : s ≤ 2) : ∀ (m : Nat) (l : List Int) (acc : List S46), isBytes l → l.length = 4 * (a + p + s) * m → l.length ≤ 1048576 → acc.length + m ≤ 1048576 →
    Ev (fun k => xlate_Ranges.l0 k (a : Int) (s : Int) (p : Int) (cellsOf l) acc) (acc ++ (rngs a p s m l).map rng1, true, 0) := by
  intro m
  induction m with
  | zero =>
    intro l acc hb hl h1 h2
    obtain rfl : l = [] := List.eq_nil_of_length_eq_zero (by simpa using hl)
    refine Ev.succ ?_
    simp only [xlate_Ranges.l0, rngs, cellsOf, List.map_nil, List.append_nil]
    exact Ev.neg (by decide) (Ev.some _)
  | succ m ih =>
    intro l acc hb hl h1 h2
    rw [Nat.mul_succ] at hl
    have hle : 4 * (a + p + s) ≤ l.length := by omega
    have hcl : a + p + s ≤ (cellsOf l).length := by rw [cells_len]; omega
    have p1 := wide_part l hb 0 a (by omega) ha.2
    have p2 := wide_part l hb a p (by omega) hp.2
    have p3 := wide_part l hb (a + p) s (by omega) hs
    simp only [Nat.zero_add, Nat.mul_zero, List.drop_zero] at p1
    have hd := cells_drop (a + p + s) l hle
    have h3 := ih (l.drop (4 * (a + p + s))) (acc ++ [rng1 (num (l.take (4 * a)), num ((l.drop (4 * a)).take (4 * p)), num ((l.drop (4 * (a + p))).take (4 * s)))]) (hb.drop _) (by rw [List.length_drop]; omega) (by rw [List.length_drop]; omega) (by rw [List.length_append, List.length_singleton]; omega)
    clear hl ih
    rw [List.append_assoc, List.singleton_append] at h3
    refine Ev.succ ?_
    simp only [xlate_Ranges.l0, wadd a p (by omega), wadd (a + p) s (by omega), Int.toNat_natCast, hd, rngs, List.map_cons]
    refine Ev.pos (by omega) (Ev.pos (Int.natCast_nonneg a) (Ev.pos (by omega) (Ev.then p1 (Ev.pos (by omega) (Ev.pos (by omega) (Ev.then p2 (Ev.pos (Int.natCast_nonneg _) (Ev.pos (by omega) (Ev.pos (by omega) (Ev.then p3 (Ev.pos (by omega) (Ev.pos (Int.natCast_nonneg _) h3))))))))))))
theorem refrng_loop (b : List Int) (hb : isBytes b) (hl : b.length ≤ 1048576) (a p s : Nat) (ha : 1 ≤ a ∧ a ≤ 2) (hp : 1 ≤ p ∧ p ≤ 2) (hs : s ≤ 2) : ∀ (m i : Nat) (acc : List S45), i + 4 * (a + p + s) * m = b.length → acc.length + m ≤ 1048576 →
    Ev (fun k => arboretref12_Ranges.l0 k b (a : Int) (s : Int) (p : Int) acc (i : Int)) (acc ++ (rngs a p s m (b.drop i)).map rng2, true, true) := by
  intro m
  induction m with
  | zero =>
    intro i acc hi h2
    refine Ev.succ ?_
    simp only [arboretref12_Ranges.l0, rngs, List.map_nil, List.append_nil]
    exact Ev.neg (by omega) (Ev.some _)
  | succ m ih =>
    intro i acc hi h2
    rw [Nat.mul_succ] at hi
    have e0 : (b.take (i + 4 * (a + p + s))).drop i = (b.drop i).take (4 * (a + p + s)) := by rw [List.drop_take]; congr 1; omega
    have hxl : ((b.drop i).take (4 * (a + p + s))).length = 4 * (a + p + s) := by rw [List.length_take, List.length_drop]; omega
    have e1 : ((b.drop i).take (4 * (a + p + s))).take (4 * a) = (b.drop i).take (4 * a) := by rw [List.take_take]; congr 1; omega
    have e2 : (((b.drop i).take (4 * (a + p + s))).take (4 * (a + p))).drop (4 * a) = ((b.drop i).drop (4 * a)).take (4 * p) := by rw [List.take_take, List.drop_take]; congr 1; omega
    have e3 : ((b.drop i).take (4 * (a + p + s))).drop (4 * (a + p)) = ((b.drop i).drop (4 * (a + p))).take (4 * s) := by rw [List.drop_take]; congr 1; omega
    have p1 := refwide_ev ((b.drop i).take (4 * a)) ((hb.drop _).take _) (by rw [List.length_take]; omega)
    have p2 := refwide_ev (((b.drop i).drop (4 * a)).take (4 * p)) (((hb.drop _).drop _).take _) (by rw [List.length_take]; omega)
    have p3 := refwide_ev (((b.drop i).drop (4 * (a + p))).take (4 * s)) (((hb.drop _).drop _).take _) (by rw [List.length_take]; omega)
    have h3 := ih (i + 4 * (a + p + s)) (acc ++ [rng2 (num ((b.drop i).take (4 * a)), num (((b.drop i).drop (4 * a)).take (4 * p)), num (((b.drop i).drop (4 * (a + p))).take (4 * s)))]) (by omega) (by rw [List.length_append, List.length_singleton]; omega)
    rw [List.append_assoc, List.singleton_append, ← List.drop_drop] at h3
    refine Ev.succ ?_
    simp only [arboretref12_Ranges.l0, wadd a p (by omega), wadd (a + p) s (by omega), wfour (a + p + s) (by omega), wfour a (by omega), wfour p (by omega), wfours a p (by omega), wadd i (4 * (a + p + s)) (by omega), Int.toNat_natCast, e0, hxl, e1, e2, e3, rngs, List.map_cons]
    exact Ev.pos (by omega) (Ev.pos (Int.natCast_nonneg i) (Ev.pos (by omega) (Ev.pos (by omega) (Ev.pos (Int.natCast_nonneg _) (Ev.pos (by omega) (Ev.then p1 (Ev.pos (by omega) (Ev.pos (by omega) (Ev.then p2 (Ev.pos (Int.natCast_nonneg _) (Ev.then p3 (Ev.pos (by omega) h3))))))))))))
abbrev sRanges : ByteArray := ⟨#[114, 97, 110, 103, 101, 115]⟩
def allRng : Int × Int × Int := (0, 0, 18446744073709551615)
def rngB (par x : S30) (b : List Int) : List (Int × Int × Int) × Bool × Bool :=
  if 0 ≤ cAddr x ∧ 0 ≤ cSize x ∧ 0 ≤ cAddr par ∧ 0 ≤ cSize par ∧ cAddr x ≠ 0 ∧ cAddr par ≠ 0 ∧ b.length % (4 * ((cAddr x).toNat + (cAddr par).toNat + (cSize x).toNat)) = 0 then
    (if b.length = 0 then ([allRng], true, true) else (rngs (cAddr x).toNat (cAddr par).toNat (cSize x).toNat (b.length / (4 * ((cAddr x).toNat + (cAddr par).toNat + (cSize x).toNat))) b, true, true))
  else ([], false, false)
theorem rngB_no {par x : S30} {b : List Int} (h : ¬ (0 ≤ cAddr x ∧ 0 ≤ cSize x ∧ 0 ≤ cAddr par ∧ 0 ≤ cSize par ∧ cAddr x ≠ 0 ∧ cAddr par ≠ 0 ∧ b.length % (4 * ((cAddr x).toNat + (cAddr par).toNat + (cSize x).toNat)) = 0)) : rngB par x b = ([], false, false) := if_neg h
theorem rngB_all {par x : S30} {a p s : Nat} (ha : cAddr x = (a : Int)) (hp : cAddr par = (p : Int)) (hs : cSize x = (s : Int)) (hq : 0 ≤ cSize par) (h0 : ¬ (a : Int) = 0) (h1 : ¬ (p : Int) = 0) : rngB par x [] = ([allRng], true, true) := by
  unfold rngB
  rw [if_pos ⟨by omega, by omega, by omega, hq, by omega, by omega, by simp⟩]
  rfl
theorem rngB_yes {par x : S30} {b : List Int} {a p s : Nat} (ha : cAddr x = (a : Int)) (hp : cAddr par = (p : Int)) (hs : cSize x = (s : Int)) (hq : 0 ≤ cSize par) (h0 : ¬ (a : Int) = 0) (h1 : ¬ (p : Int) = 0) (h4 : b.length % (4 * (a + p + s)) = 0) (hb : b.length ≠ 0) :
    rngB par x b = (rngs a p s (b.length / (4 * (a + p + s))) b, true, true) := by
  unfold rngB
  rw [ha, hp, hs, Int.toNat_natCast, Int.toNat_natCast, Int.toNat_natCast, if_pos ⟨Int.natCast_nonneg a, Int.natCast_nonneg s, Int.natCast_nonneg p, hq, h0, h1, h4⟩, if_neg hb]
def rngSpec (par x : S30) : List (Int × Int × Int) × Bool × Bool := match valP sRanges.toList x.f1 with
  | none => ([], false, true)
  | some b => rngB par x b
def rngE (b : Bool) : Int := if b = true then 0 else 10
theorem countsOf_yes {x : S30} (h : 0 ≤ cAddr x ∧ 0 ≤ cSize x) : countsOf x = (cAddr x, cSize x, 0) := if_pos h
theorem countsOf_no {x : S30} (h : ¬ (0 ≤ cAddr x ∧ 0 ≤ cSize x)) : countsOf x = (0, 0, 10) := if_neg h
theorem ranges_ev (par x : S30) (hp : bulk30 par ≤ 1048576) (hx : bulk30 x ≤ 1048576) (gp : good30 par) (gx : good30 x) :
    Ev (fun k => xlate_Ranges.f k par.f0 par.f1 par.f2 x.f0 x.f1 x.f2) ((rngSpec par x).1.map rng1, (rngSpec par x).2.1, rngE (rngSpec par x).2.2) := by
  have ra := cAddr_range x gx
  have rs := cSize_range x gx
  have rp := cAddr_range par gp
  unfold xlate_Ranges.f
  refine Ev.then (find_ev x sRanges hx) ?_
  unfold findN rngSpec
  cases hv : valP sRanges.toList x.f1 with
  | none => exact Ev.neg (by decide) (Ev.some _)
  | some b =>
    obtain ⟨q, hpm, rfl⟩ := valP_mem hv
    have hby : isBytes q.f1 := good_value q (((good_eq x).mp gx).1 q hpm)
    have hbl := bulk_prop hpm
    have hbv := bulk_value q
    generalize q.f1 = b at *
    dsimp only
    refine Ev.pos rfl (Ev.then (counts_ev x hx gx) ?_)
    by_cases h : 0 ≤ cAddr x ∧ 0 ≤ cSize x
    · rw [countsOf_yes h]
      refine Ev.pos rfl (Ev.then (counts_ev par hp gp) ?_)
      by_cases g : 0 ≤ cAddr par ∧ 0 ≤ cSize par
      · rw [countsOf_yes g]
        refine Ev.pos rfl ?_
        obtain ⟨a, ha⟩ := Int.eq_ofNat_of_zero_le h.1
        obtain ⟨s, hs⟩ := Int.eq_ofNat_of_zero_le h.2
        obtain ⟨p, hpp⟩ := Int.eq_ofNat_of_zero_le g.1
        have ha2 : (a : Int) ≤ 2 := by omega
        have hs2 : (s : Int) ≤ 2 := by omega
        have hp2 : (p : Int) ≤ 2 := by omega
        have ht : (cAddr x).toNat + (cAddr par).toNat + (cSize x).toNat = a + p + s := by rw [ha, hs, hpp]; rfl
        simp only [ha, hs, hpp]
        have refuse : Ev (fun k => xlate_Ranges.j0 k b (a : Int) (s : Int) (p : Int) true) ([], false, 10) := by
          refine Ev.succ ?_
          simp only [xlate_Ranges.j0]
          exact Ev.pos trivial (Ev.some _)
        by_cases h0 : (a : Int) = 0
        · rw [rngB_no (fun h => h.2.2.2.2.1 (by omega))]
          exact Ev.pos h0 refuse
        refine Ev.neg h0 ?_
        by_cases h1 : (p : Int) = 0
        · rw [rngB_no (fun h => h.2.2.2.2.2.1 (by omega))]
          exact Ev.pos h1 refuse
        refine Ev.neg h1 ?_
        have w : wrap64 (4 * (wrap64 ((wrap64 ((a : Int) + (p : Int))) + (s : Int)))) = ((4 * (a + p + s) : Nat) : Int) := by
          rw [w64 (x := (a : Int) + (p : Int)) (by omega) (by omega), w64 (x := (a : Int) + (p : Int) + (s : Int)) (by omega) (by omega), w64 (by omega) (by omega)]
          omega
        simp only [w]
        refine Ev.neg (by omega) ?_
        by_cases h4 : b.length % (4 * (a + p + s)) = 0
        · have hb0 : (((b.length : Int) % ((4 * (a + p + s) : Nat) : Int)) != 0) = false := by
            rw [bne_eq_false_iff_eq]
            omega
          rw [hb0]
          refine Ev.succ ?_
          simp only [xlate_Ranges.j0]
          refine Ev.neg (by decide) ?_
          by_cases hz : b.length = 0
          · obtain rfl : b = [] := List.eq_nil_of_length_eq_zero hz
            rw [rngB_all ha hpp hs g.2 h0 h1]
            exact Ev.pos rfl (Ev.some _)
          · rw [rngB_yes ha hpp hs g.2 h0 h1 h4 hz]
            have hm : b.length % 4 = 0 := by
              have := Nat.mod_mul_right_mod b.length 4 (a + p + s)
              rw [h4] at this
              omega
            have hc := cells_ev b hby (by omega)
            rw [if_pos hm] at hc
            have hdiv : b.length = 4 * (a + p + s) * (b.length / (4 * (a + p + s))) := by
              have := Nat.div_add_mod b.length (4 * (a + p + s))
              omega
            have hle : b.length / (4 * (a + p + s)) ≤ b.length := Nat.div_le_self _ _
            have hl := rng_loop a p s ⟨by omega, by omega⟩ ⟨by omega, by omega⟩ (by omega : s ≤ 2) (b.length / (4 * (a + p + s))) b [] hby hdiv (by omega) (by simp only [List.length_nil, Nat.zero_add]; exact Nat.le_trans hle (by omega))
            simp only [List.nil_append] at hl
            exact Ev.neg (by omega) (Ev.then hc hl)
        · have hb0 : (((b.length : Int) % ((4 * (a + p + s) : Nat) : Int)) != 0) = true := by
            rw [bne_iff_ne]
            omega
          rw [hb0, rngB_no (fun h => h4 (by have z := h.2.2.2.2.2.2; rw [ht] at z; exact z))]
          exact refuse
      · rw [countsOf_no g, rngB_no (fun h2 => g ⟨h2.2.2.1, h2.2.2.2.1⟩)]
        exact Ev.neg (by decide) (Ev.some _)
    · rw [countsOf_no h, rngB_no (fun h2 => h ⟨h2.1, h2.2.1⟩)]
      exact Ev.neg (by decide) (Ev.some _)
theorem refranges_ev (par x : S30) (hp : bulk30 par ≤ 1048576) (hx : bulk30 x ≤ 1048576) (gp : good30 par) (gx : good30 x) :
    Ev (fun k => arboretref12_Ranges.f k par.f0 par.f1 par.f2 x.f0 x.f1 x.f2) ((rngSpec par x).1.map rng2, (rngSpec par x).2.1, (rngSpec par x).2.2) := by
  have ra := cAddr_range x gx
  have rs := cSize_range x gx
  have rp := cAddr_range par gp
  unfold arboretref12_Ranges.f
  refine Ev.then (reffind_ev x sRanges hx) ?_
  unfold rngSpec
  rcases ixP_val sRanges.toList x.f1 0 with ⟨h1, h2⟩ | ⟨j, hj, h2, h3⟩
  · rw [h1, h2]
    exact Ev.pos (by decide) (Ev.some _)
  · rw [h2, h3, Nat.zero_add]
    have hpm := getP (xs := x.f1) (i := j) hj
    have hby : isBytes (x.f1.getD j z77).f1 := good_value _ (((good_eq x).mp gx).1 _ hpm)
    have hbl := bulk_prop hpm
    have hbv := bulk_value (x.f1.getD j z77)
    simp only [rdP]
    generalize (x.f1.getD j z77).f1 = b at *
    refine Ev.neg (by omega) (Ev.pos (Int.natCast_nonneg j) (Ev.pos (by omega) (Ev.then (refcounts_ev x hx gx) (Ev.then (refcounts_ev par hp gp) ?_))))
    have refuse : ∀ u v t : Int, Ev (fun k => arboretref12_Ranges.j0 k b u v t true) ([], false, false) := by
      intro u v t
      refine Ev.succ ?_
      simp only [arboretref12_Ranges.j0]
      exact Ev.pos trivial (Ev.some _)
    by_cases h : 0 ≤ cAddr x ∧ 0 ≤ cSize x
    · rw [decide_eq_true h]
      refine Ev.pos rfl ?_
      by_cases g : 0 ≤ cAddr par ∧ 0 ≤ cSize par
      · rw [decide_eq_true g]
        refine Ev.pos rfl ?_
        obtain ⟨a, ha⟩ := Int.eq_ofNat_of_zero_le h.1
        obtain ⟨s, hs⟩ := Int.eq_ofNat_of_zero_le h.2
        obtain ⟨p, hpp⟩ := Int.eq_ofNat_of_zero_le g.1
        have ha2 : (a : Int) ≤ 2 := by omega
        have hs2 : (s : Int) ≤ 2 := by omega
        have hp2 : (p : Int) ≤ 2 := by omega
        have ht : (cAddr x).toNat + (cAddr par).toNat + (cSize x).toNat = a + p + s := by rw [ha, hs, hpp]; rfl
        simp only [ha, hs, hpp]
        by_cases h0 : (a : Int) = 0
        · rw [rngB_no (fun h => h.2.2.2.2.1 (by omega))]
          exact Ev.pos h0 (refuse _ _ _)
        refine Ev.neg h0 ?_
        by_cases h1 : (p : Int) = 0
        · rw [rngB_no (fun h => h.2.2.2.2.2.1 (by omega))]
          exact Ev.pos h1 (refuse _ _ _)
        refine Ev.neg h1 ?_
        have w : wrap64 (4 * (wrap64 ((wrap64 ((a : Int) + (p : Int))) + (s : Int)))) = ((4 * (a + p + s) : Nat) : Int) := by
          rw [w64 (x := (a : Int) + (p : Int)) (by omega) (by omega), w64 (x := (a : Int) + (p : Int) + (s : Int)) (by omega) (by omega), w64 (by omega) (by omega)]
          omega
        simp only [w]
        refine Ev.neg (by omega) ?_
        by_cases h4 : b.length % (4 * (a + p + s)) = 0
        · have hb0 : (((b.length : Int) % ((4 * (a + p + s) : Nat) : Int)) != 0) = false := by
            rw [bne_eq_false_iff_eq]
            omega
          rw [hb0]
          refine Ev.succ ?_
          simp only [arboretref12_Ranges.j0]
          refine Ev.neg (by decide) ?_
          by_cases hz : b.length = 0
          · obtain rfl : b = [] := List.eq_nil_of_length_eq_zero hz
            rw [rngB_all ha hpp hs g.2 h0 h1]
            exact Ev.pos rfl (Ev.some _)
          · rw [rngB_yes ha hpp hs g.2 h0 h1 h4 hz]
            have hdiv : 0 + 4 * (a + p + s) * (b.length / (4 * (a + p + s))) = b.length := by
              have := Nat.div_add_mod b.length (4 * (a + p + s))
              omega
            have hle : b.length / (4 * (a + p + s)) ≤ b.length := Nat.div_le_self _ _
            have hl := refrng_loop b hby (by omega) a p s ⟨by omega, by omega⟩ ⟨by omega, by omega⟩ (by omega) (b.length / (4 * (a + p + s))) 0 [] hdiv (by simp only [List.length_nil]; omega)
            simp only [List.nil_append, List.drop_zero] at hl
            exact Ev.neg (by omega) hl
        · have hb0 : (((b.length : Int) % ((4 * (a + p + s) : Nat) : Int)) != 0) = true := by
            rw [bne_iff_ne]
            omega
          rw [hb0, rngB_no (fun h => h4 (by have z := h.2.2.2.2.2.2; rw [ht] at z; exact z))]
          exact refuse _ _ _
      · rw [decide_eq_false g, rngB_no (fun h2 => g ⟨h2.2.2.1, h2.2.2.2.1⟩)]
        exact Ev.neg (fun h => Bool.noConfusion h) (refuse _ _ _)
    · rw [decide_eq_false h, rngB_no (fun h2 => h ⟨h2.1, h2.2.1⟩)]
      exact Ev.neg (fun h => Bool.noConfusion h) (refuse _ _ _)
theorem rngSpec_len (par x : S30) (hx : bulk30 x ≤ 1048576) : (rngSpec par x).1.length ≤ 1048576 := by
  unfold rngSpec
  cases hv : valP sRanges.toList x.f1 with
  | none => simp
  | some b =>
    obtain ⟨p, hpm, rfl⟩ := valP_mem hv
    have hbl := bulk_prop hpm
    have hbv := bulk_value p
    simp only [rngB]
    split
    · split
      · simp
      · rw [rngs_len]
        have := Nat.div_le_self p.f1.length (4 * ((cAddr x).toNat + (cAddr par).toNat + (cSize x).toNat))
        omega
    · simp
theorem rngSpec_no (par x : S30) (h : (rngSpec par x).2.2 = false) : (rngSpec par x).1 = [] ∧ (rngSpec par x).2.1 = false := by
  unfold rngSpec at h ⊢
  cases hv : valP sRanges.toList x.f1 with
  | none => exact ⟨rfl, rfl⟩
  | some b =>
    rw [hv] at h
    simp only [rngB] at h ⊢
    split
    · rename_i hc
      rw [if_pos hc] at h
      split at h <;> cases h
    · exact ⟨rfl, rfl⟩
end Go.Proofs.Yteejaaeglfpcmab.PX

set_option linter.unusedVariables false
set_option linter.unusedSimpArgs false
namespace Go.Proofs.Yteejaaeglfpcmab.Pure
open Go.RowKit Go.Proofs.Yteejaaeglfpcmab.PX Go.Proofs.Yteejaaeglfpcmab.Rdr Go.Proofs.Yteejaaeglfpcmab.Aid Go.Proofs.YteejaaeglfpcmabW.PrintWords
theorem xlate_awake : Ev (fun k => arboretlaw13_awake.f k) true := Ev.of (k := 6) (fun k => arboretlaw13_awake.mono k) (by decide +kernel)
theorem same_ranges (l : List (Int × Int × Int)) (hl : l.length ≤ 1048576) : ∀ (j i : Nat), i + j = l.length → Ev (fun k => arboretlaw13_XlateRanges.l0 k (l.map rng1) (l.map rng2) (l.length : Int) (i : Int)) true := by
  intro j
  induction j with
  | zero =>
    intro i hi
    refine Ev.succ ?_
    simp only [arboretlaw13_XlateRanges.l0]
    exact Ev.neg (by omega) (Ev.some _)
  | succ j ih =>
    intro i hi
    have hw := step64 (i := i) (n := l.length) (by omega) hl
    have e1 : rd_T46 (l.map rng1) (i : Int) = rng1 (l[i]'(by omega)) := by
      unfold rd_T46
      rw [Int.toNat_natCast, getD_at (by rw [List.length_map]; omega), List.getElem_map]
    have e2 : rd_T45 (l.map rng2) (i : Int) = rng2 (l[i]'(by omega)) := by
      unfold rd_T45
      rw [Int.toNat_natCast, getD_at (by rw [List.length_map]; omega), List.getElem_map]
    refine Ev.succ ?_
    simp only [arboretlaw13_XlateRanges.l0, hw, e1, e2, List.length_map]
    exact Ev.pos (by omega) (Ev.pos (Int.natCast_nonneg i) (Ev.pos (by omega) (Ev.pos (by omega) (Ev.neg (by simp [rng1, rng2]) (ih (i + 1) (by omega))))))
theorem XlateRanges : arboretlaw13_XlateRanges.Pure := by
  intro par x hb gp gx
  have hp : bulk30 par ≤ 1048576 := by omega
  have hx : bulk30 x ≤ 1048576 := by omega
  obtain ⟨v1, h1⟩ := few_ends 0 [] par hp
  obtain ⟨v2, h2⟩ := few_ends 0 [] x hx
  have last : ∀ b : Bool, Ev (fun k => arboretlaw13_XlateRanges.j0 k b par.f0 par.f1 par.f2 x.f0 x.f1 x.f2) true := by
    intro b
    refine Ev.succ ?_
    simp only [arboretlaw13_XlateRanges.j0]
    cases b with
    | true => exact Ev.pos rfl (Ev.then xlate_awake (Ev.some _))
    | false =>
      refine Ev.neg (by decide) (Ev.then (ranges_ev par x hp hx gp gx) (Ev.then (refranges_ev par x hp hx gp gx) ?_))
      cases hk : (rngSpec par x).2.2 with
      | true =>
        refine Ev.pos rfl (Ev.pos rfl (Ev.neg (by simp) (Ev.succ ?_)))
        simp only [arboretlaw13_XlateRanges.j1, List.length_map]
        refine Ev.neg (by simp) ?_
        have := same_ranges (rngSpec par x).1 (rngSpec_len par x hx) (rngSpec par x).1.length 0 (by omega)
        simpa using this
      | false =>
        have he := rngSpec_no par x hk
        rw [he.1, he.2]
        exact Ev.neg (by decide) (Ev.pos rfl (Ev.neg (by decide) (Ev.some _)))
  refine Ev.out (?_ : Ev (fun k => arboretlaw13_XlateRanges.f k par.f0 par.f1 par.f2 x.f0 x.f1 x.f2) true)
  unfold arboretlaw13_XlateRanges.f
  refine Ev.then xlate_awake (Ev.pos rfl (Ev.then h1 ?_))
  cases v1 with
  | true => exact Ev.pos rfl (Ev.then h2 (last _))
  | false => exact Ev.neg (by decide) (last _)
end Go.Proofs.Yteejaaeglfpcmab.Pure

namespace Go.Proofs.Yteejaaeglfpcmab.xlateRanges
open Go.ChangeShapes Go.WideShapes Go.ChangeAt Go.RowKit Go.Proofs.Yteejaaeglfpcmab.Rdr Go.Proofs.Yteejaaeglfpcmab.PX
open Go.ChangeMaps (open_string shut_string)
set_option linter.unusedVariables false
set_option linter.unusedSimpArgs false
theorem own : ownKnob Try.prog.godebug = none := by kernel_rfl
theorem laidOut : laidOutB Try.prog = true := by kernel_rfl
set_option maxRecDepth 100000 in
theorem contract (H : Type) (enc : TypeId × Value → H) (W : World) (base : Nat) (args : Array Value) (ds gs : List (DataW H)) (before : List MemPlace)
    (hval0 : ∀ (j : Nat) t v, Try.f4.params[j]? = some t → args[j]? = some v → Value.okWide Try.prog W .any base t v)
    (hW : DataW.Whole enc Try.prog Try.f4.params.toList Rows.xlateRangesSpec.vars false W args.toList ds gs before) (hk : Rows.uptoSmall H (ds ++ gs) = true) :
    Calls Try.prog 4 args W fun e W' => ∃ v, e = .returned v ∧ Rows.xlateRangesSpec.post enc Try.prog Try.f4 false true false false W args v W' := by
  have hval : ∀ (j : Nat) t v, Try.f4.params[j]? = some t → args[j]? = some v → Value.okWide Try.prog W .any base t v := hval0
  have hW' := hW
  obtain ⟨p, q, hA0, hV, rfl, hfz, hnd⟩ := hW
  have hA : DataW.TrodAll enc Try.prog W 0 (fun _ => true) true Try.f4.params.toList args.toList ds p := hA0
  rw [Try.params4] at hA hval
  obtain ⟨v0, vs0, d0, ds0, p0, q0, hargs, rfl, rfl, h0, tr0⟩ := trodAll_cons hA
  obtain ⟨v1, vs1, d1, ds1, p1, q1, rfl, rfl, rfl, h1, tr1⟩ := trodAll_cons tr0
  obtain ⟨rfl, rfl, rfl⟩ := trodAll_nil tr1
  obtain rfl : args = #[v0, v1] := by cases args; simp_all
  obtain ⟨rfl, rfl⟩ := trodVars_none hV
  have hb := bound hk
  simp only [List.append_nil, Rows.uptoBulkAll, List.nil_append] at hb
  have k0 := h0
  have lt0 : ∀ x ∈ p0, x.block < W.heap.size := by obtain ⟨m, hm⟩ := k0; exact DataW.trod_lt m _ _ _ hm
  have k1 := h1
  have lt1 : ∀ x ∈ p1, x.block < W.heap.size := by obtain ⟨m, hm⟩ := k1; exact DataW.trod_lt m _ _ _ hm
  obtain ⟨cs0, rfl, hcs0⟩ : ∃ cs, v0 = .agg cs ∧ True := by
    have z := (hval 0 30 v0 rfl rfl)
    simp only [Value.okWide, Try.underlying30] at z
    obtain ⟨cs, hc, _⟩ := z
    exact ⟨cs, hc, trivial⟩
  obtain ⟨f0, hf0⟩ := h0
  obtain ⟨x0, K0, b0, g0⟩ := rd30 W f0 H enc f0 (Nat.le_refl _) _ _ hf0
  obtain ⟨A0_1, c0_1, A0_2, c0_2, e0, l0_1, r0_1, l0_2, r0_2⟩ := k30_open K0
  obtain ⟨cl0⟩ := cs0
  have e0' : cl0 = _ := e0
  subst e0'
  obtain ⟨cs1, rfl, hcs1⟩ : ∃ cs, v1 = .agg cs ∧ True := by
    have z := (hval 1 30 v1 rfl rfl)
    simp only [Value.okWide, Try.underlying30] at z
    obtain ⟨cs, hc, _⟩ := z
    exact ⟨cs, hc, trivial⟩
  obtain ⟨f1, hf1⟩ := h1
  obtain ⟨x1, K1, b1, g1⟩ := rd30 W f1 H enc f1 (Nat.le_refl _) _ _ hf1
  obtain ⟨A1_1, c1_1, A1_2, c1_2, e1, l1_1, r1_1, l1_2, r1_2⟩ := k30_open K1
  obtain ⟨cl1⟩ := cs1
  have e1' : cl1 = _ := e1
  subst e1'
  obtain ⟨k, hk_⟩ := Pure.XlateRanges x0 x1 (by (try simp only [Rows.uptoBulk, Array.length_toList] at hb); first | omega | (simp only [ByteArray.size] at *; omega)) g0 g1
  refine (arboretlaw13_XlateRanges.calls k x0.f0 A0_1 c0_1 x0.f1 A0_2 c0_2 x0.f2 x1.f0 A1_1 c1_1 x1.f1 A1_2 c1_2 x1.f2 true W r0_1 l0_1 r0_2 l0_2 r1_1 l1_1 r1_2 l1_2 hk_).mono fun e W' ⟨he, bel0⟩ => ?_
  have bel : Below W.heap.size W W' := bel0
  subst he
  exact ⟨_, rfl, _, _, _, [], _, [], hW', trodAll_mk1 (shut_bool Try.underlying4 _), (trodAll_cons_mk (Below.trod laidOut (by kernel_rfl) (of_decide_eq_true (by kernel_rfl)) k0 bel lt0) (trodAll_cons_mk (Below.trod laidOut (by kernel_rfl) (of_decide_eq_true (by kernel_rfl)) k1 bel lt1) trodAll_mk0)), rfl, bel.frame _, fun h => by cases h⟩
set_option maxRecDepth 100000 in
theorem lifted (os : Os) (started : os.Started) (H : Type) (enc : TypeId × Value → H) (F : Stop.Interp) :
    ReturnsInHanded {} Try.checked os 4 .any ((Rows.OpenSpec.upto Rows.xlateRangesSpec).pre6 enc Try.prog Try.f4 Rows.xlateRangesUptoRow.domain false) (((Rows.OpenSpec.upto Rows.xlateRangesSpec).at F).post enc Try.prog Try.f4 false true false false) := by
  refine returnsInHanded_of_cond (C := Try.checked) (s := Rows.OpenSpec.upto Rows.xlateRangesSpec) (k := Rows.uptoSmall) rfl own started (by kernel_rfl) Try.func4
    (OpenSpec.witness (enc := enc) (C := Try.checked) (s := Rows.OpenSpec.upto Rows.xlateRangesSpec) (k := Rows.uptoSmall) rfl false ⟨#[], #[.agg #[.string ByteArray.empty, .slice none 0 0, .slice none 0 0], .agg #[.string ByteArray.empty, .slice none 0 0, .slice none 0 0]], []⟩ 16 (by kernel_rfl) (by kernel_rfl) (by kernel_rfl)
      (x := ([.agg [.lit (.string []), .nil, .nil], .agg [.lit (.string []), .nil, .nil]], [], [])) (by kernel_rfl) rfl (by kernel_rfl)) ?_
  intro W base args ds gs before hval hW _ hk _
  exact contract H enc W base args ds gs before hval hW hk
theorem over : Rows.xlateRangesUptoRow.holds Try.pinned (Rows.OpenSpec.upto Rows.xlateRangesSpec) :=
  OpenClaim.holds_of_cond 4 Try.f4 rfl rfl rfl rfl rfl rfl rfl ⟨rfl, rfl, rfl, rfl, rfl⟩ rfl rfl rfl rfl rfl (by kernel_rfl) Try.func4 (by kernel_rfl)
    (of_decide_eq_true (by kernel_rfl)) (by unfold Func.isWrapper; first | (rw [if_pos (by decide +kernel)]; kernel_rfl) | (rw [if_neg (by decide +kernel)]; exact ⟨rfl, rfl⟩))
    (fun os started H enc _ F => lifted os started H enc F)
theorem proved : Rows.XlateRangesUptoSaid := over
end Go.Proofs.Yteejaaeglfpcmab.xlateRanges
namespace Go.Proofs.Yteejaaeglfpcmab
theorem xlateRanges_holds : Rows.XlateRangesUptoSaid := xlateRanges.proved
end Go.Proofs.Yteejaaeglfpcmab
