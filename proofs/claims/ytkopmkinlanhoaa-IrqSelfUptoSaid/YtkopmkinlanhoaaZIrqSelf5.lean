/- IrqSelf: texts of this session's, and what the kit's print laid for this seat, as far as the law's row uses them (Name, Form, PureIrqSelf, LawIrqSelf). -/
import Derived.Test.YtkopmkinlanhoaaZIrqSelf4
set_option linter.unusedVariables false
set_option linter.unusedSimpArgs false
namespace Go.Proofs.Ytkopmkinlanhoaa.PB
open Go.RowKit Go.Proofs.Ytkopmkinlanhoaa.Aid Go.Proofs.YtkopmkinlanhoaaW.PrintWords
def letterB (c : Int) : Bool := (decide (97 ≤ c) && decide (c ≤ 122)) || (decide (65 ≤ c) && decide (c ≤ 90))
def plainB (c : Int) : Bool := letterB c || (decide (48 ≤ c) && decide (c ≤ 57)) || c == 44 || c == 46 || c == 95 || c == 43 || c == 45
theorem byte_all {p : Int → Prop} (h : ∀ n : Fin 256, p (n.val : Int)) {c : Int} (h0 : 0 ≤ c) (h1 : c ≤ 255) : p c := by
 have := h ⟨c.toNat, Zq1⟩; simp only at this
 rwa [Int.toNat_of_nonneg h0] at this
theorem stands_f {c : Int} (h0 : 0 ≤ c) (h1 : c ≤ 255) : arboretref01_stands.f c = some (plainB c) := byte_all (p := fun c => arboretref01_stands.f c = some (plainB c)) (by decide +kernel) h0 h1
theorem bytesOf_range (s : ByteArray) : ∀ b ∈ bytesOf s, 0 ≤ b ∧ b ≤ 255 := by
 intro b hb; simp only [bytesOf, List.mem_map] at hb; obtain ⟨u, _, rfl⟩ := hb; have := u.toNat_lt
 omega
theorem bytesOf_at (s : ByteArray) (i : Nat) (h : i < (bytesOf s).length) : bt s (i : Int) = (bytesOf s)[i] := by
 rw [← rd_bytesOf]
 simp [rd, List.getD_eq_getElem?_getD, List.getElem?_eq_getElem h]
theorem bytesOf_upto (s : ByteArray) (k : Nat) : bytesOf (s.extract 0 k) = (bytesOf s).take k := by
 unfold bytesOf; rw [Lib.Pa.extract_upto_list, List.map_take]
theorem bytesOf_from (s : ByteArray) (k : Nat) : bytesOf (s.extract k s.size) = (bytesOf s).drop k := by
 unfold bytesOf; rw [Lib.Pa.extract_from, ← List.map_drop]
def idx (c : Int) : List Int → Int
 | [] => -1
 | a :: l => if a = c then 0 else if idx c l = -1 then -1 else idx c l + 1
theorem idx_range (c : Int) : ∀ l : List Int, idx c l = -1 ∨ (0 ≤ idx c l ∧ idx c l < l.length)
 | [] => .inl rfl
 | a :: l => by
  have ih := idx_range c l; simp only [idx, List.length_cons]
  by_cases h : a = c
  ·rw [if_pos h]; right; omega
  ·rw [if_neg h]
   by_cases h1 : idx c l = -1
   ·rw [if_pos h1]; left; rfl
   ·rw [if_neg h1]; right; omega
theorem idx_split (c : Int) : ∀ (l : List Int) (j : Nat), idx c l = (j : Int) → l = l.take j ++ c :: l.drop (j + 1)
 | [], j, h => by simp [idx] at h
 | a :: l, j, h => by
  simp only [idx] at h
  by_cases h0 : a = c
  ·rw [if_pos h0] at h
   have : j = 0 := by omega
   subst this; subst h0; simp
  ·rw [if_neg h0] at h
   by_cases h1 : idx c l = -1
   ·rw [if_pos h1] at h; omega
   ·rw [if_neg h1] at h
    obtain ⟨j, rfl⟩ : ∃ m, j = m + 1 := ⟨j - 1, by have := idx_range c l; omega⟩
    have := idx_split c l j Zq1; simp only [List.take_succ_cons, List.drop_succ_cons, List.cons_append]; rw [← this]
theorem refcut_ev (s : ByteArray) (hs : s.size ≤ 140737488351232) : Ev (fun k => arboretref01_Cut.f k s) (idx 64 (bytesOf s)) := by
 have hn : (bytesOf s).length = s.size := bytesOf_length s; have main := loop (bytesOf s) (fun l => if idx 64 l = -1 then -1 else idx 64 l + ((s.size : Int) - l.length)) (fun k i => arboretref01_Cut.l0 k s (s.size : Int) i) ?_ ?_ 0 (Nat.zero_le _)
 ·have e : (if idx 64 ((bytesOf s).drop 0) = -1 then -1 else idx 64 ((bytesOf s).drop 0) + ((s.size : Int) - ((bytesOf s).drop 0).length)) = idx 64 (bytesOf s) := by
   rw [List.drop_zero, hn]
   split <;> omega
  rw [← e]
  exact main
 ·rw [hn]; refine Ev.succ ⟨0, fun k _ => ?_⟩; simp only [arboretref01_Cut.l0]; rw [if_neg Zq1]
  rfl
 ·intro i h ih; refine Ev.succ ?_
  have hw : wrap64 ((i : Int) + 1) = ((i + 1 : Nat) : Int) := by rw [w64 Zq1 Zq1]; omega
  simp only [arboretref01_Cut.l0, bytesOf_at s i h, hw]; refine Ev.pos Zq1 (Ev.pos (Int.natCast_nonneg i) (Ev.pos Zq1 ?_))
  have hl : ((bytesOf s).drop (i + 1)).length = s.size - (i + 1) := by rw [List.length_drop, hn]
  simp only [idx, List.length_cons, hl]; simp only [hl] at ih
  by_cases hc : (bytesOf s)[i] = 64
  ·rw [if_pos hc, if_neg Zq1]; refine Ev.pos hc (Ev.fix ?_)
   congr 1
   omega
  ·rw [if_neg hc]; refine Ev.neg hc ?_
   by_cases h1 : idx 64 ((bytesOf s).drop (i + 1)) = -1
   ·rw [if_pos h1] at ih; rw [if_pos h1, if_pos rfl]
    exact ih
   ·rw [if_neg h1] at ih; have hr := idx_range 64 ((bytesOf s).drop (i + 1)); rw [if_neg h1, if_neg Zq1]
    have e : idx 64 ((bytesOf s).drop (i + 1)) + ((s.size : Int) - ((s.size - (i + 1) : Nat) : Int)) = idx 64 ((bytesOf s).drop (i + 1)) + 1 + ((s.size : Int) - ((s.size - (i + 1) + 1 : Nat) : Int)) := by omega
    rw [← e]
    exact ih
def cutB (s : ByteArray) : ByteArray × ByteArray × Bool := if idx 64 (bytesOf s) = -1 then (s, ⟨#[]⟩, false) else (s.extract 0 (idx 64 (bytesOf s)).toNat, s.extract ((idx 64 (bytesOf s)).toNat + 1) s.size, true)
def firstB (c : Int) : Bool := letterB c || c == 95
def unitB (l : List Int) : Bool := l.all plainB && (decide (1 ≤ l.length) && decide (l.length ≤ 31))
def baseB (l : List Int) : Bool := unitB l && firstB (l.getD 0 0)
def nodeB (s : ByteArray) : Bool := baseB (bytesOf (cutB s).1) && (!(cutB s).2.2 || unitB (bytesOf (cutB s).2.1))
def allBut (n : Nat) (at_ : Int) : List Int → Bool
 | [] => true
 | a :: l => (decide ((n : Int) - (l.length + 1 : Nat) = at_) || plainB a) && allBut n at_ l
theorem allBut_behind (n : Nat) (at_ : Int) : ∀ l : List Int, at_ < (n : Int) - l.length → allBut n at_ l = l.all plainB
 | [], _ => rfl
 | a :: l, h => by
  rw [List.length_cons] at h; have ih := allBut_behind n at_ l Zq1; simp only [allBut, List.all_cons, ih]; rw [decide_eq_false Zq1, Bool.false_or]
theorem allBut_at (n : Nat) (at_ : Int) (c : Int) (r : List Int) : ∀ l : List Int, (n : Int) = at_ + 1 + r.length → allBut n at_ (l ++ c :: r) = (l.all plainB && r.all plainB) := by
 intro l h
 induction l with
 | nil =>
  simp only [List.nil_append, allBut, List.all_nil, Bool.true_and]; rw [decide_eq_true Zq1, Bool.true_or, Bool.true_and, allBut_behind n at_ r Zq1]
 | cons a l ih =>
  simp only [List.cons_append, allBut, List.all_cons, ih, Bool.and_assoc]; rw [decide_eq_false (by simp only [List.length_append, List.length_cons]; omega), Bool.false_or]
def endB (l : List Int) : Bool := decide (1 ≤ l.length) && decide (l.length ≤ 31) && firstB (l.getD 0 0)
theorem refnode_loop (s b : ByteArray) (at_ : Int) (hs : s.size ≤ 140737488351232) :
  Ev (fun k => arboretref01_Node.j0 k s at_ b) (allBut s.size at_ (bytesOf s) && endB (bytesOf b)) := by
 have hn : (bytesOf s).length = s.size := bytesOf_length s; refine Ev.succ ?_; simp only [arboretref01_Node.j0]; have main := loop (bytesOf s) (fun l => allBut s.size at_ l && endB (bytesOf b)) (fun k i => arboretref01_Node.l0 k s at_ b (s.size : Int) i) ?_ ?_ 0 (Nat.zero_le _)
 ·exact main
 ·rw [hn]; refine Ev.succ ?_; simp only [arboretref01_Node.l0, allBut, Bool.true_and]; refine Ev.neg Zq1 ⟨0, fun k _ => ?_⟩; have hl : (bytesOf b).length = b.size := bytesOf_length _; unfold endB; rw [hl]
  by_cases h1 : (b.size : Int) ≥ 1
  ·rw [if_pos h1, decide_eq_true (by omega : 1 ≤ b.size)]
   by_cases h2 : (b.size : Int) ≤ 31
   ·have hp : 0 < (bytesOf b).length := by omega
    have e0 : bt b 0 = (bytesOf b).getD 0 0 := by
     rw [getD_at hp]
     exact bytesOf_at b 0 hp
    rw [if_pos h2, if_pos Zq1, decide_eq_true (by omega : b.size ≤ 31), e0]; obtain ⟨b0, b1⟩ := bytesOf_range b _ (List.getElem_mem hp); rw [← getD_at (d := 0) hp] at b0 b1; generalize (bytesOf b).getD 0 0 = c at b0 b1
    revert c
    intro c b0 b1
    exact byte_all (p := fun c => (if c = 95 then some true else if c ≥ 97 then if c ≤ 122 then some true else if c ≥ 65 then some (decide (c ≤ 90)) else some false else if c ≥ 65 then some (decide (c ≤ 90)) else some false) = some (true && true && firstB c)) (by decide +kernel) b0 b1
   ·rw [if_neg h2, decide_eq_false (by omega : ¬ b.size ≤ 31)]
    rfl
  ·rw [if_neg h1, decide_eq_false (by omega : ¬ 1 ≤ b.size)]
   rfl
 ·intro i h ih
  have hw : wrap64 ((i : Int) + 1) = ((i + 1 : Nat) : Int) := by rw [w64 Zq1 Zq1]; omega
  have hl : ((bytesOf s).drop (i + 1)).length = s.size - (i + 1) := by rw [List.length_drop, hn]
  refine Ev.succ ?_; simp only [arboretref01_Node.l0, allBut, hl, hw]; refine Ev.pos Zq1 ?_
  by_cases ha : (i : Int) = at_
  ·rw [decide_eq_true Zq1, Bool.true_or, Bool.true_and]
   exact Ev.pos ha ih
  ·rw [decide_eq_false Zq1, Bool.false_or]; obtain ⟨b0, b1⟩ := bytesOf_range s _ (List.getElem_mem h); simp only [bytesOf_at s i h, stands_f b0 b1, Option.bind_some]; refine Ev.neg ha (Ev.pos (Int.natCast_nonneg i) (Ev.pos Zq1 ?_))
   cases plainB (bytesOf s)[i] with
   | true => exact Ev.pos rfl (by rw [Bool.true_and]; exact ih)
   | false => exact Ev.neg Zq4 (Ev.some _)
theorem refnode_ev (s : ByteArray) (hs : s.size ≤ 140737488351232) : Ev (fun k => arboretref01_Node.f k s) (nodeB s) := by
 have hn : (bytesOf s).length = s.size := bytesOf_length s; have hr := idx_range 64 (bytesOf s); unfold arboretref01_Node.f
 refine Ev.then (refcut_ev s hs) ?_
 by_cases h : idx 64 (bytesOf s) = -1
 ·have e : nodeB s = (allBut s.size (-1) (bytesOf s) && endB (bytesOf s)) := by
   unfold nodeB baseB cutB unitB endB; rw [if_pos h, allBut_behind _ _ _ Zq1]; simp only [Bool.not_false, Bool.true_or, Bool.and_true, Bool.and_assoc]
  rw [e, h]
  exact Ev.neg Zq4 (refnode_loop s s (-1) hs)
 ·obtain ⟨j, hj⟩ : ∃ j : Nat, idx 64 (bytesOf s) = (j : Int) := ⟨(idx 64 (bytesOf s)).toNat, Zq1⟩
  have hsp := idx_split 64 (bytesOf s) j hj
  have e1 : bytesOf (cutB s).1 = (bytesOf s).take j := by
   unfold cutB; rw [if_neg h, hj, Int.toNat_natCast]
   exact bytesOf_upto s j
  have e2 : bytesOf (cutB s).2.1 = (bytesOf s).drop (j + 1) := by
   unfold cutB; rw [if_neg h, hj, Int.toNat_natCast]
   exact bytesOf_from s (j + 1)
  have e3 : (cutB s).2.2 = true := by
   unfold cutB; rw [if_neg h]
  have hdl : ((bytesOf s).drop (j + 1)).length = s.size - (j + 1) := by rw [List.length_drop, hn]
  have eall : allBut s.size (j : Int) (bytesOf s) = (((bytesOf s).take j).all plainB && ((bytesOf s).drop (j + 1)).all plainB) := by
   have := allBut_at s.size (j : Int) 64 ((bytesOf s).drop (j + 1)) ((bytesOf s).take j) (by rw [hdl]; omega); rw [← hsp] at this
   exact this
  have e : nodeB s = (decide (1 ≤ s.size - (j + 1)) && decide (s.size - (j + 1) ≤ 31) && (allBut s.size (j : Int) (bytesOf s) && endB (bytesOf (s.extract 0 j)))) := by
   rw [eall, bytesOf_upto]; unfold nodeB baseB unitB endB; rw [e1, e2, e3, hdl]; simp only [Bool.not_true, Bool.false_or]; generalize (List.all (List.take j (bytesOf s)) plainB) = a; generalize (List.all (List.drop (j + 1) (bytesOf s)) plainB) = b; generalize decide (1 ≤ s.size - (j + 1)) = c; generalize decide (s.size - (j + 1) ≤ 31) = d; generalize decide (1 ≤ (List.take j (bytesOf s)).length) = e; generalize decide ((List.take j (bytesOf s)).length ≤ 31) = f; generalize firstB ((List.take j (bytesOf s)).getD 0 0) = g
   cases a <;> cases b <;> cases c <;> cases d <;> cases e <;> cases f <;> cases g <;> rfl
  have hw : wrap64 (wrap64 ((s.size : Int) - (j : Int)) - 1) = ((s.size - (j + 1) : Nat) : Int) := by
   rw [w64 (x := (s.size : Int) - (j : Int)) Zq1 Zq1, w64 Zq1 Zq1]
   omega
  rw [hj, e, hw, Int.toNat_natCast]; refine Ev.pos (Int.natCast_nonneg j) (Ev.pos (Int.natCast_nonneg j) (Ev.pos Zq1 ?_))
  by_cases h1 : ((s.size - (j + 1) : Nat) : Int) < 1
  ·rw [decide_eq_false (by omega : ¬ 1 ≤ s.size - (j + 1))]
   exact Ev.pos h1 (Ev.some _)
  ·rw [decide_eq_true (by omega : 1 ≤ s.size - (j + 1))]; refine Ev.neg h1 ?_
   by_cases h2 : ((s.size - (j + 1) : Nat) : Int) > 31
   ·rw [decide_eq_false (by omega : ¬ s.size - (j + 1) ≤ 31)]
    exact Ev.pos h2 (Ev.some _)
   ·rw [decide_eq_true (by omega : s.size - (j + 1) ≤ 31)]
    exact Ev.neg h2 (refnode_loop s (s.extract 0 j) (j : Int) hs)
def propB (l : List Int) : Bool := l.all (fun c => plainB c || c == 63 || c == 35) && (decide (1 ≤ l.length) && decide (l.length ≤ 31))
theorem refprop_ev (s : ByteArray) (hs : s.size ≤ 140737488351232) : Ev (fun k => arboretref01_Prop.f k s) (propB (bytesOf s)) := by
 have hn : (bytesOf s).length = s.size := bytesOf_length s; have main := loop (bytesOf s) (fun l => l.all (fun c => plainB c || c == 63 || c == 35) && (decide (1 ≤ s.size) && decide (s.size ≤ 31))) (fun k i => arboretref01_Prop.l0 k s (s.size : Int) i) ?_ ?_ 0 (Nat.zero_le _)
 ·unfold propB; rw [hn]
  exact main
 ·rw [hn]; refine Ev.succ ?_; simp only [arboretref01_Prop.l0]; refine Ev.neg Zq1 (Ev.fix ?_)
  by_cases h : (s.size : Int) ≥ 1
  ·rw [if_pos h, decide_eq_true (by omega : 1 ≤ s.size)]; have : decide ((s.size : Int) ≤ 31) = decide (s.size ≤ 31) := decide_eq_decide.mpr Zq1; rw [this]
   rfl
  ·rw [if_neg h, decide_eq_false (by omega : ¬ 1 ≤ s.size)]
   rfl
 ·intro i h ih
  have hw : wrap64 ((i : Int) + 1) = ((i + 1 : Nat) : Int) := by rw [w64 Zq1 Zq1]; omega
  obtain ⟨b0, b1⟩ := bytesOf_range s _ (List.getElem_mem h); refine Ev.succ ?_; simp only [arboretref01_Prop.l0, bytesOf_at s i h, stands_f b0 b1, hw, Option.bind_some, List.all_cons]; refine Ev.pos Zq1 (Ev.pos (Int.natCast_nonneg i) (Ev.pos Zq1 ?_))
  cases plainB (bytesOf s)[i] with
  | true =>
   simp only [Bool.true_or, Bool.true_and, if_true]
   exact ih
  | false =>
   refine Ev.neg Zq4 ?_
   by_cases h63 : (bytesOf s)[i] = 63
   ·rw [h63]
    exact Ev.pos rfl ih
   ·by_cases h35 : (bytesOf s)[i] = 35
    ·rw [h35]
     exact Ev.neg Zq4 (Ev.pos rfl ih)
    ·have e1 : ((bytesOf s)[i] == 63) = false := by simpa using h63
     have e2 : ((bytesOf s)[i] == 35) = false := by simpa using h35
     rw [e1, e2]
     exact Ev.neg h63 (Ev.neg h35 (Ev.some _))
end Go.Proofs.Ytkopmkinlanhoaa.PB

namespace Go.Proofs.Ytkopmkinlanhoaa.PB
open Go.RowKit Go.Proofs.Ytkopmkinlanhoaa.Rdr Go.Proofs.Ytkopmkinlanhoaa.Aid Go.Proofs.YtkopmkinlanhoaaW.PrintWords
theorem count_ends (m : Nat) (hm : m ≤ 1048576) : ∀ x : S27, bulk27 x ≤ m → ∃ v : Int × Int, Ev (fun k => arboretref01_Count.f k x.f0 x.f1 x.f2) v := by
 induction m with
 | zero => intro x hx; have := bulk_pos x; omega
 | succ m ih =>
  intro x hx; have hk := bulk_kids x
  have kids : ∀ (j i : Nat) (a b : Int), i + j = x.f2.length → ∃ v : Int × Int, Ev (fun k => arboretref01_Count.l0 k a b (x.f2.length : Int) (i : Int) x.f0 x.f1 x.f2) v := by
   intro j
   induction j with
   | zero =>
    intro i a b hi; refine ⟨(a, b), Ev.succ ?_⟩; simp only [arboretref01_Count.l0]
    exact Ev.neg Zq1 (Ev.some _)
   | succ j ihj =>
    intro i a b hi; have hw := step64 (i := i) (n := x.f2.length) Zq1 Zq1; have hmem := getN (xs := x.f2) (i := i) Zq1; obtain ⟨v, hv⟩ := ih Zq1 (x.f2.getD i z27) (by have := bulk_kid hmem; omega); obtain ⟨r, hr⟩ := ihj (i + 1) (wrap64 (a + v.1)) (wrap64 (b + v.2)) Zq1; refine ⟨r, Ev.succ ?_⟩; simp only [arboretref01_Count.l0, rdN, hw]
    exact Ev.pos Zq1 (Ev.pos (Int.natCast_nonneg i) (Ev.pos Zq1 (Ev.then hv hr)))
  obtain ⟨v, hv⟩ := kids x.f2.length 0 1 (x.f1.length : Int) Zq1; refine ⟨v, Ev.succ ?_⟩; simp only [arboretref01_Count.f]
  exact hv
theorem wrong_ends (m : Nat) (hm : m ≤ 1048576) : ∀ (x : S27) (d : Nat), bulk27 x ≤ m → ∃ v : Int, Ev (fun k => arboretref01_wrong.f k x.f0 x.f1 x.f2 (d : Int)) v ∧ (v = 0 → ∀ (l : List Int) (n : S27), getS x l = some n → d + l.length ≤ 16) := by
 induction m with
 | zero => intro x d hx; have := bulk_pos x; omega
 | succ m ih =>
  intro x d hx; have hk := bulk_kids x; have hp := bulk_props x; have hnm := bulk_name x
  by_cases hd : (d : Int) > 16
  ·refine ⟨6, Ev.succ ?_, fun h => absurd h Zq4⟩; simp only [arboretref01_wrong.f]
   exact Ev.pos hd (Ev.some _)
  have hd1 : wrap64 ((d : Int) + 1) = ((d + 1 : Nat) : Int) := by rw [w64 Zq1 Zq1]; omega
  have l5 : ∀ (j i : Nat), i + j = x.f2.length → ∃ v : Int, Ev (fun k => arboretref01_wrong.l5 k (d : Int) (x.f2.length : Int) (i : Int) x.f0 x.f1 x.f2) v ∧ (v = 0 → ∀ q : Nat, i ≤ q → q < x.f2.length → ∀ (l : List Int) (n : S27), getS (x.f2.getD q z27) l = some n → d + 1 + l.length ≤ 16) := by
   intro j
   induction j with
   | zero =>
    intro i hi; refine ⟨0, Ev.succ ?_, fun _ q h1 h2 => by omega⟩; simp only [arboretref01_wrong.l5]
    exact Ev.neg Zq1 (Ev.some _)
   | succ j ihj =>
    intro i hi; have hw := step64 (i := i) (n := x.f2.length) Zq1 Zq1; have hmem := getN (xs := x.f2) (i := i) Zq1; obtain ⟨v, hv, hg⟩ := ih Zq1 (x.f2.getD i z27) (d + 1) (by have := bulk_kid hmem; omega); obtain ⟨r, hr, hq⟩ := ihj (i + 1) Zq1
    by_cases h0 : v = 0
    ·refine ⟨r, Ev.succ ?_, fun e q h1 h2 => ?_⟩
     ·simp only [arboretref01_wrong.l5, rdN, hw, hd1]
      exact Ev.pos Zq1 (Ev.pos (Int.natCast_nonneg i) (Ev.pos Zq1 (Ev.then hv (Ev.pos h0 hr))))
     ·rcases Nat.lt_or_ge i q with h3 | h3
      ·exact hq e q h3 h2
      ·obtain rfl : q = i := by omega
       exact hg h0
    ·refine ⟨v, Ev.succ ?_, fun e => absurd e h0⟩; simp only [arboretref01_wrong.l5, rdN, hw, hd1]
     exact Ev.pos Zq1 (Ev.pos (Int.natCast_nonneg i) (Ev.pos Zq1 (Ev.then hv (Ev.neg h0 (Ev.some _)))))
  obtain ⟨v5, e5, g5⟩ := l5 x.f2.length 0 Zq1
  have G : v5 = 0 → ∀ (l : List Int) (n : S27), getS x l = some n → d + l.length ≤ 16 := by
   intro h l n hl
   cases l with
   | nil => simp only [List.length_nil]; omega
   | cons q r =>
    simp only [getS] at hl
    by_cases c : 0 ≤ q ∧ q < (x.f2.length : Int)
    ·rw [if_pos c] at hl; have := g5 h q.toNat (Nat.zero_le _) Zq1 r n hl; simp only [List.length_cons]
     omega
    ·rw [if_neg c] at hl
     cases hl
  have l34 : ∀ (j i : Nat), i + j = x.f2.length → ∃ v : Int, Ev (fun k => arboretref01_wrong.l3 k (d : Int) (x.f2.length : Int) (i : Int) x.f0 x.f1 x.f2) v ∧ (v = 0 → v5 = 0) := by
   intro j
   induction j with
   | zero =>
    intro i hi; refine ⟨v5, Ev.succ ?_, fun h => h⟩; simp only [arboretref01_wrong.l3]
    exact Ev.neg Zq1 e5
   | succ j ihj =>
    intro i hi; obtain ⟨r, hr, hq⟩ := ihj (i + 1) Zq1; have hw := step64 (i := i) (n := x.f2.length) Zq1 Zq1
    have inner : ∀ (p q : Nat), q + p = i → ∃ v : Int, Ev (fun k => arboretref01_wrong.l4 k (d : Int) (i : Int) (x.f2.length : Int) (i : Int) (i : Int) (q : Int) x.f0 x.f1 x.f2) v ∧ (v = 0 → v5 = 0) := by
     intro p
     induction p with
     | zero =>
      intro q hq0; refine ⟨r, Ev.succ ?_, hq⟩; simp only [arboretref01_wrong.l4, hw]
      exact Ev.neg Zq1 hr
     | succ p ihp =>
      intro q hq0; have hw2 := step64 (i := q) (n := x.f2.length) Zq1 Zq1; obtain ⟨u, hu, hu0⟩ := ihp (q + 1) Zq1
      by_cases c : (x.f2.getD q z27).f0.toList = (x.f2.getD i z27).f0.toList
      ·refine ⟨9, Ev.succ ?_, fun h => absurd h Zq4⟩; simp only [arboretref01_wrong.l4, rdN]
       exact Ev.pos Zq1 (Ev.pos (Int.natCast_nonneg q) (Ev.pos Zq1 (Ev.pos (Int.natCast_nonneg i) (Ev.pos Zq1 (Ev.pos c (Ev.some _))))))
      ·refine ⟨u, Ev.succ ?_, hu0⟩; simp only [arboretref01_wrong.l4, rdN, hw2]
       exact Ev.pos Zq1 (Ev.pos (Int.natCast_nonneg q) (Ev.pos Zq1 (Ev.pos (Int.natCast_nonneg i) (Ev.pos Zq1 (Ev.neg c hu)))))
    obtain ⟨u, hu, hu0⟩ := inner i 0 Zq1; refine ⟨u, Ev.succ ?_, hu0⟩; simp only [arboretref01_wrong.l3]
    exact Ev.pos Zq1 hu
  obtain ⟨v3, e3, g3⟩ := l34 x.f2.length 0 Zq1
  have l12 : ∀ (j i : Nat), i + j = x.f1.length → ∃ v : Int, Ev (fun k => arboretref01_wrong.l1 k (d : Int) (x.f1.length : Int) (i : Int) x.f0 x.f1 x.f2) v ∧ (v = 0 → v5 = 0) := by
   intro j
   induction j with
   | zero =>
    intro i hi; refine ⟨v3, Ev.succ ?_, g3⟩; simp only [arboretref01_wrong.l1]
    exact Ev.neg Zq1 e3
   | succ j ihj =>
    intro i hi; obtain ⟨r, hr, hq⟩ := ihj (i + 1) Zq1; have hw := step64 (i := i) (n := x.f1.length) Zq1 Zq1
    have inner : ∀ (p q : Nat), q + p = i → ∃ v : Int, Ev (fun k => arboretref01_wrong.l2 k (d : Int) (i : Int) (x.f1.length : Int) (i : Int) (i : Int) (q : Int) x.f0 x.f1 x.f2) v ∧ (v = 0 → v5 = 0) := by
     intro p
     induction p with
     | zero =>
      intro q hq0; refine ⟨r, Ev.succ ?_, hq⟩; simp only [arboretref01_wrong.l2, hw]
      exact Ev.neg Zq1 hr
     | succ p ihp =>
      intro q hq0; have hw2 := step64 (i := q) (n := x.f1.length) Zq1 Zq1; obtain ⟨u, hu, hu0⟩ := ihp (q + 1) Zq1
      by_cases c : (x.f1.getD q z63).f0.toList = (x.f1.getD i z63).f0.toList
      ·refine ⟨9, Ev.succ ?_, fun h => absurd h Zq4⟩; simp only [arboretref01_wrong.l2, rdP]
       exact Ev.pos Zq1 (Ev.pos (Int.natCast_nonneg q) (Ev.pos Zq1 (Ev.pos (Int.natCast_nonneg i) (Ev.pos Zq1 (Ev.pos c (Ev.some _))))))
      ·refine ⟨u, Ev.succ ?_, hu0⟩; simp only [arboretref01_wrong.l2, rdP, hw2]
       exact Ev.pos Zq1 (Ev.pos (Int.natCast_nonneg q) (Ev.pos Zq1 (Ev.pos (Int.natCast_nonneg i) (Ev.pos Zq1 (Ev.neg c hu)))))
    obtain ⟨u, hu, hu0⟩ := inner i 0 Zq1; refine ⟨u, Ev.succ ?_, hu0⟩; simp only [arboretref01_wrong.l1]
    exact Ev.pos Zq1 hu
  obtain ⟨v1, e1, g1⟩ := l12 x.f1.length 0 Zq1
  have l0 : ∀ (j i : Nat), i + j = x.f1.length → ∃ v : Int, Ev (fun k => arboretref01_wrong.l0 k (d : Int) (x.f1.length : Int) (i : Int) x.f0 x.f1 x.f2) v ∧ (v = 0 → v5 = 0) := by
   intro j
   induction j with
   | zero =>
    intro i hi; refine ⟨v1, Ev.succ ?_, g1⟩; simp only [arboretref01_wrong.l0]
    exact Ev.neg Zq1 e1
   | succ j ihj =>
    intro i hi; obtain ⟨r, hr, hq⟩ := ihj (i + 1) Zq1; have hw := step64 (i := i) (n := x.f1.length) Zq1 Zq1; have hmem := getP (xs := x.f1) (i := i) Zq1; have hb := bulk_prop hmem; have hv := bulk_value (x.f1.getD i z63); have hn := refprop_ev (x.f1.getD i z63).f0 Zq1
    cases hc : propB (bytesOf (x.f1.getD i z63).f0) with
    | true =>
     rw [hc] at hn; refine ⟨r, Ev.succ ?_, hq⟩; simp only [arboretref01_wrong.l0, rdP, hw]
     exact Ev.pos Zq1 (Ev.pos (Int.natCast_nonneg i) (Ev.pos Zq1 (Ev.then hn (Ev.pos rfl hr))))
    | false =>
     rw [hc] at hn; refine ⟨5, Ev.succ ?_, fun h => absurd h Zq4⟩; simp only [arboretref01_wrong.l0, rdP, hw]
     exact Ev.pos Zq1 (Ev.pos (Int.natCast_nonneg i) (Ev.pos Zq1 (Ev.then hn (Ev.neg Zq4 (Ev.some _)))))
  obtain ⟨v0, e0, g0⟩ := l0 x.f1.length 0 Zq1
  have j0 : ∀ b : Bool, ∃ v : Int, Ev (fun k => arboretref01_wrong.j0 k (d : Int) b x.f0 x.f1 x.f2) v ∧ (v = 0 → v5 = 0) := by
   intro b
   cases b with
   | true =>
    refine ⟨5, Ev.succ ?_, fun h => absurd h Zq4⟩; simp only [arboretref01_wrong.j0]
    exact Ev.pos trivial (Ev.some _)
   | false =>
    refine ⟨v0, Ev.succ ?_, g0⟩; simp only [arboretref01_wrong.j0]
    exact Ev.neg (fun h => Bool.noConfusion h) e0
  have hn := refnode_ev x.f0 Zq1
  by_cases h1 : (d : Int) = 1
  ·by_cases hz : x.f0.toList = ([] : List UInt8)
   ·by_cases h2 : (d : Int) > 1
    ·omega
    ·obtain ⟨v, hv, hg⟩ := j0 false; refine ⟨v, Ev.succ ?_, fun h => G (hg h)⟩; simp only [arboretref01_wrong.f]
     exact Ev.neg hd (Ev.pos h1 (Ev.pos hz (Ev.neg h2 hv)))
   ·obtain ⟨v, hv, hg⟩ := j0 true; refine ⟨v, Ev.succ ?_, fun h => G (hg h)⟩; simp only [arboretref01_wrong.f]
    exact Ev.neg hd (Ev.pos h1 (Ev.neg hz hv))
  ·by_cases h2 : (d : Int) > 1
   ·obtain ⟨v, hv, hg⟩ := j0 (!nodeB x.f0); refine ⟨v, Ev.succ ?_, fun h => G (hg h)⟩; simp only [arboretref01_wrong.f]
    exact Ev.neg hd (Ev.neg h1 (Ev.pos h2 (Ev.then hn hv)))
   ·obtain ⟨v, hv, hg⟩ := j0 false; refine ⟨v, Ev.succ ?_, fun h => G (hg h)⟩; simp only [arboretref01_wrong.f]
    exact Ev.neg hd (Ev.neg h1 (Ev.neg h2 hv))
theorem check_ends (b : Int) (res : List S82) (x : S27) (hx : bulk27 x ≤ 1048576) (hr : res.length ≤ 1048576) :
  ∃ v : Int, Ev (fun k => arboretref01_Check.f k b res x.f0 x.f1 x.f2) v ∧ (v = 0 → ∀ (l : List Int) (n : S27), getS x l = some n → l.length ≤ 15) := by
 obtain ⟨v, hv, hg⟩ := wrong_ends 1048576 Zq1 x 1 hx; obtain ⟨c, hc⟩ := count_ends 1048576 Zq1 x hx
 have l0 : ∀ (j i : Nat), i + j = res.length → ∃ v : Int, Ev (fun k => arboretref01_Check.l0 k (res.length : Int) (i : Int) b res x.f0 x.f1 x.f2) v := by
  intro j
  induction j with
  | zero =>
   intro i hi; refine ⟨0, Ev.succ ?_⟩; simp only [arboretref01_Check.l0]
   exact Ev.neg Zq1 (Ev.some _)
  | succ j ihj =>
   intro i hi; have hw := step64 (i := i) (n := res.length) Zq1 hr; obtain ⟨r, hq⟩ := ihj (i + 1) Zq1
   by_cases h0 : (rd_T82 res (i : Int)).f0 = 0
   ·by_cases h1 : (rd_T82 res (i : Int)).f1 = 0
    ·refine ⟨7, Ev.succ ?_⟩; simp only [arboretref01_Check.l0, hw]
     exact Ev.pos Zq1 (Ev.pos (Int.natCast_nonneg i) (Ev.pos Zq1 (Ev.pos h0 (Ev.pos h1 (Ev.some _)))))
    ·refine ⟨r, Ev.succ ?_⟩; simp only [arboretref01_Check.l0, hw]
     exact Ev.pos Zq1 (Ev.pos (Int.natCast_nonneg i) (Ev.pos Zq1 (Ev.pos h0 (Ev.neg h1 hq))))
   ·refine ⟨r, Ev.succ ?_⟩; simp only [arboretref01_Check.l0, hw]
    exact Ev.pos Zq1 (Ev.pos (Int.natCast_nonneg i) (Ev.pos Zq1 (Ev.neg h0 hq)))
 obtain ⟨w, hw⟩ := l0 res.length 0 Zq1
 have j0 : ∀ y : Bool, ∃ v : Int, Ev (fun k => arboretref01_Check.j0 k y b res x.f0 x.f1 x.f2) v := by
  intro y
  cases y with
  | true =>
   refine ⟨7, Ev.succ ?_⟩; simp only [arboretref01_Check.j0]
   exact Ev.pos trivial (Ev.some _)
  | false =>
   refine ⟨w, Ev.succ ?_⟩; simp only [arboretref01_Check.j0]
   exact Ev.neg (fun h => Bool.noConfusion h) hw
 by_cases h0 : v = 0
 ·have G : ∀ (l : List Int) (n : S27), getS x l = some n → l.length ≤ 15 := fun l n h => by
   have := hg h0 l n h
   omega
  by_cases h1 : c.1 > 4096
  ·obtain ⟨r, hr⟩ := j0 true; refine ⟨r, ?_, fun _ => G⟩; unfold arboretref01_Check.f
   exact Ev.then hv (Ev.pos h0 (Ev.then hc (Ev.pos h1 hr)))
  by_cases h2 : c.2 > 8192
  ·obtain ⟨r, hr⟩ := j0 true; refine ⟨r, ?_, fun _ => G⟩; unfold arboretref01_Check.f
   exact Ev.then hv (Ev.pos h0 (Ev.then hc (Ev.neg h1 (Ev.pos h2 hr))))
  ·obtain ⟨r, hr⟩ := j0 (decide ((res.length : Int) > 64)); refine ⟨r, ?_, fun _ => G⟩; unfold arboretref01_Check.f
   exact Ev.then hv (Ev.pos h0 (Ev.then hc (Ev.neg h1 (Ev.neg h2 hr))))
 ·refine ⟨v, ?_, fun h => absurd h h0⟩; unfold arboretref01_Check.f
  exact Ev.then hv (Ev.neg h0 (Ev.some _))
end Go.Proofs.Ytkopmkinlanhoaa.PB

namespace Go.Proofs.Ytkopmkinlanhoaa.Pure
open Go.RowKit Go.Proofs.Ytkopmkinlanhoaa.PB Go.Proofs.Ytkopmkinlanhoaa.Rdr Go.Proofs.Ytkopmkinlanhoaa.Aid Go.Proofs.YtkopmkinlanhoaaW.PrintWords
def icText : List UInt8 := (⟨#[105, 110, 116, 101, 114, 114, 117, 112, 116, 45, 99, 111, 110, 116, 114, 111, 108, 108, 101, 114]⟩ : ByteArray).toList
def icCells : List UInt8 := (⟨#[35, 105, 110, 116, 101, 114, 114, 117, 112, 116, 45, 99, 101, 108, 108, 115]⟩ : ByteArray).toList
def ctrlB (x : S27) : Bool := (valP icText x.f1).isSome && (oneOf icCells x.f1).2.1 && ((oneOf icCells x.f1).2.2 == 0) && ((oneOf icCells x.f1).1 == 1)
theorem ctrl_ev (x : S27) (hx : bulk27 x ≤ 1048576) (hg : good27 x) : Ev (fun k => irq_Controller.f k x.f0 x.f1 x.f2) (ctrlB x) := by
 unfold irq_Controller.f
 refine Ev.then (find_ev x _ hx) (Ev.then (one_ev x _ hx hg) ?_)
 rw [show (⟨#[105, 110, 116, 101, 114, 114, 117, 112, 116, 45, 99, 111, 110, 116, 114, 111, 108, 108, 101, 114]⟩ : ByteArray).toList = icText from rfl, show (⟨#[35, 105, 110, 116, 101, 114, 114, 117, 112, 116, 45, 99, 101, 108, 108, 115]⟩ : ByteArray).toList = icCells from rfl]; unfold ctrlB findN; generalize oneOf icCells x.f1 = o
 cases valP icText x.f1 with
 | none => exact Ev.neg Zq4 (Ev.some _)
 | some v =>
  refine Ev.pos rfl ?_
  cases h1 : o.2.1 with
  | false => exact Ev.neg Zq4 (Ev.fix Zq10)
  | true =>
   refine Ev.pos rfl ?_
   by_cases h2 : o.2.2 = 0
   ·exact Ev.pos h2 (Ev.fix (by simp [h2]))
   ·exact Ev.neg h2 (Ev.fix (by simp [h2]))
theorem refctrl_ev (x : S27) (hx : bulk27 x ≤ 1048576) (hg : good27 x) : Ev (fun k => arboretref12_Controller.f k x.f0 x.f1 x.f2) (ctrlB x) := by
 unfold arboretref12_Controller.f
 refine Ev.then (refone_ev x _ hx hg) (Ev.then (reffind_ev x _ hx) ?_)
 rw [show (⟨#[105, 110, 116, 101, 114, 114, 117, 112, 116, 45, 99, 111, 110, 116, 114, 111, 108, 108, 101, 114]⟩ : ByteArray).toList = icText from rfl, show (⟨#[35, 105, 110, 116, 101, 114, 114, 117, 112, 116, 45, 99, 101, 108, 108, 115]⟩ : ByteArray).toList = icCells from rfl]; unfold ctrlB; generalize oneOf icCells x.f1 = o
 rcases ixP_val icText x.f1 0 with ⟨h1, h2⟩ | ⟨j, hj, h2, h3⟩
 ·rw [h1, h2]
  exact Ev.neg Zq4 (Ev.some _)
 ·rw [h2, h3]; refine Ev.pos Zq1 ?_
  cases h1 : o.2.1 with
  | false => exact Ev.neg Zq4 (Ev.fix Zq10)
  | true =>
   refine Ev.pos rfl ?_
   by_cases h2 : o.2.2 = 0
   ·exact Ev.pos h2 (Ev.fix (by simp [h2]))
   ·exact Ev.neg h2 (Ev.fix (by simp [h2]))
section
variable (b : Int) (res : List S82) (x : S27) (hx : bulk27 x ≤ 1048576) (hg : good27 x)
include hx hg
theorem mapped_l0 (line mask : Int) : ∀ (m : Nat) (l : List Int), l.length = 3 * m → ∃ v, Ev (fun k => irq_mapped.l0 k line l mask b res x.f0 x.f1 x.f2) v := by
 intro m
 induction m with
 | zero =>
  intro l hl; refine ⟨([], 0, 8), Ev.succ ?_⟩; simp only [irq_mapped.l0]
  exact Ev.neg Zq1 (Ev.some _)
 | succ m ih =>
  intro l hl
  by_cases c : Go.bits .and .u32 (rd l 0) mask = Go.bits .and .u32 line mask
  ·have h := hfind_ev b res x hx hg (rd l 1); generalize findR (rd l 1) (gather (nodesN x []) []) = g at h
   by_cases e : g.2 = 0
   ·refine ⟨(g.1, rd l 2, 0), Ev.succ ?_⟩; simp only [irq_mapped.l0]
    exact Ev.pos Zq1 (Ev.pos Zq1 (Ev.pos c (Ev.pos Zq1 (Ev.then h (Ev.pos e (Ev.pos Zq1 (Ev.some _)))))))
   ·refine ⟨([], 0, g.2), Ev.succ ?_⟩; simp only [irq_mapped.l0]
    exact Ev.pos Zq1 (Ev.pos Zq1 (Ev.pos c (Ev.pos Zq1 (Ev.then h (Ev.neg e (Ev.some _))))))
  ·obtain ⟨v, hv⟩ := ih (l.drop 3) (by rw [List.length_drop]; omega); refine ⟨v, Ev.succ ?_⟩; simp only [irq_mapped.l0]
   exact Ev.pos Zq1 (Ev.pos Zq1 (Ev.neg c (Ev.pos Zq1 hv)))
theorem mapped_ends (n : S27) (hn : bulk27 n ≤ 1048576) (gn : good27 n) (line : Int) : ∃ v, Ev (fun k => irq_mapped.f k b res x.f0 x.f1 x.f2 n.f0 n.f1 n.f2 line) v := by
 unfold irq_mapped.f; have hf := find_ev n ⟨#[105, 110, 116, 101, 114, 114, 117, 112, 116, 45, 109, 97, 112]⟩ hn; have ho := one_ev n ⟨#[105, 110, 116, 101, 114, 114, 117, 112, 116, 45, 109, 97, 112, 45, 109, 97, 115, 107]⟩ hn gn; generalize oneOf (⟨#[105, 110, 116, 101, 114, 114, 117, 112, 116, 45, 109, 97, 112, 45, 109, 97, 115, 107]⟩ : ByteArray).toList n.f1 = o at ho
 cases hv : valP (⟨#[105, 110, 116, 101, 114, 114, 117, 112, 116, 45, 109, 97, 112]⟩ : ByteArray).toList n.f1 with
 | none =>
  rw [show findN (⟨#[105, 110, 116, 101, 114, 114, 117, 112, 116, 45, 109, 97, 112]⟩ : ByteArray).toList n.f1 = ([], false) by unfold findN; rw [hv]] at hf
  exact ⟨([], 0, 8), Ev.then hf (Ev.neg Zq4 (Ev.some _))⟩
 | some v =>
  rw [show findN (⟨#[105, 110, 116, 101, 114, 114, 117, 112, 116, 45, 109, 97, 112]⟩ : ByteArray).toList n.f1 = (v, true) by unfold findN; rw [hv]] at hf; obtain ⟨p, hp, rfl⟩ := valP_mem hv; have hby : isBytes p.f1 := good_value p (((good_eq n).mp gn).1 p hp); have hb := bulk_prop hp; have hvl := bulk_value p; have hc := cells_ev p.f1 hby Zq1
  have bad : ∀ (l : List Int) (q : Bool) (mk : Int), ∃ v, Ev (fun k => irq_mapped.j0 k line l mk q true b res x.f0 x.f1 x.f2) v := by
   intro l q mk; refine ⟨([], 0, 4), Ev.succ ?_⟩; simp only [irq_mapped.j0]
   exact Ev.pos trivial (Ev.some _)
  by_cases h4 : p.f1.length % 4 = 0
  ·rw [if_pos h4] at hc; have hcl := cells_len p.f1
   by_cases h2 : o.2.2 = 0
   ·by_cases h3 : ((cellsOf p.f1).length : Int) % 3 = 0
    ·have e : (((cellsOf p.f1).length : Int) % 3 != 0) = false := by rw [h3]; rfl
     have go : ∀ mk, ∃ v, Ev (fun k => irq_mapped.j1 k line (cellsOf p.f1) mk b res x.f0 x.f1 x.f2) v := by
      intro mk; obtain ⟨v, hv⟩ := mapped_l0 b res x hx hg line mk ((cellsOf p.f1).length / 3) (cellsOf p.f1) Zq1; refine ⟨v, Ev.succ ?_⟩; simp only [irq_mapped.j1]
      exact hv
     obtain ⟨v1, hv1⟩ := go o.1; obtain ⟨v2, hv2⟩ := go 4294967295
     cases hh : o.2.1 with
     | true =>
      refine ⟨v1, Ev.then hf (Ev.pos rfl (Ev.then hc (Ev.then ho (Ev.pos rfl (Ev.pos h2 (Ev.succ ?_))))))⟩; simp only [irq_mapped.j0, e]
      exact Ev.neg Zq4 (Ev.pos hh hv1)
     | false =>
      refine ⟨v2, Ev.then hf (Ev.pos rfl (Ev.then hc (Ev.then ho (Ev.pos rfl (Ev.pos h2 (Ev.succ ?_))))))⟩; simp only [irq_mapped.j0, e]
      exact Ev.neg Zq4 (Ev.neg (by rw [hh]; decide) hv2)
    ·have e : (((cellsOf p.f1).length : Int) % 3 != 0) = true := bne_iff_ne.mpr h3; obtain ⟨v, hv⟩ := bad (cellsOf p.f1) o.2.1 o.1
     exact ⟨v, Ev.then hf (Ev.pos rfl (Ev.then hc (Ev.then ho (Ev.pos rfl (Ev.pos h2 (by simp only [e]; exact hv))))))⟩
   ·obtain ⟨v, hv⟩ := bad (cellsOf p.f1) o.2.1 o.1
    exact ⟨v, Ev.then hf (Ev.pos rfl (Ev.then hc (Ev.then ho (Ev.pos rfl (Ev.neg h2 hv)))))⟩
  ·rw [if_neg h4] at hc; obtain ⟨v, hv⟩ := bad [] o.2.1 o.1
   exact ⟨v, Ev.then hf (Ev.pos rfl (Ev.then hc (Ev.then ho (Ev.neg Zq4 hv))))⟩
theorem through_l0 : ∀ (m i : Nat) (pl : List Int) (line : Int), i + m = 16 → ∃ v : List Int × Int × Int, Ev (fun k => irq_Through.l0 k (i : Int) b res x.f0 x.f1 x.f2 pl line) v ∧ (v.2.2 = 0 → v.1.length ≤ 16 ∧ ∃ n, getS x v.1 = some n ∧ ctrlB n = true) := by
 intro m
 induction m with
 | zero =>
  intro i pl line hi; refine ⟨([], 0, 14), Ev.succ ?_, fun h => by simp at h⟩; simp only [irq_Through.l0]
  exact Ev.neg Zq1 (Ev.some _)
 | succ m ih =>
  intro i pl line hi
  have hw : wrap64 ((i : Int) + 1) = ((i + 1 : Nat) : Int) := by unfold wrap64; omega
  by_cases hl : pl.length ≤ 16
  ·have hget := pget_ev b res x pl hx hl
   cases hn : getS x pl with
   | none =>
    rw [hn] at hget; refine ⟨([], 0, 8), Ev.succ ?_, fun h => by simp at h⟩; simp only [irq_Through.l0]
    exact Ev.pos Zq1 (Ev.then hget (Ev.neg (by simp [pgetR]) (Ev.some _)))
   | some n =>
    rw [hn] at hget; have hb := getS_bulk _ _ _ hn; have hgn := getS_good _ _ _ hn hg; have hc := ctrl_ev n Zq1 hgn
    cases hct : ctrlB n with
    | true =>
     rw [hct] at hc; have hcl : slices_Clone_int_int.f pl = some pl := clone_ints pl Zq1; refine ⟨(pl, line, 0), Ev.succ ?_, fun _ => ⟨hl, n, hn, hct⟩⟩; simp only [irq_Through.l0, hcl, Option.bind_some]
     exact Ev.pos Zq1 (Ev.then hget (Ev.pos rfl (Ev.then hc (Ev.pos rfl (Ev.some _)))))
    | false =>
     rw [hct] at hc; obtain ⟨u, hu⟩ := mapped_ends b res x hx hg n Zq1 hgn line
     by_cases h0 : u.2.2 = 0
     ·obtain ⟨v, hv, hv2⟩ := ih (i + 1) u.1 u.2.1 Zq1; refine ⟨v, Ev.succ ?_, hv2⟩; simp only [irq_Through.l0, hw]
      exact Ev.pos Zq1 (Ev.then hget (Ev.pos rfl (Ev.then hc (Ev.neg Zq4 (Ev.then hu (Ev.pos h0 hv))))))
     ·refine ⟨([], 0, u.2.2), Ev.succ ?_, fun h => absurd h h0⟩; simp only [irq_Through.l0]
      exact Ev.pos Zq1 (Ev.then hget (Ev.pos rfl (Ev.then hc (Ev.neg Zq4 (Ev.then hu (Ev.neg h0 (Ev.some _)))))))
  ·have hget := pget_deep b res x pl hl; refine ⟨([], 0, 6), Ev.succ ?_, fun h => by simp at h⟩; simp only [irq_Through.l0]
   exact Ev.pos Zq1 (Ev.then hget (Ev.neg Zq4 (Ev.some _)))
theorem through_again (pl : List Int) (line : Int) (hl : pl.length ≤ 16) (n : S27) (hn : getS x pl = some n) (hct : ctrlB n = true) : Ev (fun k => irq_Through.f k b res x.f0 x.f1 x.f2 pl line) (pl, line, 0) := by
 have hget := pget_ev b res x pl hx hl; rw [hn] at hget; have hb := getS_bulk _ _ _ hn; have hgn := getS_good _ _ _ hn hg; have hc := ctrl_ev n Zq1 hgn; rw [hct] at hc; have hcl : slices_Clone_int_int.f pl = some pl := clone_ints pl Zq1; unfold irq_Through.f; refine Ev.succ ?_; simp only [irq_Through.l0, hcl, Option.bind_some]
 exact Ev.pos Zq4 (Ev.then hget (Ev.pos rfl (Ev.then hc (Ev.pos rfl (Ev.some _)))))
end
theorem awake_ev : Ev (fun k => arboretlaw14_awake.f k) true := by
 have hx : bulk27 (⟨⟨#[]⟩, [], []⟩ : S27) ≤ 1048576 := by rw [bulk_eq]; simp [sumB]; decide
 have hg : good27 (⟨⟨#[]⟩, [], []⟩ : S27) := (good_eq _).mpr ⟨Zq10, Zq10⟩; have hget := pget_ev 0 [] ⟨⟨#[]⟩, [], []⟩ [] hx Zq10; have ho := one_ev ⟨⟨#[]⟩, [], []⟩ ⟨#[105, 110, 116, 101, 114, 114, 117, 112, 116, 45, 112, 97, 114, 101, 110, 116]⟩ hx hg
 have hw : wrap64 (((0 : Nat) : Int) - 1) = -1 := by unfold wrap64; omega
 unfold arboretlaw14_awake.f irq_Parent.f
 refine Ev.then (a := ([], 8)) ?_ (Ev.fix rfl)
 refine Ev.then hget (Ev.pos rfl ?_)
 refine Ev.succ ?_; simp only [irq_Parent.l0, List.length_nil, hw]; refine Ev.pos Zq4 (Ev.pos Zq4 (Ev.pos Zq4 (Ev.then hget (Ev.then ho (Ev.pos rfl (Ev.neg (by simp [oneOf, valP]) ?_)))))); refine Ev.succ ?_; simp only [irq_Parent.l0]
 exact Ev.neg Zq4 (Ev.some _)
theorem IrqSelf : arboretlaw14_IrqSelf.Pure := by
 intro t l hb gt gl; have hb2 : 1 + (sumB bulk82 t.f1 + 1) + bulk27 t.f2 + 1 + bulk32 l ≤ 1048576 := hb
 have hx : bulk27 t.f2 ≤ 1048576 := by omega
 have hg : good27 t.f2 := gt.2.2
 have hr : t.f1.length ≤ 1048576 := by
  have := sumB_len (B := bulk82) (fun r => by unfold bulk82; omega) t.f1
  omega
 obtain ⟨v, hv⟩ := few_ends t.f0 t.f1 t.f2 hx; obtain ⟨e, he, _⟩ := check_ends t.f0 t.f1 t.f2 hx hr; have aw := awake_ev
 have few : ∃ u, Ev (fun k => arboretlaw14_few.f k t.f0 t.f1 t.f2.f0 t.f2.f1 t.f2.f2 l.f0) u := by
  unfold arboretlaw14_few.f
  cases v with
  | false => exact ⟨false, Ev.then hv (Ev.neg Zq4 (Ev.some _))⟩
  | true =>
   by_cases h40 : (l.f0.length : Int) ≤ 40
   ·exact ⟨e == 0, Ev.then hv (Ev.pos rfl (Ev.pos h40 (Ev.then he (Ev.some _))))⟩
   ·exact ⟨false, Ev.then hv (Ev.pos rfl (Ev.neg h40 (Ev.some _)))⟩
 obtain ⟨u, hu⟩ := few; refine Ev.out (?_ : Ev (fun k => arboretlaw14_IrqSelf.f k t.f0 t.f1 t.f2.f0 t.f2.f1 t.f2.f2 l.f0 l.f1) true); unfold arboretlaw14_IrqSelf.f
 refine Ev.then aw (Ev.pos rfl (Ev.then hu (Ev.succ ?_)))
 simp only [arboretlaw14_IrqSelf.j0]
 cases u with
 | false => exact Ev.pos rfl (Ev.then aw (Ev.some _))
 | true =>
  refine Ev.neg Zq4 ?_; obtain ⟨q, hq, hq2⟩ := through_l0 t.f0 t.f1 t.f2 hx hg 16 0 l.f0 l.f1 Zq1; have hq' : Ev (fun k => irq_Through.f k t.f0 t.f1 t.f2.f0 t.f2.f1 t.f2.f2 l.f0 l.f1) q := hq
  refine Ev.then hq' ?_
  by_cases h0 : q.2.2 = 0
  ·obtain ⟨hl16, n, hn, hct⟩ := hq2 h0; have ha := through_again t.f0 t.f1 t.f2 hx hg q.1 q.2.1 hl16 n hn hct; have hrg := rget_ev t.f0 t.f1 t.f2 q.1 Zq1; rw [hn] at hrg; have hbn := getS_bulk _ _ _ hn; have hgn := getS_good _ _ _ hn hg; have hc := refctrl_ev n Zq1 hgn; rw [hct] at hc
   exact Ev.pos h0 (Ev.then ha (Ev.then hrg (Ev.pos rfl (Ev.then hc (Ev.pos rfl (Ev.pos rfl (Ev.pos rfl (Ev.then (equal_same q.1 Zq1) (Ev.some _)))))))))
  ·exact Ev.neg h0 (Ev.some _)
end Go.Proofs.Ytkopmkinlanhoaa.Pure

namespace Go.Proofs.Ytkopmkinlanhoaa.irqSelf
open Go.ChangeShapes Go.WideShapes Go.ChangeAt Go.RowKit Go.Proofs.Ytkopmkinlanhoaa.Rdr Go.Proofs.Ytkopmkinlanhoaa.PB
open Go.ChangeMaps (open_string shut_string)
theorem own : ownKnob Try.prog.godebug = none := by kernel_rfl
theorem laidOut : laidOutB Try.prog = true := by kernel_rfl
set_option maxRecDepth 100000 in
theorem contract (H : Type) (enc : TypeId × Value → H) (W : World) (base : Nat) (args : Array Value) (ds gs : List (DataW H)) (before : List MemPlace)
  (hval0 : ∀ (j : Nat) t v, Try.f3.params[j]? = some t → args[j]? = some v → Value.okWide Try.prog W .any base t v)
  (hW : DataW.Whole enc Try.prog Try.f3.params.toList Rows.irqSelfSpec.vars false W args.toList ds gs before) (hk : Rows.uptoSmall H (ds ++ gs) = true) :
  Calls Try.prog 3 args W fun e W' => ∃ v, e = .returned v ∧ Rows.irqSelfSpec.post enc Try.prog Try.f3 false true false false W args v W' := by
 have hval : ∀ (j : Nat) t v, Try.f3.params[j]? = some t → args[j]? = some v → Value.okWide Try.prog W .any base t v := hval0; have hW' := hW; obtain ⟨p, q, hA0, hV, rfl, hfz, hnd⟩ := hW; have hA : DataW.TrodAll enc Try.prog W 0 (fun _ => true) true Try.f3.params.toList args.toList ds p := hA0; rw [Try.params3] at hA hval; obtain ⟨v0, vs0, d0, ds0, p0, q0, hargs, rfl, rfl, h0, tr0⟩ := trodAll_cons hA; obtain ⟨v1, vs1, d1, ds1, p1, q1, rfl, rfl, rfl, h1, tr1⟩ := trodAll_cons tr0; obtain ⟨rfl, rfl, rfl⟩ := trodAll_nil tr1
 obtain rfl : args = #[v0, v1] := by cases args; simp_all
 obtain ⟨rfl, rfl⟩ := trodVars_none hV; have hb := bound hk; simp only [List.append_nil, Rows.uptoBulkAll, List.nil_append] at hb; have k0 := h0
 have lt0 : ∀ x ∈ p0, x.block < W.heap.size := by obtain ⟨m, hm⟩ := k0; exact DataW.trod_lt m _ _ _ hm
 have k1 := h1
 have lt1 : ∀ x ∈ p1, x.block < W.heap.size := by obtain ⟨m, hm⟩ := k1; exact DataW.trod_lt m _ _ _ hm
 obtain ⟨cs0, rfl, hcs0⟩ : ∃ cs, v0 = .agg cs ∧ True := by
  have z := (hval 0 29 v0 rfl rfl)
  simp only [Value.okWide, Try.underlying29] at z; obtain ⟨cs, hc, _⟩ := z
  exact ⟨cs, hc, trivial⟩
 obtain ⟨f0, hf0⟩ := h0; obtain ⟨x0, K0, b0, g0⟩ := rd29 W f0 H enc f0 (Nat.le_refl _) _ _ hf0; obtain ⟨A0_1, c0_1, A0_3, c0_3, A0_4, c0_4, e0, l0_1, r0_1, l0_3, r0_3, l0_4, r0_4⟩ := k29_open K0; obtain ⟨cl0⟩ := cs0; have e0' : cl0 = _ := e0; subst e0'
 obtain ⟨cs1, rfl, hcs1⟩ : ∃ cs, v1 = .agg cs ∧ True := by
  have z := (hval 1 32 v1 rfl rfl)
  simp only [Value.okWide, Try.underlying32] at z; obtain ⟨cs, hc, _⟩ := z
  exact ⟨cs, hc, trivial⟩
 obtain ⟨f1, hf1⟩ := h1; obtain ⟨x1, K1, b1, g1⟩ := rd32 W f1 H enc f1 (Nat.le_refl _) _ _ hf1; obtain ⟨A1_0, c1_0, e1, l1_0, r1_0⟩ := k32_open K1; obtain ⟨cl1⟩ := cs1; have e1' : cl1 = _ := e1; subst e1'; obtain ⟨k, hk_⟩ := Pure.IrqSelf x0 x1 (by (try simp only [Rows.uptoBulk, Array.length_toList] at hb); first | omega | (simp only [ByteArray.size] at *; omega)) g0 g1
 refine (arboretlaw14_IrqSelf.calls k x0.f0 A0_1 c0_1 x0.f1 x0.f2.f0 A0_3 c0_3 x0.f2.f1 A0_4 c0_4 x0.f2.f2 A1_0 c1_0 x1.f0 x1.f1 true W r0_1 l0_1 r0_3 l0_3 r0_4 l0_4 r1_0 l1_0 hk_).mono fun e W' ⟨he, bel0⟩ => ?_
 have bel : Below W.heap.size W W' := bel0; subst he
 exact ⟨_, rfl, _, _, _, [], _, [], hW', trodAll_mk1 (shut_bool Try.underlying4 _), (trodAll_cons_mk (Below.trod laidOut Zq2 (of_decide_eq_true Zq2) k0 bel lt0) (trodAll_cons_mk (Below.trod laidOut Zq2 (of_decide_eq_true Zq2) k1 bel lt1) trodAll_mk0)), rfl, bel.frame _, fun h => by cases h⟩
set_option maxRecDepth 100000 in
theorem lifted (os : Os) (started : os.Started) (H : Type) (enc : TypeId × Value → H) (F : Stop.Interp) :
  ReturnsInHanded {} Try.checked os 3 .any ((Rows.OpenSpec.upto Rows.irqSelfSpec).pre6 enc Try.prog Try.f3 Rows.irqSelfUptoRow.domain false) (((Rows.OpenSpec.upto Rows.irqSelfSpec).at F).post enc Try.prog Try.f3 false true false false) := by
 refine returnsInHanded_of_cond (C := Try.checked) (s := Rows.OpenSpec.upto Rows.irqSelfSpec) (k := Rows.uptoSmall) rfl own started Zq2 Try.func3
  (OpenSpec.witness (enc := enc) (C := Try.checked) (s := Rows.OpenSpec.upto Rows.irqSelfSpec) (k := Rows.uptoSmall) rfl false ⟨#[], #[.agg #[.int .u32 0, .slice none 0 0, .string ByteArray.empty, .slice none 0 0, .slice none 0 0], .agg #[.slice none 0 0, .int .u32 0]], []⟩ 16 Zq2 Zq2 Zq2
   (x := ([.agg [.lit (.int .u32 0), .nil, .agg [.lit (.string []), .nil, .nil]], .agg [.nil, .lit (.int .u32 0)]], [], [])) Zq2 rfl Zq2) ?_
 intro W base args ds gs before hval hW _ hk _
 exact contract H enc W base args ds gs before hval hW hk
theorem over : Rows.irqSelfUptoRow.holds Try.pinned (Rows.OpenSpec.upto Rows.irqSelfSpec) :=
 OpenClaim.holds_of_cond 3 Try.f3 rfl rfl rfl rfl rfl rfl rfl ⟨rfl, rfl, rfl, rfl, rfl⟩ rfl rfl rfl rfl rfl Zq2 Try.func3 Zq2
  (of_decide_eq_true Zq2) (by unfold Func.isWrapper; first | (rw [if_pos (by decide +kernel)]; kernel_rfl) | (rw [if_neg (by decide +kernel)]; exact ⟨rfl, rfl⟩))
  (fun os started H enc _ F => lifted os started H enc F)
theorem proved : Rows.IrqSelfUptoSaid := over
end Go.Proofs.Ytkopmkinlanhoaa.irqSelf
namespace Go.Proofs.Ytkopmkinlanhoaa
theorem irqSelf_holds : Rows.IrqSelfUptoSaid := irqSelf.proved
end Go.Proofs.Ytkopmkinlanhoaa
