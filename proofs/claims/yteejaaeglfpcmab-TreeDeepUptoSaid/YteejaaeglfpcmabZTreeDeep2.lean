/- TreeDeep: texts of this session's, and what the kit's print laid for this seat, as far as the law's row uses them (PCx_arboretref01_wrong, PCx_arboretref01_Count, PCx_arboretref01_Check, Chk, PureTreeDeep, LawTreeDeep). -/
import Derived.Lib.RowBridge
import Derived.ProofKit
import Derived.OpenShut
import Derived.ShutString
import Derived.ChangeOld
import Derived.JoinedCond
import Derived.Deep.CondSized
import Derived.Test.YteejaaeglfpcmabZTreeDeep1
set_option linter.unusedVariables false
set_option linter.unusedSimpArgs false
namespace Go.Proofs.Yteejaaeglfpcmab.PC
open Go.RowKit Go.Proofs.YteejaaeglfpcmabW.PrintWords Go.Proofs.YteejaaeglfpcmabW.PrintLast Go.Proofs.YteejaaeglfpcmabW.PrintMore
attribute [local go_sem] max2_int min2_int max_two min_two max_three min_three max_four min_four   -- for this text's walks alone
set_option linter.unusedVariables false
set_option linter.unusedSimpArgs false
mutual
def arboretref01_wrong.j0 : Nat → Int → Bool → ByteArray → List (S77) → List (S30) → Option (Int)
  | 0, _, _, _, _, _ => none
  | k + 1, x1, x30, x122000, x122001, x122002 => if x30 = true then (some 5) else (arboretref01_wrong.l0 k x1 (x122001.length : Int) 0 x122000 x122001 x122002)
def arboretref01_wrong.l0 : Nat → Int → Int → Int → ByteArray → List (S77) → List (S30) → Option (Int)
  | 0, _, _, _, _, _, _ => none
  | k + 1, x1, x33, x34, x122000, x122001, x122002 => if x34 < x33 then (if 0 ≤ x34 then (if x34 < (x122001.length : Int) then ((arboretref01_Prop.f k ((rd_T77 x122001 x34).f0)).bind fun t125 => (if t125 = true then (arboretref01_wrong.l0 k x1 x33 (wrap64 (x34 + 1)) x122000 x122001 x122002) else (some 5))) else (none)) else (none)) else (arboretref01_wrong.l1 k x1 (x122001.length : Int) 0 x122000 x122001 x122002)
def arboretref01_wrong.l1 : Nat → Int → Int → Int → ByteArray → List (S77) → List (S30) → Option (Int)
  | 0, _, _, _, _, _, _ => none
  | k + 1, x1, x48, x49, x122000, x122001, x122002 => if x49 < x48 then (arboretref01_wrong.l2 k x1 x49 x48 x49 x49 0 x122000 x122001 x122002) else (arboretref01_wrong.l3 k x1 (x122002.length : Int) 0 x122000 x122001 x122002)
def arboretref01_wrong.l2 : Nat → Int → Int → Int → Int → Int → Int → ByteArray → List (S77) → List (S30) → Option (Int)
  | 0, _, _, _, _, _, _, _, _, _ => none
  | k + 1, x1, x6, x48, x49, x52, x53, x122000, x122001, x122002 => if x53 < x52 then (if 0 ≤ x53 then (if x53 < (x122001.length : Int) then (if 0 ≤ x6 then (if x6 < (x122001.length : Int) then (if ((rd_T77 x122001 x53).f0).toList = ((rd_T77 x122001 x6).f0).toList then (some 9) else (arboretref01_wrong.l2 k x1 x6 x48 x49 x52 (wrap64 (x53 + 1)) x122000 x122001 x122002)) else (none)) else (none)) else (none)) else (none)) else (arboretref01_wrong.l1 k x1 x48 (wrap64 (x49 + 1)) x122000 x122001 x122002)
def arboretref01_wrong.l3 : Nat → Int → Int → Int → ByteArray → List (S77) → List (S30) → Option (Int)
  | 0, _, _, _, _, _, _ => none
  | k + 1, x1, x73, x74, x122000, x122001, x122002 => if x74 < x73 then (arboretref01_wrong.l4 k x1 x74 x73 x74 x74 0 x122000 x122001 x122002) else (arboretref01_wrong.l5 k x1 (x122002.length : Int) 0 x122000 x122001 x122002)
def arboretref01_wrong.l4 : Nat → Int → Int → Int → Int → Int → Int → ByteArray → List (S77) → List (S30) → Option (Int)
  | 0, _, _, _, _, _, _, _, _, _ => none
  | k + 1, x1, x8, x73, x74, x77, x78, x122000, x122001, x122002 => if x78 < x77 then (if 0 ≤ x78 then (if x78 < (x122002.length : Int) then (if 0 ≤ x8 then (if x8 < (x122002.length : Int) then (if ((rd_T30 x122002 x78).f0).toList = ((rd_T30 x122002 x8).f0).toList then (some 9) else (arboretref01_wrong.l4 k x1 x8 x73 x74 x77 (wrap64 (x78 + 1)) x122000 x122001 x122002)) else (none)) else (none)) else (none)) else (none)) else (arboretref01_wrong.l3 k x1 x73 (wrap64 (x74 + 1)) x122000 x122001 x122002)
def arboretref01_wrong.l5 : Nat → Int → Int → Int → ByteArray → List (S77) → List (S30) → Option (Int)
  | 0, _, _, _, _, _, _ => none
  | k + 1, x1, x98, x99, x122000, x122001, x122002 => if x99 < x98 then (if 0 ≤ x99 then (if x99 < (x122002.length : Int) then ((arboretref01_wrong.f k ((rd_T30 x122002 x99).f0) ((rd_T30 x122002 x99).f1) ((rd_T30 x122002 x99).f2) (wrap64 (x1 + 1))).bind fun t131 => (if t131 = 0 then (arboretref01_wrong.l5 k x1 x98 (wrap64 (x99 + 1)) x122000 x122001 x122002) else (some t131))) else (none)) else (none)) else (some 0)
def arboretref01_wrong.f : Nat → ByteArray → List (S77) → List (S30) → Int → Option (Int)
  | 0, _, _, _, _ => none
  | k + 1, a0_0, l0_1, l0_2, a1 => if a1 > 16 then (some 6) else (if a1 = 1 then (if a0_0.toList = ([] : List UInt8) then (if a1 > 1 then ((arboretref01_Node.f k a0_0).bind fun t122 => (arboretref01_wrong.j0 k a1 (!t122) a0_0 l0_1 l0_2)) else (arboretref01_wrong.j0 k a1 false a0_0 l0_1 l0_2)) else (arboretref01_wrong.j0 k a1 true a0_0 l0_1 l0_2)) else (if a1 > 1 then ((arboretref01_Node.f k a0_0).bind fun t123 => (arboretref01_wrong.j0 k a1 (!t123) a0_0 l0_1 l0_2)) else (arboretref01_wrong.j0 k a1 false a0_0 l0_1 l0_2)))
end
end Go.Proofs.Yteejaaeglfpcmab.PC

namespace Go.Proofs.Yteejaaeglfpcmab.PC
open Go.RowKit Go.Proofs.YteejaaeglfpcmabW.PrintWords Go.Proofs.YteejaaeglfpcmabW.PrintLast Go.Proofs.YteejaaeglfpcmabW.PrintMore
attribute [local go_sem] max2_int min2_int max_two min_two max_three min_three max_four min_four   -- for this text's walks alone
set_option linter.unusedVariables false
set_option linter.unusedSimpArgs false
mutual
def arboretref01_Count.l0 : Nat → Int → Int → Int → Int → ByteArray → List (S77) → List (S30) → Option (Int × Int)
  | 0, _, _, _, _, _, _, _ => none
  | k + 1, x4, x5, x14, x15, x115000, x115001, x115002 => if x15 < x14 then (if 0 ≤ x15 then (if x15 < (x115002.length : Int) then ((arboretref01_Count.f k ((rd_T30 x115002 x15).f0) ((rd_T30 x115002 x15).f1) ((rd_T30 x115002 x15).f2)).bind fun bt116 => (arboretref01_Count.l0 k (wrap64 (x4 + bt116.1)) (wrap64 (x5 + bt116.2)) x14 (wrap64 (x15 + 1)) x115000 x115001 x115002)) else (none)) else (none)) else (some (x4, x5))
def arboretref01_Count.f : Nat → ByteArray → List (S77) → List (S30) → Option (Int × Int)
  | 0, _, _, _ => none
  | k + 1, a0_0, l0_1, l0_2 => arboretref01_Count.l0 k 1 (l0_1.length : Int) (l0_2.length : Int) 0 a0_0 l0_1 l0_2
end
end Go.Proofs.Yteejaaeglfpcmab.PC

namespace Go.Proofs.Yteejaaeglfpcmab.PC
open Go.RowKit Go.Proofs.YteejaaeglfpcmabW.PrintWords Go.Proofs.YteejaaeglfpcmabW.PrintLast Go.Proofs.YteejaaeglfpcmabW.PrintMore
attribute [local go_sem] max2_int min2_int max_two min_two max_three min_three max_four min_four   -- for this text's walks alone
set_option linter.unusedVariables false
set_option linter.unusedSimpArgs false
mutual
def arboretref01_Check.j0 : Nat → Bool → Int → List (S94) → ByteArray → List (S77) → List (S30) → Option (Int)
  | 0, _, _, _, _, _, _ => none
  | k + 1, x30, x133000, x133001, x133002, x133003, x133004 => if x30 = true then (some 7) else (arboretref01_Check.l0 k (x133001.length : Int) 0 x133000 x133001 x133002 x133003 x133004)
def arboretref01_Check.l0 : Nat → Int → Int → Int → List (S94) → ByteArray → List (S77) → List (S30) → Option (Int)
  | 0, _, _, _, _, _, _, _ => none
  | k + 1, x33, x34, x133000, x133001, x133002, x133003, x133004 => if x34 < x33 then (if 0 ≤ x34 then (if x34 < (x133001.length : Int) then (if ((rd_T94 x133001 x34).f0) = 0 then (if ((rd_T94 x133001 x34).f1) = 0 then (some 7) else (arboretref01_Check.l0 k x33 (wrap64 (x34 + 1)) x133000 x133001 x133002 x133003 x133004)) else (arboretref01_Check.l0 k x33 (wrap64 (x34 + 1)) x133000 x133001 x133002 x133003 x133004)) else (none)) else (none)) else (some 0)
end
def arboretref01_Check.f (k : Nat) (a0_0 : Int) (l0_1 : List (S94)) (a0_2 : ByteArray) (l0_3 : List (S77)) (l0_4 : List (S30)) : Option (Int) := (arboretref01_wrong.f k a0_2 l0_3 l0_4 1).bind fun t133 => (if t133 = 0 then ((arboretref01_Count.f k a0_2 l0_3 l0_4).bind fun bt134 => (if bt134.1 > 4096 then (arboretref01_Check.j0 k true a0_0 l0_1 a0_2 l0_3 l0_4) else (if bt134.2 > 8192 then (arboretref01_Check.j0 k true a0_0 l0_1 a0_2 l0_3 l0_4) else (arboretref01_Check.j0 k (decide ((l0_1.length : Int) > 64)) a0_0 l0_1 a0_2 l0_3 l0_4)))) else (some t133))
end Go.Proofs.Yteejaaeglfpcmab.PC

set_option linter.unusedVariables false
set_option linter.unusedSimpArgs false
namespace Go.Proofs.Yteejaaeglfpcmab.PC
open Go.RowKit Go.Proofs.Yteejaaeglfpcmab.Rdr Go.Proofs.Yteejaaeglfpcmab.Aid Go.Proofs.YteejaaeglfpcmabW.PrintWords
theorem dupB_iff (xs : List ByteArray) : dupB xs = true ↔ ¬ (txts xs).Nodup := by
  obtain ⟨ss, hss⟩ : ∃ ss, ss = (txts xs).mergeSort fun x y => decide (x ≤ y) := ⟨_, rfl⟩
  have hp : ss.Perm (txts xs) := by rw [hss]; exact List.mergeSort_perm _ _
  have hl : ss.length = xs.length := by rw [hp.length_eq, txts_len]
  have hs : ss.Pairwise (fun x y => x ≤ y) := by
    have := List.pairwise_mergeSort (le := fun x y : List UInt8 => decide (x ≤ y)) (fun a b c h1 h2 => by
      simp only [decide_eq_true_eq] at h1 h2 ⊢
      exact List.le_trans h1 h2) (fun a b => by
      simp only [Bool.or_eq_true, decide_eq_true_eq]
      exact List.le_total a b) (txts xs)
    rw [← hss] at this
    exact this.imp (fun h => by simpa using h)
  have hd : dupB xs = decide ((Lib.compact ss).length < xs.length) := by rw [hss]; rfl
  rw [hd, decide_eq_true_eq, ← hl, ← hp.nodup_iff]
  constructor
  · intro h hn
    have : Lib.compact ss = ss := Lib.compact_all ss (fun j hj => by
      rcases Nat.eq_zero_or_pos j with rfl | h0
      · exact Lib.keeps_lt_one _ 0 (by omega)
      · refine Lib.keeps_pos ?_
        rw [List.getElem!_toArray, List.getElem!_toArray, getElem!_pos ss j hj, getElem!_pos ss (j - 1) (by omega)]
        exact fun e => List.pairwise_iff_getElem.mp hn (j - 1) j (by omega) hj (by omega) e.symm)
    rw [this] at h
    omega
  · intro hn
    refine Classical.byContradiction fun hlen => hn ?_
    have hle := Lib.compact_length_le ss
    have heq : (Lib.compact ss).length = ss.length := by omega
    have hk : ∀ j, j < ss.length → Lib.keeps ss.toArray j = true := by
      unfold Lib.compact Lib.compactUpTo at heq
      rw [List.length_map] at heq
      have h2 : ((List.range ss.length).filter (Lib.keeps ss.toArray)).length = (List.range ss.length).length := by rw [heq, List.length_range]
      have h3 := List.length_filter_eq_length_iff.mp h2
      exact fun j hj => h3 j (List.mem_range.mpr hj)
    refine List.pairwise_iff_getElem.mpr fun q j hq hj hqj e => ?_
    have h1 := hk (q + 1) (by omega)
    have h2 : ss[q + 1]'(by omega) ≠ ss[q] := by
      unfold Lib.keeps at h1
      simp only [decide_eq_true_eq] at h1
      rcases h1 with h1 | h1
      · omega
      · rw [List.getElem!_toArray, List.getElem!_toArray, getElem!_pos ss (q + 1) (by omega), getElem!_pos ss (q + 1 - 1) (by omega)] at h1
        exact h1
    have h3 := List.pairwise_iff_getElem.mp hs q (q + 1) hq (by omega) (by omega)
    rcases Nat.lt_or_ge (q + 1) j with h4 | h4
    · have h5 := List.pairwise_iff_getElem.mp hs (q + 1) j (by omega) hj h4
      rw [← e] at h5
      exact h2 (List.le_antisymm h5 h3)
    · have : q + 1 = j := by omega
      subst this
      exact h2 e.symm
theorem names_ev (nm : ByteArray) (ps : List S77) (ks : List S30) (hp : ps.length ≤ 1048576) (hk : ks.length ≤ 1048576) : Ev (fun k => tree_names.f k nm ps ks) (ps.map (·.f0), ks.map (·.f0)) := by
  have l1 : ∀ (j i : Nat) (acc : List ByteArray), i + j = ks.length → acc.length ≤ i → Ev (fun k => tree_names.l1 k (ps.map (·.f0)) acc ks (ks.length : Int) (i : Int)) (ps.map (·.f0), acc ++ (ks.drop i).map (·.f0)) := by
    intro j
    induction j with
    | zero =>
      intro i acc hi ha
      rw [List.drop_of_length_le (by omega)]
      refine Ev.succ ?_
      simp only [tree_names.l1, List.map_nil, List.append_nil]
      exact Ev.neg (by omega) (Ev.some _)
    | succ j ih =>
      intro i acc hi ha
      have hw := step64 (i := i) (n := ks.length) (by omega) hk
      have := ih (i + 1) (acc ++ [(ks.getD i z30).f0]) (by omega) (by simp; omega)
      rw [drop_at (l := ks) (d := z30) (i := i) (by omega), List.map_cons]
      rw [List.append_assoc] at this
      refine Ev.succ ?_
      simp only [tree_names.l1, rdN, hw]
      exact Ev.pos (by omega) (Ev.pos (Int.natCast_nonneg i) (Ev.pos (by omega) (Ev.pos (by omega) this)))
  have l0 : ∀ (j i : Nat) (acc : List ByteArray), i + j = ps.length → acc.length ≤ i → acc ++ (ps.drop i).map (·.f0) = ps.map (·.f0) → Ev (fun k => tree_names.l0 k acc ps (ps.length : Int) (i : Int) nm ps ks) (ps.map (·.f0), ks.map (·.f0)) := by
    intro j
    induction j with
    | zero =>
      intro i acc hi ha he
      rw [List.drop_of_length_le (by omega), List.map_nil, List.append_nil] at he
      refine Ev.succ ?_
      simp only [tree_names.l0]
      rw [he]
      have := l1 ks.length 0 [] (by omega) (by simp)
      exact Ev.neg (by omega) (by simpa using this)
    | succ j ih =>
      intro i acc hi ha he
      have hw := step64 (i := i) (n := ps.length) (by omega) hp
      rw [drop_at (l := ps) (d := z77) (i := i) (by omega), List.map_cons] at he
      have := ih (i + 1) (acc ++ [(ps.getD i z77).f0]) (by omega) (by simp; omega) (by rw [List.append_assoc]; exact he)
      refine Ev.succ ?_
      simp only [tree_names.l0, rdP, hw]
      exact Ev.pos (by omega) (Ev.pos (Int.natCast_nonneg i) (Ev.pos (by omega) (Ev.pos (by omega) this)))
  have := l0 ps.length 0 [] (by omega) (by simp) (by simp)
  unfold tree_names.f
  exact this
end Go.Proofs.Yteejaaeglfpcmab.PC

set_option linter.unusedVariables false
set_option linter.unusedSimpArgs false
namespace Go.Proofs.Yteejaaeglfpcmab.Pure
open Go.RowKit Go.Proofs.Yteejaaeglfpcmab.PC Go.Proofs.Yteejaaeglfpcmab.Rdr Go.Proofs.Yteejaaeglfpcmab.Aid Go.Proofs.YteejaaeglfpcmabW.PrintWords
def below : Nat → List S30
  | 0 => []
  | j + 1 => [⟨⟨#[97]⟩, [], below j⟩]
theorem below_len (j : Nat) : (below j).length ≤ 1 := by cases j <;> simp [below]
theorem node_ok (nm : ByteArray) (ks : List S30) (d : Nat) (h1 : 1 ≤ d) (h16 : d ≤ 16) (hk : ks.length ≤ 1) (hs : nm.size ≤ 1048576) (hn : d = 1 → nm.toList = []) (hn2 : 1 < d → nodeB nm = true) :
    Ev (fun k => tree_check.node k nm [] ks (d : Int)) 0 := by
  have en := names_ev nm [] ks (by simp) (by omega)
  have nn := node_ev nm (by omega)
  have hd : ¬ dupB (ks.map (·.f0)) = true := by
    rw [dupB_iff]
    refine fun h => h ?_
    match ks, hk with
    | [], _ => simp [txts]
    | [x], _ => simp [txts]
  have h0 : ¬ dupB (([] : List S77).map (·.f0)) = true := by decide
  unfold tree_check.node
  refine Ev.then en (Ev.neg (by omega) (Ev.neg (by omega) (Ev.then nn (Ev.neg ?_ (Ev.neg ?_ (Ev.then (a := -1) ?_ (Ev.neg (by decide) (Ev.pos ⟨by simp, ?_⟩ (Ev.neg h0 (Ev.neg hd (Ev.some _)))))))))))
  · exact fun h => h.2 (hn (by have := h.1; omega))
  · exact fun h => by have := h.2; rw [hn2 (by have := h.1; omega)] at this; cases this
  · simp only [List.map_nil, badIx]
    exact Ev.some _
  · simp only [List.length_map]; omega
theorem deep_wrong : ∀ (nm : ByteArray) (d : Nat), nm.size ≤ 1048576 → d ≤ 17 → d = 17 → ∀ ks : List S30, ks.length ≤ 1 → Ev (fun k => tree_check.f k nm [] ks (d : Int)) 6 := by
  intro nm d hs hd he ks hk
  have en := names_ev nm [] ks (by simp) (by omega)
  refine Ev.succ ?_
  simp only [tree_check.f]
  refine Ev.then (a := 6) ?_ (Ev.neg (by decide) (Ev.some _))
  unfold tree_check.node
  exact Ev.then en (Ev.pos (by omega) (Ev.some _))
theorem a_size : (⟨#[97]⟩ : ByteArray).size ≤ 1048576 := by decide
theorem a_node : nodeB ⟨#[97]⟩ = true := by decide +kernel
theorem deep_ev : ∀ (j d : Nat) (nm : ByteArray), 1 ≤ d → d ≤ 16 → nm.size ≤ 1048576 → (d = 1 → nm.toList = []) → (1 < d → nodeB nm = true) → Ev (fun k => tree_check.f k nm [] (below j) (d : Int)) (if d + j ≤ 16 then 0 else 6) := by
  intro j
  induction j with
  | zero =>
    intro d nm h1 h16 hs hn hn2
    rw [if_pos (by omega)]
    refine Ev.succ ?_
    simp only [tree_check.f]
    refine Ev.then (node_ok nm _ d h1 h16 (below_len 0) hs hn hn2) (Ev.pos rfl ?_)
    simp only [below, tree_check.kids]
    exact Ev.some _
  | succ j ih =>
    intro d nm h1 h16 hs hn hn2
    refine Ev.succ ?_
    simp only [tree_check.f]
    refine Ev.then (node_ok nm _ d h1 h16 (below_len (j + 1)) hs hn hn2) (Ev.pos rfl ?_)
    have hw : wrap64 ((d : Int) + 1) = ((d + 1 : Nat) : Int) := by unfold wrap64; omega
    simp only [below, tree_check.kids, hw]
    rcases Nat.lt_or_ge d 16 with h | h
    · have := ih (d + 1) ⟨#[97]⟩ (by omega) (by omega) a_size (by omega) (fun _ => a_node)
      rw [show d + 1 + j = d + (j + 1) by omega] at this
      refine Ev.then this ?_
      by_cases c : d + (j + 1) ≤ 16
      · rw [if_pos c]
        exact Ev.pos rfl (Ev.some _)
      · rw [if_neg c]
        exact Ev.neg (by decide) (Ev.some _)
    · obtain rfl : d = 16 := by omega
      rw [if_neg (by omega)]
      exact Ev.then (deep_wrong ⟨#[97]⟩ 17 a_size (by omega) rfl (below j) (below_len j)) (Ev.neg (by decide) (Ev.some _))
theorem count_ev : ∀ (j : Nat) (nm : ByteArray), j ≤ 100 → Ev (fun k => tree_Count.f k nm [] (below j)) ((j : Int) + 1, 0) := by
  intro j
  induction j with
  | zero =>
    intro nm hj
    refine Ev.succ ?_
    simp only [tree_Count.f, below]
    refine Ev.succ ?_
    simp only [tree_Count.l0]
    exact Ev.neg (by decide) (Ev.some _)
  | succ j ih =>
    intro nm hj
    have hw : wrap64 (1 + ((j : Int) + 1)) = ((j + 1 : Nat) : Int) + 1 := by unfold wrap64; omega
    have hw2 : wrap64 (0 + 0) = 0 := by unfold wrap64; omega
    have hw3 : wrap64 (0 + 1) = 1 := by unfold wrap64; omega
    refine Ev.succ ?_
    simp only [tree_Count.f, below]
    refine Ev.succ ?_
    simp only [tree_Count.l0]
    refine Ev.pos (by simp) (Ev.pos (by decide) (Ev.pos (by simp) (Ev.then (a := ((j : Int) + 1, 0)) (ih ⟨#[97]⟩ (by omega)) ?_)))
    refine Ev.succ ?_
    simp only [tree_Count.l0, List.length_nil, List.length_cons, hw, hw3, Int.natCast_zero, hw2]
    exact Ev.neg (by decide) (Ev.some _)
theorem check_ev (j : Nat) (hj : j ≤ 23) : Ev (fun k => tree_Check.f k 0 [] ⟨#[]⟩ [] (below j)) (if j ≤ 15 then 0 else 6) := by
  have h := deep_ev j 1 ⟨#[]⟩ (by omega) (by omega) (by decide) (fun _ => by decide +kernel) (by omega)
  unfold tree_Check.f
  refine Ev.then h ?_
  by_cases c : j ≤ 15
  · rw [if_pos c, if_pos (by omega)]
    refine Ev.pos rfl (Ev.then (count_ev j ⟨#[]⟩ (by omega)) (Ev.neg (by show ¬ ((j : Int) + 1 > 4096); omega) (Ev.neg (by show ¬ ((0 : Int) > 8192); decide) (Ev.neg (by simp) (Ev.then (a := false) ?_ (Ev.neg (by decide) (Ev.some _)))))))
    unfold api_Reserve_56.f api_Reserve_82.f
    refine Ev.then (a := -1) ?_ (Ev.some _)
    refine Ev.succ ?_
    simp only [api_Reserve_82.l0]
    exact Ev.neg (by decide) (Ev.some _)
  · rw [if_neg c, if_neg (by omega)]
    exact Ev.neg (by decide) (Ev.some _)
theorem TreeDeep : arboretlaw03_TreeDeep.Pure := by
  intro x hb gt
  have hx := Aid.wf_u8.mp gt
  obtain ⟨m, hm⟩ : ∃ m : Nat, (m : Int) = x % 24 := ⟨(x % 24).toNat, by omega⟩
  have hm23 : m ≤ 23 := by omega
  have ht : Int.tmod x 24 = (m : Int) := by rw [Int.tmod_eq_emod_of_nonneg (by omega)]; omega
  have hw0 : wrap64 (m : Int) = (m : Int) := by unfold wrap64; omega
  have hw1 : wrap64 ((m : Int) + 1) = (m : Int) + 1 := by unfold wrap64; omega
  have aw : Ev (fun _ => arboretlaw03_awake.f) true := Ev.fix rfl
  refine Ev.out (?_ : Ev (fun k => arboretlaw03_TreeDeep.f k x) true)
  unfold arboretlaw03_TreeDeep.f
  refine Ev.then aw (Ev.pos rfl ?_)
  rw [ht, hw0]
  have l0 : ∀ (p i : Nat), i + p = m → Ev (fun k => arboretlaw03_TreeDeep.l0 k x (m : Int) (i : Int) ⟨#[97]⟩ (below i)) true := by
    intro p
    induction p with
    | zero =>
      intro i hi
      obtain rfl : i = m := by omega
      refine Ev.succ ?_
      simp only [arboretlaw03_TreeDeep.l0, ht, hw0, hw1]
      refine Ev.neg (by omega) (Ev.then (check_ev i hm23) ?_)
      by_cases c : i ≤ 15
      · rw [if_pos c]
        refine Ev.pos ?_ (Ev.pos rfl (Ev.some _))
        have : decide ((i : Int) + 1 ≤ 16) = true := decide_eq_true (by omega)
        rw [this]
        rfl
      · rw [if_neg c]
        refine Ev.pos ?_ (Ev.neg (by decide) (Ev.fix rfl))
        have : decide ((i : Int) + 1 ≤ 16) = false := decide_eq_false (by omega)
        rw [this]
        rfl
    | succ p ih =>
      intro i hi
      have hw : wrap64 ((i : Int) + 1) = ((i + 1 : Nat) : Int) := by unfold wrap64; omega
      refine Ev.succ ?_
      simp only [arboretlaw03_TreeDeep.l0, hw]
      exact Ev.pos (by omega) (ih (i + 1) (by omega))
  exact l0 m 0 (by omega)
end Go.Proofs.Yteejaaeglfpcmab.Pure

namespace Go.Proofs.Yteejaaeglfpcmab.treeDeep
open Go.ChangeShapes Go.WideShapes Go.ChangeAt Go.RowKit Go.Proofs.Yteejaaeglfpcmab.Rdr Go.Proofs.Yteejaaeglfpcmab.PC
open Go.ChangeMaps (open_string shut_string)
set_option linter.unusedVariables false
set_option linter.unusedSimpArgs false
theorem own : ownKnob Try.prog.godebug = none := by kernel_rfl
theorem laidOut : laidOutB Try.prog = true := by kernel_rfl
set_option maxRecDepth 100000 in
theorem contract (H : Type) (enc : TypeId × Value → H) (W : World) (base : Nat) (args : Array Value) (ds gs : List (DataW H)) (before : List MemPlace)
    (hval0 : ∀ (j : Nat) t v, Try.f9.params[j]? = some t → args[j]? = some v → Value.okWide Try.prog W .any base t v)
    (hW : DataW.Whole enc Try.prog Try.f9.params.toList Rows.treeDeepSpec.vars false W args.toList ds gs before) (hk : Rows.uptoSmall H (ds ++ gs) = true) :
    Calls Try.prog 9 args W fun e W' => ∃ v, e = .returned v ∧ Rows.treeDeepSpec.post enc Try.prog Try.f9 false true false false W args v W' := by
  have hval : ∀ (j : Nat) t v, Try.f9.params[j]? = some t → args[j]? = some v → Value.okWide Try.prog W .any base t v := hval0
  have hW' := hW
  obtain ⟨p, q, hA0, hV, rfl, hfz, hnd⟩ := hW
  have hA : DataW.TrodAll enc Try.prog W 0 (fun _ => true) true Try.f9.params.toList args.toList ds p := hA0
  rw [Try.params9] at hA hval
  obtain ⟨v0, vs0, d0, ds0, p0, q0, hargs, rfl, rfl, h0, tr0⟩ := trodAll_cons hA
  obtain ⟨rfl, rfl, rfl⟩ := trodAll_nil tr0
  obtain rfl : args = #[v0] := by cases args; simp_all
  obtain ⟨rfl, rfl⟩ := trodVars_none hV
  have hb := bound hk
  simp only [List.append_nil, Rows.uptoBulkAll, List.nil_append] at hb
  have k0 := h0
  have lt0 : ∀ x ∈ p0, x.block < W.heap.size := by obtain ⟨m, hm⟩ := k0; exact DataW.trod_lt m _ _ _ hm
  obtain ⟨x0, rfl, rfl, rfl, g0⟩ := open_int Try.underlying5 (hval 0 5 v0 rfl rfl) h0
  obtain ⟨k, hk_⟩ := Pure.TreeDeep x0 (by (try simp only [Rows.uptoBulk, Array.length_toList] at hb); first | omega | (simp only [ByteArray.size] at *; omega)) g0
  refine (arboretlaw03_TreeDeep.calls k x0 true W  hk_).mono fun e W' ⟨he, bel0⟩ => ?_
  have bel : Below W.heap.size W W' := bel0
  subst he
  exact ⟨_, rfl, _, _, _, [], _, [], hW', trodAll_mk1 (shut_bool Try.underlying4 _), (trodAll_cons_mk (Below.trod laidOut (by kernel_rfl) (of_decide_eq_true (by kernel_rfl)) k0 bel lt0) trodAll_mk0), rfl, bel.frame _, fun h => by cases h⟩
set_option maxRecDepth 100000 in
theorem lifted (os : Os) (started : os.Started) (H : Type) (enc : TypeId × Value → H) (F : Stop.Interp) :
    ReturnsInHanded {} Try.checked os 9 .any ((Rows.OpenSpec.upto Rows.treeDeepSpec).pre6 enc Try.prog Try.f9 Rows.treeDeepUptoRow.domain false) (((Rows.OpenSpec.upto Rows.treeDeepSpec).at F).post enc Try.prog Try.f9 false true false false) := by
  refine returnsInHanded_of_cond (C := Try.checked) (s := Rows.OpenSpec.upto Rows.treeDeepSpec) (k := Rows.uptoSmall) rfl own started (by kernel_rfl) Try.func9
    (OpenSpec.witness (enc := enc) (C := Try.checked) (s := Rows.OpenSpec.upto Rows.treeDeepSpec) (k := Rows.uptoSmall) rfl false ⟨#[], #[.int .u8 0], []⟩ 16 (by kernel_rfl) (by kernel_rfl) (by kernel_rfl)
      (x := ([.lit (.int .u8 0)], [], [])) (by kernel_rfl) rfl (by kernel_rfl)) ?_
  intro W base args ds gs before hval hW _ hk _
  exact contract H enc W base args ds gs before hval hW hk
theorem over : Rows.treeDeepUptoRow.holds Try.pinned (Rows.OpenSpec.upto Rows.treeDeepSpec) :=
  OpenClaim.holds_of_cond 9 Try.f9 rfl rfl rfl rfl rfl rfl rfl ⟨rfl, rfl, rfl, rfl, rfl⟩ rfl rfl rfl rfl rfl (by kernel_rfl) Try.func9 (by kernel_rfl)
    (of_decide_eq_true (by kernel_rfl)) (by unfold Func.isWrapper; first | (rw [if_pos (by decide +kernel)]; kernel_rfl) | (rw [if_neg (by decide +kernel)]; exact ⟨rfl, rfl⟩))
    (fun os started H enc _ F => lifted os started H enc F)
theorem proved : Rows.TreeDeepUptoSaid := over
end Go.Proofs.Yteejaaeglfpcmab.treeDeep
namespace Go.Proofs.Yteejaaeglfpcmab
theorem treeDeep_holds : Rows.TreeDeepUptoSaid := treeDeep.proved
end Go.Proofs.Yteejaaeglfpcmab
