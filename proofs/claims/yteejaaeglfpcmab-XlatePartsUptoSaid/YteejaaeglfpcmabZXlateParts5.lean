/- XlateParts: texts of this session's, and what the kit's print laid for this seat, as far as the law's row uses them (Form, PXx_arboretref12_Up, Ups, PureXlateParts, LawXlateParts). -/
import Derived.Test.YteejaaeglfpcmabZXlateParts4
set_option linter.unusedVariables false
set_option linter.unusedSimpArgs false
namespace Go.Proofs.Yteejaaeglfpcmab.PX
open Go.RowKit Go.Proofs.Yteejaaeglfpcmab.Rdr Go.Proofs.Yteejaaeglfpcmab.Aid Go.Proofs.YteejaaeglfpcmabW.PrintWords
theorem count_ends (m : Nat) (hm : m ≤ 1048576) : ∀ x : S30, bulk30 x ≤ m → ∃ v : Int × Int, Ev (fun k => arboretref01_Count.f k x.f0 x.f1 x.f2) v := by
 induction m with
 | zero => intro x hx; have := bulk_pos x; omega
 | succ m ih =>
  intro x hx; have hk := bulk_kids x
  have kids : ∀ (j i : Nat) (a b : Int), i + j = x.f2.length → ∃ v : Int × Int, Ev (fun k => arboretref01_Count.l0 k a b (x.f2.length : Int) (i : Int) x.f0 x.f1 x.f2) v := by
   intro j
   induction j with
   | zero =>
    intro i a b hi; refine ⟨(a, b), Ev.succ ?_⟩; simp only [arboretref01_Count.l0]
    exact Ev.neg Zq1 (Ev.some _)
   | succ j ihj =>
    intro i a b hi; have hw := step64 (i := i) (n := x.f2.length) Zq1 Zq1; have hmem := getN (xs := x.f2) (i := i) Zq1; obtain ⟨v, hv⟩ := ih Zq1 (x.f2.getD i z30) (by have := bulk_kid hmem; omega); obtain ⟨r, hr⟩ := ihj (i + 1) (wrap64 (a + v.1)) (wrap64 (b + v.2)) Zq1; refine ⟨r, Ev.succ ?_⟩; simp only [arboretref01_Count.l0, rdN, hw]
    exact Ev.pos Zq1 (Ev.pos (Int.natCast_nonneg i) (Ev.pos Zq1 (Ev.then hv hr)))
  obtain ⟨v, hv⟩ := kids x.f2.length 0 1 (x.f1.length : Int) Zq1; refine ⟨v, Ev.succ ?_⟩; simp only [arboretref01_Count.f]
  exact hv
theorem wrong_ends (m : Nat) (hm : m ≤ 1048576) : ∀ (x : S30) (d : Nat), bulk30 x ≤ m → ∃ v : Int, Ev (fun k => arboretref01_wrong.f k x.f0 x.f1 x.f2 (d : Int)) v ∧ (v = 0 → ∀ (l : List Int) (n : S30), getS x l = some n → d + l.length ≤ 16) := by
 induction m with
 | zero => intro x d hx; have := bulk_pos x; omega
 | succ m ih =>
  intro x d hx; have hk := bulk_kids x; have hp := bulk_props x; have hnm := bulk_name x
  by_cases hd : (d : Int) > 16
  ·refine ⟨6, Ev.succ ?_, fun h => absurd h Zq7⟩; simp only [arboretref01_wrong.f]
   exact Ev.pos hd (Ev.some _)
  have hd1 : wrap64 ((d : Int) + 1) = ((d + 1 : Nat) : Int) := by rw [w64 Zq1 Zq1]; omega
  have l5 : ∀ (j i : Nat), i + j = x.f2.length → ∃ v : Int, Ev (fun k => arboretref01_wrong.l5 k (d : Int) (x.f2.length : Int) (i : Int) x.f0 x.f1 x.f2) v ∧ (v = 0 → ∀ q : Nat, i ≤ q → q < x.f2.length → ∀ (l : List Int) (n : S30), getS (x.f2.getD q z30) l = some n → d + 1 + l.length ≤ 16) := by
   intro j
   induction j with
   | zero =>
    intro i hi; refine ⟨0, Ev.succ ?_, fun _ q h1 h2 => by omega⟩; simp only [arboretref01_wrong.l5]
    exact Ev.neg Zq1 (Ev.some _)
   | succ j ihj =>
    intro i hi; have hw := step64 (i := i) (n := x.f2.length) Zq1 Zq1; have hmem := getN (xs := x.f2) (i := i) Zq1; obtain ⟨v, hv, hg⟩ := ih Zq1 (x.f2.getD i z30) (d + 1) (by have := bulk_kid hmem; omega); obtain ⟨r, hr, hq⟩ := ihj (i + 1) Zq1
    by_cases h0 : v = 0
    ·refine ⟨r, Ev.succ ?_, fun e q h1 h2 => ?_⟩
     ·simp only [arboretref01_wrong.l5, rdN, hw, hd1]
      exact Ev.pos Zq1 (Ev.pos (Int.natCast_nonneg i) (Ev.pos Zq1 (Ev.then hv (Ev.pos h0 hr))))
     ·rcases Nat.lt_or_ge i q with h3 | h3
      ·exact hq e q h3 h2
      ·obtain rfl : q = i := by omega
       exact hg h0
    ·refine ⟨v, Ev.succ ?_, fun e => absurd e h0⟩; simp only [arboretref01_wrong.l5, rdN, hw, hd1]
     exact Ev.pos Zq1 (Ev.pos (Int.natCast_nonneg i) (Ev.pos Zq1 (Ev.then hv (Ev.neg h0 (Ev.some _)))))
  obtain ⟨v5, e5, g5⟩ := l5 x.f2.length 0 Zq1
  have G : v5 = 0 → ∀ (l : List Int) (n : S30), getS x l = some n → d + l.length ≤ 16 := by
   intro h l n hl
   cases l with
   | nil => simp only [List.length_nil]; omega
   | cons q r =>
    simp only [getS] at hl
    by_cases c : 0 ≤ q ∧ q < (x.f2.length : Int)
    ·rw [if_pos c] at hl; have := g5 h q.toNat (Nat.zero_le _) Zq1 r n hl; simp only [List.length_cons]
     omega
    ·rw [if_neg c] at hl
     cases hl
  have l34 : ∀ (j i : Nat), i + j = x.f2.length → ∃ v : Int, Ev (fun k => arboretref01_wrong.l3 k (d : Int) (x.f2.length : Int) (i : Int) x.f0 x.f1 x.f2) v ∧ (v = 0 → v5 = 0) := by
   intro j
   induction j with
   | zero =>
    intro i hi; refine ⟨v5, Ev.succ ?_, fun h => h⟩; simp only [arboretref01_wrong.l3]
    exact Ev.neg Zq1 e5
   | succ j ihj =>
    intro i hi; obtain ⟨r, hr, hq⟩ := ihj (i + 1) Zq1; have hw := step64 (i := i) (n := x.f2.length) Zq1 Zq1
    have inner : ∀ (p q : Nat), q + p = i → ∃ v : Int, Ev (fun k => arboretref01_wrong.l4 k (d : Int) (i : Int) (x.f2.length : Int) (i : Int) (i : Int) (q : Int) x.f0 x.f1 x.f2) v ∧ (v = 0 → v5 = 0) := by
     intro p
     induction p with
     | zero =>
      intro q hq0; refine ⟨r, Ev.succ ?_, hq⟩; simp only [arboretref01_wrong.l4, hw]
      exact Ev.neg Zq1 hr
     | succ p ihp =>
      intro q hq0; have hw2 := step64 (i := q) (n := x.f2.length) Zq1 Zq1; obtain ⟨u, hu, hu0⟩ := ihp (q + 1) Zq1
      by_cases c : (x.f2.getD q z30).f0.toList = (x.f2.getD i z30).f0.toList
      ·refine ⟨9, Ev.succ ?_, fun h => absurd h Zq7⟩; simp only [arboretref01_wrong.l4, rdN]
       exact Ev.pos Zq1 (Ev.pos (Int.natCast_nonneg q) (Ev.pos Zq1 (Ev.pos (Int.natCast_nonneg i) (Ev.pos Zq1 (Ev.pos c (Ev.some _))))))
      ·refine ⟨u, Ev.succ ?_, hu0⟩; simp only [arboretref01_wrong.l4, rdN, hw2]
       exact Ev.pos Zq1 (Ev.pos (Int.natCast_nonneg q) (Ev.pos Zq1 (Ev.pos (Int.natCast_nonneg i) (Ev.pos Zq1 (Ev.neg c hu)))))
    obtain ⟨u, hu, hu0⟩ := inner i 0 Zq1; refine ⟨u, Ev.succ ?_, hu0⟩; simp only [arboretref01_wrong.l3]
    exact Ev.pos Zq1 hu
  obtain ⟨v3, e3, g3⟩ := l34 x.f2.length 0 Zq1
  have l12 : ∀ (j i : Nat), i + j = x.f1.length → ∃ v : Int, Ev (fun k => arboretref01_wrong.l1 k (d : Int) (x.f1.length : Int) (i : Int) x.f0 x.f1 x.f2) v ∧ (v = 0 → v5 = 0) := by
   intro j
   induction j with
   | zero =>
    intro i hi; refine ⟨v3, Ev.succ ?_, g3⟩; simp only [arboretref01_wrong.l1]
    exact Ev.neg Zq1 e3
   | succ j ihj =>
    intro i hi; obtain ⟨r, hr, hq⟩ := ihj (i + 1) Zq1; have hw := step64 (i := i) (n := x.f1.length) Zq1 Zq1
    have inner : ∀ (p q : Nat), q + p = i → ∃ v : Int, Ev (fun k => arboretref01_wrong.l2 k (d : Int) (i : Int) (x.f1.length : Int) (i : Int) (i : Int) (q : Int) x.f0 x.f1 x.f2) v ∧ (v = 0 → v5 = 0) := by
     intro p
     induction p with
     | zero =>
      intro q hq0; refine ⟨r, Ev.succ ?_, hq⟩; simp only [arboretref01_wrong.l2, hw]
      exact Ev.neg Zq1 hr
     | succ p ihp =>
      intro q hq0; have hw2 := step64 (i := q) (n := x.f1.length) Zq1 Zq1; obtain ⟨u, hu, hu0⟩ := ihp (q + 1) Zq1
      by_cases c : (x.f1.getD q z77).f0.toList = (x.f1.getD i z77).f0.toList
      ·refine ⟨9, Ev.succ ?_, fun h => absurd h Zq7⟩; simp only [arboretref01_wrong.l2, rdP]
       exact Ev.pos Zq1 (Ev.pos (Int.natCast_nonneg q) (Ev.pos Zq1 (Ev.pos (Int.natCast_nonneg i) (Ev.pos Zq1 (Ev.pos c (Ev.some _))))))
      ·refine ⟨u, Ev.succ ?_, hu0⟩; simp only [arboretref01_wrong.l2, rdP, hw2]
       exact Ev.pos Zq1 (Ev.pos (Int.natCast_nonneg q) (Ev.pos Zq1 (Ev.pos (Int.natCast_nonneg i) (Ev.pos Zq1 (Ev.neg c hu)))))
    obtain ⟨u, hu, hu0⟩ := inner i 0 Zq1; refine ⟨u, Ev.succ ?_, hu0⟩; simp only [arboretref01_wrong.l1]
    exact Ev.pos Zq1 hu
  obtain ⟨v1, e1, g1⟩ := l12 x.f1.length 0 Zq1
  have l0 : ∀ (j i : Nat), i + j = x.f1.length → ∃ v : Int, Ev (fun k => arboretref01_wrong.l0 k (d : Int) (x.f1.length : Int) (i : Int) x.f0 x.f1 x.f2) v ∧ (v = 0 → v5 = 0) := by
   intro j
   induction j with
   | zero =>
    intro i hi; refine ⟨v1, Ev.succ ?_, g1⟩; simp only [arboretref01_wrong.l0]
    exact Ev.neg Zq1 e1
   | succ j ihj =>
    intro i hi; obtain ⟨r, hr, hq⟩ := ihj (i + 1) Zq1; have hw := step64 (i := i) (n := x.f1.length) Zq1 Zq1; have hmem := getP (xs := x.f1) (i := i) Zq1; have hb := bulk_prop hmem; have hv := bulk_value (x.f1.getD i z77); have hn := refprop_ev (x.f1.getD i z77).f0 Zq1
    cases hc : propB (bytesOf (x.f1.getD i z77).f0) with
    | true =>
     rw [hc] at hn; refine ⟨r, Ev.succ ?_, hq⟩; simp only [arboretref01_wrong.l0, rdP, hw]
     exact Ev.pos Zq1 (Ev.pos (Int.natCast_nonneg i) (Ev.pos Zq1 (Ev.then hn (Ev.pos rfl hr))))
    | false =>
     rw [hc] at hn; refine ⟨5, Ev.succ ?_, fun h => absurd h Zq7⟩; simp only [arboretref01_wrong.l0, rdP, hw]
     exact Ev.pos Zq1 (Ev.pos (Int.natCast_nonneg i) (Ev.pos Zq1 (Ev.then hn (Ev.neg Zq7 (Ev.some _)))))
  obtain ⟨v0, e0, g0⟩ := l0 x.f1.length 0 Zq1
  have j0 : ∀ b : Bool, ∃ v : Int, Ev (fun k => arboretref01_wrong.j0 k (d : Int) b x.f0 x.f1 x.f2) v ∧ (v = 0 → v5 = 0) := by
   intro b
   cases b with
   | true =>
    refine ⟨5, Ev.succ ?_, fun h => absurd h Zq7⟩; simp only [arboretref01_wrong.j0]
    exact Ev.pos trivial (Ev.some _)
   | false =>
    refine ⟨v0, Ev.succ ?_, g0⟩; simp only [arboretref01_wrong.j0]
    exact Ev.neg (fun h => Bool.noConfusion h) e0
  have hn := refnode_ev x.f0 Zq1
  by_cases h1 : (d : Int) = 1
  ·by_cases hz : x.f0.toList = ([] : List UInt8)
   ·by_cases h2 : (d : Int) > 1
    ·omega
    ·obtain ⟨v, hv, hg⟩ := j0 false; refine ⟨v, Ev.succ ?_, fun h => G (hg h)⟩; simp only [arboretref01_wrong.f]
     exact Ev.neg hd (Ev.pos h1 (Ev.pos hz (Ev.neg h2 hv)))
   ·obtain ⟨v, hv, hg⟩ := j0 true; refine ⟨v, Ev.succ ?_, fun h => G (hg h)⟩; simp only [arboretref01_wrong.f]
    exact Ev.neg hd (Ev.pos h1 (Ev.neg hz hv))
  ·by_cases h2 : (d : Int) > 1
   ·obtain ⟨v, hv, hg⟩ := j0 (!nodeB x.f0); refine ⟨v, Ev.succ ?_, fun h => G (hg h)⟩; simp only [arboretref01_wrong.f]
    exact Ev.neg hd (Ev.neg h1 (Ev.pos h2 (Ev.then hn hv)))
   ·obtain ⟨v, hv, hg⟩ := j0 false; refine ⟨v, Ev.succ ?_, fun h => G (hg h)⟩; simp only [arboretref01_wrong.f]
    exact Ev.neg hd (Ev.neg h1 (Ev.neg h2 hv))
theorem check_ends (b : Int) (res : List S94) (x : S30) (hx : bulk30 x ≤ 1048576) (hr : res.length ≤ 1048576) :
  ∃ v : Int, Ev (fun k => arboretref01_Check.f k b res x.f0 x.f1 x.f2) v ∧ (v = 0 → ∀ (l : List Int) (n : S30), getS x l = some n → l.length ≤ 15) := by
 obtain ⟨v, hv, hg⟩ := wrong_ends 1048576 Zq1 x 1 hx; obtain ⟨c, hc⟩ := count_ends 1048576 Zq1 x hx
 have l0 : ∀ (j i : Nat), i + j = res.length → ∃ v : Int, Ev (fun k => arboretref01_Check.l0 k (res.length : Int) (i : Int) b res x.f0 x.f1 x.f2) v := by
  intro j
  induction j with
  | zero =>
   intro i hi; refine ⟨0, Ev.succ ?_⟩; simp only [arboretref01_Check.l0]
   exact Ev.neg Zq1 (Ev.some _)
  | succ j ihj =>
   intro i hi; have hw := step64 (i := i) (n := res.length) Zq1 hr; obtain ⟨r, hq⟩ := ihj (i + 1) Zq1
   by_cases h0 : (rd_T94 res (i : Int)).f0 = 0
   ·by_cases h1 : (rd_T94 res (i : Int)).f1 = 0
    ·refine ⟨7, Ev.succ ?_⟩; simp only [arboretref01_Check.l0, hw]
     exact Ev.pos Zq1 (Ev.pos (Int.natCast_nonneg i) (Ev.pos Zq1 (Ev.pos h0 (Ev.pos h1 (Ev.some _)))))
    ·refine ⟨r, Ev.succ ?_⟩; simp only [arboretref01_Check.l0, hw]
     exact Ev.pos Zq1 (Ev.pos (Int.natCast_nonneg i) (Ev.pos Zq1 (Ev.pos h0 (Ev.neg h1 hq))))
   ·refine ⟨r, Ev.succ ?_⟩; simp only [arboretref01_Check.l0, hw]
    exact Ev.pos Zq1 (Ev.pos (Int.natCast_nonneg i) (Ev.pos Zq1 (Ev.neg h0 hq)))
 obtain ⟨w, hw⟩ := l0 res.length 0 Zq1
 have j0 : ∀ y : Bool, ∃ v : Int, Ev (fun k => arboretref01_Check.j0 k y b res x.f0 x.f1 x.f2) v := by
  intro y
  cases y with
  | true =>
   refine ⟨7, Ev.succ ?_⟩; simp only [arboretref01_Check.j0]
   exact Ev.pos trivial (Ev.some _)
  | false =>
   refine ⟨w, Ev.succ ?_⟩; simp only [arboretref01_Check.j0]
   exact Ev.neg (fun h => Bool.noConfusion h) hw
 by_cases h0 : v = 0
 ·have G : ∀ (l : List Int) (n : S30), getS x l = some n → l.length ≤ 15 := fun l n h => by
   have := hg h0 l n h
   omega
  by_cases h1 : c.1 > 4096
  ·obtain ⟨r, hr⟩ := j0 true; refine ⟨r, ?_, fun _ => G⟩; unfold arboretref01_Check.f
   exact Ev.then hv (Ev.pos h0 (Ev.then hc (Ev.pos h1 hr)))
  by_cases h2 : c.2 > 8192
  ·obtain ⟨r, hr⟩ := j0 true; refine ⟨r, ?_, fun _ => G⟩; unfold arboretref01_Check.f
   exact Ev.then hv (Ev.pos h0 (Ev.then hc (Ev.neg h1 (Ev.pos h2 hr))))
  ·obtain ⟨r, hr⟩ := j0 (decide ((res.length : Int) > 64)); refine ⟨r, ?_, fun _ => G⟩; unfold arboretref01_Check.f
   exact Ev.then hv (Ev.pos h0 (Ev.then hc (Ev.neg h1 (Ev.neg h2 hr))))
 ·refine ⟨v, ?_, fun h => absurd h h0⟩; unfold arboretref01_Check.f
  exact Ev.then hv (Ev.neg h0 (Ev.some _))
end Go.Proofs.Yteejaaeglfpcmab.PX

namespace Go.Proofs.Yteejaaeglfpcmab.PX
open Go.RowKit Go.Proofs.YteejaaeglfpcmabW.PrintWords Go.Proofs.YteejaaeglfpcmabW.PrintLast Go.Proofs.YteejaaeglfpcmabW.PrintMore
attribute [local go_sem] max2_int min2_int max_two min_two max_three min_three max_four min_four
mutual
def arboretref12_Up.l0 : Nat → List Int → Int → Int → Int → Int → List (S94) → ByteArray → List (S77) → List (S30) → Option (Int × Bool)
 | 0, _, _, _, _, _, _, _, _, _ => none
 | k + 1, x1, x2, x3, x10, xde, xdf, xdg, xdh, xdi => if x10 > 0 then (if 0 ≤ x10 then (if x10 ≤ (x1.length : Int) then ((arboretref06_Get.f k xde xdf xdg xdh xdi (x1.take (x10 : Int).toNat)).bind fun btfs => (if 0 ≤ (wrap64 (x10 - 1)) then (if (wrap64 (x10 - 1)) ≤ (x1.length : Int) then ((arboretref06_Get.f k xde xdf xdg xdh xdi (x1.take ((wrap64 (x10 - 1)) : Int).toNat)).bind fun btft => ((arboretref12_Ranges.f k btft.1 btft.2.1 btft.2.2.1 btfs.1 btfs.2.1 btfs.2.2.1).bind fun btfu => (if btfu.2.2 = true then (arboretref12_Up.l1 k x1 x2 x3 x10 btfu.1 false (btfu.1.length : Int) 0 xde xdf xdg xdh xdi) else (some (0, false))))) else (none)) else (none))) else (none)) else (none)) else (some (x2, true))
def arboretref12_Up.l1 : Nat → List Int → Int → Int → Int → List (S45) → Bool → Int → Int → Int → List (S94) → ByteArray → List (S77) → List (S30) → Option (Int × Bool)
 | 0, _, _, _, _, _, _, _, _, _, _, _, _, _ => none
 | k + 1, x1, x2, x3, x10, x15, x18, x54, x55, xde, xdf, xdg, xdh, xdi => if x55 < x54 then (if x18 = true then (arboretref12_Up.j2 k x1 x2 x3 x10 x15 x18 x55 x54 x55 false xde xdf xdg xdh xdi) else (if 0 ≤ x55 then (if x55 < (x15.length : Int) then ((arboretref12_Inside.f ((rd_T45 x15 x55).f0) ((rd_T45 x15 x55).f2) x2 x3).bind fun tgv => (arboretref12_Up.j2 k x1 x2 x3 x10 x15 x18 x55 x54 x55 tgv xde xdf xdg xdh xdi)) else (none)) else (none))) else (if x18 = true then (arboretref12_Up.l0 k x1 x2 x3 (wrap64 (x10 - 1)) xde xdf xdg xdh xdi) else (some (0, false)))
def arboretref12_Up.j2 : Nat → List Int → Int → Int → Int → List (S45) → Bool → Int → Int → Int → Bool → Int → List (S94) → ByteArray → List (S77) → List (S30) → Option (Int × Bool)
 | 0, _, _, _, _, _, _, _, _, _, _, _, _, _, _, _ => none
 | k + 1, x1, x2, x3, x10, x15, x18, x19, x54, x55, x75, xde, xdf, xdg, xdh, xdi => if x75 = true then (if 0 ≤ x19 then (if x19 < (x15.length : Int) then (if (IntKind.u64.wrap (x2 - ((rd_T45 x15 x19).f0))) > (IntKind.u64.wrap (18446744073709551615 - ((rd_T45 x15 x19).f1))) then (some (0, false)) else ((arboretref12_Whole.f (IntKind.u64.wrap (((rd_T45 x15 x19).f1) + (IntKind.u64.wrap (x2 - ((rd_T45 x15 x19).f0))))) x3).bind fun tgw => (if tgw = true then (arboretref12_Up.l1 k x1 (IntKind.u64.wrap (((rd_T45 x15 x19).f1) + (IntKind.u64.wrap (x2 - ((rd_T45 x15 x19).f0))))) x3 x10 x15 true x54 (wrap64 (x55 + 1)) xde xdf xdg xdh xdi) else (some (0, false))))) else (none)) else (none)) else (arboretref12_Up.l1 k x1 x2 x3 x10 x15 x18 x54 (wrap64 (x55 + 1)) xde xdf xdg xdh xdi)
end
def arboretref12_Up.f (k : Nat) (a0_0 : Int) (l0_1 : List (S94)) (a0_2 : ByteArray) (l0_3 : List (S77)) (l0_4 : List (S30)) (l1 : List Int) (a2 : Int) (a3 : Int) : Option (Int × Bool) := arboretref12_Up.l0 k l1 a2 a3 (l1.length : Int) a0_0 l0_1 a0_2 l0_3 l0_4
end Go.Proofs.Yteejaaeglfpcmab.PX

namespace Go.Proofs.Yteejaaeglfpcmab.PX
open Go.RowKit Go.Proofs.Yteejaaeglfpcmab.Rdr Go.Proofs.Yteejaaeglfpcmab.Aid Go.Proofs.YteejaaeglfpcmabW.PrintWords
def ins (q : Int × Int × Int) (at_ size : Int) : Prop := 0 < size ∧ 0 < q.2.2 ∧ q.2.2 - 1 ≤ 18446744073709551615 - q.1 ∧ size - 1 ≤ 18446744073709551615 - at_ ∧ q.1 ≤ at_ ∧ at_ + size ≤ q.1 + q.2.2
instance (q : Int × Int × Int) (at_ size : Int) : Decidable (ins q at_ size) := by unfold ins; infer_instance
def over (q : Int × Int × Int) (at_ size : Int) : Prop := at_ - q.1 > 18446744073709551615 - q.2.1 ∨ size - 1 > 18446744073709551615 - (q.2.1 + (at_ - q.1))
instance (q : Int × Int × Int) (at_ size : Int) : Decidable (over q at_ size) := by unfold over; infer_instance
def firstS (at_ size : Int) : List (Int × Int × Int) → Int × Int
 | [] => (0, 12)
 | q :: r => if ins q at_ size then (if over q at_ size then (0, 12) else (q.2.1 + (at_ - q.1), 0)) else firstS at_ size r
def stepS (par x : S30) (at_ size : Int) : Int × Int := if (rngSpec par x).2.2 = true then firstS at_ size (rngSpec par x).1 else (0, 10)
def allAddr (l : List (Int × Int × Int)) : Prop := ∀ q ∈ l, isAddr q.1 ∧ isAddr q.2.1 ∧ isAddr q.2.2
theorem inside1_q (q : Int × Int × Int) (a s : Int) (hq : isAddr q.1 ∧ isAddr q.2.1 ∧ isAddr q.2.2) (ha : isAddr a) (hs : isAddr s) : region_Inside.f (rng1 q).f0 (rng1 q).f2 a s = some (decide (ins q a s)) := by
 have h := inside_1 q.1 q.2.2 a s hq.1 hq.2.2 ha hs
 exact h
theorem firstS_fact (a s : Int) (ha : isAddr a) (hs : isAddr s) : ∀ l : List (Int × Int × Int), allAddr l → (firstS a s l).2 = 12 ∧ (firstS a s l).1 = 0 ∨ (firstS a s l).2 = 0 ∧ isAddr (firstS a s l).1 ∧ (firstS a s l).1 + (s - 1) ≤ 18446744073709551615 ∧ a + (s - 1) ≤ 18446744073709551615 ∧ ∃ q ∈ l, ins q a s
 | [], _ => .inl ⟨rfl, rfl⟩
 | q :: r, h => by
  have hq := h q List.mem_cons_self
  by_cases hi : ins q a s
  ·by_cases ho : over q a s
   ·have e : firstS a s (q :: r) = (0, 12) := by simp only [firstS, if_pos hi, if_pos ho]
    rw [e]
    exact .inl ⟨rfl, rfl⟩
   ·have e : firstS a s (q :: r) = (q.2.1 + (a - q.1), 0) := by simp only [firstS, if_pos hi, if_neg ho]
    rw [e]; unfold over at ho; have hi' := hi; unfold ins at hi'; unfold isAddr at hq ⊢; refine .inr ⟨rfl, by simp only; omega, by simp only; omega, Zq1, q, List.mem_cons_self, hi⟩
  ·have e : firstS a s (q :: r) = firstS a s r := by simp only [firstS, if_neg hi]
   rw [e]
   rcases firstS_fact a s ha hs r (fun x hx => h x (List.mem_cons_of_mem _ hx)) with h1 | ⟨h1, h2, h3, h4, x, h5, h6⟩
   ·exact .inl h1
   ·exact .inr ⟨h1, h2, h3, h4, x, List.mem_cons_of_mem _ h5, h6⟩
theorem step_list (L : List (Int × Int × Int)) (hL : L.length ≤ 1048576) (hA : allAddr L) (a s : Int) (ha : isAddr a) (hs : isAddr s) :
  Ev (fun k => xlate_step.l0 k a s (L.map rng1) (L.length : Int) 0) (firstS a s L) := by
 have main := loop L (firstS a s) (fun k i => xlate_step.l0 k a s (L.map rng1) (L.length : Int) i) ?_ ?_ 0 (Nat.zero_le _)
 ·exact main
 ·refine Ev.succ ?_; simp only [xlate_step.l0, firstS]
  exact Ev.neg Zq1 (Ev.some _)
 ·intro i h ih; have hw := step64 (i := i) (n := L.length) h hL; have hq := hA _ (List.getElem_mem h)
  have e1 : rd_T46 (L.map rng1) (i : Int) = rng1 L[i] := by
   unfold rd_T46; rw [Int.toNat_natCast, getD_at (by rw [List.length_map]; exact h), List.getElem_map]
  generalize L[i] = q at hq e1; refine Ev.succ ?_; simp only [xlate_step.l0, hw, e1, inside1_q q a s hq ha hs, Option.bind_some, decide_eq_true_eq, firstS, List.length_map]; refine Ev.pos Zq1 (Ev.pos (Int.natCast_nonneg i) (Ev.pos Zq1 ?_))
  by_cases hi : ins q a s
  ·rw [if_pos hi]; refine Ev.pos hi ?_; clear ih e1 hw; unfold ins at hi; unfold isAddr at hq ha hs; have w1 : IntKind.u64.wrap (a - (rng1 q).f0) = a - q.1 := wu64 (by show 0 ≤ a - q.1; omega) (by show a - q.1 < 18446744073709551616; omega); have w2 : IntKind.u64.wrap (18446744073709551615 - (rng1 q).f1) = 18446744073709551615 - q.2.1 := wu64 (by show 0 ≤ 18446744073709551615 - q.2.1; omega) (by show 18446744073709551615 - q.2.1 < 18446744073709551616; omega); have w3 : IntKind.u64.wrap (s - 1) = s - 1 := wu64 Zq1 Zq1; rw [w1, w2, w3]
   by_cases h1 : a - q.1 > 18446744073709551615 - q.2.1
   ·rw [if_pos (show over q a s from Or.inl h1)]
    exact Ev.pos h1 (Ev.some _)
   ·have w4 : IntKind.u64.wrap ((rng1 q).f1 + (a - q.1)) = q.2.1 + (a - q.1) := wu64 (by show 0 ≤ q.2.1 + (a - q.1); omega) (by show q.2.1 + (a - q.1) < 18446744073709551616; omega); have w5 : IntKind.u64.wrap (18446744073709551615 - (q.2.1 + (a - q.1))) = 18446744073709551615 - (q.2.1 + (a - q.1)) := wu64 Zq1 Zq1; rw [w4, w5]; refine Ev.neg h1 ?_
    by_cases h2 : s - 1 > 18446744073709551615 - (q.2.1 + (a - q.1))
    ·rw [if_pos (show over q a s from Or.inr h2)]
     exact Ev.pos h2 (Ev.some _)
    ·rw [if_neg (show ¬ over q a s from fun h => h.elim h1 h2)]
     exact Ev.neg h2 (Ev.some _)
  ·rw [if_neg hi]
   exact Ev.neg hi ih
theorem step_ev (par x : S30) (a s : Int) (hp : bulk30 par ≤ 1048576) (hx : bulk30 x ≤ 1048576) (gp : good30 par) (gx : good30 x) (ha : isAddr a) (hs : isAddr s) :
  Ev (fun k => xlate_step.f k par.f0 par.f1 par.f2 x.f0 x.f1 x.f2 a s) (stepS par x a s) := by
 unfold xlate_step.f stepS
 refine Ev.then (ranges_ev par x hp hx gp gx) ?_
 cases hk : (rngSpec par x).2.2 with
 | true =>
  rw [if_pos rfl]; refine Ev.pos rfl ?_; have := step_list (rngSpec par x).1 (rngSpec_len par x hx) (rngSpec_addr par x gp gx) a s ha hs
  simpa only [List.length_map] using this
 | false =>
  rw [if_neg Zq7]
  exact Ev.neg (by show ¬ rngE false = 0; decide) (Ev.some _)
theorem stepS_fact (par x : S30) (gp : good30 par) (gx : good30 x) (a s : Int) (ha : isAddr a) (hs : isAddr s) :
  ((stepS par x a s).2 = 12 ∨ (stepS par x a s).2 = 10) ∧ (stepS par x a s).1 = 0 ∨ (stepS par x a s).2 = 0 ∧ isAddr (stepS par x a s).1 ∧ (stepS par x a s).1 + (s - 1) ≤ 18446744073709551615 ∧ a + (s - 1) ≤ 18446744073709551615 := by
 unfold stepS
 by_cases hk : (rngSpec par x).2.2 = true
 ·rw [if_pos hk]
  rcases firstS_fact a s ha hs (rngSpec par x).1 (rngSpec_addr par x gp gx) with ⟨h1, h2⟩ | ⟨h1, h2, h3, h4, _⟩
  ·exact .inl ⟨.inl h1, h2⟩
  ·exact .inr ⟨h1, h2, h3, h4⟩
 ·rw [if_neg hk]
  exact .inl ⟨.inr rfl, rfl⟩
def upS (x : S30) (place : List Int) (s : Int) : Nat → Int → Int × Int
 | 0, a => (a, 0)
 | k + 1, a => match getS x (place.take k), getS x (place.take (k + 1)) with
  | some par, some n => if (stepS par n a s).2 = 0 then upS x place s k (stepS par n a s).1 else (0, (stepS par n a s).2)
  | _, _ => (0, 12)
theorem upS_fact (x : S30) (gx : good30 x) (place : List Int) (s : Int) (hs : isAddr s) : ∀ (k : Nat) (a : Int), isAddr a → ((upS x place s k a).2 = 12 ∨ (upS x place s k a).2 = 10) ∧ (upS x place s k a).1 = 0 ∨ (upS x place s k a).2 = 0 ∧ isAddr (upS x place s k a).1 ∧ (0 < k → (upS x place s k a).1 + (s - 1) ≤ 18446744073709551615 ∧ a + (s - 1) ≤ 18446744073709551615)
 | 0, a, ha => .inr ⟨rfl, ha, fun h => absurd h Zq1⟩
 | k + 1, a, ha => by
  unfold upS
  cases h1 : getS x (place.take k) with
  | none => exact .inl ⟨.inl rfl, rfl⟩
  | some par =>
   cases h2 : getS x (place.take (k + 1)) with
   | none => exact .inl ⟨.inl rfl, rfl⟩
   | some n =>
    have hf := stepS_fact par n (getS_good _ _ _ h1 gx) (getS_good _ _ _ h2 gx) a s ha hs
    simp only
    by_cases h0 : (stepS par n a s).2 = 0
    ·rw [if_pos h0]
     rcases hf with ⟨h3, _⟩ | ⟨_, h4, h5, h6⟩
     ·omega
     ·rcases upS_fact x gx place s hs k (stepS par n a s).1 h4 with h7 | ⟨h7, h8, h9⟩
      ·exact .inl h7
      ·refine .inr ⟨h7, h8, fun _ => ⟨?_, h6⟩⟩
       cases k with
       | zero => exact h5
       | succ k => exact (h9 (by omega)).1
    ·rw [if_neg h0]
     rcases hf with ⟨h3, _⟩ | ⟨h4, _⟩
     ·exact .inl ⟨h3, rfl⟩
     ·exact absurd h4 h0
theorem up_loop (b : Int) (res : List S94) (x : S30) (hx : bulk30 x ≤ 1048576) (gx : good30 x) (place : List Int) (hl : place.length ≤ 16) (s : Int) (hs : isAddr s) : ∀ (j : Nat) (a : Int) (n : S30), j ≤ place.length → isAddr a → getS x (place.take j) = some n →
  Ev (fun k => xlate_Up.l0 k place a s (j : Int) b res x.f0 x.f1 x.f2 n.f0 n.f1 n.f2) (upS x place s j a)
 | 0, a, n, _, ha, hn => by
  refine Ev.succ ?_; simp only [xlate_Up.l0, upS]
  exact Ev.neg Zq1 (Ev.some _)
 | j + 1, a, n, hj, ha, hn => by
  obtain ⟨par, hp⟩ : ∃ m, getS x (place.take j) = some m := by
   have := getS_take (place.take (j + 1)) x n j hn; rw [List.take_take, Nat.min_eq_left Zq1] at this
   exact this
  have hw : wrap64 (((j + 1 : Nat) : Int) - 1) = (j : Int) := by rw [w64 Zq1 Zq1]; omega
  have hg := pget_ev b res x (place.take j) hx (by rw [List.length_take]; omega); rw [hp] at hg; have bp := getS_bulk _ _ _ hp; have bn := getS_bulk _ _ _ hn; have gp := getS_good _ _ _ hp gx; have gn := getS_good _ _ _ hn gx; have hst := step_ev par n a s Zq1 Zq1 gp gn ha hs; have hf := stepS_fact par n gp gn a s ha hs
  have e : upS x place s (j + 1) a = (if (stepS par n a s).2 = 0 then upS x place s j (stepS par n a s).1 else (0, (stepS par n a s).2)) := by
   rw [upS, hp, hn]
  rw [e]; refine Ev.succ ?_; simp only [xlate_Up.l0, hw, Int.toNat_natCast]; refine Ev.pos Zq1 (Ev.pos (Int.natCast_nonneg j) (Ev.pos Zq1 (Ev.then hg (Ev.then hst ?_))))
  by_cases h0 : (stepS par n a s).2 = 0
  ·rw [if_pos h0]
   rcases hf with ⟨h3, _⟩ | ⟨_, h4, _⟩
   ·omega
   ·exact Ev.pos h0 (up_loop b res x hx gx place hl s hs j _ par Zq1 h4 hp)
  ·rw [if_neg h0]
   exact Ev.neg h0 (Ev.some _)
theorem up_ev (b : Int) (res : List S94) (x : S30) (hx : bulk30 x ≤ 1048576) (gx : good30 x) (place : List Int) (hl : place.length ≤ 16) (s a : Int) (hs : isAddr s) (ha : isAddr a) (n : S30) (hn : getS x place = some n) :
  Ev (fun k => xlate_Up.f k b res x.f0 x.f1 x.f2 place a s) (upS x place s place.length a) := by
 unfold xlate_Up.f; have hg := pget_ev b res x place hx hl; rw [hn] at hg
 refine Ev.then hg (Ev.pos rfl ?_)
 exact up_loop b res x hx gx place hl s hs place.length a n (Nat.le_refl _) ha (by rw [List.take_length]; exact hn)
theorem up_none (b : Int) (res : List S94) (x : S30) (hx : bulk30 x ≤ 1048576) (place : List Int) (s a : Int) (hn : getS x place = none) :
  Ev (fun k => xlate_Up.f k b res x.f0 x.f1 x.f2 place a s) (0, 8) := by
 unfold xlate_Up.f
 by_cases hl : place.length ≤ 16
 ·have hg := pget_ev b res x place hx hl; rw [hn] at hg
  exact Ev.then hg (Ev.neg Zq7 (Ev.some _))
 ·exact Ev.then (pget_deep b res x place hl) (Ev.neg Zq7 (Ev.some _))
section
variable (b : Int) (res : List S94) (x : S30) (place : List Int) (s : Int) (hs : isAddr s) (L : List (Int × Int × Int)) (hL : L.length ≤ 1048576) (hA : allAddr L) (j : Int) (R : Int → Int × Bool)
end
end Go.Proofs.Yteejaaeglfpcmab.PX

namespace Go.Proofs.Yteejaaeglfpcmab.Pure
open Go.RowKit Go.Proofs.Yteejaaeglfpcmab.PX Go.Proofs.Yteejaaeglfpcmab.Rdr Go.Proofs.Yteejaaeglfpcmab.Aid Go.Proofs.YteejaaeglfpcmabW.PrintWords
theorem xparts_awake : Ev (fun k => arboretlaw13_awake.f k) true := Ev.of (k := 6) (fun k => arboretlaw13_awake.mono k) (by decide +kernel)
def meets (q p : Int × Int × Int) : Prop := 0 < q.2.2 ∧ 0 < p.2.2 ∧ q.1 ≤ lastOf p.1 p.2.2 ∧ p.1 ≤ lastOf q.1 q.2.2
instance (q p : Int × Int × Int) : Decidable (meets q p) := by unfold meets; infer_instance
def free (l : List (Int × Int × Int)) : Prop := ∀ i j : Nat, j < i → (hi : i < l.length) → ∀ hj : j < l.length, ¬ meets l[i] l[j]
theorem ins_last {q : Int × Int × Int} {a s : Int} (hq : isAddr q.1 ∧ isAddr q.2.1 ∧ isAddr q.2.2) (h : ins q a s) : 0 < q.2.2 ∧ q.1 ≤ a ∧ a + (s - 1) ≤ lastOf q.1 q.2.2 := by
 unfold ins at h; unfold isAddr at hq; unfold lastOf; rw [if_pos Zq1]
 omega
theorem ins_meets {q p : Int × Int × Int} {a s k : Int} (hq : isAddr q.1 ∧ isAddr q.2.1 ∧ isAddr q.2.2) (hp : isAddr p.1 ∧ isAddr p.2.1 ∧ isAddr p.2.2) (h0 : 0 ≤ k) (h1 : k < s) (h : ins p a s) (h' : ins q (a + k) 1) : meets p q := by
 have e1 := ins_last hp h; have e2 := ins_last hq h'; unfold meets
 omega
theorem free_tail {q : Int × Int × Int} {l : List (Int × Int × Int)} (h : free (q :: l)) : free l := by
 intro i j hij hi hj; have := h (i + 1) (j + 1) Zq1 (by simp only [List.length_cons]; omega) (by simp only [List.length_cons]; omega)
 simpa using this
theorem free_head {q p : Int × Int × Int} {l : List (Int × Int × Int)} (h : free (q :: l)) (hp : p ∈ l) : ¬ meets p q := by
 obtain ⟨i, hi, rfl⟩ := List.getElem_of_mem hp; have := h (i + 1) 0 Zq1 (by simp only [List.length_cons]; omega) (by simp only [List.length_cons]; omega)
 simpa using this
theorem firstS_shift (a s k : Int) (ha : isAddr a) (hs : isAddr s) (h0 : 0 ≤ k) (h1 : k < s) : ∀ l : List (Int × Int × Int), allAddr l → free l → (firstS a s l).2 = 0 → firstS (a + k) 1 l = ((firstS a s l).1 + k, 0)
 | [], _, _, h => by simp [firstS] at h
 | q :: r, hA, hf, h => by
  have hq := hA q List.mem_cons_self
  have hA' : allAddr r := fun x hx => hA x (List.mem_cons_of_mem _ hx)
  by_cases hi : ins q a s
  ·by_cases ho : over q a s
   ·have e : firstS a s (q :: r) = (0, 12) := by simp only [firstS, if_pos hi, if_pos ho]
    rw [e] at h
    simp at h
   ·have e : firstS a s (q :: r) = (q.2.1 + (a - q.1), 0) := by simp only [firstS, if_pos hi, if_neg ho]
    have hi2 : ins q (a + k) 1 := by unfold ins at hi ⊢; omega
    have ho2 : ¬ over q (a + k) 1 := by unfold over at ho ⊢; omega
    rw [e]; simp only [firstS, if_pos hi2, if_neg ho2]
    congr 1
    omega
  ·have e : firstS a s (q :: r) = firstS a s r := by simp only [firstS, if_neg hi]
   rw [e] at h ⊢
   have hi2 : ¬ ins q (a + k) 1 := by
    intro h'
    rcases firstS_fact a s ha hs r hA' with ⟨h2, _⟩ | ⟨_, _, _, _, p, hp, hip⟩
    ·rw [h] at h2; exact absurd h2 Zq7
    ·exact free_head hf hp (ins_meets hq (hA' p hp) h0 h1 hip h')
   have e2 : firstS (a + k) 1 (q :: r) = firstS (a + k) 1 r := by simp only [firstS, if_neg hi2]
   rw [e2]
   exact firstS_shift a s k ha hs h0 h1 r hA' (free_tail hf) h
def freeUp (x : S30) (place : List Int) (m : Nat) : Prop := ∀ k, k < m → ∀ par n, getS x (place.take k) = some par → getS x (place.take (k + 1)) = some n → free (rngSpec par n).1
theorem upS_shift (x : S30) (gx : good30 x) (place : List Int) (s k : Int) (hs : isAddr s) (h0 : 0 ≤ k) (h1 : k < s) : ∀ (m : Nat) (a : Int), isAddr a → freeUp x place m → (upS x place s m a).2 = 0 → upS x place 1 m (a + k) = ((upS x place s m a).1 + k, 0)
 | 0, a, _, _, _ => rfl
 | m + 1, a, ha, hf, h => by
  unfold upS at h ⊢
  cases e1 : getS x (place.take m) with
  | none => rw [e1] at h; simp at h
  | some par =>
   cases e2 : getS x (place.take (m + 1)) with
   | none => rw [e1, e2] at h; simp at h
   | some n =>
    rw [e1, e2] at h; simp only at h ⊢; have gp := getS_good _ _ _ e1 gx; have gn := getS_good _ _ _ e2 gx; have hst := stepS_fact par n gp gn a s ha hs
    by_cases hz : (stepS par n a s).2 = 0
    ·rw [if_pos hz] at h ⊢
     rcases hst with ⟨h3, _⟩ | ⟨_, h4, h5, h6⟩
     ·omega
     ·have hk : (rngSpec par n).2.2 = true := by
       cases hh : (rngSpec par n).2.2 with
       | true => rfl
       | false =>
        unfold stepS at hz; rw [if_neg (by rw [hh]; decide)] at hz
        simp at hz
      have es : ∀ c d, stepS par n c d = firstS c d (rngSpec par n).1 := by
       intro c d; unfold stepS; rw [if_pos hk]
      have hsh := firstS_shift a s k ha hs h0 h1 (rngSpec par n).1 (rngSpec_addr par n gp gn) (hf m Zq1 par n e1 e2) (by rw [← es]; exact hz)
      have e3 : stepS par n (a + k) 1 = ((stepS par n a s).1 + k, 0) := by rw [es, es]; exact hsh
      rw [e3]; simp only [if_true]
      exact upS_shift x gx place s k hs h0 h1 m _ h4 (fun i hi => hf i Zq1) h
    ·rw [if_neg hz] at h; exact absurd h hz
theorem meet_q (q p : Int × Int × Int) (hq : isAddr q.1 ∧ isAddr q.2.1 ∧ isAddr q.2.2) (hp : isAddr p.1 ∧ isAddr p.2.1 ∧ isAddr p.2.2) : Ev (fun k => arboretref12_Meet.f k (rng2 q).f0 (rng2 q).f2 (rng2 p).f0 (rng2 p).f2) (decide (meets q p)) :=
 Ev.succ ⟨0, fun k _ => meet_2 k q.1 q.2.2 p.1 p.2.2 hq.1 hq.2.2 hp.1 hp.2.2⟩
section
variable (b : Int) (res : List S94) (x : S30) (place : List Int) (L : List (Int × Int × Int)) (j : Int)
theorem laps_inner (hL : L.length ≤ 1048576) (hA : allAddr L) (i : Nat) (hi : i < L.length) (r : Bool) (hr : Ev (fun k => arboretlaw13_overlaps.l1 k place j (L.map rng2) (L.length : Int) ((i + 1 : Nat) : Int) b res x.f0 x.f1 x.f2) r) : ∀ (d p : Nat), p + d = i →
  ∃ v : Bool, Ev (fun k => arboretlaw13_overlaps.l2 k place j (L.map rng2) (i : Int) (L.length : Int) (i : Int) (i : Int) (p : Int) b res x.f0 x.f1 x.f2) v ∧ (v = false → r = false ∧ ∀ q, p ≤ q → q < i → ∀ hq : q < L.length, ¬ meets L[i] L[q])
 | 0, p, hp => by
  have hw := step64 (i := i) (n := L.length) hi hL; refine ⟨r, Ev.succ ?_, fun h => ⟨h, fun q h1 h2 => by omega⟩⟩; simp only [arboretlaw13_overlaps.l2, hw]
  exact Ev.neg Zq1 hr
 | d + 1, p, hp => by
  have hw := step64 (i := p) (n := L.length) Zq1 hL
  have hpl : p < L.length := by omega
  have rdq : ∀ (m : Nat) (hm : m < L.length), rd_T45 (L.map rng2) (m : Int) = rng2 L[m] := by
   intro m hm; unfold rd_T45; rw [Int.toNat_natCast, getD_at (by rw [List.length_map]; exact hm), List.getElem_map]
  have hmt := meet_q L[i] L[p] (hA _ (List.getElem_mem hi)) (hA _ (List.getElem_mem hpl)); obtain ⟨v, hv, hf⟩ := laps_inner hL hA i hi r hr d (p + 1) Zq1
  by_cases hm : meets L[i] L[p]
  ·rw [decide_eq_true hm] at hmt; refine ⟨true, Ev.succ ?_, fun h => Bool.noConfusion h⟩; simp only [arboretlaw13_overlaps.l2, hw, rdq i hi, rdq p hpl, List.length_map]
   exact Ev.pos Zq1 (Ev.pos (Int.natCast_nonneg i) (Ev.pos Zq1 (Ev.pos (Int.natCast_nonneg p) (Ev.pos Zq1 (Ev.then hmt (Ev.pos rfl (Ev.some _)))))))
  ·rw [decide_eq_false hm] at hmt; refine ⟨v, Ev.succ ?_, fun h => ⟨(hf h).1, fun q h1 h2 hq => ?_⟩⟩
   ·simp only [arboretlaw13_overlaps.l2, hw, rdq i hi, rdq p hpl, List.length_map]
    exact Ev.pos Zq1 (Ev.pos (Int.natCast_nonneg i) (Ev.pos Zq1 (Ev.pos (Int.natCast_nonneg p) (Ev.pos Zq1 (Ev.then hmt (Ev.neg (fun h => Bool.noConfusion h) hv))))))
   ·rcases Nat.lt_or_ge p q with h3 | h3
    ·exact (hf h).2 q h3 h2 hq
    ·obtain rfl : q = p := by omega
     exact hm
theorem laps_list (hL : L.length ≤ 1048576) (hA : allAddr L) (r : Bool) (hr : Ev (fun k => arboretlaw13_overlaps.l0 k place (wrap64 (j - 1)) b res x.f0 x.f1 x.f2) r) : ∀ (d i : Nat), i + d = L.length →
  ∃ v : Bool, Ev (fun k => arboretlaw13_overlaps.l1 k place j (L.map rng2) (L.length : Int) (i : Int) b res x.f0 x.f1 x.f2) v ∧ (v = false → r = false ∧ ∀ m q : Nat, i ≤ m → q < m → (hm : m < L.length) → ∀ hq : q < L.length, ¬ meets L[m] L[q])
 | 0, i, hi => by
  refine ⟨r, Ev.succ ?_, fun h => ⟨h, fun m q h1 h2 h3 => by omega⟩⟩; simp only [arboretlaw13_overlaps.l1]
  exact Ev.neg Zq1 hr
 | d + 1, i, hi => by
  obtain ⟨v, hv, hf⟩ := laps_list hL hA r hr d (i + 1) Zq1; obtain ⟨u, hu, hg⟩ := laps_inner b res x place L j hL hA i Zq1 v hv i 0 Zq1; refine ⟨u, Ev.succ ?_, fun h => ⟨(hf (hg h).1).1, fun m q h1 h2 hm hq => ?_⟩⟩
  ·simp only [arboretlaw13_overlaps.l1]
   exact Ev.pos Zq1 hu
  ·rcases Nat.lt_or_ge i m with h3 | h3
   ·exact (hf (hg h).1).2 m q h3 h2 hm hq
   ·obtain rfl : m = i := by omega
    exact (hg h).2 q (Nat.zero_le _) h2 hq
end
theorem laps_loop (b : Int) (res : List S94) (x : S30) (hx : bulk30 x ≤ 1048576) (gx : good30 x) (place : List Int) (hl : place.length ≤ 1048576) (hex : ∀ k, ∃ m, getS x (place.take k) = some m) : ∀ (m : Nat), m ≤ place.length →
  ∃ v : Bool, Ev (fun k => arboretlaw13_overlaps.l0 k place (m : Int) b res x.f0 x.f1 x.f2) v ∧ (v = false → freeUp x place m)
 | 0, _ => by
  refine ⟨false, Ev.succ ?_, fun _ k hk => absurd hk Zq1⟩; simp only [arboretlaw13_overlaps.l0]
  exact Ev.neg Zq1 (Ev.some _)
 | m + 1, hm => by
  obtain ⟨par, hp⟩ := hex m; obtain ⟨n, hn⟩ := hex (m + 1)
  have hw : wrap64 (((m + 1 : Nat) : Int) - 1) = (m : Int) := by rw [w64 Zq1 Zq1]; omega
  have hg1 := rget_ev b res x (place.take m) (by rw [List.length_take]; omega); have hg2 := rget_ev b res x (place.take (m + 1)) (by rw [List.length_take]; omega); rw [hp] at hg1; rw [hn] at hg2; have bp := getS_bulk _ _ _ hp; have bn := getS_bulk _ _ _ hn; have gp := getS_good _ _ _ hp gx; have gn := getS_good _ _ _ hn gx; have hr := refranges_ev par n Zq1 Zq1 gp gn; obtain ⟨r, hrr, hrf⟩ := laps_loop b res x hx gx place hl hex m Zq1; obtain ⟨v, hv, hf⟩ := laps_list b res x place (rngSpec par n).1 ((m + 1 : Nat) : Int) (rngSpec_len par n Zq1) (rngSpec_addr par n gp gn) r (by rw [hw]; exact hrr) (rngSpec par n).1.length 0 Zq1; refine ⟨v, Ev.succ ?_, fun h k hk par' n' h1 h2 => ?_⟩
  ·simp only [arboretlaw13_overlaps.l0, hw, Int.toNat_natCast]; refine Ev.pos Zq1 (Ev.pos (Int.natCast_nonneg _) (Ev.pos Zq1 (Ev.then hg2 (Ev.pos (Int.natCast_nonneg m) (Ev.pos Zq1 (Ev.then hg1 (Ev.then hr ?_))))))); simp only [List.length_map]
   exact hv
  ·rcases Nat.lt_or_ge k m with h3 | h3
   ·exact hrf (hf h).1 k h3 par' n' h1 h2
   ·obtain rfl : k = m := by omega
    rw [hp] at h1; rw [hn] at h2; obtain rfl := Option.some.inj h1; obtain rfl := Option.some.inj h2
    exact fun i q hq hi hj => (hf h).2 i q (Nat.zero_le _) hq hi hj
theorem laps_some (b : Int) (res : List S94) (x : S30) (hx : bulk30 x ≤ 1048576) (gx : good30 x) (place : List Int) (hl : place.length ≤ 1048576) (n : S30) (hn : getS x place = some n) :
  ∃ v : Bool, Ev (fun k => arboretlaw13_overlaps.f k b res x.f0 x.f1 x.f2 place) v ∧ (v = false → freeUp x place place.length) := by
 obtain ⟨v, hv, hf⟩ := laps_loop b res x hx gx place hl (fun k => getS_take place x n k hn) place.length (Nat.le_refl _)
 exact ⟨v, hv, hf⟩
theorem XlateParts : arboretlaw13_XlateParts.Pure := by
 intro t place a s c hb gt gpl ga gs gc; obtain ⟨b, res, x⟩ := t; simp only [bulk35, sumB_one] at hb; have gx : good30 x := gt.2.2
 have hx : bulk30 x ≤ 1048576 := by omega
 have hres : res.length ≤ 1048576 := by
  have := sumB_len (B := bulk94) (fun p => by unfold bulk94; omega) res
  omega
 have hpl : place.length ≤ 1048576 := by omega
 have ha : isAddr a := wf_u64.mp ga; have hs : isAddr s := wf_u64.mp gs; have hc : isAddr c := wf_u64.mp gc; obtain ⟨v1, h1⟩ := few_ends b res x hx; obtain ⟨v2, h2, hform⟩ := check_ends b res x hx hres
 have asleep : Ev (fun k => arboretlaw13_XlateParts.j0 k place a s c true b res x.f0 x.f1 x.f2) true := by
  refine Ev.succ ?_; simp only [arboretlaw13_XlateParts.j0]
  exact Ev.pos trivial (Ev.then xparts_awake (Ev.some _))
 have done : ∀ u, Ev (fun k => arboretlaw13_XlateParts.j1 k place a s c u true b res x.f0 x.f1 x.f2) true := by
  intro u; refine Ev.succ ?_; simp only [arboretlaw13_XlateParts.j1]
  exact Ev.pos trivial (Ev.some _)
 have main : v2 = 0 → Ev (fun k => arboretlaw13_XlateParts.j0 k place a s c false b res x.f0 x.f1 x.f2) true := by
  intro h0; refine Ev.succ ?_; simp only [arboretlaw13_XlateParts.j0]; refine Ev.neg (fun h => Bool.noConfusion h) ?_
  cases hn : getS x place with
  | none => exact Ev.then (up_none b res x hx place s a hn) (Ev.neg Zq7 (done _))
  | some n =>
   have hd := hform h0 place n hn
   refine Ev.then (up_ev b res x hx gx place Zq1 s a hs ha n hn) ?_
   by_cases hz : (upS x place s place.length a).2 = 0
   ·refine Ev.pos hz ?_
    by_cases hs0 : s = 0
    ·exact Ev.pos hs0 (done _)
    ·refine Ev.neg hs0 ?_
     by_cases hp0 : (place.length : Int) = 0
     ·have e : ((place.length : Int) == 0) = true := by rw [hp0]; rfl
      rw [e]
      exact done _
     ·have e : ((place.length : Int) == 0) = false := by rw [beq_eq_false_iff_ne]; exact hp0
      rw [e]; have hm : Int.tmod c s = c % s := Int.tmod_eq_emod_of_nonneg hc.1; have hr0 := Int.emod_nonneg c hs0; have hr1 := Int.emod_lt_of_pos c (show 0 < s by have := hs.1; omega)
      rcases upS_fact x gx place s hs place.length a ha with ⟨h3, _⟩ | ⟨_, h4, h5⟩
      ·omega
      ·obtain ⟨h6, h7⟩ := h5 Zq1; refine Ev.succ ?_; simp only [arboretlaw13_XlateParts.j1, hm]; generalize c % s = k at hr0 hr1; have w1 : IntKind.u64.wrap (a + k) = a + k := wu64 (by have := ha.1; omega) Zq1; have w2 : IntKind.u64.wrap ((upS x place s place.length a).1 + k) = (upS x place s place.length a).1 + k := wu64 (by have := h4.1; omega) Zq1; rw [w1, w2]
       have hak : isAddr (a + k) := ⟨by have := ha.1; omega, Zq1⟩
       obtain ⟨v, hv, hf⟩ := laps_some b res x hx gx place hpl n hn; refine Ev.neg (fun h => Bool.noConfusion h) (Ev.neg hs0 (Ev.then (up_ev b res x hx gx place Zq1 1 (a + k) (by unfold isAddr; omega) hak n hn) (Ev.then hv ?_)))
       cases v with
       | true => exact Ev.pos rfl (Ev.some _)
       | false =>
        have hsh := upS_shift x gx place s k hs hr0 hr1 place.length a ha (hf rfl) hz; rw [hsh]
        exact Ev.neg (fun h => Bool.noConfusion h) (Ev.pos rfl (Ev.fix Zq8))
   ·exact Ev.neg hz (done _)
 refine Ev.out (?_ : Ev (fun k => arboretlaw13_XlateParts.f k b res x.f0 x.f1 x.f2 place a s c) true); unfold arboretlaw13_XlateParts.f
 refine Ev.then xparts_awake (Ev.pos rfl (Ev.then h1 ?_))
 cases v1 with
 | true =>
  refine Ev.pos rfl ?_
  by_cases hl : (place.length : Int) > 40
  ·exact Ev.pos hl asleep
  ·refine Ev.neg hl (Ev.then h2 ?_)
   by_cases h0 : v2 = 0
   ·have e : (v2 != 0) = false := by rw [h0]; rfl
    rw [e]
    exact main h0
   ·have e : (v2 != 0) = true := by rw [bne_iff_ne]; exact h0
    rw [e]
    exact asleep
 | false => exact Ev.neg Zq7 asleep
end Go.Proofs.Yteejaaeglfpcmab.Pure

namespace Go.Proofs.Yteejaaeglfpcmab.xlateParts
open Go.ChangeShapes Go.WideShapes Go.ChangeAt Go.RowKit Go.Proofs.Yteejaaeglfpcmab.Rdr Go.Proofs.Yteejaaeglfpcmab.PX
open Go.ChangeMaps (open_string shut_string)
theorem own : ownKnob Try.prog.godebug = none := by kernel_rfl
theorem laidOut : laidOutB Try.prog = true := by kernel_rfl
set_option maxRecDepth 100000 in
theorem contract (H : Type) (enc : TypeId × Value → H) (W : World) (base : Nat) (args : Array Value) (ds gs : List (DataW H)) (before : List MemPlace)
  (hval0 : ∀ (j : Nat) t v, Try.f6.params[j]? = some t → args[j]? = some v → Value.okWide Try.prog W .any base t v)
  (hW : DataW.Whole enc Try.prog Try.f6.params.toList Rows.xlatePartsSpec.vars false W args.toList ds gs before) (hk : Rows.uptoSmall H (ds ++ gs) = true) :
  Calls Try.prog 6 args W fun e W' => ∃ v, e = .returned v ∧ Rows.xlatePartsSpec.post enc Try.prog Try.f6 false true false false W args v W' := by
 have hval : ∀ (j : Nat) t v, Try.f6.params[j]? = some t → args[j]? = some v → Value.okWide Try.prog W .any base t v := hval0; have hW' := hW; obtain ⟨p, q, hA0, hV, rfl, hfz, hnd⟩ := hW; have hA : DataW.TrodAll enc Try.prog W 0 (fun _ => true) true Try.f6.params.toList args.toList ds p := hA0; rw [Try.params6] at hA hval; obtain ⟨v0, vs0, d0, ds0, p0, q0, hargs, rfl, rfl, h0, tr0⟩ := trodAll_cons hA; obtain ⟨v1, vs1, d1, ds1, p1, q1, rfl, rfl, rfl, h1, tr1⟩ := trodAll_cons tr0; obtain ⟨v2, vs2, d2, ds2, p2, q2, rfl, rfl, rfl, h2, tr2⟩ := trodAll_cons tr1; obtain ⟨v3, vs3, d3, ds3, p3, q3, rfl, rfl, rfl, h3, tr3⟩ := trodAll_cons tr2; obtain ⟨v4, vs4, d4, ds4, p4, q4, rfl, rfl, rfl, h4, tr4⟩ := trodAll_cons tr3; obtain ⟨rfl, rfl, rfl⟩ := trodAll_nil tr4
 obtain rfl : args = #[v0, v1, v2, v3, v4] := by cases args; simp_all
 obtain ⟨rfl, rfl⟩ := trodVars_none hV; have hb := bound hk; simp only [List.append_nil, Rows.uptoBulkAll, List.nil_append] at hb; have k0 := h0
 have lt0 : ∀ x ∈ p0, x.block < W.heap.size := by obtain ⟨m, hm⟩ := k0; exact DataW.trod_lt m _ _ _ hm
 have k1 := h1
 have lt1 : ∀ x ∈ p1, x.block < W.heap.size := by obtain ⟨m, hm⟩ := k1; exact DataW.trod_lt m _ _ _ hm
 have k2 := h2
 have lt2 : ∀ x ∈ p2, x.block < W.heap.size := by obtain ⟨m, hm⟩ := k2; exact DataW.trod_lt m _ _ _ hm
 have k3 := h3
 have lt3 : ∀ x ∈ p3, x.block < W.heap.size := by obtain ⟨m, hm⟩ := k3; exact DataW.trod_lt m _ _ _ hm
 have k4 := h4
 have lt4 : ∀ x ∈ p4, x.block < W.heap.size := by obtain ⟨m, hm⟩ := k4; exact DataW.trod_lt m _ _ _ hm
 obtain ⟨cs0, rfl, hcs0⟩ : ∃ cs, v0 = .agg cs ∧ True := by
  have z := (hval 0 35 v0 rfl rfl)
  simp only [Value.okWide, Try.underlying35] at z; obtain ⟨cs, hc, _⟩ := z
  exact ⟨cs, hc, trivial⟩
 obtain ⟨f0, hf0⟩ := h0; obtain ⟨x0, K0, b0, g0⟩ := rd35 W f0 H enc f0 (Nat.le_refl _) _ _ hf0; obtain ⟨A0_1, c0_1, A0_3, c0_3, A0_4, c0_4, e0, l0_1, r0_1, l0_3, r0_3, l0_4, r0_4⟩ := k35_open K0; obtain ⟨cl0⟩ := cs0; have e0' : cl0 = _ := e0; subst e0'; obtain ⟨A1, n1, c1, rfl⟩ := okWide_slice Try.underlying48 (hval 1 48 v1 rfl rfl); obtain ⟨f1, hf1⟩ := h1; obtain ⟨x1, ⟨A1', c1', e1, l1, r1⟩, b1, g1⟩ := rd_slice (n := f1) Try.underlying48 Zq2 (rd_int (n := f1) Try.underlying3) H enc f1 (Nat.le_succ _) _ _ hf1; have e1' : [Value.slice A1 n1 c1] = [Value.slice A1' x1.length c1'] := e1; simp only [List.cons.injEq, Value.slice.injEq, and_true] at e1'; obtain ⟨rfl, rfl, rfl⟩ := e1'; obtain ⟨x2, rfl, rfl, rfl, g2⟩ := open_int Try.underlying43 (hval 2 43 v2 rfl rfl) h2; obtain ⟨x3, rfl, rfl, rfl, g3⟩ := open_int Try.underlying43 (hval 3 43 v3 rfl rfl) h3; obtain ⟨x4, rfl, rfl, rfl, g4⟩ := open_int Try.underlying43 (hval 4 43 v4 rfl rfl) h4; obtain ⟨k, hk_⟩ := Pure.XlateParts x0 x1 x2 x3 x4 (by (try simp only [Rows.uptoBulk, Array.length_toList] at hb); first | omega | (simp only [ByteArray.size] at *; omega)) g0 g1 g2 g3 g4
 refine (arboretlaw13_XlateParts.calls k x0.f0 A0_1 c0_1 x0.f1 x0.f2.f0 A0_3 c0_3 x0.f2.f1 A0_4 c0_4 x0.f2.f2 A1 c1 x1 x2 x3 x4 true W r0_1 l0_1 r0_3 l0_3 r0_4 l0_4 r1 l1 hk_).mono fun e W' ⟨he, bel0⟩ => ?_
 have bel : Below W.heap.size W W' := bel0; subst he
 exact ⟨_, rfl, _, _, _, [], _, [], hW', trodAll_mk1 (shut_bool Try.underlying4 _), (trodAll_cons_mk (Below.trod laidOut Zq2 (of_decide_eq_true Zq2) k0 bel lt0) (trodAll_cons_mk (Below.trod laidOut Zq2 (of_decide_eq_true Zq2) k1 bel lt1) (trodAll_cons_mk (Below.trod laidOut Zq2 (of_decide_eq_true Zq2) k2 bel lt2) (trodAll_cons_mk (Below.trod laidOut Zq2 (of_decide_eq_true Zq2) k3 bel lt3) (trodAll_cons_mk (Below.trod laidOut Zq2 (of_decide_eq_true Zq2) k4 bel lt4) trodAll_mk0))))), rfl, bel.frame _, fun h => by cases h⟩
set_option maxRecDepth 100000 in
theorem lifted (os : Os) (started : os.Started) (H : Type) (enc : TypeId × Value → H) (F : Stop.Interp) :
  ReturnsInHanded {} Try.checked os 6 .any ((Rows.OpenSpec.upto Rows.xlatePartsSpec).pre6 enc Try.prog Try.f6 Rows.xlatePartsUptoRow.domain false) (((Rows.OpenSpec.upto Rows.xlatePartsSpec).at F).post enc Try.prog Try.f6 false true false false) := by
 refine returnsInHanded_of_cond (C := Try.checked) (s := Rows.OpenSpec.upto Rows.xlatePartsSpec) (k := Rows.uptoSmall) rfl own started Zq2 Try.func6
  (OpenSpec.witness (enc := enc) (C := Try.checked) (s := Rows.OpenSpec.upto Rows.xlatePartsSpec) (k := Rows.uptoSmall) rfl false ⟨#[], #[.agg #[.int .u32 0, .slice none 0 0, .string ByteArray.empty, .slice none 0 0, .slice none 0 0], .slice none 0 0, .int .u64 0, .int .u64 0, .int .u64 0], []⟩ 16 Zq2 Zq2 Zq2
   (x := ([.agg [.lit (.int .u32 0), .nil, .agg [.lit (.string []), .nil, .nil]], .nil, .lit (.int .u64 0), .lit (.int .u64 0), .lit (.int .u64 0)], [], [])) Zq2 rfl Zq2) ?_
 intro W base args ds gs before hval hW _ hk _
 exact contract H enc W base args ds gs before hval hW hk
theorem over : Rows.xlatePartsUptoRow.holds Try.pinned (Rows.OpenSpec.upto Rows.xlatePartsSpec) :=
 OpenClaim.holds_of_cond 6 Try.f6 rfl rfl rfl rfl rfl rfl rfl ⟨rfl, rfl, rfl, rfl, rfl⟩ rfl rfl rfl rfl rfl Zq2 Try.func6 Zq2
  (of_decide_eq_true Zq2) (by unfold Func.isWrapper; first | (rw [if_pos (by decide +kernel)]; kernel_rfl) | (rw [if_neg (by decide +kernel)]; exact ⟨rfl, rfl⟩))
  (fun os started H enc _ F => lifted os started H enc F)
theorem proved : Rows.XlatePartsUptoSaid := over
end Go.Proofs.Yteejaaeglfpcmab.xlateParts
namespace Go.Proofs.Yteejaaeglfpcmab
theorem xlateParts_holds : Rows.XlatePartsUptoSaid := xlateParts.proved
end Go.Proofs.Yteejaaeglfpcmab
