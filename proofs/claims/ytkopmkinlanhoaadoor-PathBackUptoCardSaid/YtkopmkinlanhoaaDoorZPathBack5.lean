/- PathBack: texts of this session's, and what the kit's print laid for this seat, as far as the law's row uses them (FormP, PlacesD, PAll, Equal, Paths, PurePathBack, LawPathBack). -/
import Derived.Lib.SplitLaws
import Derived.Lib.IndexBytes
import Derived.Lib.SmallJoins
import Derived.Test.YtkopmkinlanhoaaDoorCards
import Derived.Test.YtkopmkinlanhoaaDoorTie
import Derived.Deep.DeepHandedRow
import Derived.ProofKit
import Derived.OpenShut
import Derived.ShutString
import Derived.ChangeOld
import Derived.JoinedCond
import Derived.Deep.CondSized
import Derived.Test.YtkopmkinlanhoaaDoorZPathBack4
set_option linter.unusedVariables false
set_option linter.unusedSimpArgs false
set_option linter.unusedVariables false
set_option linter.unusedSimpArgs false
namespace Go.Proofs.YtkopmkinlanhoaaDoor.PP
open Go.RowKit Go.Proofs.YtkopmkinlanhoaaDoor.Rdr Go.Proofs.YtkopmkinlanhoaaDoor.Aid Go.Proofs.YtkopmkinlanhoaaDoorW.PrintWords
def Uq (ks : List S27) : Prop := ∀ p q : Nat, p < q → q < ks.length → (ks.getD p z27).f0.toList ≠ (ks.getD q z27).f0.toList
def Nm (ks : List S27) : Prop := ∀ q : Nat, q < ks.length → nodeB (ks.getD q z27).f0 = true
def Fm (d : Nat) (x : S27) : Prop := ∀ (l : List Int) (n : S27), getS x l = some n → d + l.length ≤ 16 ∧ Uq n.f2 ∧ Nm n.f2
theorem wrong_formed (m : Nat) (hm : m ≤ 1048576) : ∀ (x : S27) (d : Nat), 1 ≤ d → bulk27 x ≤ m → ∃ v : Int, Ev (fun k => arboretref01_wrong.f k x.f0 x.f1 x.f2 (d : Int)) v ∧ (v = 0 → Fm d x ∧ (1 < d → nodeB x.f0 = true)) := by
  induction m with
  | zero => intro x d hd0 hx; have := bulk_pos x; omega
  | succ m ih =>
    intro x d hd0 hx
    have hk := bulk_kids x
    have hp := bulk_props x
    have hnm := bulk_name x
    by_cases hd : (d : Int) > 16
    · refine ⟨6, Ev.succ ?_, fun h => absurd h (by decide)⟩
      simp only [arboretref01_wrong.f]
      exact Ev.pos hd (Ev.some _)
    have hd1 : wrap64 ((d : Int) + 1) = ((d + 1 : Nat) : Int) := by rw [w64 (by omega) (by omega)]; omega
    have l5 : ∀ (j i : Nat), i + j = x.f2.length → ∃ v : Int, Ev (fun k => arboretref01_wrong.l5 k (d : Int) (x.f2.length : Int) (i : Int) x.f0 x.f1 x.f2) v ∧ (v = 0 → ∀ q : Nat, i ≤ q → q < x.f2.length → Fm (d + 1) (x.f2.getD q z27) ∧ nodeB (x.f2.getD q z27).f0 = true) := by
      intro j
      induction j with
      | zero =>
        intro i hi
        refine ⟨0, Ev.succ ?_, fun _ q h1 h2 => by omega⟩
        simp only [arboretref01_wrong.l5]
        exact Ev.neg (by omega) (Ev.some _)
      | succ j ihj =>
        intro i hi
        have hw := step64 (i := i) (n := x.f2.length) (by omega) (by omega)
        have hmem := getN (xs := x.f2) (i := i) (by omega)
        obtain ⟨v, hv, hg⟩ := ih (by omega) (x.f2.getD i z27) (d + 1) (by omega) (by have := bulk_kid hmem; omega)
        obtain ⟨r, hr, hq⟩ := ihj (i + 1) (by omega)
        by_cases h0 : v = 0
        · refine ⟨r, Ev.succ ?_, fun e q h1 h2 => ?_⟩
          · simp only [arboretref01_wrong.l5, rdN, hw, hd1]
            exact Ev.pos (by omega) (Ev.pos (Int.natCast_nonneg i) (Ev.pos (by omega) (Ev.then hv (Ev.pos h0 hr))))
          · rcases Nat.lt_or_ge i q with h3 | h3
            · exact hq e q h3 h2
            · obtain rfl : q = i := by omega
              exact ⟨(hg h0).1, (hg h0).2 (by omega)⟩
        · refine ⟨v, Ev.succ ?_, fun e => absurd e h0⟩
          simp only [arboretref01_wrong.l5, rdN, hw, hd1]
          exact Ev.pos (by omega) (Ev.pos (Int.natCast_nonneg i) (Ev.pos (by omega) (Ev.then hv (Ev.neg h0 (Ev.some _)))))
    obtain ⟨v5, e5, g5⟩ := l5 x.f2.length 0 (by omega)
    have G : v5 = 0 ∧ Uq x.f2 → Fm d x := by
      rintro ⟨h, hu⟩ l n hl
      cases l with
      | nil =>
        simp only [getS, Option.some.injEq] at hl
        subst hl
        exact ⟨by simp only [List.length_nil]; omega, hu, fun q hq => (g5 h q (Nat.zero_le _) hq).2⟩
      | cons q r =>
        simp only [getS] at hl
        by_cases c : 0 ≤ q ∧ q < (x.f2.length : Int)
        · rw [if_pos c] at hl
          have := (g5 h q.toNat (Nat.zero_le _) (by omega)).1 r n hl
          refine ⟨?_, this.2⟩
          have := this.1
          simp only [List.length_cons]
          omega
        · rw [if_neg c] at hl
          cases hl
    have l34 : ∀ (j i : Nat), i + j = x.f2.length → ∃ v : Int, Ev (fun k => arboretref01_wrong.l3 k (d : Int) (x.f2.length : Int) (i : Int) x.f0 x.f1 x.f2) v ∧ (v = 0 → v5 = 0 ∧ ∀ i' q : Nat, i ≤ i' → i' < x.f2.length → q < i' → (x.f2.getD q z27).f0.toList ≠ (x.f2.getD i' z27).f0.toList) := by
      intro j
      induction j with
      | zero =>
        intro i hi
        refine ⟨v5, Ev.succ ?_, fun h => ⟨h, fun i' q h1 h2 h3 => absurd (Nat.lt_of_lt_of_le h2 (Nat.le_trans (Nat.le_of_eq hi.symm) h1)) (Nat.lt_irrefl _)⟩⟩
        simp only [arboretref01_wrong.l3]
        exact Ev.neg (by omega) e5
      | succ j ihj =>
        intro i hi
        obtain ⟨r, hr, hq⟩ := ihj (i + 1) (by omega)
        have hw := step64 (i := i) (n := x.f2.length) (by omega) (by omega)
        have inner : ∀ (p q : Nat), q + p = i → ∃ v : Int, Ev (fun k => arboretref01_wrong.l4 k (d : Int) (i : Int) (x.f2.length : Int) (i : Int) (i : Int) (q : Int) x.f0 x.f1 x.f2) v ∧ (v = 0 → (v5 = 0 ∧ ∀ i' q : Nat, i + 1 ≤ i' → i' < x.f2.length → q < i' → (x.f2.getD q z27).f0.toList ≠ (x.f2.getD i' z27).f0.toList) ∧ ∀ q' : Nat, q ≤ q' → q' < i → (x.f2.getD q' z27).f0.toList ≠ (x.f2.getD i z27).f0.toList) := by
          intro p
          induction p with
          | zero =>
            intro q hq0
            refine ⟨r, Ev.succ ?_, fun h => ⟨hq h, fun q' h1 h2 => absurd (Nat.lt_of_lt_of_le h2 (Nat.le_trans (Nat.le_of_eq hq0.symm) h1)) (Nat.lt_irrefl _)⟩⟩
            simp only [arboretref01_wrong.l4, hw]
            exact Ev.neg (by omega) hr
          | succ p ihp =>
            intro q hq0
            have hw2 := step64 (i := q) (n := x.f2.length) (by omega) (by omega)
            obtain ⟨u, hu, hu0⟩ := ihp (q + 1) (by omega)
            by_cases c : (x.f2.getD q z27).f0.toList = (x.f2.getD i z27).f0.toList
            · refine ⟨9, Ev.succ ?_, fun h => absurd h (by decide)⟩
              simp only [arboretref01_wrong.l4, rdN]
              exact Ev.pos (by omega) (Ev.pos (Int.natCast_nonneg q) (Ev.pos (by omega) (Ev.pos (Int.natCast_nonneg i) (Ev.pos (by omega) (Ev.pos c (Ev.some _))))))
            · refine ⟨u, Ev.succ ?_, fun h => ⟨(hu0 h).1, fun q' h1 h2 => by
                rcases Nat.lt_or_ge q q' with h3 | h3
                · exact (hu0 h).2 q' h3 h2
                · obtain rfl : q' = q := Nat.le_antisymm h3 h1
                  exact c⟩⟩
              simp only [arboretref01_wrong.l4, rdN, hw2]
              exact Ev.pos (by omega) (Ev.pos (Int.natCast_nonneg q) (Ev.pos (by omega) (Ev.pos (Int.natCast_nonneg i) (Ev.pos (by omega) (Ev.neg c hu)))))
        obtain ⟨u, hu, hu0⟩ := inner i 0 (by omega)
        refine ⟨u, Ev.succ ?_, fun h => ⟨(hu0 h).1.1, fun i' q h1 h2 h3 => by
          rcases Nat.lt_or_ge i i' with h4 | h4
          · exact (hu0 h).1.2 i' q h4 h2 h3
          · obtain rfl : i' = i := Nat.le_antisymm h4 h1
            exact (hu0 h).2 q (Nat.zero_le _) h3⟩⟩
        simp only [arboretref01_wrong.l3]
        exact Ev.pos (by omega) hu
    obtain ⟨v3, e3, g3'⟩ := l34 x.f2.length 0 (by omega)
    have g3 : v3 = 0 → v5 = 0 ∧ Uq x.f2 := fun h => ⟨(g3' h).1, fun p q h1 h2 => (g3' h).2 q p (Nat.zero_le _) h2 h1⟩
    have l12 : ∀ (j i : Nat), i + j = x.f1.length → ∃ v : Int, Ev (fun k => arboretref01_wrong.l1 k (d : Int) (x.f1.length : Int) (i : Int) x.f0 x.f1 x.f2) v ∧ (v = 0 → v5 = 0 ∧ Uq x.f2) := by
      intro j
      induction j with
      | zero =>
        intro i hi
        refine ⟨v3, Ev.succ ?_, g3⟩
        simp only [arboretref01_wrong.l1]
        exact Ev.neg (by omega) e3
      | succ j ihj =>
        intro i hi
        obtain ⟨r, hr, hq⟩ := ihj (i + 1) (by omega)
        have hw := step64 (i := i) (n := x.f1.length) (by omega) (by omega)
        have inner : ∀ (p q : Nat), q + p = i → ∃ v : Int, Ev (fun k => arboretref01_wrong.l2 k (d : Int) (i : Int) (x.f1.length : Int) (i : Int) (i : Int) (q : Int) x.f0 x.f1 x.f2) v ∧ (v = 0 → v5 = 0 ∧ Uq x.f2) := by
          intro p
          induction p with
          | zero =>
            intro q hq0
            refine ⟨r, Ev.succ ?_, hq⟩
            simp only [arboretref01_wrong.l2, hw]
            exact Ev.neg (by omega) hr
          | succ p ihp =>
            intro q hq0
            have hw2 := step64 (i := q) (n := x.f1.length) (by omega) (by omega)
            obtain ⟨u, hu, hu0⟩ := ihp (q + 1) (by omega)
            by_cases c : (x.f1.getD q z62).f0.toList = (x.f1.getD i z62).f0.toList
            · refine ⟨9, Ev.succ ?_, fun h => absurd h (by decide)⟩
              simp only [arboretref01_wrong.l2, rdP]
              exact Ev.pos (by omega) (Ev.pos (Int.natCast_nonneg q) (Ev.pos (by omega) (Ev.pos (Int.natCast_nonneg i) (Ev.pos (by omega) (Ev.pos c (Ev.some _))))))
            · refine ⟨u, Ev.succ ?_, hu0⟩
              simp only [arboretref01_wrong.l2, rdP, hw2]
              exact Ev.pos (by omega) (Ev.pos (Int.natCast_nonneg q) (Ev.pos (by omega) (Ev.pos (Int.natCast_nonneg i) (Ev.pos (by omega) (Ev.neg c hu)))))
        obtain ⟨u, hu, hu0⟩ := inner i 0 (by omega)
        refine ⟨u, Ev.succ ?_, hu0⟩
        simp only [arboretref01_wrong.l1]
        exact Ev.pos (by omega) hu
    obtain ⟨v1, e1, g1⟩ := l12 x.f1.length 0 (by omega)
    have l0 : ∀ (j i : Nat), i + j = x.f1.length → ∃ v : Int, Ev (fun k => arboretref01_wrong.l0 k (d : Int) (x.f1.length : Int) (i : Int) x.f0 x.f1 x.f2) v ∧ (v = 0 → v5 = 0 ∧ Uq x.f2) := by
      intro j
      induction j with
      | zero =>
        intro i hi
        refine ⟨v1, Ev.succ ?_, g1⟩
        simp only [arboretref01_wrong.l0]
        exact Ev.neg (by omega) e1
      | succ j ihj =>
        intro i hi
        obtain ⟨r, hr, hq⟩ := ihj (i + 1) (by omega)
        have hw := step64 (i := i) (n := x.f1.length) (by omega) (by omega)
        have hmem := getP (xs := x.f1) (i := i) (by omega)
        have hb := bulk_prop hmem
        have hv := bulk_value (x.f1.getD i z62)
        have hn := refprop_ev (x.f1.getD i z62).f0 (by omega)
        cases hc : propB (bytesOf (x.f1.getD i z62).f0) with
        | true =>
          rw [hc] at hn
          refine ⟨r, Ev.succ ?_, hq⟩
          simp only [arboretref01_wrong.l0, rdP, hw]
          exact Ev.pos (by omega) (Ev.pos (Int.natCast_nonneg i) (Ev.pos (by omega) (Ev.then hn (Ev.pos rfl hr))))
        | false =>
          rw [hc] at hn
          refine ⟨5, Ev.succ ?_, fun h => absurd h (by decide)⟩
          simp only [arboretref01_wrong.l0, rdP, hw]
          exact Ev.pos (by omega) (Ev.pos (Int.natCast_nonneg i) (Ev.pos (by omega) (Ev.then hn (Ev.neg (by decide) (Ev.some _)))))
    obtain ⟨v0, e0, g0⟩ := l0 x.f1.length 0 (by omega)
    have j0 : ∀ b : Bool, ∃ v : Int, Ev (fun k => arboretref01_wrong.j0 k (d : Int) b x.f0 x.f1 x.f2) v ∧ (v = 0 → (v5 = 0 ∧ Uq x.f2) ∧ b = false) := by
      intro b
      cases b with
      | true =>
        refine ⟨5, Ev.succ ?_, fun h => absurd h (by decide)⟩
        simp only [arboretref01_wrong.j0]
        exact Ev.pos trivial (Ev.some _)
      | false =>
        refine ⟨v0, Ev.succ ?_, fun h => ⟨g0 h, rfl⟩⟩
        simp only [arboretref01_wrong.j0]
        exact Ev.neg (fun h => Bool.noConfusion h) e0
    have hn := refnode_ev x.f0 (by omega)
    by_cases h1 : (d : Int) = 1
    · by_cases hz : x.f0.toList = ([] : List UInt8)
      · by_cases h2 : (d : Int) > 1
        · omega
        · obtain ⟨v, hv, hg⟩ := j0 false
          refine ⟨v, Ev.succ ?_, fun h => ⟨G (hg h).1, fun _ => by omega⟩⟩
          simp only [arboretref01_wrong.f]
          exact Ev.neg hd (Ev.pos h1 (Ev.pos hz (Ev.neg h2 hv)))
      · obtain ⟨v, hv, hg⟩ := j0 true
        refine ⟨v, Ev.succ ?_, fun h => ⟨G (hg h).1, fun _ => by omega⟩⟩
        simp only [arboretref01_wrong.f]
        exact Ev.neg hd (Ev.pos h1 (Ev.neg hz hv))
    · by_cases h2 : (d : Int) > 1
      · obtain ⟨v, hv, hg⟩ := j0 (!nodeB x.f0)
        refine ⟨v, Ev.succ ?_, fun h => ⟨G (hg h).1, fun _ => by have := (hg h).2; simpa using this⟩⟩
        simp only [arboretref01_wrong.f]
        exact Ev.neg hd (Ev.neg h1 (Ev.pos h2 (Ev.then hn hv)))
      · obtain ⟨v, hv, hg⟩ := j0 false
        refine ⟨v, Ev.succ ?_, fun h => ⟨G (hg h).1, fun _ => by omega⟩⟩
        simp only [arboretref01_wrong.f]
        exact Ev.neg hd (Ev.neg h1 (Ev.neg h2 hv))
theorem check_formed (b : Int) (res : List S48) (x : S27) (hx : bulk27 x ≤ 1048576) (hr : res.length ≤ 1048576) :
    ∃ v : Int, Ev (fun k => arboretref01_Check.f k b res x.f0 x.f1 x.f2) v ∧ (v = 0 → Fm 1 x) := by
  obtain ⟨v, hv, hg⟩ := wrong_formed 1048576 (by omega) x 1 (Nat.le_refl _) hx
  obtain ⟨c, hc⟩ := count_ends 1048576 (by omega) x hx
  have l0 : ∀ (j i : Nat), i + j = res.length → ∃ v : Int, Ev (fun k => arboretref01_Check.l0 k (res.length : Int) (i : Int) b res x.f0 x.f1 x.f2) v := by
    intro j
    induction j with
    | zero =>
      intro i hi
      refine ⟨0, Ev.succ ?_⟩
      simp only [arboretref01_Check.l0]
      exact Ev.neg (by omega) (Ev.some _)
    | succ j ihj =>
      intro i hi
      have hw := step64 (i := i) (n := res.length) (by omega) hr
      obtain ⟨r, hq⟩ := ihj (i + 1) (by omega)
      by_cases h0 : (rd_T48 res (i : Int)).f0 = 0
      · by_cases h1 : (rd_T48 res (i : Int)).f1 = 0
        · refine ⟨7, Ev.succ ?_⟩
          simp only [arboretref01_Check.l0, hw]
          exact Ev.pos (by omega) (Ev.pos (Int.natCast_nonneg i) (Ev.pos (by omega) (Ev.pos h0 (Ev.pos h1 (Ev.some _)))))
        · refine ⟨r, Ev.succ ?_⟩
          simp only [arboretref01_Check.l0, hw]
          exact Ev.pos (by omega) (Ev.pos (Int.natCast_nonneg i) (Ev.pos (by omega) (Ev.pos h0 (Ev.neg h1 hq))))
      · refine ⟨r, Ev.succ ?_⟩
        simp only [arboretref01_Check.l0, hw]
        exact Ev.pos (by omega) (Ev.pos (Int.natCast_nonneg i) (Ev.pos (by omega) (Ev.neg h0 hq)))
  obtain ⟨w, hw⟩ := l0 res.length 0 (by omega)
  have j0 : ∀ y : Bool, ∃ v : Int, Ev (fun k => arboretref01_Check.j0 k y b res x.f0 x.f1 x.f2) v := by
    intro y
    cases y with
    | true =>
      refine ⟨7, Ev.succ ?_⟩
      simp only [arboretref01_Check.j0]
      exact Ev.pos trivial (Ev.some _)
    | false =>
      refine ⟨w, Ev.succ ?_⟩
      simp only [arboretref01_Check.j0]
      exact Ev.neg (fun h => Bool.noConfusion h) hw
  by_cases h0 : v = 0
  · have G : Fm 1 x := (hg h0).1
    by_cases h1 : c.1 > 4096
    · obtain ⟨r, hr⟩ := j0 true
      refine ⟨r, ?_, fun _ => G⟩
      unfold arboretref01_Check.f
      exact Ev.then hv (Ev.pos h0 (Ev.then hc (Ev.pos h1 hr)))
    by_cases h2 : c.2 > 8192
    · obtain ⟨r, hr⟩ := j0 true
      refine ⟨r, ?_, fun _ => G⟩
      unfold arboretref01_Check.f
      exact Ev.then hv (Ev.pos h0 (Ev.then hc (Ev.neg h1 (Ev.pos h2 hr))))
    · obtain ⟨r, hr⟩ := j0 (decide ((res.length : Int) > 64))
      refine ⟨r, ?_, fun _ => G⟩
      unfold arboretref01_Check.f
      exact Ev.then hv (Ev.pos h0 (Ev.then hc (Ev.neg h1 (Ev.neg h2 hr))))
  · refine ⟨v, ?_, fun h => absurd h h0⟩
    unfold arboretref01_Check.f
    exact Ev.then hv (Ev.neg h0 (Ev.some _))
end Go.Proofs.YtkopmkinlanhoaaDoor.PP

set_option linter.unusedVariables false
set_option linter.unusedSimpArgs false
namespace Go.Proofs.YtkopmkinlanhoaaDoor.PP
open Go.RowKit Go.Proofs.YtkopmkinlanhoaaDoor.Rdr Go.Proofs.YtkopmkinlanhoaaDoor.Aid Go.Proofs.YtkopmkinlanhoaaDoorW.PrintWords
mutual
def placesN : S27 → List Int → List (List Int)
  | ⟨_, _, ks⟩, p => p :: placesL ks 0 p
def placesL : List S27 → Nat → List Int → List (List Int)
  | [], _, _ => []
  | x :: r, i, p => placesN x (p ++ [(i : Int)]) ++ placesL r (i + 1) p
end
theorem placesN_eq (x : S27) (p : List Int) : placesN x p = p :: placesL x.f2 0 p := by cases x; simp only [placesN]
theorem placesL_len (m : Nat) (ih : ∀ x : S27, bulk27 x ≤ m → ∀ p, (placesN x p).length ≤ bulk27 x) : ∀ (l : List S27) (i : Nat) (p : List Int), sumB bulk27 l ≤ m → (placesL l i p).length ≤ sumB bulk27 l
  | [], i, p, _ => by simp [placesL, sumB]
  | x :: r, i, p, h => by
    simp only [sumB] at h
    have h1 := ih x (by omega) (p ++ [(i : Int)])
    have h2 := placesL_len m ih r (i + 1) p (by omega)
    simp only [placesL, List.length_append, sumB]
    omega
theorem places_len (m : Nat) : ∀ (x : S27) (p : List Int), bulk27 x ≤ m → (placesN x p).length ≤ bulk27 x := by
  induction m with
  | zero => intro x p hx; have := bulk_pos x; omega
  | succ m ih =>
    intro x p hx
    rw [placesN_eq, List.length_cons]
    have hb := bulk_eq x
    have := placesL_len m (fun x hx p => ih x p hx) x.f2 0 p (by omega)
    omega
end Go.Proofs.YtkopmkinlanhoaaDoor.PP

set_option linter.unusedVariables false
set_option linter.unusedSimpArgs false
namespace Go.Proofs.YtkopmkinlanhoaaDoor.PP
open Go.RowKit Go.Proofs.YtkopmkinlanhoaaDoor.Rdr Go.Proofs.YtkopmkinlanhoaaDoor.Aid Go.Proofs.YtkopmkinlanhoaaDoorW.PrintWords
theorem all_ev (m : Nat) (hm : m ≤ 1048576) : ∀ (x : S27) (p : List Int), bulk27 x ≤ m → p.length + bulk27 x ≤ 2097152 → Ev (fun k => path_all.f k x.f0 x.f1 x.f2 p) (placesN x p) := by
  induction m with
  | zero => intro x p hx; have := bulk_pos x; omega
  | succ m ih =>
    intro x p hx hp
    have hk := bulk_kids x
    have hbe := bulk_eq x
    have kids : ∀ (j i : Nat) (acc : List (List Int)), i + j = x.f2.length → acc.length + sumB bulk27 (x.f2.drop i) ≤ 2097152 → Ev (fun k => path_all.l0 k p acc x.f2 (x.f2.length : Int) (i : Int)) (acc ++ placesL (x.f2.drop i) i p) := by
      intro j
      induction j with
      | zero =>
        intro i acc hi ha
        refine Ev.succ ?_
        simp only [path_all.l0]
        rw [List.drop_of_length_le (by omega)]
        simp only [placesL, List.append_nil]
        exact Ev.neg (by omega) (Ev.some _)
      | succ j ihj =>
        intro i acc hi ha
        have hw := step64 (i := i) (n := x.f2.length) (by omega) (by omega)
        have hmem := getN (xs := x.f2) (i := i) (by omega)
        have hbk := bulk_kid hmem
        have hd := drop_at (l := x.f2) (d := z27) (i := i) (by omega)
        rw [hd] at ha ⊢
        simp only [sumB] at ha
        have h1 := ih (by omega) (x.f2.getD i z27) (p ++ [(i : Int)]) (by omega) (by simp only [List.length_append, List.length_singleton]; omega)
        have hl := places_len (m + 1) (x.f2.getD i z27) (p ++ [(i : Int)]) (by omega)
        have h2 := ihj (i + 1) (acc ++ placesN (x.f2.getD i z27) (p ++ [(i : Int)])) (by omega) (by rw [List.length_append]; omega)
        simp only [placesL]
        rw [← List.append_assoc]
        refine Ev.succ ?_
        simp only [path_all.l0, rdN, hw]
        have hc : slices_Clone_int_int.f p = some p := by unfold slices_Clone_int_int.f; rw [if_pos (by omega)]
        simp only [hc, Option.bind_some]
        exact Ev.pos (by omega) (Ev.pos (Int.natCast_nonneg i) (Ev.pos (by omega) (Ev.pos (by simp only [List.length_singleton]; omega) (Ev.then h1 (Ev.pos (by omega) h2)))))
    refine Ev.succ ?_
    simp only [path_all.f]
    rw [placesN_eq]
    have := kids x.f2.length 0 [p] (by omega) (by simp only [List.length_singleton, List.drop_zero]; omega)
    simp only [List.drop_zero, List.singleton_append] at this
    exact this
end Go.Proofs.YtkopmkinlanhoaaDoor.PP

set_option linter.unusedVariables false
set_option linter.unusedSimpArgs false
namespace Go.Proofs.YtkopmkinlanhoaaDoor.PP
open Go.RowKit Go.Proofs.YtkopmkinlanhoaaDoor.Aid Go.Proofs.YtkopmkinlanhoaaDoorW.PrintWords
theorem equal_same (p : List Int) (hp : p.length ≤ 4194304) : Ev (fun k => arboretref12_Equal.f k p p) true := by
  have key : ∀ (j i : Nat), i + j = p.length → Ev (fun k => arboretref12_Equal.l0 k p p (p.length : Int) (i : Int)) true := by
    intro j
    induction j with
    | zero =>
      intro i hi
      refine Ev.succ ?_
      simp only [arboretref12_Equal.l0]
      exact Ev.neg (by omega) (Ev.some _)
    | succ j ihj =>
      intro i hi
      have hw : wrap64 ((i : Int) + 1) = ((i + 1 : Nat) : Int) := by unfold wrap64; omega
      refine Ev.succ ?_
      simp only [arboretref12_Equal.l0, hw]
      exact Ev.pos (by omega) (Ev.pos (by omega) (Ev.pos (by omega) (Ev.pos (by omega) (Ev.pos (by trivial) (ihj (i + 1) (by omega))))))
  unfold arboretref12_Equal.f
  exact Ev.pos rfl (key p.length 0 (by omega))
end Go.Proofs.YtkopmkinlanhoaaDoor.PP

set_option linter.unusedVariables false
set_option linter.unusedSimpArgs false
namespace Go.Proofs.YtkopmkinlanhoaaDoor.PP
open Go.RowKit Go.Proofs.YtkopmkinlanhoaaDoor.Rdr Go.Proofs.YtkopmkinlanhoaaDoor.Aid Go.Proofs.YtkopmkinlanhoaaDoorW.PrintWords
def spC (c : UInt8) : List UInt8 → List (List UInt8)
  | [] => [[]]
  | a :: l => if a = c then [] :: spC c l else match spC c l with
    | [] => [[a]]
    | p :: r => (a :: p) :: r
theorem splitK_spC (c : UInt8) : ∀ l : List UInt8, Lib.splitK [c] 0 (Lib.count l [c]) l = spC c l
  | [] => by rw [Lib.count_one]; rfl
  | a :: l => by
    have ih := splitK_spC c l
    by_cases h : a = c
    · subst h
      have hx : Lib.index (a :: l) [a] = 0 := by rw [Lib.index_one]; simp [Lib.indexByte]
      rw [Lib.count_cons_eq, Nat.add_comm]
      simp only [Lib.splitK, hx, spC, if_true]
      rw [if_neg (by decide)]
      simp only [Int.toNat_zero, Nat.zero_add, List.take_zero, List.length_singleton, List.drop_succ_cons, List.drop_zero, ih]
    · rw [Lib.count_cons_ne a c l h]
      have hx : Lib.index (a :: l) [c] = if Lib.index l [c] = -1 then -1 else Lib.index l [c] + 1 := by
        rw [Lib.index_one, Lib.index_one]
        simp only [Lib.indexByte]
        rw [if_neg (by simpa using h)]
        simp
      have hge := Lib.indexByte_ge l c
      rw [← Lib.index_one] at hge
      simp only [spC, if_neg h]
      rw [← ih]
      cases hk : Lib.count l [c] with
      | zero => rfl
      | succ k =>
        simp only [Lib.splitK, hx]
        by_cases hm : Lib.index l [c] = -1
        · simp [hm]
        · have e1 : (Lib.index l [c] == -1) = false := by simpa using hm
          have e2 : (Lib.index l [c] + 1 == -1) = false := by simp; omega
          have e3 : (Lib.index l [c] + 1).toNat = (Lib.index l [c]).toNat + 1 := by omega
          simp only [if_neg hm, e1, e2, e3, Bool.false_eq_true, if_false, Nat.add_zero, List.take_succ_cons, List.length_singleton, List.drop_succ_cons]
theorem spC_word (c : UInt8) : ∀ n l : List UInt8, c ∉ n → spC c (n ++ c :: l) = n :: spC c l
  | [], l, _ => by simp [spC]
  | a :: n, l, h => by
    have h1 : ¬ a = c := fun e => h (by simp [e])
    have ih := spC_word c n l (fun hm => h (List.mem_cons_of_mem _ hm))
    simp only [List.cons_append, spC, if_neg h1, ih]
theorem spC_last (c : UInt8) : ∀ n : List UInt8, c ∉ n → spC c n = [n]
  | [], _ => rfl
  | a :: n, h => by
    have h1 : ¬ a = c := fun e => h (by simp [e])
    have ih := spC_last c n (fun hm => h (List.mem_cons_of_mem _ hm))
    simp only [spC, if_neg h1, ih]
def flat : List ByteArray → List UInt8
  | [] => []
  | n :: r => 47 :: (n.data.toList ++ flat r)
theorem spC_flat : ∀ (r : List ByteArray) (n : ByteArray), (∀ m ∈ n :: r, (47 : UInt8) ∉ m.data.toList) → spC 47 (n.data.toList ++ flat r) = (n :: r).map (fun b => b.data.toList)
  | [], n, h => by
    simp only [flat, List.append_nil]
    rw [spC_last 47 _ (h n (by simp))]
    rfl
  | m :: r, n, h => by
    simp only [flat]
    rw [spC_word 47 _ _ (h n (by simp)), spC_flat r m (fun k hk => h k (List.mem_cons_of_mem _ hk))]
    rfl
theorem ba_ext {x y : ByteArray} (h : x.data.toList = y.data.toList) : x = y := by
  cases x; cases y
  simp only at h
  rw [Array.toList_inj.mp h]
theorem split_f (s n : ByteArray) (r : List ByteArray) (hs : s.data.toList = n.data.toList ++ flat r) (h : ∀ m ∈ n :: r, (47 : UInt8) ∉ m.data.toList) (hz : s.size < 4294967281) : strings_Split.f s ⟨#[47]⟩ = some (n :: r) := by
  unfold strings_Split.f
  show (if s.size < 4294967281 then some (Lib.splitB ⟨#[47]⟩ 0 (Lib.countB s ⟨#[47]⟩) s) else none) = _
  rw [if_pos hz]
  congr 1
  refine (List.map_inj_right (f := fun b : ByteArray => b.data.toList) (fun x y e => ba_ext e)).mp ?_
  rw [Lib.splitB_data]
  show Lib.splitK [47] 0 (Lib.count s.data.toList [47]) s.data.toList = _
  rw [splitK_spC, hs, spC_flat r n h]
theorem ba_app (a b : ByteArray) : (a ++ b).data.toList = a.data.toList ++ b.data.toList := Go.Joins.data_append a b
theorem ba_assoc (a b c : ByteArray) : (a ++ b) ++ c = a ++ (b ++ c) := ba_ext (by simp only [ba_app, List.append_assoc])
theorem ba_nil (a : ByteArray) : (⟨#[]⟩ : ByteArray) ++ a = a := ba_ext (by rw [ba_app]; rfl)
theorem ba_end (a : ByteArray) : a ++ (⟨#[]⟩ : ByteArray) = a := ba_ext (by rw [ba_app]; simp)
theorem ba_size (a b : ByteArray) : (a ++ b).size = a.size + b.size := by rw [Lib.size_eq, Lib.size_eq a, Lib.size_eq b, ba_app, List.length_append]
def namesS : S27 → List Int → List ByteArray
  | _, [] => []
  | x, i :: r => (x.f2.getD i.toNat z27).f0 :: namesS (x.f2.getD i.toNat z27) r
def joinP : List ByteArray → ByteArray
  | [] => ⟨#[]⟩
  | n :: r => ((⟨#[47]⟩ : ByteArray) ++ n) ++ joinP r
theorem joinP_data : ∀ l, (joinP l).data.toList = flat l
  | [] => rfl
  | n :: r => by
    simp only [joinP, flat, ba_app, joinP_data r]
    rfl
theorem ppath_loop (l : List Int) (hl : l.length ≤ 16) : ∀ (j i : Nat) (y n : S27) (acc : ByteArray), i + j = l.length → bulk27 y ≤ 1048576 → getS y (l.drop i) = some n → acc.size + j * 1048577 ≤ 100000000 →
    Ev (fun k => path_Path.l0 k acc l (l.length : Int) (i : Int) y.f0 y.f1 y.f2) (acc ++ joinP (namesS y (l.drop i)), 0) := by
  intro j
  induction j with
  | zero =>
    intro i y n acc hi hy hg ha
    rw [List.drop_of_length_le (by omega)]
    refine Ev.succ ?_
    simp only [path_Path.l0, namesS, joinP, ba_end]
    exact Ev.neg (by omega) (Ev.some _)
  | succ j ih =>
    intro i y n acc hi hy hg ha
    have hw := step64 (i := i) (n := l.length) (by omega) (by omega)
    have hd := drop_at (l := l) (d := 0) (i := i) (by omega)
    have hr : rd l (i : Int) = l.getD i 0 := by unfold rd; rw [Int.toNat_natCast]
    rw [hd] at hg ⊢
    refine Ev.succ ?_
    simp only [path_Path.l0, hr, hw]
    refine Ev.pos (by omega) (Ev.pos (Int.natCast_nonneg i) (Ev.pos (by omega) ?_))
    clear hw hr hd
    generalize l.getD i 0 = q at hg ⊢
    simp only [getS] at hg
    by_cases c : 0 ≤ q ∧ q < (y.f2.length : Int)
    · rw [if_pos c] at hg
      have hm := bulk_kid (kid_mem c)
      obtain ⟨m, rfl⟩ : ∃ m : Nat, q = m := ⟨q.toNat, by omega⟩
      simp only [namesS, joinP, Int.toNat_natCast] at hg hm ⊢
      have hnm := bulk_name (y.f2.getD m z27)
      have h1 : ((⟨#[47]⟩ : ByteArray) ++ (y.f2.getD m z27).f0).size = 1 + (y.f2.getD m z27).f0.size := ba_size _ _
      have e : acc ++ ((⟨#[47]⟩ : ByteArray) ++ (y.f2.getD m z27).f0 ++ joinP (namesS (y.f2.getD m z27) (l.drop (i + 1)))) = (acc ++ ((⟨#[47]⟩ : ByteArray) ++ (y.f2.getD m z27).f0)) ++ joinP (namesS (y.f2.getD m z27) (l.drop (i + 1))) := (ba_assoc _ _ _).symm
      rw [rdN, e]
      refine Ev.pos c.1 (Ev.pos c.2 (Ev.pos (by omega) (Ev.pos (by rw [h1]; omega) ?_)))
      exact ih (i + 1) _ n _ (by omega) (by omega) hg (by rw [ba_size, h1]; omega)
    · rw [if_neg c] at hg
      cases hg
def pathS (x : S27) (l : List Int) : ByteArray := if l = [] then ⟨#[47]⟩ else joinP (namesS x l)
theorem ppath_ev (b : Int) (res : List S48) (x n : S27) (l : List Int) (hx : bulk27 x ≤ 1048576) (hl : l.length ≤ 16) (hg : getS x l = some n) :
    Ev (fun k => path_Path.f k b res x.f0 x.f1 x.f2 l) (pathS x l, 0) := by
  have h1 := pget_ev b res x l hx hl
  rw [hg] at h1
  simp only [pgetR] at h1
  unfold path_Path.f
  refine Ev.then h1 (Ev.pos rfl ?_)
  unfold pathS
  cases l with
  | nil => exact Ev.pos rfl (Ev.some _)
  | cons q r =>
    rw [if_neg (by simp)]
    refine Ev.neg (by simp only [List.length_cons]; omega) ?_
    have hz : (⟨#[]⟩ : ByteArray).size = 0 := rfl
    have := ppath_loop (q :: r) hl (q :: r).length 0 x n ⟨#[]⟩ (by omega) hx (by simpa using hg) (by rw [hz]; omega)
    rw [ba_nil] at this
    simpa using this
theorem plain_47 {c : Int} (h : plainB c = true) : c ≠ 47 := by
  rintro rfl
  exact absurd h (by decide)
theorem node_name (s : ByteArray) (h : nodeB s = true) : (47 : UInt8) ∉ s.data.toList ∧ s.data.toList ≠ [] := by
  have key : (∀ b ∈ bytesOf s, b ≠ 47) ∧ bytesOf s ≠ [] := by
    unfold nodeB baseB unitB at h
    simp only [Bool.and_eq_true, Bool.or_eq_true, List.all_eq_true, decide_eq_true_eq] at h
    obtain ⟨⟨⟨h1, h2, _⟩, _⟩, h3⟩ := h
    unfold cutB at h1 h2 h3
    by_cases c : idx 64 (bytesOf s) = -1
    · rw [if_pos c] at h1 h2
      exact ⟨fun b hb => plain_47 (h1 b hb), fun e => by rw [e] at h2; simp at h2⟩
    · rw [if_neg c] at h1 h2 h3
      have hr := idx_range 64 (bytesOf s)
      obtain ⟨j, hj⟩ : ∃ j : Nat, idx 64 (bytesOf s) = (j : Int) := ⟨(idx 64 (bytesOf s)).toNat, by omega⟩
      rw [hj, Int.toNat_natCast] at h1 h2 h3
      simp only [bytesOf_upto, bytesOf_from] at h1 h2 h3
      have hs := idx_split 64 (bytesOf s) j hj
      rcases h3 with h3 | h3
      · simp at h3
      · refine ⟨fun b hb => ?_, fun e => by rw [e] at h2; simp at h2⟩
        rw [hs] at hb
        simp only [List.mem_append, List.mem_cons] at hb
        rcases hb with hb | rfl | hb
        · exact plain_47 (h1 b hb)
        · decide
        · exact plain_47 (h3.1 b hb)
  refine ⟨fun hm => key.1 47 ?_ rfl, fun e => key.2 (by unfold bytesOf; rw [e]; rfl)⟩
  unfold bytesOf
  exact List.mem_map.mpr ⟨47, hm, rfl⟩
theorem names_each : ∀ (l : List Int) (x n : S27) (d : Nat), getS x l = some n → Fm d x → ∀ m ∈ namesS x l, nodeB m = true
  | [], x, n, d, _, _ => fun m hm => by simp [namesS] at hm
  | i :: r, x, n, d, hg, hf => fun m hm => by
    simp only [getS] at hg
    by_cases c : 0 ≤ i ∧ i < (x.f2.length : Int)
    · rw [if_pos c] at hg
      simp only [namesS, List.mem_cons] at hm
      rcases hm with rfl | hm
      · exact ((hf [] x rfl).2.2 i.toNat (by omega))
      · refine names_each r _ n (d + 1) hg (fun l n' hl => ?_) m hm
        have := hf (i :: l) n' (by simp only [getS]; rw [if_pos c]; exact hl)
        refine ⟨?_, this.2⟩
        have := this.1
        simp only [List.length_cons] at this
        omega
    · rw [if_neg c] at hg
      cases hg
theorem fm_kid {x : S27} {d : Nat} {i : Int} (hf : Fm d x) (c : 0 ≤ i ∧ i < (x.f2.length : Int)) : Fm (d + 1) (x.f2.getD i.toNat z27) := fun l n' hl => by
  have := hf (i :: l) n' (by simp only [getS]; rw [if_pos c]; exact hl)
  refine ⟨?_, this.2⟩
  have := this.1
  simp only [List.length_cons] at this
  omega
theorem kidIx_at (s : List UInt8) : ∀ (ks : List S27) (i m : Nat), m < ks.length → (ks.getD m z27).f0.toList = s → (∀ p, p < m → (ks.getD p z27).f0.toList ≠ s) → kidIx s ks i = ((i + m : Nat) : Int)
  | [], i, m, h, _, _ => by simp at h
  | k :: r, i, 0, _, h1, _ => by
    simp only [List.getD_cons_zero] at h1
    simp only [kidIx, if_pos h1, Nat.add_zero]
  | k :: r, i, m + 1, h, h1, h2 => by
    have h3 := h2 0 (by omega)
    simp only [List.getD_cons_zero] at h3
    simp only [kidIx, if_neg h3]
    rw [kidIx_at s r (i + 1) m (by simpa using h) (by simpa using h1) (fun p hp => by simpa using h2 (p + 1) (by omega))]
    congr 1
    omega
theorem kid_ev (y : S27) (d m : Nat) (hf : Fm d y) (hm : m < y.f2.length) : Ev (fun k => path_kid.f k y.f0 y.f1 y.f2 (y.f2.getD m z27).f0) ((m : Int), 0) := by
  obtain ⟨_, hu, hn⟩ := hf [] y rfl
  have hne := (node_name _ (hn m hm)).2
  unfold path_kid.f
  rw [ByteArray.toList_eq]
  refine Ev.neg hne ?_
  have hk : tree_Kid.f y.f0 y.f1 y.f2 (y.f2.getD m z27).f0 = some (m : Int) := by
    unfold tree_Kid.f
    rw [kidIx_at _ y.f2 0 m hm rfl (fun p hp => hu p m hp hm), Nat.zero_add]
  simp only [hk, Option.bind_some]
  exact Ev.pos (Int.natCast_nonneg m) (Ev.some _)
theorem find_loop (x : S27) (l : List Int) (ps : List ByteArray) (hps : ps = namesS x l) (hl : l.length ≤ 16) (hpl : ps.length = l.length) : ∀ (j i : Nat) (y n : S27) (d : Nat), i + j = l.length → getS y (l.drop i) = some n → Fm d y → namesS y (l.drop i) = ps.drop i →
    Ev (fun k => path_Find.l0 k (l.take i) ps (ps.length : Int) (i : Int) y.f0 y.f1 y.f2) (l, 0) := by
  intro j
  induction j with
  | zero =>
    intro i y n d hi hg hf he
    refine Ev.succ ?_
    simp only [path_Find.l0]
    rw [List.take_of_length_le (by omega)]
    exact Ev.neg (by omega) (Ev.some _)
  | succ j ih =>
    intro i y n d hi hg hf he
    have hw := step64 (i := i) (n := l.length) (by omega) (by omega)
    have hd := drop_at (l := l) (d := 0) (i := i) (by omega)
    have hd2 := drop_at (l := ps) (d := ByteArray.empty) (i := i) (by omega)
    have hr : rdOf ByteArray.empty ps (i : Int) = ps.getD i ByteArray.empty := by unfold rdOf; rw [Int.toNat_natCast]
    have ht : l.take (i + 1) = l.take i ++ [l.getD i 0] := by rw [List.take_succ_eq_append_getElem (by omega), getD_at (by omega)]
    rw [hd] at hg he
    rw [hd2] at he
    refine Ev.succ ?_
    simp only [path_Find.l0, hr, hw]
    refine Ev.pos (by omega) (Ev.pos (Int.natCast_nonneg i) (Ev.pos (by omega) ?_))
    have htl : (l.take i).length = i := by rw [List.length_take]; omega
    have IH := ih (i + 1)
    rw [ht] at IH
    clear hw hr hd hd2 ht
    generalize l.getD i 0 = q at hg he IH ⊢
    simp only [getS] at hg
    by_cases c : 0 ≤ q ∧ q < (y.f2.length : Int)
    · rw [if_pos c] at hg
      have hfk := fm_kid hf c
      obtain ⟨m, rfl⟩ : ∃ m : Nat, q = m := ⟨q.toNat, by omega⟩
      simp only [namesS, Int.toNat_natCast, List.cons.injEq] at hg he hfk
      rw [← he.1]
      refine Ev.then (kid_ev y d m hf (by omega)) (Ev.pos rfl (Ev.pos (by rw [htl]; omega) (Ev.pos c.1 (Ev.pos c.2 ?_))))
      rw [rdN]
      exact IH _ n (d + 1) (by omega) hg hfk he.2
    · rw [if_neg c] at hg
      cases hg
theorem names_len : ∀ (l : List Int) (x : S27), (namesS x l).length = l.length
  | [], x => rfl
  | i :: r, x => by simp only [namesS, List.length_cons, names_len r]
theorem find_ev (b : Int) (res : List S48) (x n : S27) (l : List Int) (hl : l.length ≤ 16) (hg : getS x l = some n) (hf : Fm 1 x) (hs : (pathS x l).size ≤ 1024) :
    Ev (fun k => path_Find.f k b res x.f0 x.f1 x.f2 (pathS x l)) (l, 0) := by
  unfold path_Find.f
  cases l with
  | nil =>
    have hp : pathS x [] = ⟨#[47]⟩ := rfl
    rw [hp]
    refine Ev.neg (by decide) (Ev.succ ?_)
    simp only [path_Find.j0]
    refine Ev.neg (by decide) (Ev.pos (by decide) (Ev.pos (by decide) (Ev.succ ?_)))
    simp only [path_Find.j1]
    exact Ev.pos (by rw [ByteArray.toList_eq]) (Ev.some _)
  | cons q r =>
    have hp : pathS x (q :: r) = joinP (namesS x (q :: r)) := if_neg (by simp)
    rw [hp] at hs ⊢
    have he := names_each _ x n 1 hg hf
    have hnl := names_len (q :: r) x
    obtain ⟨a, t, ha⟩ : ∃ a t, namesS x (q :: r) = a :: t := ⟨_, _, rfl⟩
    have hloop := find_loop x (q :: r) (namesS x (q :: r)) rfl hl hnl (q :: r).length 0 x n 1 (by omega) (by simpa using hg) hf rfl
    rw [ha] at hs he hloop ⊢
    have hdata := joinP_data (a :: t)
    simp only [flat] at hdata
    have h1 := node_name a (he a (by simp))
    have hsz : (joinP (a :: t)).size = 1 + (a.data.toList.length + (flat t).length) := by
      rw [Lib.size_eq, hdata]
      simp only [List.length_cons, List.length_append]
      omega
    have hpos : 0 < a.data.toList.length := List.length_pos_iff.mpr h1.2
    have h47 : bt (joinP (a :: t)) 0 = 47 := by
      rw [← rd_bytesOf]
      unfold bytesOf
      rw [hdata]
      rfl
    refine Ev.neg (by omega) (Ev.succ ?_)
    simp only [path_Find.j0]
    have hdec : decide (((joinP (a :: t)).size : Int) > 1024) = false := decide_eq_false (by omega)
    rw [hdec]
    refine Ev.neg (by decide) (Ev.pos (by omega) (Ev.pos h47 (Ev.succ ?_)))
    simp only [path_Find.j1]
    have hx : ((joinP (a :: t)).extract 1 (joinP (a :: t)).size).data.toList = a.data.toList ++ flat t := by
      rw [Lib.extract_to_end, hdata]
      rfl
    have hsp := split_f ((joinP (a :: t)).extract 1 (joinP (a :: t)).size) a t hx (fun m hm => (node_name m (he m hm)).1) (by rw [Lib.size_eq, hx, List.length_append]; omega)
    refine Ev.neg (by
      rw [ByteArray.toList_eq, hdata]
      intro e
      have := congrArg List.length e
      simp only [List.length_cons, List.length_append, List.length_nil] at this
      omega) (Ev.pos (by omega) ?_)
    rw [hsp]
    simpa using hloop
theorem find_long (b : Int) (res : List S48) (x : S27) (s : ByteArray) (hs : 1024 < s.size) : Ev (fun k => path_Find.f k b res x.f0 x.f1 x.f2 s) ([], 1) := by
  unfold path_Find.f
  refine Ev.neg (by omega) (Ev.succ ?_)
  simp only [path_Find.j0]
  have hdec : decide ((s.size : Int) > 1024) = true := decide_eq_true (by omega)
  rw [hdec]
  exact Ev.pos rfl (Ev.some _)
theorem placesL_valid (x : S27) (ih : ∀ k ∈ x.f2, ∀ p, ∀ q ∈ placesN k p, ∃ r n, q = p ++ r ∧ getS k r = some n) : ∀ (l : List S27) (i : Nat) (p : List Int), l = x.f2.drop i → ∀ q ∈ placesL l i p, ∃ r n, q = p ++ r ∧ getS x r = some n
  | [], i, p, _ => fun q hq => by simp [placesL] at hq
  | k :: t, i, p, h => fun q hq => by
    have hi : i < x.f2.length := by
      have := congrArg List.length h
      simp only [List.length_cons, List.length_drop] at this
      omega
    have hd := drop_at (l := x.f2) (d := z27) (i := i) hi
    rw [hd] at h
    simp only [List.cons.injEq] at h
    simp only [placesL, List.mem_append] at hq
    rcases hq with hq | hq
    · obtain ⟨r, n, h1, h2⟩ := ih k (by rw [h.1]; exact getN hi) _ q hq
      refine ⟨(i : Int) :: r, n, by rw [h1, List.append_assoc]; rfl, ?_⟩
      simp only [getS, Int.toNat_natCast]
      rw [if_pos ⟨Int.natCast_nonneg i, by omega⟩, ← h.1]
      exact h2
    · exact placesL_valid x ih t (i + 1) p h.2 q hq
theorem places_valid (m : Nat) : ∀ (x : S27) (p : List Int), bulk27 x ≤ m → ∀ q ∈ placesN x p, ∃ r n, q = p ++ r ∧ getS x r = some n := by
  induction m with
  | zero => intro x p hx; have := bulk_pos x; omega
  | succ m ih =>
    intro x p hx q hq
    rw [placesN_eq] at hq
    simp only [List.mem_cons] at hq
    rcases hq with rfl | hq
    · exact ⟨[], x, by simp, rfl⟩
    · exact placesL_valid x (fun k hk p q hq => ih k p (by have := bulk_kid hk; omega) q hq) x.f2 0 p (by simp) q hq
end Go.Proofs.YtkopmkinlanhoaaDoor.PP

set_option linter.unusedVariables false
set_option linter.unusedSimpArgs false
namespace Go.Proofs.YtkopmkinlanhoaaDoor.Pure
open Go.RowKit Go.Proofs.YtkopmkinlanhoaaDoor.PP Go.Proofs.YtkopmkinlanhoaaDoor.Rdr Go.Proofs.YtkopmkinlanhoaaDoor.Aid Go.Proofs.YtkopmkinlanhoaaDoorW.PrintWords
theorem pback_awake : Ev (fun k => arboretlaw06_awake.f k) true := Ev.of (k := 6) (fun k => arboretlaw06_awake.mono k) (by decide +kernel)
theorem pback_loop (b : Int) (res : List S48) (x : S27) (hx : bulk27 x ≤ 1048576) (hf : Fm 1 x) (ps : List (List Int)) (hl : ps.length ≤ 1048576) (hv : ∀ p ∈ ps, ∃ n, getS x p = some n) :
    ∀ (j i : Nat), i + j = ps.length → Ev (fun k => arboretlaw06_PathBack.l0 k ps (ps.length : Int) (i : Int) b res x.f0 x.f1 x.f2) true := by
  intro j
  induction j with
  | zero =>
    intro i hi
    refine Ev.succ ?_
    simp only [arboretlaw06_PathBack.l0]
    exact Ev.neg (by omega) (Ev.some _)
  | succ j ih =>
    intro i hi
    have hw := step64 (i := i) (n := ps.length) (by omega) (by omega)
    have hr : rd_L12 ps (i : Int) = ps.getD i [] := by unfold rd_L12; rw [Int.toNat_natCast]
    refine Ev.succ ?_
    simp only [arboretlaw06_PathBack.l0, hr, hw]
    have hm : ps.getD i [] ∈ ps := by rw [getD_at (by omega)]; exact List.getElem_mem _
    clear hw hr
    refine Ev.pos (by omega) (Ev.pos (Int.natCast_nonneg i) (Ev.pos (by omega) ?_))
    generalize ps.getD i [] = p at hm ⊢
    obtain ⟨n, hn⟩ := hv p hm
    have hd := (hf p n hn).1
    refine Ev.then (ppath_ev b res x n p hx (by omega) hn) ?_
    by_cases c : (pathS x p).size ≤ 1024
    · exact Ev.then (find_ev b res x n p (by omega) hn hf c) (Ev.pos rfl (Ev.pos (by show ((pathS x p).size : Int) ≤ 1024; omega) (Ev.pos rfl (Ev.then (equal_same p (by omega)) (Ev.pos rfl (ih (i + 1) (by omega)))))))
    · exact Ev.then (find_long b res x (pathS x p) (by omega)) (Ev.pos rfl (Ev.neg (by show ¬ ((pathS x p).size : Int) ≤ 1024; omega) (ih (i + 1) (by omega))))
theorem PathBack : arboretlaw06_PathBack.Pure := by
  intro t hb gt
  obtain ⟨b, res, x⟩ := t
  simp only [bulk29, sumB_one] at hb
  have hx : bulk27 x ≤ 1048576 := by omega
  have hres : res.length ≤ 1048576 := by
    have := sumB_len (B := bulk48) (fun p => by unfold bulk48; omega) res
    omega
  obtain ⟨v1, h1⟩ := few_ends b res x hx
  obtain ⟨v2, h2, hform⟩ := check_formed b res x hx hres
  have asleep : Ev (fun k => arboretlaw06_PathBack.j0 k true b res x.f0 x.f1 x.f2) true := by
    refine Ev.succ ?_
    simp only [arboretlaw06_PathBack.j0]
    exact Ev.pos trivial (Ev.then pback_awake (Ev.some _))
  refine Ev.out (?_ : Ev (fun k => arboretlaw06_PathBack.f k b res x.f0 x.f1 x.f2) true)
  unfold arboretlaw06_PathBack.f
  refine Ev.then pback_awake (Ev.pos rfl (Ev.then h1 ?_))
  cases v1 with
  | false => exact Ev.neg (by decide) asleep
  | true =>
    refine Ev.pos rfl (Ev.then h2 ?_)
    by_cases h0 : v2 = 0
    · subst h0
      refine Ev.succ ?_
      simp only [arboretlaw06_PathBack.j0]
      refine Ev.neg (by decide) ?_
      have ha := all_ev 1048576 (Nat.le_refl _) x [] hx (by simp only [List.length_nil]; omega)
      have hl := places_len 1048576 x [] hx
      unfold path_All.f
      refine Ev.then (Ev.then ha (Ev.some _)) ?_
      refine pback_loop b res x hx (hform rfl) (placesN x []) (by omega) (fun p hp => ?_) (placesN x []).length 0 (by omega)
      obtain ⟨r, n, h3, h4⟩ := places_valid 1048576 x [] hx p hp
      exact ⟨n, by rw [h3]; exact h4⟩
    · have e : (v2 != 0) = true := by simpa using h0
      rw [e]
      exact asleep
end Go.Proofs.YtkopmkinlanhoaaDoor.Pure

namespace Go.Proofs.YtkopmkinlanhoaaDoor.pathBack
open Go.ChangeShapes Go.WideShapes Go.ChangeAt Go.RowKit Go.Proofs.YtkopmkinlanhoaaDoor.Rdr Go.Proofs.YtkopmkinlanhoaaDoor.PP
open Go.ChangeMaps (open_string shut_string)
set_option linter.unusedVariables false
set_option linter.unusedSimpArgs false
theorem own : ownKnob Tryd.prog.godebug = none := by kernel_rfl
theorem laidOut : laidOutB Tryd.prog = true := by kernel_rfl
set_option maxRecDepth 100000 in
theorem contract (H : Type) (enc : TypeId × Value → H) (W : World) (base : Nat) (args : Array Value) (ds gs : List (DataW H)) (before : List MemPlace)
    (hval0 : ∀ (j : Nat) t v, Tryd.f3.params[j]? = some t → args[j]? = some v → Value.okWide Tryd.prog W .any base t v)
    (hW : DataW.Whole enc Tryd.prog Tryd.f3.params.toList Rows.pathBackSpec.vars false W args.toList ds gs before) (hk : Rows.uptoSmall H (ds ++ gs) = true) :
    Calls Tryd.prog 3 args W fun e W' => ∃ v, e = .returned v ∧ Rows.pathBackSpec.post enc Tryd.prog Tryd.f3 false true false false W args v W' := by
  have hval : ∀ (j : Nat) t v, Tryd.f3.params[j]? = some t → args[j]? = some v → Value.okWide Tryd.prog W .any base t v := hval0
  have hW' := hW
  obtain ⟨p, q, hA0, hV, rfl, hfz, hnd⟩ := hW
  have hA : DataW.TrodAll enc Tryd.prog W 0 (fun _ => true) true Tryd.f3.params.toList args.toList ds p := hA0
  rw [Tryd.params3] at hA hval
  obtain ⟨v0, vs0, d0, ds0, p0, q0, hargs, rfl, rfl, h0, tr0⟩ := trodAll_cons hA
  obtain ⟨rfl, rfl, rfl⟩ := trodAll_nil tr0
  obtain rfl : args = #[v0] := by cases args; simp_all
  obtain ⟨rfl, rfl⟩ := trodVars_none hV
  have hb := bound hk
  simp only [List.append_nil, Rows.uptoBulkAll, List.nil_append] at hb
  have k0 := h0
  have lt0 : ∀ x ∈ p0, x.block < W.heap.size := by obtain ⟨m, hm⟩ := k0; exact DataW.trod_lt m _ _ _ hm
  obtain ⟨cs0, rfl, hcs0⟩ : ∃ cs, v0 = .agg cs ∧ True := by
    have z := (hval 0 29 v0 rfl rfl)
    simp only [Value.okWide, Tryd.underlying29] at z
    obtain ⟨cs, hc, _⟩ := z
    exact ⟨cs, hc, trivial⟩
  obtain ⟨f0, hf0⟩ := h0
  obtain ⟨x0, K0, b0, g0⟩ := rd29 W f0 H enc f0 (Nat.le_refl _) _ _ hf0
  obtain ⟨A0_1, c0_1, A0_3, c0_3, A0_4, c0_4, e0, l0_1, r0_1, l0_3, r0_3, l0_4, r0_4⟩ := k29_open K0
  obtain ⟨cl0⟩ := cs0
  have e0' : cl0 = _ := e0
  subst e0'
  obtain ⟨k, hk_⟩ := Pure.PathBack x0 (by (try simp only [Rows.uptoBulk, Array.length_toList] at hb); first | omega | (simp only [ByteArray.size] at *; omega)) g0
  refine (arboretlaw06_PathBack.calls k x0.f0 A0_1 c0_1 x0.f1 x0.f2.f0 A0_3 c0_3 x0.f2.f1 A0_4 c0_4 x0.f2.f2 true W r0_1 l0_1 r0_3 l0_3 r0_4 l0_4 hk_).mono fun e W' ⟨he, bel0⟩ => ?_
  have bel : Below W.heap.size W W' := bel0
  subst he
  exact ⟨_, rfl, _, _, _, [], _, [], hW', trodAll_mk1 (shut_bool Tryd.underlying4 _), (trodAll_cons_mk (Below.trod laidOut (by kernel_rfl) (of_decide_eq_true (by kernel_rfl)) k0 bel lt0) trodAll_mk0), rfl, bel.frame _, fun h => by cases h⟩
open Go
noncomputable def laidWorld (os : Os) : World := { World.holding Tryd.prog os ⟨#[], #[], []⟩ with heap := (((World.holding Tryd.prog os ⟨#[], #[], []⟩).heap.modify 1 fun | .cells _ t fr => .cells (Go.Pinned.utf8FirstZ.map fun z : Nat => Value.int .u8 (z : Int)).toArray t fr | o => o).modify 2 fun | .cells _ t fr => .cells #[.int .u8 128, .int .u8 191, .int .u8 160, .int .u8 191, .int .u8 128, .int .u8 159, .int .u8 144, .int .u8 191, .int .u8 128, .int .u8 143, .int .u8 0, .int .u8 0, .int .u8 0, .int .u8 0, .int .u8 0, .int .u8 0, .int .u8 0, .int .u8 0, .int .u8 0, .int .u8 0, .int .u8 0, .int .u8 0, .int .u8 0, .int .u8 0, .int .u8 0, .int .u8 0, .int .u8 0, .int .u8 0, .int .u8 0, .int .u8 0, .int .u8 0, .int .u8 0] t fr | o => o) }
set_option maxRecDepth 100000 in
theorem laid_met (os : Os) : laidMet Tryd.prog Rows.pathBackUptoRow.laid ((laidWorld os).forCall (fun _ _ => 0) ⟨#[], #[.agg #[.int .u32 0, .slice none 0 0, .string ByteArray.empty, .slice none 0 0, .slice none 0 0]], []⟩).memory := laidMet_of_run' 8 (by kernel_rfl) (by kernel_rfl)
set_option maxRecDepth 100000 in
theorem lifted (os : Os) (started : os.Started) (H : Type) (enc : TypeId × Value → H) (F : Stop.Interp) :
    ReturnsInHanded {} Tryd.checked os 3 .any ((Rows.OpenSpec.upto Rows.pathBackSpec).preRow enc Tryd.prog Tryd.f3 Rows.pathBackUptoRow.domain false Rows.pathBackUptoRow.laid) (((Rows.OpenSpec.upto Rows.pathBackSpec).at F).post enc Tryd.prog Tryd.f3 false true false false) := by
  refine returnsInHanded_of_row (C := Tryd.checked) (s := Rows.OpenSpec.upto Rows.pathBackSpec) own started (by kernel_rfl) Tryd.func3
    (witness_row_at (enc := enc) (C := Tryd.checked) false (laidWorld os) #[.agg #[.int .u32 0, .slice none 0 0, .string ByteArray.empty, .slice none 0 0, .slice none 0 0]] rfl (by kernel_rfl) (by kernel_rfl) (by kernel_rfl)
      (OpenSpec.preRow_of_cond 16 (x := ([.agg [.lit (.int .u32 0), .nil, .agg [.lit (.string []), .nil, .nil]]], [], [])) (by kernel_rfl) (by kernel_rfl) (fun k hk => by cases hk; kernel_rfl) (by kernel_rfl) (laid_met os))) ?_
  intro W base args ds gs before hval hW _ hcond hsz _ _ _
  exact contract H enc W base args ds gs before hval hW (hcond _ rfl)
theorem said : Rows.PathBackUptoSaid :=
  OpenClaim.holds_of_cond 3 Tryd.f3 rfl rfl rfl rfl rfl rfl rfl ⟨rfl, rfl, rfl, rfl, rfl⟩ rfl rfl rfl rfl rfl (by kernel_rfl) Tryd.func3 (by kernel_rfl)
    (of_decide_eq_true (by kernel_rfl)) (by unfold Func.isWrapper; first | (rw [if_pos (by decide +kernel)]; kernel_rfl) | (rw [if_neg (by decide +kernel)]; exact ⟨rfl, rfl⟩))
    (fun os started H enc _ F => by rw [OpenClaim.pre_eq_preRow]; exact lifted os started H enc F)
theorem plain (f : FuncId) (fn : Func) (hf : Tryd.pinned.checked.prog.funcNamed "arboret/arboretlaw06.PathBack" = some f) (hfn : Tryd.pinned.checked.prog.funcs[f]? = some fn) :
    false = Tryd.pinned.checked.prog.looks [] ∧ ∀ (j : Nat) t, fn.params[j]? = some t → Tryd.pinned.checked.prog.wantsStandIn t = false := by
  obtain rfl : f = 3 := Option.some.inj ((show Tryd.prog.funcNamed "arboret/arboretlaw06.PathBack" = some 3 by kernel_rfl).symm.trans hf) |>.symm
  obtain rfl : fn = Tryd.f3 := (Option.some.inj (Tryd.func3.symm.trans hfn)).symm
  refine ⟨by kernel_rfl, fun j t ht => ?_⟩
  rw [Tryd.params3] at ht
  have hm := Array.mem_of_getElem? ht
  simp only [List.mem_cons, List.not_mem_nil, or_false, List.mem_toArray] at hm
  subst hm
  · exact (show Tryd.prog.wantsStandIn 29 = false by kernel_rfl)
theorem card : Rows.PathBackUptoCardSaid :=
  Claim7.holds_tied_plain_at .later [] _ _ _ _ said (fun _ h => by cases h) (by kernel_rfl) (fun _ h => by cases h) pathBackUpto_row_tie rfl ⟨rfl, rfl⟩ (by kernel_rfl) rfl plain (by kernel_rfl)
end Go.Proofs.YtkopmkinlanhoaaDoor.pathBack
namespace Go.Proofs.YtkopmkinlanhoaaDoor
theorem pathBack_holds : Rows.PathBackUptoCardSaid := pathBack.card
end Go.Proofs.YtkopmkinlanhoaaDoor
