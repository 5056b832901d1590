/- RegionInside: texts of this session's (PureRegionInside, LawRegionInside), laid together for one claim. -/
import Derived.Test.YteejaaeglfpcmaaZRegionInside1
set_option linter.unusedVariables false
set_option linter.unusedSimpArgs false
/- The pure side of RegionInside: both ways of asking whether bytes lie in a window, and whether two windows meet, answer alike. No condition beyond the row's own. -/
namespace Go.Proofs.Yteejaaeglfpcmaa.Pure
open Go.RowKit Go.Proofs.Yteejaaeglfpcmaa.PX Go.Proofs.Yteejaaeglfpcmaa.Rdr Go.Proofs.Yteejaaeglfpcmaa.Aid Go.Proofs.YteejaaeglfpcmaaW.PrintWords

theorem inside_awake : arboretlaw12_awake.f 6 = some true := by decide +kernel
theorem whole_alike (a b : Int) : region_whole.f a b = some (decide (b = 0 ∨ IntKind.u64.wrap (b - 1) ≤ IntKind.u64.wrap (18446744073709551615 - a))) := by
  unfold region_whole.f
  by_cases h : b = 0 <;> simp [h]
theorem whole_alike2 (a b : Int) : arboretref12_Whole.f a b = some (decide (b = 0 ∨ IntKind.u64.wrap (b - 1) ≤ IntKind.u64.wrap (18446744073709551615 - a))) := by
  unfold arboretref12_Whole.f
  by_cases h : b = 0 <;> simp [h]
theorem inside_1 (a b c d : Int) (ha : 0 ≤ a ∧ a ≤ 18446744073709551615) (hb : 0 ≤ b ∧ b ≤ 18446744073709551615) (hc : 0 ≤ c ∧ c ≤ 18446744073709551615) (hd : 0 ≤ d ∧ d ≤ 18446744073709551615) :
    region_Inside.f a b c d = some (decide (0 < d ∧ 0 < b ∧ b - 1 ≤ 18446744073709551615 - a ∧ d - 1 ≤ 18446744073709551615 - c ∧ a ≤ c ∧ c + d ≤ a + b)) := by
  unfold region_Inside.f
  simp only [whole_alike, wu64_def, Option.bind_some, decide_eq_true_eq]
  repeat' split
  all_goals first | (simp only [Option.some.injEq, decide_eq_decide]; omega) | (simp only [Option.some.injEq]; symm; simp only [decide_eq_false_iff_not]; omega)
theorem inside_2 (a b c d : Int) (ha : 0 ≤ a ∧ a ≤ 18446744073709551615) (hb : 0 ≤ b ∧ b ≤ 18446744073709551615) (hc : 0 ≤ c ∧ c ≤ 18446744073709551615) (hd : 0 ≤ d ∧ d ≤ 18446744073709551615) :
    arboretref12_Inside.f a b c d = some (decide (0 < d ∧ 0 < b ∧ b - 1 ≤ 18446744073709551615 - a ∧ d - 1 ≤ 18446744073709551615 - c ∧ a ≤ c ∧ c + d ≤ a + b)) := by
  unfold arboretref12_Inside.f
  simp only [whole_alike2, wu64_def, Option.bind_some, decide_eq_true_eq]
  repeat' split
  all_goals first | (simp only [Option.some.injEq, decide_eq_decide]; omega) | (simp only [Option.some.injEq]; symm; simp only [decide_eq_false_iff_not]; omega)
/-- A window's last address. -/
def lastOf (a b : Int) : Int := if b - 1 ≤ 18446744073709551615 - a then a + (b - 1) else 18446744073709551615
theorem last_1 (a b : Int) (ha : 0 ≤ a ∧ a ≤ 18446744073709551615) (hb : 0 < b ∧ b ≤ 18446744073709551615) : region_last.f a b = some (lastOf a b) := by
  unfold region_last.f lastOf
  simp only [whole_alike, wu64_def, Option.bind_some, decide_eq_true_eq]
  by_cases h : b - 1 ≤ 18446744073709551615 - a
  · rw [if_pos (by omega), if_pos h]
    congr 1
    omega
  · rw [if_neg (by omega), if_neg h]
theorem meet_1 (a b c d : Int) (ha : 0 ≤ a ∧ a ≤ 18446744073709551615) (hb : 0 ≤ b ∧ b ≤ 18446744073709551615) (hc : 0 ≤ c ∧ c ≤ 18446744073709551615) (hd : 0 ≤ d ∧ d ≤ 18446744073709551615) :
    region_Meet.f a b c d = some (decide (0 < b ∧ 0 < d ∧ a ≤ lastOf c d ∧ c ≤ lastOf a b)) := by
  unfold region_Meet.f
  by_cases h0 : b > 0
  · rw [if_pos h0]
    by_cases h1 : d > 0
    · rw [if_pos h1, last_1 c d hc ⟨h1, hd.2⟩, last_1 a b ha ⟨h0, hb.2⟩]
      simp only [Option.bind_some]
      by_cases h2 : a ≤ lastOf c d
      · rw [if_pos h2]; simp [h0, h1, h2]
      · rw [if_neg h2]; simp [h2]
    · rw [if_neg h1]; simp [h1]
  · rw [if_neg h0]; simp [h0]
theorem meet_2 (k : Nat) (a b c d : Int) (ha : 0 ≤ a ∧ a ≤ 18446744073709551615) (hb : 0 ≤ b ∧ b ≤ 18446744073709551615) (hc : 0 ≤ c ∧ c ≤ 18446744073709551615) (hd : 0 ≤ d ∧ d ≤ 18446744073709551615) :
    arboretref12_Meet.f (k + 1) a b c d = some (decide (0 < b ∧ 0 < d ∧ a ≤ lastOf c d ∧ c ≤ lastOf a b)) := by
  unfold arboretref12_Meet.f
  by_cases h0 : b = 0
  · rw [if_pos h0]
    simp [arboretref12_Meet.j0, h0]
  · rw [if_neg h0]
    by_cases h1 : d = 0
    · simp [arboretref12_Meet.j0, h1]
    · have h1' : (d == 0) = false := by simpa using h1
      rw [h1']
      simp only [arboretref12_Meet.j0, whole_alike2, wu64_def, Option.bind_some, decide_eq_true_eq]
      unfold lastOf
      rw [if_neg (by decide)]
      repeat' split
      all_goals first | (simp only [Option.some.injEq, decide_eq_decide]; omega) | (simp only [Option.some.injEq]; symm; simp only [decide_eq_false_iff_not]; omega)
theorem RegionInside : arboretlaw12_RegionInside.Pure := by
  intro x0 x1 c d g0 g1 g2 g3
  obtain ⟨h0, h1⟩ := g0
  obtain ⟨h2, h3⟩ := g1
  refine ⟨6, ?_⟩
  unfold arboretlaw12_RegionInside.f
  have e0 := wf_u64.mp h0
  have e1 := wf_u64.mp h1
  have e2 := wf_u64.mp h2
  have e3 := wf_u64.mp h3
  have e4 := wf_u64.mp g2
  have e5 := wf_u64.mp g3
  rw [inside_awake, inside_1 _ _ _ _ e0 e1 e4 e5, inside_2 _ _ _ _ e0 e1 e4 e5, meet_1 _ _ _ _ e0 e1 e2 e3, meet_2 5 _ _ _ _ e0 e1 e2 e3, meet_1 _ _ _ _ e2 e3 e0 e1]
  simp only [Option.bind_some, if_true, Option.some.injEq, beq_iff_eq, decide_eq_decide]
  omega
end Go.Proofs.Yteejaaeglfpcmaa.Pure

/- RegionInside: the given statement RegionInsideSaid, out of the walk's contract and the pure statement. Conditions: the row's own. -/
namespace Go.Proofs.Yteejaaeglfpcmaa.regionInside
open Go.ChangeShapes Go.WideShapes Go.ChangeAt Go.RowKit Go.Proofs.Yteejaaeglfpcmaa.Rdr Go.Proofs.Yteejaaeglfpcmaa.PX
open Go.ChangeMaps (open_string shut_string)
set_option linter.unusedVariables false
set_option linter.unusedSimpArgs false
theorem own : ownKnob Try.prog.godebug = none := by kernel_rfl
theorem laidOut : laidOutB Try.prog = true := by kernel_rfl
set_option maxRecDepth 100000 in
theorem contract (H : Type) (enc : TypeId × Value → H) (W : World) (base : Nat) (args : Array Value) (ds gs : List (DataW H)) (before : List MemPlace)
    (hval0 : ∀ (j : Nat) t v, Try.f8.params[j]? = some t → args[j]? = some v → Value.okWide Try.prog W .any base t v)
    (hW : DataW.Whole enc Try.prog Try.f8.params.toList Rows.regionInsideSpec.vars false W args.toList ds gs before) (hsz : (DataW.weightsEach Try.prog (Try.f8.params.toList ++ Rows.regionInsideSpec.plain.varTypes Try.prog) (ds ++ gs)).all (· ≤ reachBytes) = true) :
    Calls Try.prog 8 args W fun e W' => ∃ v, e = .returned v ∧ Rows.regionInsideSpec.post enc Try.prog Try.f8 false true false false W args v W' := by
  have hval : ∀ (j : Nat) t v, Try.f8.params[j]? = some t → args[j]? = some v → Value.okWide Try.prog W .any base t v := hval0
  have hW' := hW
  obtain ⟨p, q, hA0, hV, rfl, hfz, hnd⟩ := hW
  have hA : DataW.TrodAll enc Try.prog W 0 (fun _ => true) true Try.f8.params.toList args.toList ds p := hA0
  rw [Try.params8] at hA hval hsz
  obtain ⟨v0, vs0, d0, ds0, p0, q0, hargs, rfl, rfl, h0, r0⟩ := trodAll_cons hA
  obtain ⟨v1, vs1, d1, ds1, p1, q1, rfl, rfl, rfl, h1, r1⟩ := trodAll_cons r0
  obtain ⟨v2, vs2, d2, ds2, p2, q2, rfl, rfl, rfl, h2, r2⟩ := trodAll_cons r1
  obtain ⟨v3, vs3, d3, ds3, p3, q3, rfl, rfl, rfl, h3, r3⟩ := trodAll_cons r2
  obtain ⟨rfl, rfl, rfl⟩ := trodAll_nil r3
  obtain rfl : args = #[v0, v1, v2, v3] := by cases args; simp_all
  obtain ⟨rfl, rfl⟩ := trodVars_none hV
  have k0 := h0
  have lt0 : ∀ x ∈ p0, x.block < W.heap.size := by obtain ⟨m, hm⟩ := k0; exact DataW.trod_lt m _ _ _ hm
  have k1 := h1
  have lt1 : ∀ x ∈ p1, x.block < W.heap.size := by obtain ⟨m, hm⟩ := k1; exact DataW.trod_lt m _ _ _ hm
  have k2 := h2
  have lt2 : ∀ x ∈ p2, x.block < W.heap.size := by obtain ⟨m, hm⟩ := k2; exact DataW.trod_lt m _ _ _ hm
  have k3 := h3
  have lt3 : ∀ x ∈ p3, x.block < W.heap.size := by obtain ⟨m, hm⟩ := k3; exact DataW.trod_lt m _ _ _ hm
  obtain ⟨cs0, rfl, hcs0⟩ : ∃ cs, v0 = .agg cs ∧ True := by
    have z := (hval 0 57 v0 rfl rfl)
    simp only [Value.okWide, Try.underlying57] at z
    obtain ⟨cs, hc, _⟩ := z
    exact ⟨cs, hc, trivial⟩
  obtain ⟨f0, hf0⟩ := h0
  obtain ⟨x0, K0, b0, g0⟩ := rd57 W f0 H enc f0 (Nat.le_refl _) _ _ hf0
  have e0 := k57_open K0
  obtain ⟨cl0⟩ := cs0
  have e0' : cl0 = _ := e0
  subst e0'
  obtain ⟨cs1, rfl, hcs1⟩ : ∃ cs, v1 = .agg cs ∧ True := by
    have z := (hval 1 57 v1 rfl rfl)
    simp only [Value.okWide, Try.underlying57] at z
    obtain ⟨cs, hc, _⟩ := z
    exact ⟨cs, hc, trivial⟩
  obtain ⟨f1, hf1⟩ := h1
  obtain ⟨x1, K1, b1, g1⟩ := rd57 W f1 H enc f1 (Nat.le_refl _) _ _ hf1
  have e1 := k57_open K1
  obtain ⟨cl1⟩ := cs1
  have e1' : cl1 = _ := e1
  subst e1'
  obtain ⟨x2, rfl, rfl, rfl, g2⟩ := open_int Try.underlying24 (hval 2 24 v2 rfl rfl) h2
  obtain ⟨x3, rfl, rfl, rfl, g3⟩ := open_int Try.underlying24 (hval 3 24 v3 rfl rfl) h3
  obtain ⟨k, hk_⟩ := Pure.RegionInside x0 x1 x2 x3 g0 g1 g2 g3
  refine (arboretlaw12_RegionInside.calls k x0.f0 x0.f1 x1.f0 x1.f1 x2 x3 true W  hk_).mono fun e W' ⟨he, bel0⟩ => ?_
  have bel : Below W.heap.size W W' := bel0
  subst he
  exact ⟨_, rfl, _, _, _, [], _, [], hW', trodAll_mk1 (shut_bool Try.underlying4 _), (trodAll_cons_mk (Below.trod laidOut (by kernel_rfl) (of_decide_eq_true (by kernel_rfl)) k0 bel lt0) (trodAll_cons_mk (Below.trod laidOut (by kernel_rfl) (of_decide_eq_true (by kernel_rfl)) k1 bel lt1) (trodAll_cons_mk (Below.trod laidOut (by kernel_rfl) (of_decide_eq_true (by kernel_rfl)) k2 bel lt2) (trodAll_cons_mk (Below.trod laidOut (by kernel_rfl) (of_decide_eq_true (by kernel_rfl)) k3 bel lt3) trodAll_mk0)))), rfl, bel.frame _, fun h => by cases h⟩
set_option maxRecDepth 100000 in
theorem lifted (os : Os) (started : os.Started) (H : Type) (enc : TypeId × Value → H) :
    ReturnsInHanded {} Try.checked os 8 .any (Rows.regionInsideSpec.pre6 enc Try.prog Try.f8 Rows.regionInsideRow.domain false) (Rows.regionInsideSpec.post enc Try.prog Try.f8 false true false false) := by
  refine returnsInHanded_of_change_sized (C := Try.checked) own started (by kernel_rfl) Try.func8
    (ChangeSpec.witness6 (enc := enc) (C := Try.checked) false ⟨#[], #[.agg #[.int .u64 0, .int .u64 0], .agg #[.int .u64 0, .int .u64 0], .int .u64 0, .int .u64 0], []⟩ 16 (by kernel_rfl) (by kernel_rfl) (by kernel_rfl) (by kernel_rfl)) ?_
  intro W base args ds gs before hval hW _ hsz _
  exact contract H enc W base args ds gs before hval hW hsz
theorem over : Rows.regionInsideRow.holds Try.pinned (OpenSpec.ofChange Rows.regionInsideSpec) :=
  OpenClaim.holds_of_wide 8 Try.f8 rfl rfl rfl rfl rfl rfl rfl ⟨rfl, rfl, rfl, rfl, rfl⟩ rfl rfl rfl rfl rfl (by kernel_rfl) Try.func8 (by kernel_rfl)
    (of_decide_eq_true (by kernel_rfl)) (by unfold Func.isWrapper; first | (rw [if_pos (by decide +kernel)]; kernel_rfl) | (rw [if_neg (by decide +kernel)]; exact ⟨rfl, rfl⟩))
    (fun os started H enc _ => lifted os started H enc)
theorem proved : Rows.RegionInsideSaid := over
end Go.Proofs.Yteejaaeglfpcmaa.regionInside
namespace Go.Proofs.Yteejaaeglfpcmaa
/-- The row, under a short name, for the claim. -/
theorem regionInside_holds : Rows.RegionInsideSaid := regionInside.proved
end Go.Proofs.Yteejaaeglfpcmaa
