/- SocNil: texts of this session's, and what the kit's print laid for this seat, as far as the law's row uses them (PVx_handle_Index, PVx_valid_Known, PVx_bytes_Equal, PVx_bytes_HasSuffix, PVx_bytes_CutSuffix, PVx_strings_Split, PVx_prop_Texts, PVx_valid_kind, PVx_valid_Of, PVx_bytes_IndexByte, PVx_words_Text, PVx_prop_Text, PVx_valid_status). -/
import Derived.Test.YtkfcgjopabcbeaaGreatDoorZSocNil2
set_option linter.unusedVariables false
set_option linter.unusedSimpArgs false
namespace Go.Proofs.YtkfcgjopabcbeaaGreatDoor.PV
open Go.RowKit Go.Proofs.YtkfcgjopabcbeaaGreatDoorW.PrintWords Go.Proofs.YtkfcgjopabcbeaaGreatDoorW.PrintLast Go.Proofs.YtkfcgjopabcbeaaGreatDoorW.PrintMore
attribute [local go_sem] max2_int min2_int max_two min_two max_three min_three max_four min_four   -- for this text's walks alone
set_option linter.unusedVariables false
set_option linter.unusedSimpArgs false
def MapH (w : World) (b : Nat) (hs : List Int) : Prop := ∃ D : DataW Unit, w.ownsMap Tryz.prog 22 (plainElem Tryz.prog 4) b hs.length D ∧ Maps.IsMap D ∧ ∀ h : Int, (Lit.int .u32 h).wf = true → D.atKey (.int .u32 h) (.lit (.bool false)) = .lit (.bool (decide (h ∈ hs)))
theorem plainElem_bool_inv {H : Type} {P : Program} {e : TypeId} (he : P.underlying e = some .bool) {v : Value} {z : DataW H × List MemPlace} (h : plainElem P e v = some z) : ∃ a, v = .bool a ∧ z = (.lit (.bool a), []) := by
  unfold plainElem at h
  rw [he] at h
  cases v <;> simp at h
  exact ⟨_, rfl, h.symm⟩
theorem zero_bool (w : World) : (zeroValue 4).run Tryz.prog w = .ok (.bool false) w := by kernel_rfl
theorem MapH.made (w : World) : MapH (w.alloc (.map #[] 0)) w.heap.size [] := ⟨.map [], World.ownsMap_made _ _ _ _, ⟨_, rfl⟩, fun h _ => by simp [DataW.atKey]⟩
theorem MapH.lt {w : World} {b : Nat} {hs : List Int} (h : MapH w b hs) : b < w.heap.size := h.choose_spec.1.lt
theorem MapH.same {w w' : World} {b : Nat} {hs : List Int} (h : MapH w b hs) (hk : w'.heap[b]? = w.heap[b]?) : MapH w' b hs := by
  obtain ⟨D, ⟨es, clock, hb, F, hs, hD⟩, hm, hat⟩ := h
  exact ⟨D, ⟨es, clock, hk.trans hb, F, hs, hD⟩, hm, hat⟩
theorem MapH.look {w : World} {b : Nat} {hs : List Int} (h : MapH w b hs) (x : Int) (hx : (Lit.int .u32 x).wf = true) : (Instr.lookup 180 (.map (some b)) (.int .u32 x) false).run Tryz.prog w = .ok (.bool (decide (x ∈ hs))) w := by
  obtain ⟨D, ho, _, hat⟩ := h
  obtain ⟨v, ps, hrun, hv⟩ := ho.lookup (Maps.int_keyed Tryz.underlying22) Tryz.underlying180 (zero_bool _) (plainElem_bool Tryz.underlying4 false) (Maps.keyOf_int_mk Tryz.underlying22 hx)
  rw [hat x hx] at hv
  obtain ⟨a, rfl, hz⟩ := plainElem_bool_inv Tryz.underlying4 hv
  rw [hrun]
  simp only [Prod.mk.injEq, DataW.lit.injEq, Lit.bool.injEq] at hz
  rw [hz.1]
theorem MapH.put {w : World} {b : Nat} {hs : List Int} (h : MapH w b hs) (hn : hs.length < maxLen) (x : Int) (hx : (Lit.int .u32 x).wf = true) : ∃ w', (Instr.mapUpdate 180 (.map (some b)) (.int .u32 x) (.bool true)).run Tryz.prog w = .ok () w' ∧ MapH w' b (hs ++ [x]) ∧ w.grownBy w' (some b) := by
  obtain ⟨D, ho, hm, hat⟩ := h
  obtain ⟨w', hrun, ho', hg⟩ := ho.update (Maps.int_keyed Tryz.underlying22) Tryz.underlying180 hn (Maps.keyOf_int_mk Tryz.underlying22 hx) (plainElem_bool Tryz.underlying4 true)
  refine ⟨w', hrun, ⟨_, by rw [List.length_append]; exact ho', ?_, fun y hy => ?_⟩, hg⟩
  · obtain ⟨es, rfl⟩ := hm
    exact ⟨_, rfl⟩
  · by_cases e : y = x
    · subst e
      rw [Maps.atKey_put_same hm (by simp [WideAt.IsKeyLit])]
      simp
    · rw [Maps.atKey_put_other (by simpa using e), hat y hy]
      simp [e]
structure OfS (ok : Nat → Prop) (w0 w W : World) (b : Nat) (vl0 vl : Value) (l : List S255) (hs : List Int) : Prop where
  st : w0.heap.size ≤ b ∧ b < w.heap.size
  bel : Below w0.heap.size w0 W
  kept : Kept w W (fun k => k = b ∨ vl0.ownBlock = some k)
  own : Kd.S k255 255 W w0.heap.size ok vl l
  okb : ∀ k, ok k → k ≠ b
  vown : ∀ k, vl.ownBlock = some k → vl0.ownBlock = some k ∨ w.heap.size ≤ k
  map : MapH W b hs
section
variable {ok ok' : Nat → Prop} {w0 w W W2 : World} {b : Nat} {vl0 vl v1 : Value} {l r : List S255} {hs hs' : List Int}
theorem OfS.below (h : OfS ok w0 w W b vl0 vl l hs) (hb : Below W.heap.size W W2) : OfS ok w0 w W2 b vl0 vl l hs :=
  ⟨h.st, h.bel.trans (hb.mono h.bel.size), h.kept.below hb, Kd.S_below h.own hb, h.okb, h.vown, h.map.same (hb.block b h.map.lt)⟩
theorem OfS.old (h : OfS ok w0 w W b vl0 vl l hs) : OfS (fun k => k ≠ b ∧ k < W.heap.size) w0 w W b vl0 vl l hs :=
  ⟨h.st, h.bel, h.kept, Kd.S_mono (Kd.S_bound h.own) (fun k hk => ⟨h.okb k hk.1, hk.2.2.1⟩), fun k hk => hk.1, h.vown, h.map⟩
theorem OfS.grown {row : Option Nat} (h : OfS ok w0 w W b vl0 vl l hs) (hg : W.grownBy W2 row) (hw : ∀ k, row = some k → w.heap.size ≤ k) (hgo : ∀ k, ok k → k < W.heap.size → row ≠ some k) : OfS ok w0 w W2 b vl0 vl l hs := by
  have h1 := h.st
  exact ⟨h.st, h.bel.grown hg h.bel.size (fun k hk => by have := hw k hk; omega), Kept.of_grown hg h.kept (fun k hk => .inr (hw k hk)), Kd.S_step h.own (fun k ho hlt => hg.block k hlt (fun e => hgo k ho hlt e.symm)), h.okb, h.vown, h.map.same (hg.block b h.map.lt (fun e => by have := hw b e.symm; omega))⟩
theorem OfS.start (h : OfS ok w0 w W b vl0 vl l hs) : OfS (fun k => k ≠ b) w0 W W b vl vl l hs := ⟨⟨h.st.1, h.map.lt⟩, h.bel, Kept.refl _ _, Kd.S_mono h.own h.okb, fun _ h => h, fun _ hk => .inl hk, h.map⟩
theorem OfS.put (h : OfS ok w0 w W b vl0 vl l hs) (hm : MapH W2 b hs') (hg : W.grownBy W2 (some b)) : OfS ok w0 w W2 b vl0 vl l hs' :=
  ⟨h.st, h.bel.grown hg h.bel.size (fun k hk => by injection hk with hk; have := h.st.1; omega), Kept.of_grown hg h.kept (fun k hk => .inl (.inl (by injection hk with hk; exact hk.symm))), Kd.S_step h.own (fun k ho hlt => hg.block k hlt (fun e => h.okb k ho (Option.some.inj e))), h.okb, h.vown, hm⟩
theorem OfS.ne (h : OfS ok w0 w W b vl0 vl l hs) : some b ≠ vl.ownBlock := Kd.S_away h.own h.okb
theorem OfS.appended (h : OfS ok w0 w W b vl0 vl l hs) (ho : Kd.S k255 255 W2 w0.heap.size ok' v1 r) (hok : ∀ k, ok' k → k ≠ b) (hb : Below w0.heap.size w0 W2) (hg : W.grownBy W2 vl.ownBlock) (hat : v1.ownBlock = vl.ownBlock ∨ ∃ b', v1.ownBlock = some b' ∧ W.heap.size ≤ b') : OfS ok' w0 w W2 b vl0 v1 r hs := by
  refine ⟨h.st, hb, Kept.of_grown hg h.kept (fun k hk => (h.vown k hk).imp .inr id), ho, hok, fun k hk => ?_, h.map.same (hg.block b h.map.lt h.ne)⟩
  rcases hat with hat | ⟨b', hat, hle⟩
  · exact h.vown k (hat ▸ hk)
  · have h2 := h.kept.1
    rw [hat] at hk
    injection hk with hk
    exact .inr (by omega)
structure OfR (w0 w W : World) (b : Nat) (vl0 : Value) (e : Int) (v : Value) (r : List S255) : Prop where
  bel : Below w0.heap.size w0 W
  kept : Kept w W (fun k => k = b ∨ vl0.ownBlock = some k)
  own : Kd.S k255 255 W w0.heap.size (fun k => k ≠ b) v r
  vown : ∀ k, v.ownBlock = some k → vl0.ownBlock = some k ∨ w.heap.size ≤ k
  map : e = 0 → MapH W b (r.map (·.f0))
theorem OfS.err (h : OfS ok w0 w W b vl0 vl l hs) {e : Int} (he : e ≠ 0) : OfR w0 w W b vl0 e (.slice none 0 0) [] :=
  ⟨h.bel, h.kept, Kd.S_nil _ _ _ _ _, fun k hk => (by simp [Value.ownBlock] at hk), fun h0 => absurd h0 he⟩
theorem OfS.fine (h : OfS ok w0 w W b vl0 vl l (l.map (·.f0))) : OfR w0 w W b vl0 0 vl l := ⟨h.bel, h.kept, Kd.S_mono h.own h.okb, h.vown, fun _ => h.map⟩
theorem OfR.next {e : Int} (h : OfR w0 W W2 b vl e v1 r) (hS : OfS ok w0 w W b vl0 vl l hs) (he : e = 0) : OfS (fun k => k ≠ b) w0 w W2 b vl0 v1 r (r.map (·.f0)) := by
  refine ⟨hS.st, h.bel, hS.kept.then_ h.kept (fun k hk => ?_), h.own, fun k hk => hk, fun k hk => ?_, h.map he⟩
  · rcases hk with hk | hk
    · exact .inl (.inl hk)
    · exact (hS.vown k hk).imp .inr id
  · rcases h.vown k hk with hk | hk
    · exact hS.vown k hk
    · exact .inr (Nat.le_trans hS.kept.1 hk)
theorem OfR.fail {e : Int} (h : OfR w0 W W2 b vl e v1 r) (hS : OfS ok w0 w W b vl0 vl l hs) (he : e ≠ 0) : OfR w0 w W2 b vl0 e (.slice none 0 0) [] := by
  refine ⟨h.bel, hS.kept.then_ h.kept (fun k hk => ?_), Kd.S_nil _ _ _ _ _, fun k hk => (by simp [Value.ownBlock] at hk), fun h0 => absurd h0 he⟩
  rcases hk with hk | hk
  · exact .inl (.inl hk)
  · exact (hS.vown k hk).imp .inr id
end
theorem grown_set (W : World) (g o : Nat) (u : Value) : W.grownBy (W.setCell ⟨g, o, none⟩ u) (some g) :=
  ⟨rfl, rfl, rfl, by simp [World.setCell], fun k hk hne => Below.heap_setCell W ⟨g, o, none⟩ u k (fun e => hne (by rw [e]))⟩
theorem wpList_mapH {ops : Array Oper} {rest : List Oper} {o : Oper} {a : Act} {Q : Exit → Act → World → Prop} (W : World) (hg : o.guard = none) (m x v : Operand) (hop : o.op = Op.mapUpdate 180 m x v)
    (b : Nat) (hs : List Int) (hm : a.eval m = .map (some b)) (h : MapH W b hs) (hn : hs.length < maxLen) (y : Int) (hx : a.eval x = .int .u32 y) (hy : (Lit.int .u32 y).wf = true) (hv : a.eval v = .bool true)
    (hK : ∀ w', MapH w' b (hs ++ [y]) → W.grownBy w' (some b) → wpList Tryz.prog ops Q rest (a.put o.dst undef) w') : wpList Tryz.prog ops Q (o :: rest) a W := by
  refine wpList_plain hg fun K' hK' => ?_
  obtain ⟨w', hrun, r1, r2⟩ := h.put hn y hy
  unfold Oper.wp
  simp [execOp, hop, hm, hx, hv, hrun, Result.andThen]
  exact hK' _ _ (hK w' r1 r2)
mutual
def handle_of.l0 : Nat → List Int → List S255 → List S27 → Int → Int → Option (List S255 × Int)
  | 0, _, _, _, _, _ => none
  | k + 1, pl, l, ks, n, i => if i < n then (if 0 ≤ i then (if i < (ks.length : Int) then (slices_Clone_int_int.f pl).bind fun c => (if c.length + 1 < 17592186044416 then (handle_of.f k (rd_T27 ks i).f0 (rd_T27 ks i).f1 (rd_T27 ks i).f2 (c ++ [i]) l).bind fun t => (if t.2 = 0 then handle_of.l0 k pl t.1 ks n (wrap64 (i + 1)) else some ([], t.2)) else none) else none) else none) else some (l, 0)
def handle_of.f : Nat → ByteArray → List S158 → List S27 → List Int → List S255 → Option (List S255 × Int)
  | 0, _, _, _, _, _ => none
  | k + 1, nm, ps, ks, pl, l => (prop_One.f k nm ps ks ⟨#[112, 104, 97, 110, 100, 108, 101]⟩).bind fun o => (if o.2.2 = 0 then (if o.2.1 = true then (if o.1 < 1 then some ([], 11) else if 4294967294 < o.1 then some ([], 11) else if o.1 ∈ l.map (·.f0) then some ([], 9) else (slices_Clone_int_int.f pl).bind fun c => (if l.length + 1 < 4294967296 then handle_of.l0 k pl (l ++ [⟨o.1, c⟩]) ks (ks.length : Int) 0 else none)) else handle_of.l0 k pl l ks (ks.length : Int) 0) else some ([], o.2.2))
end
def handle_of.T14 : Bool × List (List Nat × List Nat) := (true, [([], []), ([], []), ([1], [1]), ([], []), ([3], [3]), ([2, 4, 2], [2, 4]), ([], []), ([], []), ([0, 5, 6, 7, 5], [0, 5, 6, 7]), ([8], [8]), ([9], [9]), ([9], [9]), ([10, 8, 0, 1, 2, 3, 4, 5, 6, 7, 8, 9, 10], [6, 10]), ([11, 12, 0, 1, 2, 3, 4, 5, 6, 7, 8, 9, 10, 11, 12], [11])])
def handle_of.B14 : List Nat := [0, 0, 2, 0, 8, 30, 0, 0, 255, 511, 1023, 1023, 2047, 8191]
theorem handle_of.tab14 : rtab .any (opsOf Tryz.f77 14) = handle_of.T14 := by kernel_rfl
theorem handle_of.bits14 : waitsOk handle_of.T14.2 handle_of.B14 = true := by kernel_rfl
set_option maxHeartbeats 8000000 in
set_option maxRecDepth 100000 in
theorem handle_of.calls (k : Nat) : ∀ (nm : ByteArray) (A1 : Option Addr) (c1 : Nat) (lp : List S158) (A2 : Option Addr) (c2 : Nat) (lk : List S27) (Ap : Option Addr) (cp : Nat) (pl : List Int) (vl : Value) (l : List S255) (b : Nat) (r : List S255) (e : Int) (w0 w : World)
    (hr1 : Kd.C k158 w0 A1 lp.length lp) (hc1 : lp.length ≤ c1) (hr2 : Kd.C k27 w0 A2 lk.length lk) (hc2 : lk.length ≤ c2) (hpl : ∀ W', Kept w W' (fun k => k = b ∨ vl.ownBlock = some k) → Kd.C (Kd.int .i64) W' Ap pl.length pl) (hcp : pl.length ≤ cp)
    (hS : OfS (fun k => k ≠ b) w0 w w b vl vl l (l.map (·.f0))) (h : handle_of.f k nm lp lk pl l = some (r, e)),
    Calls Tryz.prog 77 #[.agg #[.string nm, .slice A1 lp.length c1, .slice A2 lk.length c2], .slice Ap pl.length cp, vl, .map (some b)] w fun en w' => ∃ v, en = .returned (.tuple #[v, .int .i64 e]) ∧ OfR w0 w w' b vl e v r := by
  induction k using Nat.strongRecOn with
  | _ k ih =>
  intro nm A1 c1 lp A2 c2 lk Ap cp pl vl l b r e w0 w hr1 hc1 hr2 hc2 hpl hcp hS h
  cases k with
  | zero => exact absurd h (by simp [handle_of.f])
  | succ k =>
  simp only [handle_of.f] at h
  obtain ⟨⟨x1, x2, x3⟩, hOne, H⟩ := Option.bind_eq_some_iff.mp h
  clear h
  simp only at H
  have hu27 := Tryz.underlying27
  have qOne := fun W (hb : Below w0.heap.size w0 W) => prop_One.calls k nm A1 c1 lp A2 c2 lk ⟨#[112, 104, 97, 110, 100, 108, 101]⟩ x1 x2 x3 W (Kd.C_below hr1 hb) hc1 (Kd.C_below hr2 hb) hc2 hOne
  have QO := Aside0.mk qOne
  have HR2 := Aside0.mk hr2
  have HC2 := Aside0.mk hc2
  have HPL := Aside0.mk hpl
  have HCP := Aside0.mk hcp
  have HS := Aside0.mk hS
  clear qOne hOne hr1 hr2 hc2 hpl hcp hS hc1
  by_cases d3 : x3 = 0
  · subst d3
    rw [if_pos rfl] at H
    cases x2 with
    | false =>
      rw [if_neg (by decide)] at H
      have H' := Aside0.mk H
      clear H
      go_enter Tryz.func77, Tryz.ntmps77
      go_wp2_with (first | ((with_reducible refine gate_dst (N := 4) rfl ?_); refine box_event ?hg (N := 4) ?hd (cs := #[.string nm, .slice A1 lp.length c1, .slice A2 lk.length c2]) (t := 27) ?hr ?_; (case hd => rfl); (case hg => rfl); (case hr => first | (go_simp; done) | (go_simp; rfl)); intro g0 hg w3 hbox hb; have n0_ := Aside0.mk (HS.out.below hb); have BK := Aside0.mk hbox; have GE := Aside0.mk (show w.heap.size ≤ g0 from by rw [hg]; exact Nat.le_refl _); clear HS; have HS := n0_; clear n0_ hb hbox hg; have hc0 := (blk_cell BK.out 0).trans rfl; have hc1 := (blk_cell BK.out 1).trans rfl; have hc2 := (blk_cell BK.out 2).trans rfl; have hz0 := blk_frozen BK.out 0; have hz1 := blk_frozen BK.out 1; have hz2 := blk_frozen BK.out 2) | (go_at_call 147; refine (QO.out _ HS.out.bel).mono ?_; rintro en w4 ⟨rfl, hb⟩; have n0_ := Aside0.mk (HS.out.below hb); have n1_ := Aside0.mk (blk_below BK.out hb); clear HS BK hc0 hc1 hc2 hz0 hz1 hz2; have HS := n0_; have BK := n1_; clear n0_ n1_ hb; have hc0 := (blk_cell BK.out 0).trans rfl; have hc1 := (blk_cell BK.out 1).trans rfl; have hc2 := (blk_cell BK.out 2).trans rfl; have hz0 := blk_frozen BK.out 0; have hz1 := blk_frozen BK.out 1; have hz2 := blk_frozen BK.out 2))
      go_loopg [2, 56] k (fun kq v2 v56 w' => ∃ (l' : List S255) (i : Int), v56 = .int .i64 i ∧ Aside0 (handle_of.l0 kq pl l' lk (lk.length : Int) i = some (r, e)) ∧ Aside0 (kq ≤ k) ∧ Aside0 (OfS (fun k_ => k_ ≠ b) w0 w w' b vl v2 l' (l'.map (·.f0))) ∧ Aside0 (w'.heap[g0]? = some (.cells #[.string nm, .slice A1 lp.length c1, .slice A2 lk.length c2] 27 (0, 0))))
      case atStart => exact ⟨_, 0, (by first | rfl | (simp; done) | (simp [*]; done)), H', ⟨Nat.le_refl _⟩, HS, BK⟩
      case round =>
        clear H' HS BK
        (try clear hc0); (try clear hc1); (try clear hc2); (try clear hz0); (try clear hz1); (try clear hz2)
        obtain ⟨l', i, rfl, HA, HK1, HS, BK⟩ := hrel
        cases gk with
        | zero => exact absurd HA.out (by simp [handle_of.l0])
        | succ k1 =>
          have H := HA.out
          clear HA
          simp only [handle_of.l0] at H
          by_cases c7 : i < (lk.length : Int)
          · rw [if_pos c7] at H
            have c7b0 : decide (i < (lk.length : Int)) = true := decide_eq_true c7
            by_cases c8 : 0 ≤ i
            · rw [if_pos c8, if_pos c7] at H
              have c8b0 : decide (0 ≤ i) = true := decide_eq_true c8
              obtain ⟨c, hcl, H⟩ := Option.bind_eq_some_iff.mp H
              by_cases c11 : c.length + 1 < 17592186044416
              · rw [if_pos c11] at H
                obtain ⟨⟨r1, e1⟩, hrec, H⟩ := Option.bind_eq_some_iff.mp H
                have HCL := Aside0.mk hcl
                have HREC := Aside0.mk hrec
                have LM := Aside0.mk c11
                have HN : Aside0 ((if e1 = 0 then handle_of.l0 k1 pl r1 lk (lk.length : Int) (wrap64 (i + 1)) else some ([], e1)) = some (r, e)) := ⟨H⟩
                clear hcl hrec c11 H
                obtain ⟨adx, Ax1, cx1, Ax2, cx2, ex, hx0, hx1, hx2, hl1, hi1, hl2, hi2⟩ := at_T27 HR2.out i c8 c7
                cases ex
                replace hx0 := (HS.out.bel.cell (World.block_lt_of_cell? w0 _ hx0)).trans hx0
                replace hx1 := (HS.out.bel.cell (World.block_lt_of_cell? w0 _ hx1)).trans hx1
                replace hx2 := (HS.out.bel.cell (World.block_lt_of_cell? w0 _ hx2)).trans hx2
                have HX1 := Aside0.mk hi1
                have HY1 := Aside0.mk hl1
                have HX2 := Aside0.mk hi2
                have HY2 := Aside0.mk hl2
                clear hi1 hl1 hi2 hl2
                obtain ⟨xn, hxn⟩ : ∃ x_, x_ = rd_T27 lk i := ⟨_, rfl⟩
                rw [← hxn] at HREC HX1 HX2 HY1 HY2 hx0 hx1 hx2
                clear hxn
                have p294 := eq_true c8
                have q294 := eq_true c7
                clear c7 c8
                go_wp2_with ((with_reducible refine gate_dst (N := 14) rfl ?_); refine box_event ?hg (N := 14) ?hd (cs := #[.string (⟨#[]⟩ : ByteArray), .slice none 0 0, .slice none 0 0]) (t := 27) ?hr ?_; (case hd => rfl); (case hg => rfl); (case hr => first | (go_simp; done) | (go_simp; rfl)); intro g1 hg w14 hbox hb; have n0_ := Aside0.mk (HS.out.old.below hb); have n1_ := Aside0.mk (blk_below BK.out hb); have GB := Aside0.mk (show w.heap.size ≤ g1 ∧ g0 ≠ g1 ∧ wr.heap.size ≤ g1 from ⟨by rw [hg]; exact HS.out.kept.1, by rw [hg]; exact Nat.ne_of_lt (blk_lt BK.out), Nat.le_of_eq hg.symm⟩); have BX := Aside0.mk hbox; have LK := Aside0.mk (HS.out.kept.1); have LO := Aside0.mk (Kd.S_lt HS.out.own); clear HS BK; have HS := n0_; have BK := n1_; clear n0_ n1_ hb hbox hg; have hy0 := (blk_cell BX.out 0).trans rfl; have hy1 := (blk_cell BX.out 1).trans rfl; have hy2 := (blk_cell BX.out 2).trans rfl; have hyz0 := blk_frozen BX.out 0; have hyz1 := blk_frozen BX.out 1; have hyz2 := blk_frozen BX.out 2)
                clear hx0 hx1 hx2 hy0 hy1 hy2 hyz0 hyz1 hyz2 c7b0 c8b0 p294 q294
                have n0_ : Aside0 (OfS (fun k_ => k_ ≠ b ∧ k_ < wr.heap.size) w0 w (((w14.setCell ⟨g1, 0, none⟩ (.string xn.f0)).setCell ⟨g1, 1, none⟩ (.slice Ax1 xn.f1.length cx1)).setCell ⟨g1, 2, none⟩ (.slice Ax2 xn.f2.length cx2)) b vl _ l' (l'.map (·.f0))) := ⟨((HS.out.grown (grown_set _ g1 0 _) (fun k_ hk_ => by injection hk_ with hk_; have := GB.out.1; omega) (fun k_ ho_ _ e_ => by injection e_ with e_; have := GB.out.2.2; have := ho_.2; omega)).grown (grown_set _ g1 1 _) (fun k_ hk_ => by injection hk_ with hk_; have := GB.out.1; omega) (fun k_ ho_ _ e_ => by injection e_ with e_; have := GB.out.2.2; have := ho_.2; omega)).grown (grown_set _ g1 2 _) (fun k_ hk_ => by injection hk_ with hk_; have := GB.out.1; omega) (fun k_ ho_ _ e_ => by injection e_ with e_; have := GB.out.2.2; have := ho_.2; omega)⟩
                have n1_ : Aside0 ((((w14.setCell ⟨g1, 0, none⟩ (.string xn.f0)).setCell ⟨g1, 1, none⟩ (.slice Ax1 xn.f1.length cx1)).setCell ⟨g1, 2, none⟩ (.slice Ax2 xn.f2.length cx2)).heap[g0]? = some (.cells #[.string nm, .slice A1 lp.length c1, .slice (some adx) lk.length c2] 27 (0, 0))) := ⟨blk_far (blk_far (blk_far BK.out GB.out.2.1 _) GB.out.2.1 _) GB.out.2.1 _⟩
                have n2_ : Aside0 ((((w14.setCell ⟨g1, 0, none⟩ (.string xn.f0)).setCell ⟨g1, 1, none⟩ (.slice Ax1 xn.f1.length cx1)).setCell ⟨g1, 2, none⟩ (.slice Ax2 xn.f2.length cx2)).heap[g1]? = some (.cells #[.string xn.f0, .slice Ax1 xn.f1.length cx1, .slice Ax2 xn.f2.length cx2] 27 (0, 0))) := ⟨blk_put (cs := #[.string xn.f0, .slice Ax1 xn.f1.length cx1, .slice none 0 0]) (blk_put (cs := #[.string xn.f0, .slice none 0 0, .slice none 0 0]) (blk_put (cs := #[.string (⟨#[]⟩ : ByteArray), .slice none 0 0, .slice none 0 0]) BX.out 0 _ rfl) 1 _ rfl) 2 _ rfl⟩
                clear HS BK BX
                generalize (((w14.setCell ⟨g1, 0, none⟩ (.string xn.f0)).setCell ⟨g1, 1, none⟩ (.slice Ax1 xn.f1.length cx1)).setCell ⟨g1, 2, none⟩ (.slice Ax2 xn.f2.length cx2)) = w18 at n0_ n1_ n2_ ⊢
                have HS := Aside0.mk (n0_.out.below (below_drew1 (Below.refl _ _)))
                have BK := Aside0.mk (blk_drew n1_.out)
                have BX := Aside0.mk (blk_drew n2_.out)
                clear n0_ n1_ n2_
                refine start_ (n := 14) (S := fun w' => w'.cell? ⟨g1, 0, none⟩ = some (.string xn.f0) ∧ w'.cell? ⟨g1, 1, none⟩ = some (.slice Ax1 xn.f1.length cx1) ∧ w'.cell? ⟨g1, 2, none⟩ = some (.slice Ax2 xn.f2.length cx2)) (ds := []) #[false, false, false, false, false, false, false, false, false, false, false, false, false, false] (by kernel_rfl) rfl rfl ⟨(blk_cell BX.out 0).trans rfl, (blk_cell BX.out 1).trans rfl, (blk_cell BX.out 2).trans rfl⟩ (fun hHeld => ?_); refine with_tabW handle_of.tab14 handle_of.bits14 (fun HT_ HW_ => ?_)
                generalize w18.drew = w19 at HS BK BX hHeld ⊢
                refine pure_ (i := 1) (N := some 63) (v := ?_) (a' := ?_) #[false, true, false, false, false, false, false, false, false, false, false, false, false, false] rfl rfl (any_of HT_.out (by kernel_rfl)) (fun _ _ _ h => h) (Or.inl ⟨by rfl, ?_⟩) ?_ ?_
                rotate_left
                · intro w'
                  go_simp
                  with_reducible rfl
                rotate_left
                · simp only [Act.put, List.setIfInBounds_toArray, List.set_cons_zero, List.set_cons_succ, i64_w, i32_w]
                  rfl
                refine pure_ (i := 3) (N := some 65) (v := ?_) (a' := ?_) #[false, true, false, true, false, false, false, false, false, false, false, false, false, false] rfl rfl (any_of HT_.out (by kernel_rfl)) (fun _ _ _ h => h) (Or.inl ⟨by rfl, ?_⟩) ?_ ?_
                rotate_left
                · intro w'
                  go_simp
                  with_reducible rfl
                rotate_left
                · simp only [Act.put, List.setIfInBounds_toArray, List.set_cons_zero, List.set_cons_succ, i64_w, i32_w]
                  rfl
                refine pure_ (i := 6) (N := some 68) (v := ?_) (a' := ?_) #[false, true, false, true, false, false, true, false, false, false, false, false, false, false] rfl rfl (any_of HT_.out (by kernel_rfl)) (fun _ _ _ h => h) (Or.inl ⟨by rfl, ?_⟩) ?_ ?_
                rotate_left
                · intro w'
                  go_simp
                  with_reducible rfl
                rotate_left
                · simp only [Act.put, List.setIfInBounds_toArray, List.set_cons_zero, List.set_cons_succ, i64_w, i32_w]
                  rfl
                refine pure_ (i := 7) (N := some 69) (v := ?_) (a' := ?_) #[false, true, false, true, false, false, true, true, false, false, false, false, false, false] rfl rfl (any_of HT_.out (by kernel_rfl)) (fun _ _ _ h => h) (Or.inl ⟨by rfl, ?_⟩) ?_ ?_
                rotate_left
                · intro w'
                  go_simp
                  with_reducible rfl
                rotate_left
                · simp only [Act.put, List.setIfInBounds_toArray, List.set_cons_zero, List.set_cons_succ, i64_w, i32_w]
                  rfl
                refine take_ (i := 0) (N := some 62) (v := ?_) (a' := ?_) #[true, true, false, true, false, false, true, true, false, false, false, false, false, false] rfl rfl (take_ofW HT_.out HW_.out (by kernel_rfl)) (fun _ _ _ h => h) (Or.inl ⟨by rfl, ?_⟩) hHeld ?_ ?_
                rotate_left
                · rintro w' ⟨s0, s1, s2⟩
                  go_simp
                  with_reducible rfl
                rotate_left
                · simp only [Act.put, List.setIfInBounds_toArray, List.set_cons_zero, List.set_cons_succ, i64_w, i32_w]
                  rfl
                refine join_ (σ := Value × Value) 7 #[true, true, true, true, true, false, true, true, false, false, false, false, false, false] (fun s_ => [(64, s_.1), (66, s_.2)]) (fun s_ w' => (w'.cell? ⟨g1, 0, none⟩ = some (.string xn.f0) ∧ w'.cell? ⟨g1, 1, none⟩ = some (.slice Ax1 xn.f1.length cx1) ∧ w'.cell? ⟨g1, 2, none⟩ = some (.slice Ax2 xn.f2.length cx2)) ∧ OfS (fun k_ => k_ ≠ b ∧ k_ < wr.heap.size) w0 w w' b vl u2 l' (l'.map (·.f0)) ∧ w'.heap[g0]? = some (.cells #[.string nm, .slice A1 lp.length c1, .slice (some adx) lk.length c2] 27 (0, 0)) ∧ w'.heap[g1]? = some (.cells #[.string xn.f0, .slice Ax1 xn.f1.length cx1, .slice Ax2 xn.f2.length cx2] 27 (0, 0)) ∧ Kd.R (Kd.int .i64) 3 w' w0.heap.size (fun k_ => wr.heap.size ≤ k_) s_.1 c ∧ Kd.R (Kd.int .i64) 3 w' w0.heap.size (fun k_ => wr.heap.size ≤ k_) s_.2 [i]) ?_ ?_
                rotate_left
                · intro hCont
                  refine two_ (i := 2) (j := 4) (Ni := some 64) (Nj := some 66) #[true, true, true, true, false, false, true, true, false, false, false, false, false, false] #[true, true, false, true, true, false, true, true, false, false, false, false, false, false] rfl rfl rfl rfl (two_of HT_.out (by kernel_rfl)) (by decide) (by decide) (fun K hK => ?_) (fun K hK => ?_)
                  · skip
                    refine goes_ Tryz.func148 (by kernel_rfl) rfl #[.slice Ap pl.length cp] (by rfl) rfl rfl (by (try simp only [List.map_toArray, List.map_cons, List.map_nil]); first | done | rfl) ?_
                    with_reducible refine (slices_Clone_int_int.calls Ap cp pl c _ (HPL.out _ HS.out.kept) HCP.out HCL.out).mono ?_
                    rintro en w20 ⟨v297, rfl, ho, hb⟩
                    refine ⟨_, rfl, ?_⟩
                    have n0_ := Aside0.mk (HS.out.below hb)
                    have n1_ := Aside0.mk (blk_below BK.out hb)
                    have n2_ := Aside0.mk (blk_below BX.out hb)
                    have HO297 := Aside0.mk (show Kd.R (Kd.int .i64) 3 w20 w0.heap.size (fun k_ => wr.heap.size ≤ k_) v297 c from Kd.R_lower (Kd.R_mono (Kd.R_bound ho) (fun k_ hk_ => Nat.le_trans (Nat.le_trans GB.out.2.2 (Nat.le_of_lt (blk_lt BX.out))) hk_.2.1)) HS.out.bel.size)
                    clear HS BK BX
                    have HS := n0_
                    have BK := n1_
                    have BX := n2_
                    clear n0_ n1_ n2_ hb ho
                    refine hK.out _ _ ⟨(blk_cell BX.out 0).trans rfl, (blk_cell BX.out 1).trans rfl, (blk_cell BX.out 2).trans rfl⟩ (fun hHeld => ?_)
                    clear hK K
                    refine norm_ (a' := ?_) ?_ ?_
                    rotate_left
                    · show Act.put _ (some 64) _ = _
                      simp only [Act.put, List.setIfInBounds_toArray, List.set_cons_zero, List.set_cons_succ, i64_w, i32_w]
                      rfl
                    refine one_ (i := 4) (N := some 66) #[true, true, true, true, true, false, true, true, false, false, false, false, false, false] rfl rfl (one_of HT_.out (by kernel_rfl)) (by decide) (fun K hK => ?_)
                    refine Kd.R_lit_step (Kd.int .i64) _ 3 ?hg (N := 66) ?hd (xs := ([i] : List Int)) (inner := [.int .i64 i]) (ok := fun _ => True) (okp := fun _ => True) ?hr ?hp (fun _ hk => hk) trivial (Below.refl _ _) (Nat.le_refl _) (by simp) ?_; (case hd => rfl); (case hg => rfl); (case hr => first | (go_simp; done) | (go_simp; rfl)); (case hp => exact (Reps.one (show Kd.M (Kd.int .i64) _ _ _ i [.int .i64 i] from rfl) (Reps.none _ _)))
                    intro v300 w21 ho hb hg_ hnew_
                    clear hg_ hnew_
                    have n0_ := Aside0.mk (HS.out.below hb)
                    have n1_ := Aside0.mk (blk_below BK.out hb)
                    have n2_ := Aside0.mk (blk_below BX.out hb)
                    have HO300 := Aside0.mk (show Kd.R (Kd.int .i64) 3 w21 w0.heap.size (fun k_ => wr.heap.size ≤ k_) v300 [i] from Kd.R_lower (Kd.R_mono (Kd.R_bound ho) (fun k_ hk_ => Nat.le_trans (Nat.le_trans GB.out.2.2 (Nat.le_of_lt (blk_lt BX.out))) hk_.2.1)) HS.out.bel.size)
                    have n3_ := Aside0.mk (Kd.R_below HO297.out hb)
                    clear HS BK BX HO297
                    have HS := n0_
                    have BK := n1_
                    have BX := n2_
                    have HO297 := n3_
                    clear n0_ n1_ n2_ n3_ hb ho
                    refine hK.out _ _ ⟨(blk_cell BX.out 0).trans rfl, (blk_cell BX.out 1).trans rfl, (blk_cell BX.out 2).trans rfl⟩ (fun hHeld => ?_)
                    clear hK K
                    refine norm_ (a' := ?_) ?_ ?_
                    rotate_left
                    · show Act.put _ (some 66) _ = _
                      simp only [Act.put, List.setIfInBounds_toArray, List.set_cons_zero, List.set_cons_succ, i64_w, i32_w]
                      rfl
                    exact norm_ (by simp only [putAll, Act.put, List.setIfInBounds_toArray, List.set_cons_zero, List.set_cons_succ]) (hCont (v297, v300) _ ⟨hHeld, HS.out, BK.out, BX.out, HO297.out, HO300.out⟩)
                  · skip
                    refine Kd.R_lit_step (Kd.int .i64) _ 3 ?hg (N := 66) ?hd (xs := ([i] : List Int)) (inner := [.int .i64 i]) (ok := fun _ => True) (okp := fun _ => True) ?hr ?hp (fun _ hk => hk) trivial (Below.refl _ _) (Nat.le_refl _) (by simp) ?_; (case hd => rfl); (case hg => rfl); (case hr => first | (go_simp; done) | (go_simp; rfl)); (case hp => exact (Reps.one (show Kd.M (Kd.int .i64) _ _ _ i [.int .i64 i] from rfl) (Reps.none _ _)))
                    intro v300 w21 ho hb hg_ hnew_
                    clear hg_ hnew_
                    have n0_ := Aside0.mk (HS.out.below hb)
                    have n1_ := Aside0.mk (blk_below BK.out hb)
                    have n2_ := Aside0.mk (blk_below BX.out hb)
                    have HO300 := Aside0.mk (show Kd.R (Kd.int .i64) 3 w21 w0.heap.size (fun k_ => wr.heap.size ≤ k_) v300 [i] from Kd.R_lower (Kd.R_mono (Kd.R_bound ho) (fun k_ hk_ => Nat.le_trans (Nat.le_trans GB.out.2.2 (Nat.le_of_lt (blk_lt BX.out))) hk_.2.1)) HS.out.bel.size)
                    clear HS BK BX
                    have HS := n0_
                    have BK := n1_
                    have BX := n2_
                    clear n0_ n1_ n2_ hb ho
                    refine hK.out _ _ ⟨(blk_cell BX.out 0).trans rfl, (blk_cell BX.out 1).trans rfl, (blk_cell BX.out 2).trans rfl⟩ (fun hHeld => ?_)
                    clear hK K
                    refine norm_ (a' := ?_) ?_ ?_
                    rotate_left
                    · show Act.put _ (some 66) _ = _
                      simp only [Act.put, List.setIfInBounds_toArray, List.set_cons_zero, List.set_cons_succ, i64_w, i32_w]
                      rfl
                    refine one_ (i := 2) (N := some 64) #[true, true, true, true, true, false, true, true, false, false, false, false, false, false] rfl rfl (one_of HT_.out (by kernel_rfl)) (by decide) (fun K hK => ?_)
                    refine goes_ Tryz.func148 (by kernel_rfl) rfl #[.slice Ap pl.length cp] (by rfl) rfl rfl (by (try simp only [List.map_toArray, List.map_cons, List.map_nil]); first | done | rfl) ?_
                    with_reducible refine (slices_Clone_int_int.calls Ap cp pl c _ (HPL.out _ HS.out.kept) HCP.out HCL.out).mono ?_
                    rintro en w20 ⟨v297, rfl, ho, hb⟩
                    refine ⟨_, rfl, ?_⟩
                    have n0_ := Aside0.mk (HS.out.below hb)
                    have n1_ := Aside0.mk (blk_below BK.out hb)
                    have n2_ := Aside0.mk (blk_below BX.out hb)
                    have HO297 := Aside0.mk (show Kd.R (Kd.int .i64) 3 w20 w0.heap.size (fun k_ => wr.heap.size ≤ k_) v297 c from Kd.R_lower (Kd.R_mono (Kd.R_bound ho) (fun k_ hk_ => Nat.le_trans (Nat.le_trans GB.out.2.2 (Nat.le_of_lt (blk_lt BX.out))) hk_.2.1)) HS.out.bel.size)
                    have n3_ := Aside0.mk (Kd.R_below HO300.out hb)
                    clear HS BK BX HO300
                    have HS := n0_
                    have BK := n1_
                    have BX := n2_
                    have HO300 := n3_
                    clear n0_ n1_ n2_ n3_ hb ho
                    refine hK.out _ _ ⟨(blk_cell BX.out 0).trans rfl, (blk_cell BX.out 1).trans rfl, (blk_cell BX.out 2).trans rfl⟩ (fun hHeld => ?_)
                    clear hK K
                    refine norm_ (a' := ?_) ?_ ?_
                    rotate_left
                    · show Act.put _ (some 64) _ = _
                      simp only [Act.put, List.setIfInBounds_toArray, List.set_cons_zero, List.set_cons_succ, i64_w, i32_w]
                      rfl
                    exact norm_ (by simp only [putAll, Act.put, List.setIfInBounds_toArray, List.set_cons_zero, List.set_cons_succ]) (hCont (v297, v300) _ ⟨hHeld, HS.out, BK.out, BX.out, HO297.out, HO300.out⟩)
                clear HS BK BX hHeld
                rintro ⟨v297, v300⟩ w23 ⟨hHeld, h0_, h1_, h2_, h3_, h4_⟩
                have HS := Aside0.mk h0_
                have BK := Aside0.mk h1_
                have BX := Aside0.mk h2_
                have HO297 := Aside0.mk h3_
                have HO300 := Aside0.mk h4_
                clear h0_ h1_ h2_ h3_ h4_
                simp only at HO297 HO300
                obtain ⟨Ao25, co25, eo25⟩ := Kd.R_slice HO300.out
                subst eo25
                refine norm_ (a' := ?_) ?_ ?_
                rotate_left
                · simp only [putAll, Act.put, List.setIfInBounds_toArray, List.set_cons_zero, List.set_cons_succ]
                  rfl
                refine one_ (i := 5) (N := some 67) #[true, true, true, true, true, true, true, true, false, false, false, false, false, false] rfl rfl (one_of HT_.out (by kernel_rfl)) (by decide) (fun K hK => ?_)
                refine Kd.R_append_rows_step (Kd.int .i64) (w0 := w0) w0.heap.size (by rfl) (.tmp 64) (.tmp 66) 81 3 (.int .i64 0) 8 rfl Tryz.underlying81 info3 rfl (by decide) (by omega) v297 c [i] _ _ _ (fun k_ => wr.heap.size ≤ k_) (fun _ => False) rfl rfl HO297.out (Kd.R_reads' HO300.out).2.2 (fun _ _ h => h) (fun _ h => h.elim) (fun k_ hk_ => Nat.le_trans (Nat.le_trans GB.out.2.2 (Nat.le_of_lt (blk_lt BX.out))) hk_) HS.out.bel HS.out.bel.size ?aL ?_
                (case aL => have := LM.out; simp only [List.length_cons, List.length_nil]; omega)
                intro v303 w24 ho hb hg hat
                have n0_ := Aside0.mk (HS.out.grown hg (fun k_ hk_ => Nat.le_trans LK.out (HO297.out.1 k_ hk_)) (fun k_ ho_ _ e_ => Nat.not_le_of_lt ho_.2 (HO297.out.1 k_ e_)))
                have n1_ := Aside0.mk (blk_grown BK.out hg (Kd.R_ne HO297.out BK.out (by decide)))
                have n2_ := Aside0.mk (blk_grown BX.out hg (Kd.R_ne HO297.out BX.out (by decide)))
                have HO303 := Aside0.mk ho
                clear HS BK BX HO297 HO300
                have HS := n0_
                have BK := n1_
                have BX := n2_
                clear n0_ n1_ n2_ ho hb hg hat
                obtain ⟨Ao26, co26, eo26⟩ := Kd.R_slice HO303.out
                subst eo26
                refine hK.out _ _ ⟨(blk_cell BX.out 0).trans rfl, (blk_cell BX.out 1).trans rfl, (blk_cell BX.out 2).trans rfl⟩ (fun hHeld => ?_)
                clear hK K
                refine norm_ (a' := ?_) ?_ ?_
                rotate_left
                · show Act.put _ (some 67) _ = _
                  simp only [Act.put, List.setIfInBounds_toArray, List.set_cons_zero, List.set_cons_succ, i64_w, i32_w]
                  rfl
                refine one_ (i := 8) (N := some 70) #[true, true, true, true, true, true, true, true, true, false, false, false, false, false] rfl rfl (one_of HT_.out (by kernel_rfl)) (by decide) (fun K hK => ?_)
                refine goes_ Tryz.func77 (by kernel_rfl) rfl #[.agg #[.string xn.f0, .slice Ax1 xn.f1.length cx1, .slice Ax2 xn.f2.length cx2], .slice Ao26 (c ++ [i]).length co26, u2, .map (some b)] (by rfl) rfl rfl (by (try simp only [List.map_toArray, List.map_cons, List.map_nil]); first | done | rfl) ?_
                with_reducible refine (ih k1 (by have := HK1.out; omega) xn.f0 Ax1 cx1 xn.f1 Ax2 cx2 xn.f2 Ao26 co26 (c ++ [i]) u2 l' b r1 e1 w0 _ HX1.out HY1.out HX2.out HY2.out ?pl ?cp HS.out.start HREC.out).mono ?_
                (case pl => exact Kd.C_kept_own HO303.out (fun k_ hk_ h_ => h_.elim (fun e_ => by have := HS.out.st.2; have := LK.out; omega) (fun e_ => by have := LO.out k_ e_; omega)))
                (case cp => exact (Kd.R_reads' HO303.out).2.1)
                rintro en w27 ⟨v306, rfl, hR⟩
                refine ⟨_, rfl, ?_⟩
                have HR := Aside0.mk hR
                have HSC := HS
                have n1_ := Aside0.mk (blk_kept BK.out hR.kept (fun h_ => h_.elim (fun e_ => by have := HS.out.st.2; have := GE.out; omega) (fun e_ => Kd.S_ne HS.out.own BK.out (by decide) e_.symm)))
                have n2_ := Aside0.mk (blk_kept BX.out hR.kept (fun h_ => h_.elim (fun e_ => by have := HS.out.st.2; have := GB.out.1; omega) (fun e_ => by have := LO.out g1 e_; have := GB.out.2.2; omega)))
                clear HS BK BX HO303 hR
                have BK := n1_
                have BX := n2_
                clear n1_ n2_
                refine hK.out _ _ ⟨(blk_cell BX.out 0).trans rfl, (blk_cell BX.out 1).trans rfl, (blk_cell BX.out 2).trans rfl⟩ (fun hHeld => ?_)
                clear hK K
                refine norm_ (a' := ?_) ?_ ?_
                rotate_left
                · show Act.put _ (some 70) _ = _
                  simp only [Act.put, List.setIfInBounds_toArray, List.set_cons_zero, List.set_cons_succ, i64_w, i32_w]
                  rfl
                refine pure_ (i := 9) (N := some 61) (v := ?_) (a' := ?_) #[true, true, true, true, true, true, true, true, true, true, false, false, false, false] rfl rfl (any_of HT_.out (by kernel_rfl)) (fun _ _ _ h => h) (Or.inl ⟨by rfl, ?_⟩) ?_ ?_
                rotate_left
                · intro w'
                  go_simp
                  with_reducible rfl
                rotate_left
                · simp only [Act.put, List.setIfInBounds_toArray, List.set_cons_zero, List.set_cons_succ, i64_w, i32_w]
                  rfl
                refine pure_ (i := 10) (N := some 71) (v := ?_) (a' := ?_) #[true, true, true, true, true, true, true, true, true, true, true, false, false, false] rfl rfl (any_of HT_.out (by kernel_rfl)) (fun _ _ _ h => h) (Or.inl ⟨by rfl, ?_⟩) ?_ ?_
                rotate_left
                · intro w'
                  go_simp
                  with_reducible rfl
                rotate_left
                · simp only [Act.put, List.setIfInBounds_toArray, List.set_cons_zero, List.set_cons_succ, i64_w, i32_w]
                  rfl
                refine pure_ (i := 11) (N := some 72) (v := ?_) (a' := ?_) #[true, true, true, true, true, true, true, true, true, true, true, true, false, false] rfl rfl (any_of HT_.out (by kernel_rfl)) (fun _ _ _ h => h) (Or.inl ⟨by rfl, ?_⟩) ?_ ?_
                rotate_left
                · intro w'
                  go_simp
                  with_reducible rfl
                rotate_left
                · simp only [Act.put, List.setIfInBounds_toArray, List.set_cons_zero, List.set_cons_succ, i64_w, i32_w]
                  rfl
                refine pure_ (i := 12) (N := some 2) (v := ?_) (a' := ?_) #[true, true, true, true, true, true, true, true, true, true, true, true, true, false] rfl rfl (any_of HT_.out (by kernel_rfl)) (fun _ _ _ h => h) (Or.inl ⟨by rfl, ?_⟩) ?_ ?_
                rotate_left
                · intro w'
                  go_simp
                  with_reducible rfl
                rotate_left
                · simp only [Act.put, List.setIfInBounds_toArray, List.set_cons_zero, List.set_cons_succ, i64_w, i32_w]
                  rfl
                refine pure_ (i := 13) (N := some 12) (v := ?_) (a' := ?_) #[true, true, true, true, true, true, true, true, true, true, true, true, true, true] rfl rfl (any_of HT_.out (by kernel_rfl)) (fun _ _ _ h => h) (Or.inl ⟨by rfl, ?_⟩) ?_ ?_
                rotate_left
                · intro w'
                  go_simp
                  with_reducible rfl
                rotate_left
                · simp only [Act.put, List.setIfInBounds_toArray, List.set_cons_zero, List.set_cons_succ, i64_w, i32_w]
                  rfl
                refine done_ (done_of HT_.out (by kernel_rfl)) ?_
                clear hHeld HT_ HW_
                by_cases z : e1 = 0
                · subst z
                  have H' := Aside0.mk (show handle_of.l0 k1 pl r1 lk (lk.length : Int) (wrap64 (i + 1)) = some (r, e) from HN.out)
                  clear HN
                  try go_wp2
                  go_roundg k1
                  case measure => have := HK1.out; omega
                  case rel => exact ⟨r1, (wrap64 (i + 1)), (by first | rfl | (simp; done) | (simp [*]; done)), H', ⟨by have := HK1.out; omega⟩, ⟨HR.out.next HSC.out rfl⟩, BK⟩
                · have HN2 := HN.out
                  rw [if_neg z] at HN2
                  simp only [Option.some.injEq, Prod.mk.injEq] at HN2
                  obtain ⟨rfl, rfl⟩ := HN2
                  have zb : (e1 == 0) = false := beq_eq_false_iff_ne.mpr z
                  have zc : (e1 != 0) = true := bne_iff_ne.mpr z
                  have Z := Aside0.mk z
                  clear HN z
                  go_wp2
                  go_ret2
                  exact ⟨_, rfl, HR.out.fail HSC.out Z.out⟩
              · rw [if_neg c11] at H
                cases H
            · rw [if_neg c8] at H
              cases H
          · rw [if_neg c7] at H
            have c7b0 : decide (i < (lk.length : Int)) = false := decide_eq_false c7
            clear c7
            simp only [Option.some.injEq, Prod.mk.injEq] at H
            obtain ⟨rfl, rfl⟩ := H
            go_wp2
            go_ret2
            exact ⟨_, rfl, HS.out.fine⟩
    | true =>
      rw [if_pos rfl] at H
      by_cases d1 : x1 < 1
      · rw [if_pos d1] at H
        have d1b : decide (x1 < 1) = true := decide_eq_true d1
        simp only [Option.some.injEq, Prod.mk.injEq] at H
        obtain ⟨rfl, rfl⟩ := H
        clear d1
        go_enter Tryz.func77, Tryz.ntmps77
        go_wp2_with (first | ((with_reducible refine gate_dst (N := 4) rfl ?_); refine box_event ?hg (N := 4) ?hd (cs := #[.string nm, .slice A1 lp.length c1, .slice A2 lk.length c2]) (t := 27) ?hr ?_; (case hd => rfl); (case hg => rfl); (case hr => first | (go_simp; done) | (go_simp; rfl)); intro g0 hg w3 hbox hb; have n0_ := Aside0.mk (HS.out.below hb); have BK := Aside0.mk hbox; have GE := Aside0.mk (show w.heap.size ≤ g0 from by rw [hg]; exact Nat.le_refl _); clear HS; have HS := n0_; clear n0_ hb hbox hg; have hc0 := (blk_cell BK.out 0).trans rfl; have hc1 := (blk_cell BK.out 1).trans rfl; have hc2 := (blk_cell BK.out 2).trans rfl; have hz0 := blk_frozen BK.out 0; have hz1 := blk_frozen BK.out 1; have hz2 := blk_frozen BK.out 2) | (go_at_call 147; refine (QO.out _ HS.out.bel).mono ?_; rintro en w4 ⟨rfl, hb⟩; have n0_ := Aside0.mk (HS.out.below hb); have n1_ := Aside0.mk (blk_below BK.out hb); clear HS BK hc0 hc1 hc2 hz0 hz1 hz2; have HS := n0_; have BK := n1_; clear n0_ n1_ hb; have hc0 := (blk_cell BK.out 0).trans rfl; have hc1 := (blk_cell BK.out 1).trans rfl; have hc2 := (blk_cell BK.out 2).trans rfl; have hz0 := blk_frozen BK.out 0; have hz1 := blk_frozen BK.out 1; have hz2 := blk_frozen BK.out 2))
        go_ret2
        exact ⟨_, rfl, HS.out.err (by decide)⟩
      rw [if_neg d1] at H
      have d1b : decide (x1 < 1) = false := decide_eq_false d1
      by_cases d2 : 4294967294 < x1
      · rw [if_pos d2] at H
        have d2b : decide (4294967294 < x1) = true := decide_eq_true d2
        simp only [Option.some.injEq, Prod.mk.injEq] at H
        obtain ⟨rfl, rfl⟩ := H
        clear d1 d2
        go_enter Tryz.func77, Tryz.ntmps77
        go_wp2_with (first | ((with_reducible refine gate_dst (N := 4) rfl ?_); refine box_event ?hg (N := 4) ?hd (cs := #[.string nm, .slice A1 lp.length c1, .slice A2 lk.length c2]) (t := 27) ?hr ?_; (case hd => rfl); (case hg => rfl); (case hr => first | (go_simp; done) | (go_simp; rfl)); intro g0 hg w3 hbox hb; have n0_ := Aside0.mk (HS.out.below hb); have BK := Aside0.mk hbox; have GE := Aside0.mk (show w.heap.size ≤ g0 from by rw [hg]; exact Nat.le_refl _); clear HS; have HS := n0_; clear n0_ hb hbox hg; have hc0 := (blk_cell BK.out 0).trans rfl; have hc1 := (blk_cell BK.out 1).trans rfl; have hc2 := (blk_cell BK.out 2).trans rfl; have hz0 := blk_frozen BK.out 0; have hz1 := blk_frozen BK.out 1; have hz2 := blk_frozen BK.out 2) | (go_at_call 147; refine (QO.out _ HS.out.bel).mono ?_; rintro en w4 ⟨rfl, hb⟩; have n0_ := Aside0.mk (HS.out.below hb); have n1_ := Aside0.mk (blk_below BK.out hb); clear HS BK hc0 hc1 hc2 hz0 hz1 hz2; have HS := n0_; have BK := n1_; clear n0_ n1_ hb; have hc0 := (blk_cell BK.out 0).trans rfl; have hc1 := (blk_cell BK.out 1).trans rfl; have hc2 := (blk_cell BK.out 2).trans rfl; have hz0 := blk_frozen BK.out 0; have hz1 := blk_frozen BK.out 1; have hz2 := blk_frozen BK.out 2))
        go_ret2
        exact ⟨_, rfl, HS.out.err (by decide)⟩
      rw [if_neg d2] at H
      have d2b : decide (4294967294 < x1) = false := decide_eq_false d2
      have hwf : (Lit.int .u32 x1).wf = true := by simp [Lit.wf, IntKind.min, IntKind.max, IntKind.signed, IntKind.bits]; omega
      clear d1 d2
      by_cases d4 : x1 ∈ l.map (·.f0)
      · rw [if_pos d4] at H
        have d4b : decide (x1 ∈ l.map (·.f0)) = true := decide_eq_true d4
        simp only [Option.some.injEq, Prod.mk.injEq] at H
        obtain ⟨rfl, rfl⟩ := H
        have QL := Aside0.mk (fun W (h : MapH W b (l.map (·.f0))) => d4b ▸ h.look x1 hwf)
        clear d4 d4b hwf
        go_enter Tryz.func77, Tryz.ntmps77
        go_wp2_with (first | ((with_reducible refine gate_dst (N := 4) rfl ?_); refine box_event ?hg (N := 4) ?hd (cs := #[.string nm, .slice A1 lp.length c1, .slice A2 lk.length c2]) (t := 27) ?hr ?_; (case hd => rfl); (case hg => rfl); (case hr => first | (go_simp; done) | (go_simp; rfl)); intro g0 hg w3 hbox hb; have n0_ := Aside0.mk (HS.out.below hb); have BK := Aside0.mk hbox; have GE := Aside0.mk (show w.heap.size ≤ g0 from by rw [hg]; exact Nat.le_refl _); clear HS; have HS := n0_; clear n0_ hb hbox hg; have hc0 := (blk_cell BK.out 0).trans rfl; have hc1 := (blk_cell BK.out 1).trans rfl; have hc2 := (blk_cell BK.out 2).trans rfl; have hz0 := blk_frozen BK.out 0; have hz1 := blk_frozen BK.out 1; have hz2 := blk_frozen BK.out 2) | (go_at_call 147; refine (QO.out _ HS.out.bel).mono ?_; rintro en w4 ⟨rfl, hb⟩; have n0_ := Aside0.mk (HS.out.below hb); have n1_ := Aside0.mk (blk_below BK.out hb); clear HS BK hc0 hc1 hc2 hz0 hz1 hz2; have HS := n0_; have BK := n1_; clear n0_ n1_ hb; have hc0 := (blk_cell BK.out 0).trans rfl; have hc1 := (blk_cell BK.out 1).trans rfl; have hc2 := (blk_cell BK.out 2).trans rfl; have hz0 := blk_frozen BK.out 0; have hz1 := blk_frozen BK.out 1; have hz2 := blk_frozen BK.out 2; have ql := QL.out _ HS.out.map))
        go_ret2
        exact ⟨_, rfl, HS.out.err (by decide)⟩
      rw [if_neg d4] at H
      have d4b : decide (x1 ∈ l.map (·.f0)) = false := decide_eq_false d4
      have QL := Aside0.mk (fun W (h : MapH W b (l.map (·.f0))) => d4b ▸ h.look x1 hwf)
      have HWF := Aside0.mk hwf
      clear d4 d4b hwf
      obtain ⟨c, hcl, H⟩ := Option.bind_eq_some_iff.mp H
      by_cases d5 : l.length + 1 < 4294967296
      · rw [if_pos d5] at H
        have LMl := Aside0.mk d5
        have HCL := Aside0.mk hcl
        have H' := Aside0.mk H
        clear H d5 hcl
        go_enter Tryz.func77, Tryz.ntmps77
        go_wp2_with (first | ((with_reducible refine gate_dst (N := 4) rfl ?_); refine box_event ?hg (N := 4) ?hd (cs := #[.string nm, .slice A1 lp.length c1, .slice A2 lk.length c2]) (t := 27) ?hr ?_; (case hd => rfl); (case hg => rfl); (case hr => first | (go_simp; done) | (go_simp; rfl)); intro g0 hg w3 hbox hb; have n0_ := Aside0.mk (HS.out.below hb); have BK := Aside0.mk hbox; have GE := Aside0.mk (show w.heap.size ≤ g0 from by rw [hg]; exact Nat.le_refl _); clear HS; have HS := n0_; clear n0_ hb hbox hg; have hc0 := (blk_cell BK.out 0).trans rfl; have hc1 := (blk_cell BK.out 1).trans rfl; have hc2 := (blk_cell BK.out 2).trans rfl; have hz0 := blk_frozen BK.out 0; have hz1 := blk_frozen BK.out 1; have hz2 := blk_frozen BK.out 2) | (go_at_call 147; refine (QO.out _ HS.out.bel).mono ?_; rintro en w4 ⟨rfl, hb⟩; have n0_ := Aside0.mk (HS.out.below hb); have n1_ := Aside0.mk (blk_below BK.out hb); clear HS BK hc0 hc1 hc2 hz0 hz1 hz2; have HS := n0_; have BK := n1_; clear n0_ n1_ hb; have hc0 := (blk_cell BK.out 0).trans rfl; have hc1 := (blk_cell BK.out 1).trans rfl; have hc2 := (blk_cell BK.out 2).trans rfl; have hz0 := blk_frozen BK.out 0; have hz1 := blk_frozen BK.out 1; have hz2 := blk_frozen BK.out 2; have ql := QL.out _ HS.out.map) | (at_mapUpdate; refine wpList_mapH _ rfl _ _ _ rfl b (l.map (·.f0)) rfl HS.out.map (by rw [List.length_map]; have := LMl.out; unfold maxLen; omega) x1 rfl HWF.out rfl ?_; intro w5 hm hg; have n0_ := Aside0.mk (HS.out.put hm hg); have n1_ := Aside0.mk (blk_grown BK.out hg (fun e_ => by injection e_ with e_; have := GE.out; have := HS.out.st.2; omega)); clear HS BK hc0 hc1 hc2 hz0 hz1 hz2 ql; have HS := n0_; have BK := n1_; clear n0_ n1_ hm hg) | (go_at_call 148; refine (slices_Clone_int_int.calls Ap cp pl c _ (HPL.out _ HS.out.kept) HCP.out HCL.out).mono ?_; rintro en w6 ⟨vc, rfl, ho, hb⟩; have n0_ := Aside0.mk (HS.out.old.below hb); have n1_ := Aside0.mk (blk_below BK.out hb); have HO := Aside0.mk (Kd.R_lower (Kd.R_mono (ok' := fun k_ => w5.heap.size ≤ k_) (Kd.R_bound ho) (fun k_ hk_ => hk_.2.1)) HS.out.bel.size); have HQ := Aside0.mk (show b < w5.heap.size ∧ ∀ k_, vl.ownBlock = some k_ → k_ < w5.heap.size from ⟨HS.out.map.lt, Kd.S_lt HS.out.own⟩); clear HS BK; have HS := n0_; have BK := n1_; clear n0_ n1_ hb ho; obtain ⟨Ao, co, eo⟩ := Kd.R_slice HO.out; subst eo) | ((with_reducible refine gate_builtin (b := .append) (xs := #[.tmp 46, .tmp 51]) rfl ?_); at_builtin; refine Kd.S_append k255 (w0 := w0) w0.heap.size rfl (.tmp 46) (.tmp 51) 93 255 (.agg #[(.int .u32 0), (.slice none 0 0)]) 32 rfl Tryz.underlying93 info255 rfl (by decide) (by omega) vl l (⟨x1, c⟩ : S255) [.int .u32 x1, .slice Ao c.length co] (fun k_ => k_ ≠ b) (fun k_ => w5.heap.size ≤ k_) rfl rfl ?aP ?aK ?aF ?aO HS.out.bel HS.out.bel.size ?aL ?_; (case aP => exact k255_mkM _ _ _ (⟨x1, c⟩ : S255) HO.out); (case aK => exact fun k_ hk_ => ⟨by have := HQ.out.1; omega, fun e_ => by have := HQ.out.2 k_ e_.symm; omega⟩); (case aF => exact fun k_ hk_ => by have := HS.out.map.lt; omega); (case aO => exact Kd.S_mono HS.out.own (fun k_ hk_ => ⟨hk_.1, by have := hk_.2; omega⟩)); (case aL => have := LMl.out; omega); intro v7 w7 ho hb hg hat; have n0_ := Aside0.mk (HS.out.appended ho (fun _ h => h) hb hg hat); have n1_ := Aside0.mk (blk_grown BK.out hg (Kd.S_ne HS.out.own BK.out (by decide))); clear HS BK; have HS : Aside0 (OfS (fun k_ => k_ ≠ b) w0 w w7 b vl v7 (l ++ [(⟨x1, c⟩ : S255)]) ((l ++ [(⟨x1, c⟩ : S255)]).map (·.f0))) := ⟨by rw [List.map_append]; exact n0_.out⟩; have BK := n1_; clear n0_ n1_ ho hb hg hat; have hc0 := (blk_cell BK.out 0).trans rfl; have hc1 := (blk_cell BK.out 1).trans rfl; have hc2 := (blk_cell BK.out 2).trans rfl; have hz0 := blk_frozen BK.out 0; have hz1 := blk_frozen BK.out 1; have hz2 := blk_frozen BK.out 2))
        go_loopg [2, 56] k (fun kq v2 v56 w' => ∃ (l' : List S255) (i : Int), v56 = .int .i64 i ∧ Aside0 (handle_of.l0 kq pl l' lk (lk.length : Int) i = some (r, e)) ∧ Aside0 (kq ≤ k) ∧ Aside0 (OfS (fun k_ => k_ ≠ b) w0 w w' b vl v2 l' (l'.map (·.f0))) ∧ Aside0 (w'.heap[g0]? = some (.cells #[.string nm, .slice A1 lp.length c1, .slice A2 lk.length c2] 27 (0, 0))))
        case atStart => exact ⟨_, 0, (by first | rfl | (simp; done) | (simp [*]; done)), H', ⟨Nat.le_refl _⟩, HS, BK⟩
        case round =>
          clear H' HS BK
          (try clear hc0); (try clear hc1); (try clear hc2); (try clear hz0); (try clear hz1); (try clear hz2)
          obtain ⟨l', i, rfl, HA, HK1, HS, BK⟩ := hrel
          cases gk with
          | zero => exact absurd HA.out (by simp [handle_of.l0])
          | succ k1 =>
            have H := HA.out
            clear HA
            simp only [handle_of.l0] at H
            by_cases c7 : i < (lk.length : Int)
            · rw [if_pos c7] at H
              have c7b0 : decide (i < (lk.length : Int)) = true := decide_eq_true c7
              by_cases c8 : 0 ≤ i
              · rw [if_pos c8, if_pos c7] at H
                have c8b0 : decide (0 ≤ i) = true := decide_eq_true c8
                obtain ⟨c, hcl, H⟩ := Option.bind_eq_some_iff.mp H
                by_cases c11 : c.length + 1 < 17592186044416
                · rw [if_pos c11] at H
                  obtain ⟨⟨r1, e1⟩, hrec, H⟩ := Option.bind_eq_some_iff.mp H
                  have HCL := Aside0.mk hcl
                  have HREC := Aside0.mk hrec
                  have LM := Aside0.mk c11
                  have HN : Aside0 ((if e1 = 0 then handle_of.l0 k1 pl r1 lk (lk.length : Int) (wrap64 (i + 1)) else some ([], e1)) = some (r, e)) := ⟨H⟩
                  clear hcl hrec c11 H
                  obtain ⟨adx, Ax1, cx1, Ax2, cx2, ex, hx0, hx1, hx2, hl1, hi1, hl2, hi2⟩ := at_T27 HR2.out i c8 c7
                  cases ex
                  replace hx0 := (HS.out.bel.cell (World.block_lt_of_cell? w0 _ hx0)).trans hx0
                  replace hx1 := (HS.out.bel.cell (World.block_lt_of_cell? w0 _ hx1)).trans hx1
                  replace hx2 := (HS.out.bel.cell (World.block_lt_of_cell? w0 _ hx2)).trans hx2
                  have HX1 := Aside0.mk hi1
                  have HY1 := Aside0.mk hl1
                  have HX2 := Aside0.mk hi2
                  have HY2 := Aside0.mk hl2
                  clear hi1 hl1 hi2 hl2
                  obtain ⟨xn, hxn⟩ : ∃ x_, x_ = rd_T27 lk i := ⟨_, rfl⟩
                  rw [← hxn] at HREC HX1 HX2 HY1 HY2 hx0 hx1 hx2
                  clear hxn
                  have p294 := eq_true c8
                  have q294 := eq_true c7
                  clear c7 c8
                  go_wp2_with ((with_reducible refine gate_dst (N := 14) rfl ?_); refine box_event ?hg (N := 14) ?hd (cs := #[.string (⟨#[]⟩ : ByteArray), .slice none 0 0, .slice none 0 0]) (t := 27) ?hr ?_; (case hd => rfl); (case hg => rfl); (case hr => first | (go_simp; done) | (go_simp; rfl)); intro g1 hg w14 hbox hb; have n0_ := Aside0.mk (HS.out.old.below hb); have n1_ := Aside0.mk (blk_below BK.out hb); have GB := Aside0.mk (show w.heap.size ≤ g1 ∧ g0 ≠ g1 ∧ wr.heap.size ≤ g1 from ⟨by rw [hg]; exact HS.out.kept.1, by rw [hg]; exact Nat.ne_of_lt (blk_lt BK.out), Nat.le_of_eq hg.symm⟩); have BX := Aside0.mk hbox; have LK := Aside0.mk (HS.out.kept.1); have LO := Aside0.mk (Kd.S_lt HS.out.own); clear HS BK; have HS := n0_; have BK := n1_; clear n0_ n1_ hb hbox hg; have hy0 := (blk_cell BX.out 0).trans rfl; have hy1 := (blk_cell BX.out 1).trans rfl; have hy2 := (blk_cell BX.out 2).trans rfl; have hyz0 := blk_frozen BX.out 0; have hyz1 := blk_frozen BX.out 1; have hyz2 := blk_frozen BX.out 2)
                  clear hx0 hx1 hx2 hy0 hy1 hy2 hyz0 hyz1 hyz2 c7b0 c8b0 p294 q294
                  have n0_ : Aside0 (OfS (fun k_ => k_ ≠ b ∧ k_ < wr.heap.size) w0 w (((w14.setCell ⟨g1, 0, none⟩ (.string xn.f0)).setCell ⟨g1, 1, none⟩ (.slice Ax1 xn.f1.length cx1)).setCell ⟨g1, 2, none⟩ (.slice Ax2 xn.f2.length cx2)) b vl _ l' (l'.map (·.f0))) := ⟨((HS.out.grown (grown_set _ g1 0 _) (fun k_ hk_ => by injection hk_ with hk_; have := GB.out.1; omega) (fun k_ ho_ _ e_ => by injection e_ with e_; have := GB.out.2.2; have := ho_.2; omega)).grown (grown_set _ g1 1 _) (fun k_ hk_ => by injection hk_ with hk_; have := GB.out.1; omega) (fun k_ ho_ _ e_ => by injection e_ with e_; have := GB.out.2.2; have := ho_.2; omega)).grown (grown_set _ g1 2 _) (fun k_ hk_ => by injection hk_ with hk_; have := GB.out.1; omega) (fun k_ ho_ _ e_ => by injection e_ with e_; have := GB.out.2.2; have := ho_.2; omega)⟩
                  have n1_ : Aside0 ((((w14.setCell ⟨g1, 0, none⟩ (.string xn.f0)).setCell ⟨g1, 1, none⟩ (.slice Ax1 xn.f1.length cx1)).setCell ⟨g1, 2, none⟩ (.slice Ax2 xn.f2.length cx2)).heap[g0]? = some (.cells #[.string nm, .slice A1 lp.length c1, .slice (some adx) lk.length c2] 27 (0, 0))) := ⟨blk_far (blk_far (blk_far BK.out GB.out.2.1 _) GB.out.2.1 _) GB.out.2.1 _⟩
                  have n2_ : Aside0 ((((w14.setCell ⟨g1, 0, none⟩ (.string xn.f0)).setCell ⟨g1, 1, none⟩ (.slice Ax1 xn.f1.length cx1)).setCell ⟨g1, 2, none⟩ (.slice Ax2 xn.f2.length cx2)).heap[g1]? = some (.cells #[.string xn.f0, .slice Ax1 xn.f1.length cx1, .slice Ax2 xn.f2.length cx2] 27 (0, 0))) := ⟨blk_put (cs := #[.string xn.f0, .slice Ax1 xn.f1.length cx1, .slice none 0 0]) (blk_put (cs := #[.string xn.f0, .slice none 0 0, .slice none 0 0]) (blk_put (cs := #[.string (⟨#[]⟩ : ByteArray), .slice none 0 0, .slice none 0 0]) BX.out 0 _ rfl) 1 _ rfl) 2 _ rfl⟩
                  clear HS BK BX
                  generalize (((w14.setCell ⟨g1, 0, none⟩ (.string xn.f0)).setCell ⟨g1, 1, none⟩ (.slice Ax1 xn.f1.length cx1)).setCell ⟨g1, 2, none⟩ (.slice Ax2 xn.f2.length cx2)) = w18 at n0_ n1_ n2_ ⊢
                  have HS := Aside0.mk (n0_.out.below (below_drew1 (Below.refl _ _)))
                  have BK := Aside0.mk (blk_drew n1_.out)
                  have BX := Aside0.mk (blk_drew n2_.out)
                  clear n0_ n1_ n2_
                  refine start_ (n := 14) (S := fun w' => w'.cell? ⟨g1, 0, none⟩ = some (.string xn.f0) ∧ w'.cell? ⟨g1, 1, none⟩ = some (.slice Ax1 xn.f1.length cx1) ∧ w'.cell? ⟨g1, 2, none⟩ = some (.slice Ax2 xn.f2.length cx2)) (ds := []) #[false, false, false, false, false, false, false, false, false, false, false, false, false, false] (by kernel_rfl) rfl rfl ⟨(blk_cell BX.out 0).trans rfl, (blk_cell BX.out 1).trans rfl, (blk_cell BX.out 2).trans rfl⟩ (fun hHeld => ?_); refine with_tabW handle_of.tab14 handle_of.bits14 (fun HT_ HW_ => ?_)
                  generalize w18.drew = w19 at HS BK BX hHeld ⊢
                  refine pure_ (i := 1) (N := some 63) (v := ?_) (a' := ?_) #[false, true, false, false, false, false, false, false, false, false, false, false, false, false] rfl rfl (any_of HT_.out (by kernel_rfl)) (fun _ _ _ h => h) (Or.inl ⟨by rfl, ?_⟩) ?_ ?_
                  rotate_left
                  · intro w'
                    go_simp
                    with_reducible rfl
                  rotate_left
                  · simp only [Act.put, List.setIfInBounds_toArray, List.set_cons_zero, List.set_cons_succ, i64_w, i32_w]
                    rfl
                  refine pure_ (i := 3) (N := some 65) (v := ?_) (a' := ?_) #[false, true, false, true, false, false, false, false, false, false, false, false, false, false] rfl rfl (any_of HT_.out (by kernel_rfl)) (fun _ _ _ h => h) (Or.inl ⟨by rfl, ?_⟩) ?_ ?_
                  rotate_left
                  · intro w'
                    go_simp
                    with_reducible rfl
                  rotate_left
                  · simp only [Act.put, List.setIfInBounds_toArray, List.set_cons_zero, List.set_cons_succ, i64_w, i32_w]
                    rfl
                  refine pure_ (i := 6) (N := some 68) (v := ?_) (a' := ?_) #[false, true, false, true, false, false, true, false, false, false, false, false, false, false] rfl rfl (any_of HT_.out (by kernel_rfl)) (fun _ _ _ h => h) (Or.inl ⟨by rfl, ?_⟩) ?_ ?_
                  rotate_left
                  · intro w'
                    go_simp
                    with_reducible rfl
                  rotate_left
                  · simp only [Act.put, List.setIfInBounds_toArray, List.set_cons_zero, List.set_cons_succ, i64_w, i32_w]
                    rfl
                  refine pure_ (i := 7) (N := some 69) (v := ?_) (a' := ?_) #[false, true, false, true, false, false, true, true, false, false, false, false, false, false] rfl rfl (any_of HT_.out (by kernel_rfl)) (fun _ _ _ h => h) (Or.inl ⟨by rfl, ?_⟩) ?_ ?_
                  rotate_left
                  · intro w'
                    go_simp
                    with_reducible rfl
                  rotate_left
                  · simp only [Act.put, List.setIfInBounds_toArray, List.set_cons_zero, List.set_cons_succ, i64_w, i32_w]
                    rfl
                  refine take_ (i := 0) (N := some 62) (v := ?_) (a' := ?_) #[true, true, false, true, false, false, true, true, false, false, false, false, false, false] rfl rfl (take_ofW HT_.out HW_.out (by kernel_rfl)) (fun _ _ _ h => h) (Or.inl ⟨by rfl, ?_⟩) hHeld ?_ ?_
                  rotate_left
                  · rintro w' ⟨s0, s1, s2⟩
                    go_simp
                    with_reducible rfl
                  rotate_left
                  · simp only [Act.put, List.setIfInBounds_toArray, List.set_cons_zero, List.set_cons_succ, i64_w, i32_w]
                    rfl
                  refine join_ (σ := Value × Value) 7 #[true, true, true, true, true, false, true, true, false, false, false, false, false, false] (fun s_ => [(64, s_.1), (66, s_.2)]) (fun s_ w' => (w'.cell? ⟨g1, 0, none⟩ = some (.string xn.f0) ∧ w'.cell? ⟨g1, 1, none⟩ = some (.slice Ax1 xn.f1.length cx1) ∧ w'.cell? ⟨g1, 2, none⟩ = some (.slice Ax2 xn.f2.length cx2)) ∧ OfS (fun k_ => k_ ≠ b ∧ k_ < wr.heap.size) w0 w w' b vl u2 l' (l'.map (·.f0)) ∧ w'.heap[g0]? = some (.cells #[.string nm, .slice A1 lp.length c1, .slice (some adx) lk.length c2] 27 (0, 0)) ∧ w'.heap[g1]? = some (.cells #[.string xn.f0, .slice Ax1 xn.f1.length cx1, .slice Ax2 xn.f2.length cx2] 27 (0, 0)) ∧ Kd.R (Kd.int .i64) 3 w' w0.heap.size (fun k_ => wr.heap.size ≤ k_) s_.1 c ∧ Kd.R (Kd.int .i64) 3 w' w0.heap.size (fun k_ => wr.heap.size ≤ k_) s_.2 [i]) ?_ ?_
                  rotate_left
                  · intro hCont
                    refine two_ (i := 2) (j := 4) (Ni := some 64) (Nj := some 66) #[true, true, true, true, false, false, true, true, false, false, false, false, false, false] #[true, true, false, true, true, false, true, true, false, false, false, false, false, false] rfl rfl rfl rfl (two_of HT_.out (by kernel_rfl)) (by decide) (by decide) (fun K hK => ?_) (fun K hK => ?_)
                    · skip
                      refine goes_ Tryz.func148 (by kernel_rfl) rfl #[.slice Ap pl.length cp] (by rfl) rfl rfl (by (try simp only [List.map_toArray, List.map_cons, List.map_nil]); first | done | rfl) ?_
                      with_reducible refine (slices_Clone_int_int.calls Ap cp pl c _ (HPL.out _ HS.out.kept) HCP.out HCL.out).mono ?_
                      rintro en w20 ⟨v297, rfl, ho, hb⟩
                      refine ⟨_, rfl, ?_⟩
                      have n0_ := Aside0.mk (HS.out.below hb)
                      have n1_ := Aside0.mk (blk_below BK.out hb)
                      have n2_ := Aside0.mk (blk_below BX.out hb)
                      have HO297 := Aside0.mk (show Kd.R (Kd.int .i64) 3 w20 w0.heap.size (fun k_ => wr.heap.size ≤ k_) v297 c from Kd.R_lower (Kd.R_mono (Kd.R_bound ho) (fun k_ hk_ => Nat.le_trans (Nat.le_trans GB.out.2.2 (Nat.le_of_lt (blk_lt BX.out))) hk_.2.1)) HS.out.bel.size)
                      clear HS BK BX
                      have HS := n0_
                      have BK := n1_
                      have BX := n2_
                      clear n0_ n1_ n2_ hb ho
                      refine hK.out _ _ ⟨(blk_cell BX.out 0).trans rfl, (blk_cell BX.out 1).trans rfl, (blk_cell BX.out 2).trans rfl⟩ (fun hHeld => ?_)
                      clear hK K
                      refine norm_ (a' := ?_) ?_ ?_
                      rotate_left
                      · show Act.put _ (some 64) _ = _
                        simp only [Act.put, List.setIfInBounds_toArray, List.set_cons_zero, List.set_cons_succ, i64_w, i32_w]
                        rfl
                      refine one_ (i := 4) (N := some 66) #[true, true, true, true, true, false, true, true, false, false, false, false, false, false] rfl rfl (one_of HT_.out (by kernel_rfl)) (by decide) (fun K hK => ?_)
                      refine Kd.R_lit_step (Kd.int .i64) _ 3 ?hg (N := 66) ?hd (xs := ([i] : List Int)) (inner := [.int .i64 i]) (ok := fun _ => True) (okp := fun _ => True) ?hr ?hp (fun _ hk => hk) trivial (Below.refl _ _) (Nat.le_refl _) (by simp) ?_; (case hd => rfl); (case hg => rfl); (case hr => first | (go_simp; done) | (go_simp; rfl)); (case hp => exact (Reps.one (show Kd.M (Kd.int .i64) _ _ _ i [.int .i64 i] from rfl) (Reps.none _ _)))
                      intro v300 w21 ho hb hg_ hnew_
                      clear hg_ hnew_
                      have n0_ := Aside0.mk (HS.out.below hb)
                      have n1_ := Aside0.mk (blk_below BK.out hb)
                      have n2_ := Aside0.mk (blk_below BX.out hb)
                      have HO300 := Aside0.mk (show Kd.R (Kd.int .i64) 3 w21 w0.heap.size (fun k_ => wr.heap.size ≤ k_) v300 [i] from Kd.R_lower (Kd.R_mono (Kd.R_bound ho) (fun k_ hk_ => Nat.le_trans (Nat.le_trans GB.out.2.2 (Nat.le_of_lt (blk_lt BX.out))) hk_.2.1)) HS.out.bel.size)
                      have n3_ := Aside0.mk (Kd.R_below HO297.out hb)
                      clear HS BK BX HO297
                      have HS := n0_
                      have BK := n1_
                      have BX := n2_
                      have HO297 := n3_
                      clear n0_ n1_ n2_ n3_ hb ho
                      refine hK.out _ _ ⟨(blk_cell BX.out 0).trans rfl, (blk_cell BX.out 1).trans rfl, (blk_cell BX.out 2).trans rfl⟩ (fun hHeld => ?_)
                      clear hK K
                      refine norm_ (a' := ?_) ?_ ?_
                      rotate_left
                      · show Act.put _ (some 66) _ = _
                        simp only [Act.put, List.setIfInBounds_toArray, List.set_cons_zero, List.set_cons_succ, i64_w, i32_w]
                        rfl
                      exact norm_ (by simp only [putAll, Act.put, List.setIfInBounds_toArray, List.set_cons_zero, List.set_cons_succ]) (hCont (v297, v300) _ ⟨hHeld, HS.out, BK.out, BX.out, HO297.out, HO300.out⟩)
                    · skip
                      refine Kd.R_lit_step (Kd.int .i64) _ 3 ?hg (N := 66) ?hd (xs := ([i] : List Int)) (inner := [.int .i64 i]) (ok := fun _ => True) (okp := fun _ => True) ?hr ?hp (fun _ hk => hk) trivial (Below.refl _ _) (Nat.le_refl _) (by simp) ?_; (case hd => rfl); (case hg => rfl); (case hr => first | (go_simp; done) | (go_simp; rfl)); (case hp => exact (Reps.one (show Kd.M (Kd.int .i64) _ _ _ i [.int .i64 i] from rfl) (Reps.none _ _)))
                      intro v300 w21 ho hb hg_ hnew_
                      clear hg_ hnew_
                      have n0_ := Aside0.mk (HS.out.below hb)
                      have n1_ := Aside0.mk (blk_below BK.out hb)
                      have n2_ := Aside0.mk (blk_below BX.out hb)
                      have HO300 := Aside0.mk (show Kd.R (Kd.int .i64) 3 w21 w0.heap.size (fun k_ => wr.heap.size ≤ k_) v300 [i] from Kd.R_lower (Kd.R_mono (Kd.R_bound ho) (fun k_ hk_ => Nat.le_trans (Nat.le_trans GB.out.2.2 (Nat.le_of_lt (blk_lt BX.out))) hk_.2.1)) HS.out.bel.size)
                      clear HS BK BX
                      have HS := n0_
                      have BK := n1_
                      have BX := n2_
                      clear n0_ n1_ n2_ hb ho
                      refine hK.out _ _ ⟨(blk_cell BX.out 0).trans rfl, (blk_cell BX.out 1).trans rfl, (blk_cell BX.out 2).trans rfl⟩ (fun hHeld => ?_)
                      clear hK K
                      refine norm_ (a' := ?_) ?_ ?_
                      rotate_left
                      · show Act.put _ (some 66) _ = _
                        simp only [Act.put, List.setIfInBounds_toArray, List.set_cons_zero, List.set_cons_succ, i64_w, i32_w]
                        rfl
                      refine one_ (i := 2) (N := some 64) #[true, true, true, true, true, false, true, true, false, false, false, false, false, false] rfl rfl (one_of HT_.out (by kernel_rfl)) (by decide) (fun K hK => ?_)
                      refine goes_ Tryz.func148 (by kernel_rfl) rfl #[.slice Ap pl.length cp] (by rfl) rfl rfl (by (try simp only [List.map_toArray, List.map_cons, List.map_nil]); first | done | rfl) ?_
                      with_reducible refine (slices_Clone_int_int.calls Ap cp pl c _ (HPL.out _ HS.out.kept) HCP.out HCL.out).mono ?_
                      rintro en w20 ⟨v297, rfl, ho, hb⟩
                      refine ⟨_, rfl, ?_⟩
                      have n0_ := Aside0.mk (HS.out.below hb)
                      have n1_ := Aside0.mk (blk_below BK.out hb)
                      have n2_ := Aside0.mk (blk_below BX.out hb)
                      have HO297 := Aside0.mk (show Kd.R (Kd.int .i64) 3 w20 w0.heap.size (fun k_ => wr.heap.size ≤ k_) v297 c from Kd.R_lower (Kd.R_mono (Kd.R_bound ho) (fun k_ hk_ => Nat.le_trans (Nat.le_trans GB.out.2.2 (Nat.le_of_lt (blk_lt BX.out))) hk_.2.1)) HS.out.bel.size)
                      have n3_ := Aside0.mk (Kd.R_below HO300.out hb)
                      clear HS BK BX HO300
                      have HS := n0_
                      have BK := n1_
                      have BX := n2_
                      have HO300 := n3_
                      clear n0_ n1_ n2_ n3_ hb ho
                      refine hK.out _ _ ⟨(blk_cell BX.out 0).trans rfl, (blk_cell BX.out 1).trans rfl, (blk_cell BX.out 2).trans rfl⟩ (fun hHeld => ?_)
                      clear hK K
                      refine norm_ (a' := ?_) ?_ ?_
                      rotate_left
                      · show Act.put _ (some 64) _ = _
                        simp only [Act.put, List.setIfInBounds_toArray, List.set_cons_zero, List.set_cons_succ, i64_w, i32_w]
                        rfl
                      exact norm_ (by simp only [putAll, Act.put, List.setIfInBounds_toArray, List.set_cons_zero, List.set_cons_succ]) (hCont (v297, v300) _ ⟨hHeld, HS.out, BK.out, BX.out, HO297.out, HO300.out⟩)
                  clear HS BK BX hHeld
                  rintro ⟨v297, v300⟩ w23 ⟨hHeld, h0_, h1_, h2_, h3_, h4_⟩
                  have HS := Aside0.mk h0_
                  have BK := Aside0.mk h1_
                  have BX := Aside0.mk h2_
                  have HO297 := Aside0.mk h3_
                  have HO300 := Aside0.mk h4_
                  clear h0_ h1_ h2_ h3_ h4_
                  simp only at HO297 HO300
                  obtain ⟨Ao25, co25, eo25⟩ := Kd.R_slice HO300.out
                  subst eo25
                  refine norm_ (a' := ?_) ?_ ?_
                  rotate_left
                  · simp only [putAll, Act.put, List.setIfInBounds_toArray, List.set_cons_zero, List.set_cons_succ]
                    rfl
                  refine one_ (i := 5) (N := some 67) #[true, true, true, true, true, true, true, true, false, false, false, false, false, false] rfl rfl (one_of HT_.out (by kernel_rfl)) (by decide) (fun K hK => ?_)
                  refine Kd.R_append_rows_step (Kd.int .i64) (w0 := w0) w0.heap.size (by rfl) (.tmp 64) (.tmp 66) 81 3 (.int .i64 0) 8 rfl Tryz.underlying81 info3 rfl (by decide) (by omega) v297 c [i] _ _ _ (fun k_ => wr.heap.size ≤ k_) (fun _ => False) rfl rfl HO297.out (Kd.R_reads' HO300.out).2.2 (fun _ _ h => h) (fun _ h => h.elim) (fun k_ hk_ => Nat.le_trans (Nat.le_trans GB.out.2.2 (Nat.le_of_lt (blk_lt BX.out))) hk_) HS.out.bel HS.out.bel.size ?aL ?_
                  (case aL => have := LM.out; simp only [List.length_cons, List.length_nil]; omega)
                  intro v303 w24 ho hb hg hat
                  have n0_ := Aside0.mk (HS.out.grown hg (fun k_ hk_ => Nat.le_trans LK.out (HO297.out.1 k_ hk_)) (fun k_ ho_ _ e_ => Nat.not_le_of_lt ho_.2 (HO297.out.1 k_ e_)))
                  have n1_ := Aside0.mk (blk_grown BK.out hg (Kd.R_ne HO297.out BK.out (by decide)))
                  have n2_ := Aside0.mk (blk_grown BX.out hg (Kd.R_ne HO297.out BX.out (by decide)))
                  have HO303 := Aside0.mk ho
                  clear HS BK BX HO297 HO300
                  have HS := n0_
                  have BK := n1_
                  have BX := n2_
                  clear n0_ n1_ n2_ ho hb hg hat
                  obtain ⟨Ao26, co26, eo26⟩ := Kd.R_slice HO303.out
                  subst eo26
                  refine hK.out _ _ ⟨(blk_cell BX.out 0).trans rfl, (blk_cell BX.out 1).trans rfl, (blk_cell BX.out 2).trans rfl⟩ (fun hHeld => ?_)
                  clear hK K
                  refine norm_ (a' := ?_) ?_ ?_
                  rotate_left
                  · show Act.put _ (some 67) _ = _
                    simp only [Act.put, List.setIfInBounds_toArray, List.set_cons_zero, List.set_cons_succ, i64_w, i32_w]
                    rfl
                  refine one_ (i := 8) (N := some 70) #[true, true, true, true, true, true, true, true, true, false, false, false, false, false] rfl rfl (one_of HT_.out (by kernel_rfl)) (by decide) (fun K hK => ?_)
                  refine goes_ Tryz.func77 (by kernel_rfl) rfl #[.agg #[.string xn.f0, .slice Ax1 xn.f1.length cx1, .slice Ax2 xn.f2.length cx2], .slice Ao26 (c ++ [i]).length co26, u2, .map (some b)] (by rfl) rfl rfl (by (try simp only [List.map_toArray, List.map_cons, List.map_nil]); first | done | rfl) ?_
                  with_reducible refine (ih k1 (by have := HK1.out; omega) xn.f0 Ax1 cx1 xn.f1 Ax2 cx2 xn.f2 Ao26 co26 (c ++ [i]) u2 l' b r1 e1 w0 _ HX1.out HY1.out HX2.out HY2.out ?pl ?cp HS.out.start HREC.out).mono ?_
                  (case pl => exact Kd.C_kept_own HO303.out (fun k_ hk_ h_ => h_.elim (fun e_ => by have := HS.out.st.2; have := LK.out; omega) (fun e_ => by have := LO.out k_ e_; omega)))
                  (case cp => exact (Kd.R_reads' HO303.out).2.1)
                  rintro en w27 ⟨v306, rfl, hR⟩
                  refine ⟨_, rfl, ?_⟩
                  have HR := Aside0.mk hR
                  have HSC := HS
                  have n1_ := Aside0.mk (blk_kept BK.out hR.kept (fun h_ => h_.elim (fun e_ => by have := HS.out.st.2; have := GE.out; omega) (fun e_ => Kd.S_ne HS.out.own BK.out (by decide) e_.symm)))
                  have n2_ := Aside0.mk (blk_kept BX.out hR.kept (fun h_ => h_.elim (fun e_ => by have := HS.out.st.2; have := GB.out.1; omega) (fun e_ => by have := LO.out g1 e_; have := GB.out.2.2; omega)))
                  clear HS BK BX HO303 hR
                  have BK := n1_
                  have BX := n2_
                  clear n1_ n2_
                  refine hK.out _ _ ⟨(blk_cell BX.out 0).trans rfl, (blk_cell BX.out 1).trans rfl, (blk_cell BX.out 2).trans rfl⟩ (fun hHeld => ?_)
                  clear hK K
                  refine norm_ (a' := ?_) ?_ ?_
                  rotate_left
                  · show Act.put _ (some 70) _ = _
                    simp only [Act.put, List.setIfInBounds_toArray, List.set_cons_zero, List.set_cons_succ, i64_w, i32_w]
                    rfl
                  refine pure_ (i := 9) (N := some 61) (v := ?_) (a' := ?_) #[true, true, true, true, true, true, true, true, true, true, false, false, false, false] rfl rfl (any_of HT_.out (by kernel_rfl)) (fun _ _ _ h => h) (Or.inl ⟨by rfl, ?_⟩) ?_ ?_
                  rotate_left
                  · intro w'
                    go_simp
                    with_reducible rfl
                  rotate_left
                  · simp only [Act.put, List.setIfInBounds_toArray, List.set_cons_zero, List.set_cons_succ, i64_w, i32_w]
                    rfl
                  refine pure_ (i := 10) (N := some 71) (v := ?_) (a' := ?_) #[true, true, true, true, true, true, true, true, true, true, true, false, false, false] rfl rfl (any_of HT_.out (by kernel_rfl)) (fun _ _ _ h => h) (Or.inl ⟨by rfl, ?_⟩) ?_ ?_
                  rotate_left
                  · intro w'
                    go_simp
                    with_reducible rfl
                  rotate_left
                  · simp only [Act.put, List.setIfInBounds_toArray, List.set_cons_zero, List.set_cons_succ, i64_w, i32_w]
                    rfl
                  refine pure_ (i := 11) (N := some 72) (v := ?_) (a' := ?_) #[true, true, true, true, true, true, true, true, true, true, true, true, false, false] rfl rfl (any_of HT_.out (by kernel_rfl)) (fun _ _ _ h => h) (Or.inl ⟨by rfl, ?_⟩) ?_ ?_
                  rotate_left
                  · intro w'
                    go_simp
                    with_reducible rfl
                  rotate_left
                  · simp only [Act.put, List.setIfInBounds_toArray, List.set_cons_zero, List.set_cons_succ, i64_w, i32_w]
                    rfl
                  refine pure_ (i := 12) (N := some 2) (v := ?_) (a' := ?_) #[true, true, true, true, true, true, true, true, true, true, true, true, true, false] rfl rfl (any_of HT_.out (by kernel_rfl)) (fun _ _ _ h => h) (Or.inl ⟨by rfl, ?_⟩) ?_ ?_
                  rotate_left
                  · intro w'
                    go_simp
                    with_reducible rfl
                  rotate_left
                  · simp only [Act.put, List.setIfInBounds_toArray, List.set_cons_zero, List.set_cons_succ, i64_w, i32_w]
                    rfl
                  refine pure_ (i := 13) (N := some 12) (v := ?_) (a' := ?_) #[true, true, true, true, true, true, true, true, true, true, true, true, true, true] rfl rfl (any_of HT_.out (by kernel_rfl)) (fun _ _ _ h => h) (Or.inl ⟨by rfl, ?_⟩) ?_ ?_
                  rotate_left
                  · intro w'
                    go_simp
                    with_reducible rfl
                  rotate_left
                  · simp only [Act.put, List.setIfInBounds_toArray, List.set_cons_zero, List.set_cons_succ, i64_w, i32_w]
                    rfl
                  refine done_ (done_of HT_.out (by kernel_rfl)) ?_
                  clear hHeld HT_ HW_
                  by_cases z : e1 = 0
                  · subst z
                    have H' := Aside0.mk (show handle_of.l0 k1 pl r1 lk (lk.length : Int) (wrap64 (i + 1)) = some (r, e) from HN.out)
                    clear HN
                    try go_wp2
                    go_roundg k1
                    case measure => have := HK1.out; omega
                    case rel => exact ⟨r1, (wrap64 (i + 1)), (by first | rfl | (simp; done) | (simp [*]; done)), H', ⟨by have := HK1.out; omega⟩, ⟨HR.out.next HSC.out rfl⟩, BK⟩
                  · have HN2 := HN.out
                    rw [if_neg z] at HN2
                    simp only [Option.some.injEq, Prod.mk.injEq] at HN2
                    obtain ⟨rfl, rfl⟩ := HN2
                    have zb : (e1 == 0) = false := beq_eq_false_iff_ne.mpr z
                    have zc : (e1 != 0) = true := bne_iff_ne.mpr z
                    have Z := Aside0.mk z
                    clear HN z
                    go_wp2
                    go_ret2
                    exact ⟨_, rfl, HR.out.fail HSC.out Z.out⟩
                · rw [if_neg c11] at H
                  cases H
              · rw [if_neg c8] at H
                cases H
            · rw [if_neg c7] at H
              have c7b0 : decide (i < (lk.length : Int)) = false := decide_eq_false c7
              clear c7
              simp only [Option.some.injEq, Prod.mk.injEq] at H
              obtain ⟨rfl, rfl⟩ := H
              go_wp2
              go_ret2
              exact ⟨_, rfl, HS.out.fine⟩
      · rw [if_neg d5] at H
        cases H
  · rw [if_neg d3] at H
    simp only [Option.some.injEq, Prod.mk.injEq] at H
    obtain ⟨rfl, rfl⟩ := H
    have d3b : (x3 == 0) = false := beq_eq_false_iff_ne.mpr d3
    have d3c : (x3 != 0) = true := bne_iff_ne.mpr d3
    have D3 := Aside0.mk d3
    clear d3
    go_enter Tryz.func77, Tryz.ntmps77
    go_wp2_with (first | ((with_reducible refine gate_dst (N := 4) rfl ?_); refine box_event ?hg (N := 4) ?hd (cs := #[.string nm, .slice A1 lp.length c1, .slice A2 lk.length c2]) (t := 27) ?hr ?_; (case hd => rfl); (case hg => rfl); (case hr => first | (go_simp; done) | (go_simp; rfl)); intro g0 hg w3 hbox hb; have n0_ := Aside0.mk (HS.out.below hb); have BK := Aside0.mk hbox; have GE := Aside0.mk (show w.heap.size ≤ g0 from by rw [hg]; exact Nat.le_refl _); clear HS; have HS := n0_; clear n0_ hb hbox hg; have hc0 := (blk_cell BK.out 0).trans rfl; have hc1 := (blk_cell BK.out 1).trans rfl; have hc2 := (blk_cell BK.out 2).trans rfl; have hz0 := blk_frozen BK.out 0; have hz1 := blk_frozen BK.out 1; have hz2 := blk_frozen BK.out 2) | (go_at_call 147; refine (QO.out _ HS.out.bel).mono ?_; rintro en w4 ⟨rfl, hb⟩; have n0_ := Aside0.mk (HS.out.below hb); have n1_ := Aside0.mk (blk_below BK.out hb); clear HS BK hc0 hc1 hc2 hz0 hz1 hz2; have HS := n0_; have BK := n1_; clear n0_ n1_ hb; have hc0 := (blk_cell BK.out 0).trans rfl; have hc1 := (blk_cell BK.out 1).trans rfl; have hc2 := (blk_cell BK.out 2).trans rfl; have hz0 := blk_frozen BK.out 0; have hz1 := blk_frozen BK.out 1; have hz2 := blk_frozen BK.out 2))
    go_ret2
    exact ⟨_, rfl, HS.out.err D3.out⟩
def handle_Index.f (k : Nat) (a0_0 : Int) (l0_1 : List (S76)) (a0_2 : ByteArray) (l0_3 : List (S158)) (l0_4 : List (S27)) : Option (List S255 × Int) := handle_of.f k a0_2 l0_3 l0_4 [] []
set_option maxRecDepth 100000 in
theorem handle_Index.calls (k : Nat) (a0_0 : Int) (A0_1 : Option Addr) (c0_1 : Nat) (l0_1 : List (S76)) (a0_2 : ByteArray) (A0_3 : Option Addr) (c0_3 : Nat) (l0_3 : List (S158)) (A0_4 : Option Addr) (c0_4 : Nat) (l0_4 : List (S27)) (r1 : List S255) (r2 : Int) (w : World) (hr0_1 : Kd.C k76 w A0_1 l0_1.length l0_1) (hc0_1 : l0_1.length ≤ c0_1) (hr0_3 : Kd.C k158 w A0_3 l0_3.length l0_3) (hc0_3 : l0_3.length ≤ c0_3) (hr0_4 : Kd.C k27 w A0_4 l0_4.length l0_4) (hc0_4 : l0_4.length ≤ c0_4) (h : handle_Index.f k a0_0 l0_1 a0_2 l0_3 l0_4 = some (r1, r2)) :
    Calls Tryz.prog 39 #[.agg #[.int .u32 a0_0, .slice A0_1 l0_1.length c0_1, .string a0_2, .slice A0_3 l0_3.length c0_3, .slice A0_4 l0_4.length c0_4]] w fun e w' => ∃ v0_ : Value, e = .returned (.tuple #[v0_, .int .i64 r2]) ∧ Kd.S k255 255 w' w.heap.size (fun _ => True) v0_ r1 ∧ Below w.heap.size w w' := by
  have hu27 := Tryz.underlying27
  have hu29 := Tryz.underlying29
  have hmm := @run_makeMap Tryz.prog
  have QO := Aside0.mk (fun (w3 : World) (hb : Below w.heap.size w w3) => handle_of.calls k a0_2 A0_3 c0_3 l0_3 A0_4 c0_4 l0_4 none 0 [] (.slice none 0 0) [] w3.heap.size r1 r2 w (w3.alloc (.map #[] 0)) hr0_3 hc0_3 hr0_4 hc0_4 (fun W' _ => Kd.C_nil _ _) (Nat.le_refl 0) ⟨⟨hb.size, (MapH.made w3).lt⟩, below_alloc hb _, Kept.refl _ _, Kd.S_nil _ _ _ _ _, fun _ h => h, fun k_ hk_ => (by simp [Value.ownBlock] at hk_), MapH.made w3⟩ h)
  clear hr0_1 hc0_1 hr0_3 hc0_3 hr0_4 hc0_4 h
  go_enter Tryz.func39, Tryz.ntmps39
  go_wp2_with (first | ((with_reducible refine gate_dst (N := 1) rfl ?_); refine box_event ?hg (N := 1) ?hd (cs := #[.int .u32 a0_0, .slice A0_1 l0_1.length c0_1, .string a0_2, .slice A0_3 l0_3.length c0_3, .slice A0_4 l0_4.length c0_4]) (t := 29) ?hr ?_; (case hd => rfl); (case hg => rfl); (case hr => first | (go_simp; done) | (go_simp; rfl)); intro g0 hg w3 hbox hb; have HB := Aside0.mk hb; have hc2 := (blk_cell hbox 2).trans rfl; have hc3 := (blk_cell hbox 3).trans rfl; have hc4 := (blk_cell hbox 4).trans rfl; clear hb hbox hg) | (go_at_call 77; refine (QO.out w3 HB.out).mono ?_; rintro en w5 ⟨v, rfl, hR⟩; have HR := Aside0.mk hR; clear hR))
  go_ret2
  exact ⟨_, rfl, Kd.S_mono HR.out.own (fun _ _ => trivial), HR.out.bel⟩
end Go.Proofs.YtkfcgjopabcbeaaGreatDoor.PV

namespace Go.Proofs.YtkfcgjopabcbeaaGreatDoor.PV
open Go.RowKit Go.Proofs.YtkfcgjopabcbeaaGreatDoorW.PrintWords Go.Proofs.YtkfcgjopabcbeaaGreatDoorW.PrintLast Go.Proofs.YtkfcgjopabcbeaaGreatDoorW.PrintMore
attribute [local go_sem] max2_int min2_int max_two min_two max_three min_three max_four min_four   -- for this text's walks alone
set_option linter.unusedVariables false
set_option linter.unusedSimpArgs false
def valid_Known.f (a0 : ByteArray) : Option (Int) := if a0.toList = ([115, 105, 109, 112, 108, 101, 45, 98, 117, 115] : List UInt8) then (some 1) else (if a0.toList = ([97, 114, 98, 111, 114, 44, 114, 97, 109] : List UInt8) then (some 2) else (if a0.toList = ([97, 114, 98, 111, 114, 44, 117, 97, 114, 116] : List UInt8) then (some 3) else (if a0.toList = ([97, 114, 98, 111, 114, 44, 99, 108, 111, 99, 107] : List UInt8) then (some 4) else (if a0.toList = ([97, 114, 98, 111, 114, 44, 103, 112, 105, 111] : List UInt8) then (some 5) else (if a0.toList = ([97, 114, 98, 111, 114, 44, 114, 116, 99] : List UInt8) then (some 6) else (if a0.toList = ([97, 114, 98, 111, 114, 44, 99, 116, 114, 108] : List UInt8) then (some 7) else (some 0)))))))
set_option maxHeartbeats 8000000 in
set_option maxRecDepth 100000 in
theorem valid_Known.calls (a0 : ByteArray) (r : Int) (w : World) (h : valid_Known.f a0 = some r) :
    Calls Tryz.prog 29 #[.string a0] w fun e w' => e = .returned (.int .i64 r) ∧ Drawn0 w w' := by
  have H : (if a0.toList = ([115, 105, 109, 112, 108, 101, 45, 98, 117, 115] : List UInt8) then (some 1) else (if a0.toList = ([97, 114, 98, 111, 114, 44, 114, 97, 109] : List UInt8) then (some 2) else (if a0.toList = ([97, 114, 98, 111, 114, 44, 117, 97, 114, 116] : List UInt8) then (some 3) else (if a0.toList = ([97, 114, 98, 111, 114, 44, 99, 108, 111, 99, 107] : List UInt8) then (some 4) else (if a0.toList = ([97, 114, 98, 111, 114, 44, 103, 112, 105, 111] : List UInt8) then (some 5) else (if a0.toList = ([97, 114, 98, 111, 114, 44, 114, 116, 99] : List UInt8) then (some 6) else (if a0.toList = ([97, 114, 98, 111, 114, 44, 99, 116, 114, 108] : List UInt8) then (some 7) else (some 0)))))))) = some r := h
  clear h
  by_cases c2 : a0.toList = ([115, 105, 109, 112, 108, 101, 45, 98, 117, 115] : List UInt8)
  · rw [if_pos c2] at H
    have c2b0 : (a0.toList == ([115, 105, 109, 112, 108, 101, 45, 98, 117, 115] : List UInt8)) = true := beq_iff_eq.mpr c2
    have c2b1 : (a0.toList != ([115, 105, 109, 112, 108, 101, 45, 98, 117, 115] : List UInt8)) = false := bne_eq_false_iff_eq.mpr c2
    clear c2
    obtain rfl := Option.some.inj H
    go_enter Tryz.func29, Tryz.ntmps29
    go_wp2
    go_ret
    exact ⟨by first | rfl | (simp; done) | (simp [*]; done), by repeat (first | exact Drawn0.refl _ | apply Drawn0.step)⟩
  · rw [if_neg c2] at H
    have c2b0 : (a0.toList == ([115, 105, 109, 112, 108, 101, 45, 98, 117, 115] : List UInt8)) = false := beq_eq_false_iff_ne.mpr c2
    have c2b1 : (a0.toList != ([115, 105, 109, 112, 108, 101, 45, 98, 117, 115] : List UInt8)) = true := bne_iff_ne.mpr c2
    by_cases c3 : a0.toList = ([97, 114, 98, 111, 114, 44, 114, 97, 109] : List UInt8)
    · rw [if_pos c3] at H
      have c3b0 : (a0.toList == ([97, 114, 98, 111, 114, 44, 114, 97, 109] : List UInt8)) = true := beq_iff_eq.mpr c3
      have c3b1 : (a0.toList != ([97, 114, 98, 111, 114, 44, 114, 97, 109] : List UInt8)) = false := bne_eq_false_iff_eq.mpr c3
      clear c3
      obtain rfl := Option.some.inj H
      go_enter Tryz.func29, Tryz.ntmps29
      go_wp2
      go_ret
      exact ⟨by first | rfl | (simp; done) | (simp [*]; done), by repeat (first | exact Drawn0.refl _ | apply Drawn0.step)⟩
    · rw [if_neg c3] at H
      have c3b0 : (a0.toList == ([97, 114, 98, 111, 114, 44, 114, 97, 109] : List UInt8)) = false := beq_eq_false_iff_ne.mpr c3
      have c3b1 : (a0.toList != ([97, 114, 98, 111, 114, 44, 114, 97, 109] : List UInt8)) = true := bne_iff_ne.mpr c3
      by_cases c4 : a0.toList = ([97, 114, 98, 111, 114, 44, 117, 97, 114, 116] : List UInt8)
      · rw [if_pos c4] at H
        have c4b0 : (a0.toList == ([97, 114, 98, 111, 114, 44, 117, 97, 114, 116] : List UInt8)) = true := beq_iff_eq.mpr c4
        have c4b1 : (a0.toList != ([97, 114, 98, 111, 114, 44, 117, 97, 114, 116] : List UInt8)) = false := bne_eq_false_iff_eq.mpr c4
        clear c4
        obtain rfl := Option.some.inj H
        go_enter Tryz.func29, Tryz.ntmps29
        go_wp2
        go_ret
        exact ⟨by first | rfl | (simp; done) | (simp [*]; done), by repeat (first | exact Drawn0.refl _ | apply Drawn0.step)⟩
      · rw [if_neg c4] at H
        have c4b0 : (a0.toList == ([97, 114, 98, 111, 114, 44, 117, 97, 114, 116] : List UInt8)) = false := beq_eq_false_iff_ne.mpr c4
        have c4b1 : (a0.toList != ([97, 114, 98, 111, 114, 44, 117, 97, 114, 116] : List UInt8)) = true := bne_iff_ne.mpr c4
        by_cases c5 : a0.toList = ([97, 114, 98, 111, 114, 44, 99, 108, 111, 99, 107] : List UInt8)
        · rw [if_pos c5] at H
          have c5b0 : (a0.toList == ([97, 114, 98, 111, 114, 44, 99, 108, 111, 99, 107] : List UInt8)) = true := beq_iff_eq.mpr c5
          have c5b1 : (a0.toList != ([97, 114, 98, 111, 114, 44, 99, 108, 111, 99, 107] : List UInt8)) = false := bne_eq_false_iff_eq.mpr c5
          clear c5
          obtain rfl := Option.some.inj H
          go_enter Tryz.func29, Tryz.ntmps29
          go_wp2
          go_ret
          exact ⟨by first | rfl | (simp; done) | (simp [*]; done), by repeat (first | exact Drawn0.refl _ | apply Drawn0.step)⟩
        · rw [if_neg c5] at H
          have c5b0 : (a0.toList == ([97, 114, 98, 111, 114, 44, 99, 108, 111, 99, 107] : List UInt8)) = false := beq_eq_false_iff_ne.mpr c5
          have c5b1 : (a0.toList != ([97, 114, 98, 111, 114, 44, 99, 108, 111, 99, 107] : List UInt8)) = true := bne_iff_ne.mpr c5
          by_cases c6 : a0.toList = ([97, 114, 98, 111, 114, 44, 103, 112, 105, 111] : List UInt8)
          · rw [if_pos c6] at H
            have c6b0 : (a0.toList == ([97, 114, 98, 111, 114, 44, 103, 112, 105, 111] : List UInt8)) = true := beq_iff_eq.mpr c6
            have c6b1 : (a0.toList != ([97, 114, 98, 111, 114, 44, 103, 112, 105, 111] : List UInt8)) = false := bne_eq_false_iff_eq.mpr c6
            clear c6
            obtain rfl := Option.some.inj H
            go_enter Tryz.func29, Tryz.ntmps29
            go_wp2
            go_ret
            exact ⟨by first | rfl | (simp; done) | (simp [*]; done), by repeat (first | exact Drawn0.refl _ | apply Drawn0.step)⟩
          · rw [if_neg c6] at H
            have c6b0 : (a0.toList == ([97, 114, 98, 111, 114, 44, 103, 112, 105, 111] : List UInt8)) = false := beq_eq_false_iff_ne.mpr c6
            have c6b1 : (a0.toList != ([97, 114, 98, 111, 114, 44, 103, 112, 105, 111] : List UInt8)) = true := bne_iff_ne.mpr c6
            by_cases c7 : a0.toList = ([97, 114, 98, 111, 114, 44, 114, 116, 99] : List UInt8)
            · rw [if_pos c7] at H
              have c7b0 : (a0.toList == ([97, 114, 98, 111, 114, 44, 114, 116, 99] : List UInt8)) = true := beq_iff_eq.mpr c7
              have c7b1 : (a0.toList != ([97, 114, 98, 111, 114, 44, 114, 116, 99] : List UInt8)) = false := bne_eq_false_iff_eq.mpr c7
              clear c7
              obtain rfl := Option.some.inj H
              go_enter Tryz.func29, Tryz.ntmps29
              go_wp2
              go_ret
              exact ⟨by first | rfl | (simp; done) | (simp [*]; done), by repeat (first | exact Drawn0.refl _ | apply Drawn0.step)⟩
            · rw [if_neg c7] at H
              have c7b0 : (a0.toList == ([97, 114, 98, 111, 114, 44, 114, 116, 99] : List UInt8)) = false := beq_eq_false_iff_ne.mpr c7
              have c7b1 : (a0.toList != ([97, 114, 98, 111, 114, 44, 114, 116, 99] : List UInt8)) = true := bne_iff_ne.mpr c7
              by_cases c8 : a0.toList = ([97, 114, 98, 111, 114, 44, 99, 116, 114, 108] : List UInt8)
              · rw [if_pos c8] at H
                have c8b0 : (a0.toList == ([97, 114, 98, 111, 114, 44, 99, 116, 114, 108] : List UInt8)) = true := beq_iff_eq.mpr c8
                have c8b1 : (a0.toList != ([97, 114, 98, 111, 114, 44, 99, 116, 114, 108] : List UInt8)) = false := bne_eq_false_iff_eq.mpr c8
                clear c8
                obtain rfl := Option.some.inj H
                go_enter Tryz.func29, Tryz.ntmps29
                go_wp2
                go_ret
                exact ⟨by first | rfl | (simp; done) | (simp [*]; done), by repeat (first | exact Drawn0.refl _ | apply Drawn0.step)⟩
              · rw [if_neg c8] at H
                have c8b0 : (a0.toList == ([97, 114, 98, 111, 114, 44, 99, 116, 114, 108] : List UInt8)) = false := beq_eq_false_iff_ne.mpr c8
                have c8b1 : (a0.toList != ([97, 114, 98, 111, 114, 44, 99, 116, 114, 108] : List UInt8)) = true := bne_iff_ne.mpr c8
                obtain rfl := Option.some.inj H
                go_enter Tryz.func29, Tryz.ntmps29
                go_wp2
                go_ret
                exact ⟨by first | rfl | (simp; done) | (simp [*]; done), by repeat (first | exact Drawn0.refl _ | apply Drawn0.step)⟩
end Go.Proofs.YtkfcgjopabcbeaaGreatDoor.PV

namespace Go.Proofs.YtkfcgjopabcbeaaGreatDoor.PV
open Go.RowKit Go.Proofs.YtkfcgjopabcbeaaGreatDoorW.PrintWords Go.Proofs.YtkfcgjopabcbeaaGreatDoorW.PrintLast Go.Proofs.YtkfcgjopabcbeaaGreatDoorW.PrintMore
attribute [local go_sem] max2_int min2_int max_two min_two max_three min_three max_four min_four   -- for this text's walks alone
set_option linter.unusedVariables false
set_option linter.unusedSimpArgs false
def bytes_Equal.f (l0 : List Int) (l1 : List Int) : Option (Bool) := some ((strOfNums l0).toList == (strOfNums l1).toList)
set_option maxHeartbeats 8000000 in
set_option maxRecDepth 100000 in
theorem bytes_Equal.calls (A0 : Option Addr) (c0 : Nat) (l0 : List Int) (A1 : Option Addr) (c1 : Nat) (l1 : List Int) (r : Bool) (w : World) (hr0 : Kd.C (Kd.int .u8) w A0 l0.length l0) (hc0 : l0.length ≤ c0) (hr1 : Kd.C (Kd.int .u8) w A1 l1.length l1) (hc1 : l1.length ≤ c1) (h : bytes_Equal.f l0 l1 = some r) :
    Calls Tryz.prog 227 #[.slice A0 l0.length c0, .slice A1 l1.length c1] w fun e w' => e = .returned (.bool r) ∧ Drawn0 w w' := by
  have HR0 := Aside0.mk hr0
  have HC0 := Aside0.mk hc0
  clear hr0 hc0
  have HR1 := Aside0.mk hr1
  have HC1 := Aside0.mk hc1
  clear hr1 hc1
  have H : (some ((strOfNums l0).toList == (strOfNums l1).toList)) = some r := h
  clear h
  obtain rfl := Option.some.inj H
  have hcv3 := Kd.C_string (P := Tryz.prog) (A := A0) (c := c0) Tryz.underlying52 Tryz.underlying5 Tryz.underlying9 HR0.out
  have hcv3d := fun nd_ : Nat => Kd.C_string (P := Tryz.prog) (A := A0) (c := c0) Tryz.underlying52 Tryz.underlying5 Tryz.underlying9 (Kd.C_drewN HR0.out nd_)
  have hcv4 := Kd.C_string (P := Tryz.prog) (A := A1) (c := c1) Tryz.underlying52 Tryz.underlying5 Tryz.underlying9 HR1.out
  have hcv4d := fun nd_ : Nat => Kd.C_string (P := Tryz.prog) (A := A1) (c := c1) Tryz.underlying52 Tryz.underlying5 Tryz.underlying9 (Kd.C_drewN HR1.out nd_)
  go_enter Tryz.func227, Tryz.ntmps227
  go_wp2
  go_ret
  exact ⟨by first | rfl | (simp; done) | (simp [*]; done), by repeat (first | exact Drawn0.refl _ | apply Drawn0.step)⟩
end Go.Proofs.YtkfcgjopabcbeaaGreatDoor.PV

namespace Go.Proofs.YtkfcgjopabcbeaaGreatDoor.PV
open Go.RowKit Go.Proofs.YtkfcgjopabcbeaaGreatDoorW.PrintWords Go.Proofs.YtkfcgjopabcbeaaGreatDoorW.PrintLast Go.Proofs.YtkfcgjopabcbeaaGreatDoorW.PrintMore
attribute [local go_sem] max2_int min2_int max_two min_two max_three min_three max_four min_four   -- for this text's walks alone
set_option linter.unusedVariables false
set_option linter.unusedSimpArgs false
def bytes_HasSuffix.f (l0 : List Int) (l1 : List Int) : Option (Bool) := if l1.length ≤ l0.length then bytes_Equal.f (l0.drop (l0.length - l1.length)) l1 else some false
set_option maxRecDepth 100000 in
theorem bytes_HasSuffix.calls (A0 : Option Addr) (c0 : Nat) (l0 : List Int) (A1 : Option Addr) (c1 : Nat) (l1 : List Int) (r : Bool) (w : World) (hr0 : Kd.C (Kd.int .u8) w A0 l0.length l0) (hc0 : l0.length ≤ c0) (hr1 : Kd.C (Kd.int .u8) w A1 l1.length l1) (hc1 : l1.length ≤ c1) (h : bytes_HasSuffix.f l0 l1 = some r) :
    Calls Tryz.prog 213 #[.slice A0 l0.length c0, .slice A1 l1.length c1] w fun e w' => e = .returned (.bool r) ∧ Drawn0 w w' := by
  have hm0 : l0.length ≤ 9223372036854775807 := hr0.2.1
  unfold bytes_HasSuffix.f at h
  by_cases c : l1.length ≤ l0.length
  · rw [if_pos c] at h
    obtain ⟨m, hm⟩ : ∃ m, m = l0.length - l1.length := ⟨_, rfl⟩
    rw [← hm] at h
    obtain ⟨i0, hi0, _, hsz, _⟩ := info_parts info5
    have hcut := cut_from 52 5 .i64 Tryz.underlying52 hi0 1 hsz A0 l0.length c0 (m : Int) (Int.natCast_nonneg m) (by omega)
    have hd := Kd.C_drop (m := m) hr0 (by omega) hc0
    simp only [Int.toNat_natCast] at hcut
    have hdl : (l0.drop m).length = l0.length - m := List.length_drop
    obtain ⟨B, hB⟩ : ∃ B, B = (if c0 = m then A0 else A0.map (·.add (m * 1))) := ⟨_, rfl⟩
    rw [← hB] at hcut
    have hd2 : Kd.C (Kd.int .u8) w B (l0.drop m).length (l0.drop m) := by rw [hB]; exact hd
    have q := bytes_Equal.calls B (c0 - m) (l0.drop m) A1 c1 l1 r w hd2 (by rw [hdl]; omega) hr1 hc1 h
    rw [hdl] at q
    have hj : IntKind.i64.wrap ((l0.length : Int) - (l1.length : Int)) = (m : Int) := by
      rw [i64_w]
      unfold Go.RowKit.wrap64
      omega
    have f1 : decide ((l1.length : Int) ≤ (l0.length : Int)) = true := decide_eq_true (by omega)
    have f2 : decide (l1.length ≤ l0.length) = true := decide_eq_true c
    clear hd hd2 hr0 hr1 hdl hB h c hi0 hsz hm hm0
    go_enter Tryz.func213, Tryz.ntmps213
    go_wp2_with (go_at_call 227; refine q.mono ?_; rintro e w' ⟨rfl, ⟨nd, rfl⟩⟩)
    go_ret
    exact ⟨rfl, ⟨⟨_, rfl⟩⟩⟩
  · rw [if_neg c] at h
    obtain rfl := Option.some.inj h
    have f1 : decide ((l1.length : Int) ≤ (l0.length : Int)) = false := decide_eq_false (by omega)
    have f2 : decide (l1.length ≤ l0.length) = false := decide_eq_false c
    go_enter Tryz.func213, Tryz.ntmps213
    go_wp2
    go_ret
    exact ⟨rfl, Drawn0.refl _⟩
end Go.Proofs.YtkfcgjopabcbeaaGreatDoor.PV

namespace Go.Proofs.YtkfcgjopabcbeaaGreatDoor.PV
open Go.RowKit Go.Proofs.YtkfcgjopabcbeaaGreatDoorW.PrintWords Go.Proofs.YtkfcgjopabcbeaaGreatDoorW.PrintLast Go.Proofs.YtkfcgjopabcbeaaGreatDoorW.PrintMore
attribute [local go_sem] max2_int min2_int max_two min_two max_three min_three max_four min_four   -- for this text's walks alone
set_option linter.unusedVariables false
set_option linter.unusedSimpArgs false
set_option maxRecDepth 100000 in
theorem bytes_CutSuffix.cut (A0 : Option Addr) (c0 : Nat) (l0 : List Int) (A1 : Option Addr) (c1 : Nat) (l1 : List Int) (b : Bool) (w : World) (hr0 : Kd.C (Kd.int .u8) w A0 l0.length l0) (hc0 : l0.length ≤ c0) (hr1 : Kd.C (Kd.int .u8) w A1 l1.length l1) (hc1 : l1.length ≤ c1) (hl : l1.length ≤ l0.length) (h : bytes_HasSuffix.f l0 l1 = some b) :
    Calls Tryz.prog 179 #[.slice A0 l0.length c0, .slice A1 l1.length c1] w fun e w' => e = .returned (.tuple #[.slice A0 (if b = true then l0.length - l1.length else l0.length) c0, .bool b]) ∧ Drawn0 w w' := by
  have hm0 : l0.length ≤ 9223372036854775807 := hr0.2.1
  have q := bytes_HasSuffix.calls A0 c0 l0 A1 c1 l1 b w hr0 hc0 hr1 hc1 h
  obtain ⟨m, hm⟩ : ∃ m, m = l0.length - l1.length := ⟨_, rfl⟩
  obtain ⟨i0, hi0, _, hsz, _⟩ := info_parts info5
  have hcut := cut_to 52 5 .i64 Tryz.underlying52 hi0 A0 l0.length c0 (m : Int) (Int.natCast_nonneg m) (by omega) hc0
  simp only [Int.toNat_natCast] at hcut
  have hj : IntKind.i64.wrap ((l0.length : Int) - (l1.length : Int)) = (m : Int) := by
    rw [i64_w]
    unfold Go.RowKit.wrap64
    omega
  rw [← hm]
  clear hr0 hr1 h hi0 hsz hm0
  cases b with
  | true =>
    go_enter Tryz.func179, Tryz.ntmps179
    go_wp2_with (go_at_call 213; refine q.mono ?_; rintro e w' ⟨rfl, ⟨nd, rfl⟩⟩)
    go_ret2
    exact ⟨rfl, ⟨⟨_, rfl⟩⟩⟩
  | false =>
    go_enter Tryz.func179, Tryz.ntmps179
    go_wp2_with (go_at_call 213; refine q.mono ?_; rintro e w' ⟨rfl, ⟨nd, rfl⟩⟩)
    go_ret2
    exact ⟨rfl, ⟨⟨_, rfl⟩⟩⟩
end Go.Proofs.YtkfcgjopabcbeaaGreatDoor.PV

namespace Go.Proofs.YtkfcgjopabcbeaaGreatDoor.PV
open Go.RowKit Go.Proofs.YtkfcgjopabcbeaaGreatDoorW.PrintWords Go.Proofs.YtkfcgjopabcbeaaGreatDoorW.PrintLast Go.Proofs.YtkfcgjopabcbeaaGreatDoorW.PrintMore
attribute [local go_sem] max2_int min2_int max_two min_two max_three min_three max_four min_four   -- for this text's walks alone
set_option linter.unusedVariables false
set_option linter.unusedSimpArgs false
theorem reps_strings (R : ByteArray → List Value → Prop) (hR : ∀ x, R x [.string x]) : ∀ l : List ByteArray, Reps R 1 l (l.map Value.string) := by
  intro l
  induction l with
  | nil => exact Reps.none _ _
  | cons x l ih => exact Reps.one (hR x) ih
def strings_Split.f (a0 : ByteArray) (a1 : ByteArray) : Option (List ByteArray) := match a1.data.toList with | [_] => if a0.size < 4294967281 then some (Lib.splitB a1 0 (Lib.countB a0 a1) a0) else none | _ => none
set_option maxRecDepth 100000 in
theorem strings_Split.calls (a0 : ByteArray) (a1 : ByteArray) (r : List ByteArray) (w : World) (h : strings_Split.f a0 a1 = some r) :
    Calls Tryz.prog 180 #[.string a0, .string a1] w fun e w' => ∃ v0_ : Value, e = .returned (v0_) ∧ Kd.R Kd.string 9 w' w.heap.size (fun _ => True) v0_ r ∧ Below w.heap.size w w' := by
  unfold strings_Split.f at h
  split at h
  · next c hc =>
    have ha : a1 = ⟨#[c]⟩ := by
      obtain ⟨⟨l⟩⟩ := a1
      simp only at hc
      rw [hc]
    subst ha
    by_cases hs : a0.size < 4294967281
    · rw [if_pos hs] at h
      injection h with h
      have hle := Lib.countB_le ⟨#[c]⟩ (Nat.le_refl 1) a0.size a0 (Nat.le_refl _)
      have hlen := Lib.splitB_all ⟨#[c]⟩ (Nat.le_refl 1) 0 _ a0 rfl
      have hI : ∀ (x : ByteArray) (cs : Array Value), x.size ≤ a0.size → Calls Tryz.prog 230 #[.string x, .string ⟨#[c]⟩] (w.alloc (.cells cs 9)) fun e w' => e = .returned (.int .i64 (Lib.indexB x ⟨#[c]⟩)) ∧ w' = w.alloc (.cells cs 9) := by
        intro x cs _
        refine (Tryz.strings_Index_one x c _).mono ?_
        rintro e w' ⟨rfl, rfl⟩
        refine ⟨?_, rfl⟩
        show _ = Ending.returned (Value.int .i64 (Lib.index x.data.toList [c]))
        rw [Lib.index_one]
      have hC : Calls Tryz.prog 229 #[.string a0, .string ⟨#[c]⟩] w fun e w' => e = .returned (.int .i64 (Lib.countB a0 ⟨#[c]⟩)) ∧ w' = w := by
        refine (Tryz.strings_Count_one a0 c _).mono ?_
        rintro e w' ⟨rfl, rfl⟩
        refine ⟨?_, rfl⟩
        show _ = Ending.returned (Value.int .i64 ((Lib.count a0.data.toList [c] : Nat) : Int))
        rw [Lib.count_one]
        rfl
      have q := Any.strings_genSplit_core Tryz.lays221 (by kernel_rfl) a0 ⟨#[c]⟩ 0 (-1) (Lib.countB a0 ⟨#[c]⟩ + 1) w hs (Nat.le_refl 1) (Nat.zero_le _) hI hC (by decide) (by decide) (by rw [if_pos (by decide)]; omega)
      rw [Nat.add_sub_cancel, hlen] at q
      have e2 : Lib.cellsOf (Lib.splitB ⟨#[c]⟩ 0 (Lib.countB a0 ⟨#[c]⟩) a0) (Lib.countB a0 ⟨#[c]⟩ + 1) = ((Lib.splitB ⟨#[c]⟩ 0 (Lib.countB a0 ⟨#[c]⟩) a0).map Value.string).toArray := by rw [← hlen]; exact Lib.cellsOf_full _
      rw [e2] at q
      have e36 : ∀ args w, (callFunc 214 args).run Tryz.prog w = .ok (.enter 214 args) w := enters_of Tryz.func214 (by kernel_rfl) rfl
      go_enter Tryz.func180, Tryz.ntmps180
      go_wp2_with (go_at_fn 214; refine q.mono ?_; rintro e w' ⟨rfl, hw⟩; rw [hw])
      go_ret
      refine ⟨_, rfl, ?_, below_alloc (Below.refl _ _) _⟩
      subst h
      have hr := OwnRow.lit (R := Kd.string.M (w.alloc (.cells ((Lib.splitB ⟨#[c]⟩ 0 (Lib.countB a0 ⟨#[c]⟩) a0).map Value.string).toArray 9)) w.heap.size (fun k => True ∧ some k ≠ some w.heap.size)) (e := 9) (size := 1) w w.heap.size (reps_strings (Kd.string.M (w.alloc (.cells ((Lib.splitB ⟨#[c]⟩ 0 (Lib.countB a0 ⟨#[c]⟩) a0).map Value.string).toArray 9)) w.heap.size (fun k => True ∧ some k ≠ some w.heap.size)) (fun _ => rfl) (Lib.splitB ⟨#[c]⟩ 0 (Lib.countB a0 ⟨#[c]⟩) a0)) (Nat.le_refl _) (by rw [hlen]; omega)
      rw [hlen] at hr
      exact ⟨fun _ _ => trivial, hr⟩
    · rw [if_neg hs] at h
      cases h
  · cases h
end Go.Proofs.YtkfcgjopabcbeaaGreatDoor.PV

namespace Go.Proofs.YtkfcgjopabcbeaaGreatDoor.PV
open Go.RowKit Go.Proofs.YtkfcgjopabcbeaaGreatDoorW.PrintWords Go.Proofs.YtkfcgjopabcbeaaGreatDoorW.PrintLast Go.Proofs.YtkfcgjopabcbeaaGreatDoorW.PrintMore
attribute [local go_sem] max2_int min2_int max_two min_two max_three min_three max_four min_four   -- for this text's walks alone
set_option linter.unusedVariables false
set_option linter.unusedSimpArgs false
def prop_Texts.f (l0 : List Int) : Option (List ByteArray × Int) := if l0.length = 0 then some ([], 0) else (bytes_HasSuffix.f l0 [0]).bind fun t => if t = true then (strings_Split.f (strOfNums (l0.take (l0.length - 1))) ⟨#[0]⟩).bind fun y => some (y, 0) else some ([], 4)
set_option maxRecDepth 100000 in
theorem prop_Texts.calls (A0 : Option Addr) (c0 : Nat) (l0 : List Int) (r1 : List ByteArray) (r2 : Int) (w : World) (hr0 : Kd.C (Kd.int .u8) w A0 l0.length l0) (hc0 : l0.length ≤ c0) (h : prop_Texts.f l0 = some (r1, r2)) :
    Calls Tryz.prog 126 #[.slice A0 l0.length c0] w fun e w' => ∃ v0_ : Value, e = .returned (.tuple #[v0_, .int .i64 r2]) ∧ Kd.R Kd.string 9 w' w.heap.size (fun _ => True) v0_ r1 ∧ Below w.heap.size w w' := by
  unfold prop_Texts.f at h
  by_cases c : l0.length = 0
  · rw [if_pos c] at h
    simp only [Option.some.injEq, Prod.mk.injEq] at h
    obtain ⟨rfl, rfl⟩ := h
    have f1 : ((l0.length : Int) == 0) = true := by rw [c]; rfl
    clear hr0
    go_enter Tryz.func126, Tryz.ntmps126
    go_wp2
    go_ret2
    exact ⟨_, rfl, Kd.R_nil _ _ _ _ _, Below.refl _ _⟩
  · rw [if_neg c] at h
    have f1 : ((l0.length : Int) == 0) = false := by simpa using c
    obtain ⟨t, ht, h⟩ := Option.bind_eq_some_iff.mp h
    obtain ⟨W1, hW1⟩ : ∃ W1, W1 = w.alloc (.cells #[.int .u8 0] 5) := ⟨_, rfl⟩
    have hB1 : Below w.heap.size w W1 := by rw [hW1]; exact below_alloc (Below.refl _ _) _
    have hr1 : Kd.C (Kd.int .u8) W1 A0 l0.length l0 := Kd.C_below hr0 hB1
    have hr2 : Kd.C (Kd.int .u8) W1 (some ⟨w.heap.size, 0, none⟩) 1 [0] := by
      have hrep : Reps ((Kd.int .u8).M W1 w.heap.size (fun k => True ∧ some k ≠ (Value.slice (some ⟨w.heap.size, 0, none⟩) 1 1).ownBlock)) 1 ([0] : List Int) [.int .u8 0] := Reps.one rfl (Reps.none _ _)
      have hR : (Kd.int .u8).R 5 W1 w.heap.size (fun _ => True) (.slice (some ⟨w.heap.size, 0, none⟩) 1 1) [0] := by
        refine ⟨fun _ _ => trivial, ?_⟩
        have ho := OwnRow.lit (e := 5) w w.heap.size hrep (Nat.le_refl _) (by decide)
        rw [hW1] at ho ⊢
        exact ho
      obtain ⟨A, c, he, _, hC⟩ := Kd.R_reads hR
      injection he with he _ _
      subst he
      exact hC
    have q := bytes_CutSuffix.cut A0 c0 l0 (some ⟨w.heap.size, 0, none⟩) 1 [0] t W1 hr1 hc0 hr2 (Nat.le_refl 1) (by simp only [List.length_cons, List.length_nil]; omega) ht
    simp only [List.length_cons, List.length_nil, Nat.zero_add] at q
    rw [hW1] at q
    cases t with
    | false =>
      simp only [Bool.false_eq_true, if_false, Option.some.injEq, Prod.mk.injEq] at h q
      obtain ⟨rfl, rfl⟩ := h
      clear hr0 hr1 hr2 hW1 hB1 ht
      go_enter Tryz.func126, Tryz.ntmps126
      go_wp2_with (go_at_call 179; refine q.mono ?_; rintro e w' ⟨rfl, ⟨nd, rfl⟩⟩)
      go_ret2
      exact ⟨_, rfl, Kd.R_nil _ _ _ _ _, pw_below_drewN (below_alloc (Below.refl _ _) _) _⟩
    | true =>
      simp only [if_true] at h q
      obtain ⟨y, hy, h⟩ := Option.bind_eq_some_iff.mp h
      simp only [Option.some.injEq, Prod.mk.injEq] at h
      obtain ⟨rfl, rfl⟩ := h
      have hkey : ∀ nd, Kd.C (Kd.int .u8) (W1.drewN nd) A0 (l0.length - 1) (l0.take (l0.length - 1)) := by
        intro nd
        have h1 := Kd.C_take (m := l0.length - 1) (Kd.C_below hr1 (pw_below_drewN (Below.refl _ _) nd)) (by omega)
        rw [List.length_take, Nat.min_eq_left (by omega)] at h1
        exact h1
      have q3 : ∀ nd, (convert 52 9 (.slice A0 (l0.length - 1) c0)).run Tryz.prog ((w.alloc (.cells #[.int .u8 0] 5)).drewN nd) = .ok (.string (strOfNums (l0.take (l0.length - 1)))) ((w.alloc (.cells #[.int .u8 0] 5)).drewN nd) := by
        intro nd
        have h1 := Kd.C_string (P := Tryz.prog) (c := c0) Tryz.underlying52 Tryz.underlying5 Tryz.underlying9 (hkey nd)
        rw [hW1] at h1
        exact h1
      have q4 := fun W => strings_Split.calls (strOfNums (l0.take (l0.length - 1))) ⟨#[0]⟩ y W hy
      clear hr0 hr1 hr2 hW1 hB1 ht hkey hy
      go_enter Tryz.func126, Tryz.ntmps126
      go_wp2_with (first | (go_at_call 179; refine q.mono ?_; rintro e w' ⟨rfl, ⟨nd, rfl⟩⟩) | (go_at_call 180; refine (q4 _).mono ?_; rintro e w' ⟨v, rfl, hv, hb⟩))
      go_ret2
      refine ⟨_, rfl, ?_, ?_⟩
      · exact Kd.R_lower hv (below_size (pw_below_drewN (below_alloc (Below.refl _ _) _) _))
      · exact below_step (pw_below_drewN (below_alloc (Below.refl _ _) _) _) hb
end Go.Proofs.YtkfcgjopabcbeaaGreatDoor.PV

namespace Go.Proofs.YtkfcgjopabcbeaaGreatDoor.PV
open Go.RowKit Go.Proofs.YtkfcgjopabcbeaaGreatDoorW.PrintWords Go.Proofs.YtkfcgjopabcbeaaGreatDoorW.PrintLast Go.Proofs.YtkfcgjopabcbeaaGreatDoorW.PrintMore
attribute [local go_sem] max2_int min2_int max_two min_two max_three min_three max_four min_four   -- for this text's walks alone
set_option linter.unusedVariables false
set_option linter.unusedSimpArgs false
def valid_kind.l0 : Nat → List ByteArray → Int → Int → Option (Int × Bool × Int)
  | 0, _, _, _ => none
  | k + 1, x27, x28, x29 => if x29 < x28 then (if 0 ≤ x29 then (if x29 < (x27.length : Int) then ((valid_Known.f (rdOf ByteArray.empty x27 x29)).bind fun t418 => (if t418 = 0 then (valid_kind.l0 k x27 x28 (wrap64 (x29 + 1))) else (some (t418, false, 0)))) else (none)) else (none)) else (some (0, true, 0))
def valid_kind.f (k : Nat) (a0_0 : ByteArray) (l0_1 : List (S158)) (l0_2 : List (S27)) : Option (Int × Bool × Int) := (tree_Find.f k a0_0 l0_1 l0_2 (⟨#[99, 111, 109, 112, 97, 116, 105, 98, 108, 101]⟩ : ByteArray)).bind fun bt409 => (if bt409.2 = true then ((prop_Texts.f bt409.1).bind fun bt413 => (if bt413.2 = 0 then (valid_kind.l0 k bt413.1 (bt413.1.length : Int) 0) else (some (0, false, bt413.2)))) else (some (0, false, 0)))
set_option maxHeartbeats 8000000 in
set_option maxRecDepth 100000 in
theorem valid_kind.calls (k : Nat) (a0_0 : ByteArray) (A0_1 : Option Addr) (c0_1 : Nat) (l0_1 : List (S158)) (A0_2 : Option Addr) (c0_2 : Nat) (l0_2 : List (S27)) (r1 : Int) (r2 : Bool) (r3 : Int) (w : World) (hr0_1 : Kd.C k158 w A0_1 l0_1.length l0_1) (hc0_1 : l0_1.length ≤ c0_1) (hr0_2 : Kd.C k27 w A0_2 l0_2.length l0_2) (hc0_2 : l0_2.length ≤ c0_2) (h : valid_kind.f k a0_0 l0_1 l0_2 = some (r1, r2, r3)) :
    Calls Tryz.prog 83 #[.agg #[.string a0_0, .slice A0_1 l0_1.length c0_1, .slice A0_2 l0_2.length c0_2]] w fun e w' => e = .returned (.tuple #[.int .i64 r1, .bool r2, .int .i64 r3]) ∧ Below w.heap.size w w' := by
  have hu27 := Tryz.underlying27
  have HR0_1 := Aside0.mk hr0_1
  have HC0_1 := Aside0.mk hc0_1
  clear hr0_1 hc0_1
  have HR0_2 := Aside0.mk hr0_2
  have HC0_2 := Aside0.mk hc0_2
  clear hr0_2 hc0_2
  have HB := Aside0.mk (Below.refl w.heap.size w)
  have H : ((tree_Find.f k a0_0 l0_1 l0_2 (⟨#[99, 111, 109, 112, 97, 116, 105, 98, 108, 101]⟩ : ByteArray)).bind fun bt409 => (if bt409.2 = true then ((prop_Texts.f bt409.1).bind fun bt413 => (if bt413.2 = 0 then (valid_kind.l0 k bt413.1 (bt413.1.length : Int) 0) else (some (0, false, bt413.2)))) else (some (0, false, 0)))) = some (r1, r2, r3) := h
  clear h
  replace H := Option.bind_eq_some_iff.mp H
  obtain ⟨⟨t409, t412⟩, A20, H⟩ := H
  replace H : (if t412 = true then ((prop_Texts.f t409).bind fun bt413 => (if bt413.2 = 0 then (valid_kind.l0 k bt413.1 (bt413.1.length : Int) 0) else (some (0, false, bt413.2)))) else (some (0, false, 0))) = some (r1, r2, r3) := H
  have A2 := Aside0.mk A20
  clear A20
  by_cases c3 : t412 = true
  · subst c3
    have H1 : ((prop_Texts.f t409).bind fun bt413 => (if bt413.2 = 0 then (valid_kind.l0 k bt413.1 (bt413.1.length : Int) 0) else (some (0, false, bt413.2)))) = some (r1, r2, r3) := by rw [if_pos rfl] at H; exact H
    clear H
    have H := H1
    clear H1
    replace H := Option.bind_eq_some_iff.mp H
    obtain ⟨⟨t413, t414⟩, A40, H⟩ := H
    replace H : (if t414 = 0 then (valid_kind.l0 k t413 (t413.length : Int) 0) else (some (0, false, t414))) = some (r1, r2, r3) := H
    have A4 := Aside0.mk A40
    clear A40
    by_cases c5 : t414 = 0
    · rw [if_pos c5] at H
      have c5b0 : (t414 == 0) = true := beq_iff_eq.mpr c5
      have c5b1 : (t414 != 0) = false := bne_eq_false_iff_eq.mpr c5
      clear c5
      have H' := Aside0.mk H
      clear H
      go_enter Tryz.func83, Tryz.ntmps83
      go_wp2_with (first | ((with_reducible refine gate_dst (N := 1) rfl ?_); refine box_event ?hg (N := 1) ?hd (cs := #[.string a0_0, .slice A0_1 l0_1.length c0_1, .slice A0_2 l0_2.length c0_2]) (t := 27) ?hr ?_; (case hd => rfl); (case hg => rfl); (case hr => first | (go_simp; done) | (go_simp; rfl)); intro gb408 hg w6 hbox hb; have n0_ := Aside0.mk (below_step (by repeat (first | (with_reducible first | exact HB.out | apply below_alloc | apply pw_below_drewN | apply below_drew1) | exact HB.out)) hb); have n1_ := Aside0.mk (hbox); have n2_ := Aside0.mk ((by rw [hg]; exact (below_size (by repeat (first | (with_reducible first | exact HB.out | apply below_alloc | apply pw_below_drewN | apply below_drew1) | exact HB.out))) : w.heap.size ≤ gb408)); have n3_ := Aside0.mk ((by rw [hg]; exact (below_size (by repeat (first | (with_reducible first | exact HB.out | apply below_alloc | apply pw_below_drewN | apply below_drew1) | exact HB.out))) : w.heap.size ≤ gb408)); clear HB; have HB := n0_; have BK408 := n1_; have GW408 := n2_; have GE408 := n3_; clear n0_ n1_ n2_ n3_; clear hb hbox hg; have hcz7_0 : w6.cell? ⟨gb408, 0, none⟩ = some (.string a0_0) := (blk_cell BK408.out 0).trans rfl; have hcz7_1 : w6.cell? ⟨gb408, 1, none⟩ = some (.slice A0_1 l0_1.length c0_1) := (blk_cell BK408.out 1).trans rfl; have hcz7_2 : w6.cell? ⟨gb408, 2, none⟩ = some (.slice A0_2 l0_2.length c0_2) := (blk_cell BK408.out 2).trans rfl; have hfz7_0 := blk_frozen BK408.out 0; have hfz7_1 := blk_frozen BK408.out 1; have hfz7_2 := blk_frozen BK408.out 2) | ((with_reducible refine gate_callee (f := 125) rfl ?_); refine goesL_ (some 14) rfl rfl Tryz.func125 (by kernel_rfl) rfl #[.agg #[.string a0_0, .slice A0_1 l0_1.length c0_1, .slice A0_2 l0_2.length c0_2], .string (⟨#[99, 111, 109, 112, 97, 116, 105, 98, 108, 101]⟩ : ByteArray)] rfl (by (try simp only [List.map_toArray, List.map_cons, List.map_nil]); first | done | rfl | (simp only [List.length_drop, List.length_take]; rfl)) ?_; (with_reducible refine (tree_Find.calls k a0_0 _ _ l0_1 _ _ l0_2 (⟨#[99, 111, 109, 112, 97, 116, 105, 98, 108, 101]⟩ : ByteArray) t409 true _ ?side1 ?side2 ?side3 ?side4 A2.out).mono ?_); (case side1 => repeat (first | exact (Kd.C_below HR0_1.out HB.out) | (with_reducible refine Kd.C_alloc ?_ _) | (with_reducible refine Kd.C_drewN ?_ _) | (with_reducible refine Kd.C_drew ?_))); (case side2 => exact HC0_1.out); (case side3 => repeat (first | exact (Kd.C_below HR0_2.out HB.out) | (with_reducible refine Kd.C_alloc ?_ _) | (with_reducible refine Kd.C_drewN ?_ _) | (with_reducible refine Kd.C_drew ?_))); (case side4 => exact HC0_2.out); rintro e w8 ⟨v410, rfl, ho0, hb⟩; refine ⟨_, rfl, ?_⟩; have n0_ := Aside0.mk (Kd.R_lower ho0 (below_size (by repeat (first | (with_reducible first | exact HB.out | apply below_alloc | apply pw_below_drewN | apply below_drew1 | refine below_set ?_ GE408.out) | exact HB.out)))); have n1_ := Aside0.mk (blk_below (g := gb408) (o := .cells #[.string a0_0, .slice A0_1 l0_1.length c0_1, .slice A0_2 l0_2.length c0_2] 27 (0, 0)) (by (with_reducible repeat (first | refine blk_drewN ?_ _ | refine blk_drew ?_ | refine blk_alloc ?_ _)); exact BK408.out) hb); have n2_ := Aside0.mk (below_step (by repeat (first | (with_reducible first | exact HB.out | apply below_alloc | apply pw_below_drewN | apply below_drew1 | refine below_set ?_ GE408.out) | exact HB.out)) hb); clear BK408; clear HB; have HO411 := n0_; have BK408 := n1_; have HB := n2_; clear n0_ n1_ n2_; (try clear hb); (try clear hb2); (try clear hk); (try clear hi); (try clear ho0); obtain ⟨Ao9, co9, eo9⟩ := Kd.R_slice HO411.out; subst eo9) | ((with_reducible refine gate_callee (f := 126) rfl ?_); refine goesL_ (some 21) rfl rfl Tryz.func126 (by kernel_rfl) rfl #[.slice Ao9 t409.length co9] rfl (by (try simp only [List.map_toArray, List.map_cons, List.map_nil]); first | done | rfl | (simp only [List.length_drop, List.length_take]; rfl)) ?_; (with_reducible refine (prop_Texts.calls _ _ t409 t413 t414 _ ?side1 ?side2 A4.out).mono ?_); (case side1 => repeat (first | exact (Kd.R_reads' HO411.out).2.2 | (with_reducible refine Kd.C_alloc ?_ _) | (with_reducible refine Kd.C_drewN ?_ _) | (with_reducible refine Kd.C_drew ?_))); (case side2 => exact (Kd.R_reads' HO411.out).2.1); rintro e w10 ⟨v415, rfl, ho0, hb⟩; refine ⟨_, rfl, ?_⟩; have n0_ := Aside0.mk (Kd.R_below (by (with_reducible repeat (first | apply Kd.R_alloc | apply Kd.R_drewN | apply Kd.R_drew)); exact HO411.out) hb); have n1_ := Aside0.mk (Kd.R_lower ho0 (below_size (by repeat (first | (with_reducible first | exact HB.out | apply below_alloc | apply pw_below_drewN | apply below_drew1 | refine below_set ?_ GE408.out) | exact HB.out)))); have n2_ := Aside0.mk (blk_below (g := gb408) (o := .cells #[.string a0_0, .slice A0_1 l0_1.length c0_1, .slice A0_2 l0_2.length c0_2] 27 (0, 0)) (by (with_reducible repeat (first | refine blk_drewN ?_ _ | refine blk_drew ?_ | refine blk_alloc ?_ _)); exact BK408.out) hb); have n3_ := Aside0.mk (below_step (by repeat (first | (with_reducible first | exact HB.out | apply below_alloc | apply pw_below_drewN | apply below_drew1 | refine below_set ?_ GE408.out) | exact HB.out)) hb); clear HO411; clear BK408; clear HB; have HO411 := n0_; have HO416 := n1_; have BK408 := n2_; have HB := n3_; clear n0_ n1_ n2_ n3_; (try clear hb); (try clear hb2); (try clear hk); (try clear hi); (try clear ho0); obtain ⟨Ao11, co11, eo11⟩ := Kd.R_slice HO416.out; subst eo11))
      go_loopg [29] k (fun kq v29 w' => ∃ (x29_1 : Int), v29 = .int .i64 x29_1 ∧ Aside0 (valid_kind.l0 kq t413 (t413.length : Int) x29_1 = some (r1, r2, r3)) ∧ Aside0 (kq ≤ k) ∧ Aside0 (Kd.R Kd.string 9 w' w.heap.size (fun _ => True) (.slice Ao11 t413.length co11) t413) ∧ Aside0 (w'.heap[gb408]? = some (.cells #[.string a0_0, (.slice A0_1 l0_1.length c0_1), (.slice A0_2 l0_2.length c0_2)] 27 (0, 0))) ∧ Aside0 (Below w.heap.size w w'))
      case atStart => exact ⟨(0), (by first | rfl | (simp; done) | (simp [*]; done)), H', ⟨Nat.le_refl _⟩, ⟨by (with_reducible repeat (first | apply Kd.R_alloc | apply Kd.R_drewN | apply Kd.R_drew)); exact HO416.out⟩, ⟨by (with_reducible repeat (first | refine blk_drewN ?_ _ | refine blk_drew ?_ | refine blk_alloc ?_ _)); exact BK408.out⟩, ⟨by repeat (first | (with_reducible first | exact HB.out | apply below_alloc | apply pw_below_drewN | apply below_drew1 | refine below_set ?_ GE408.out) | exact HB.out)⟩⟩
      case round =>
        clear H'
        try clear c1
        try clear p2
        try clear c3
        try clear c5
        try clear c5b0
        try clear c5b1
        try clear c8
        try clear hcz7_0
        try clear hcz7_1
        try clear hcz7_2
        try clear hfz7_0
        try clear hfz7_1
        try clear hfz7_2
        obtain ⟨x29_1, rfl, HA, HK1, HO_27, BK408, HB⟩ := hrel
        cases gk with
        | zero => exact absurd HA.out (by simp [valid_kind.l0])
        | succ k1 =>
          have H := HA.out
          clear HA
          simp only [valid_kind.l0] at H
          by_cases c12 : x29_1 < (t413.length : Int)
          · rw [if_pos c12] at H
            have c12b0 : decide (x29_1 < (t413.length : Int)) = true := decide_eq_true c12
            clear c12
            by_cases c13 : 0 ≤ x29_1
            · rw [if_pos c13] at H
              have c13b0 : decide (0 ≤ x29_1) = true := decide_eq_true c13
              clear c13
              by_cases c14 : x29_1 < (t413.length : Int)
              · rw [if_pos c14] at H
                have c14b0 : decide (x29_1 < (t413.length : Int)) = true := decide_eq_true c14
                clear c14
                replace H := Option.bind_eq_some_iff.mp H
                obtain ⟨t418, A150, H⟩ := H
                replace H : (if t418 = 0 then (valid_kind.l0 k1 t413 (t413.length : Int) (wrap64 (x29_1 + 1))) else (some (t418, false, 0))) = some (r1, r2, r3) := H
                have A15 := Aside0.mk A150
                clear A150
                by_cases c16 : t418 = 0
                · rw [if_pos c16] at H
                  have c16b0 : (t418 == 0) = true := beq_iff_eq.mpr c16
                  have c16b1 : (t418 != 0) = false := bne_eq_false_iff_eq.mpr c16
                  clear c16
                  have H' := Aside0.mk H
                  clear H
                  have p417 : 0 ≤ (x29_1 : Int) := of_decide_eq_true (by first | (with_reducible assumption) | assumption)
                  have q417 : x29_1 < (t413.length : Int) := of_decide_eq_true (by first | (with_reducible assumption) | assumption)
                  obtain ⟨ad417, e417, hx417_0⟩ := Kd.at_string (Kd.R_reads' HO_27.out).2.2 x29_1 p417 q417
                  cases e417
                  replace p417 := eq_true p417
                  replace q417 := eq_true q417
                  go_wp2_with (first | ((with_reducible refine gate_callee (f := 29) rfl ?_); refine goesL_ (some 34) rfl rfl Tryz.func29 (by kernel_rfl) rfl #[.string (rdOf ByteArray.empty t413 x29_1)] rfl (by (try simp only [List.map_toArray, List.map_cons, List.map_nil]); first | done | rfl | (simp only [List.length_drop, List.length_take]; rfl)) ?_; (with_reducible refine (valid_Known.calls (rdOf ByteArray.empty t413 x29_1) t418 _ A15.out).mono ?_); rintro e w' ⟨rfl, ⟨nd, rfl⟩⟩; refine ⟨_, rfl, ?_⟩))
                  go_roundg k1
                  case measure => have := HK1.out; omega
                  case rel => exact ⟨(wrap64 (x29_1 + 1)), (by first | rfl | (simp; done) | (simp [*]; done)), H', ⟨by have := HK1.out; omega⟩, ⟨by (with_reducible repeat (first | apply Kd.R_alloc | apply Kd.R_drewN | apply Kd.R_drew)); exact HO_27.out⟩, ⟨by (with_reducible repeat (first | refine blk_drewN ?_ _ | refine blk_drew ?_ | refine blk_alloc ?_ _)); exact BK408.out⟩, ⟨by repeat (first | (with_reducible first | exact HB.out | apply below_alloc | apply pw_below_drewN | apply below_drew1 | refine below_set ?_ GE408.out) | exact HB.out)⟩⟩
                · rw [if_neg c16] at H
                  have c16b0 : (t418 == 0) = false := beq_eq_false_iff_ne.mpr c16
                  have c16b1 : (t418 != 0) = true := bne_iff_ne.mpr c16
                  simp only [Option.some.injEq, Prod.mk.injEq] at H
                  obtain ⟨rfl, rfl, rfl⟩ := H
                  have p417 : 0 ≤ (x29_1 : Int) := of_decide_eq_true (by first | (with_reducible assumption) | assumption)
                  have q417 : x29_1 < (t413.length : Int) := of_decide_eq_true (by first | (with_reducible assumption) | assumption)
                  obtain ⟨ad417, e417, hx417_0⟩ := Kd.at_string (Kd.R_reads' HO_27.out).2.2 x29_1 p417 q417
                  cases e417
                  replace p417 := eq_true p417
                  replace q417 := eq_true q417
                  go_wp2_with (first | ((with_reducible refine gate_callee (f := 29) rfl ?_); refine goesL_ (some 34) rfl rfl Tryz.func29 (by kernel_rfl) rfl #[.string (rdOf ByteArray.empty t413 x29_1)] rfl (by (try simp only [List.map_toArray, List.map_cons, List.map_nil]); first | done | rfl | (simp only [List.length_drop, List.length_take]; rfl)) ?_; (with_reducible refine (valid_Known.calls (rdOf ByteArray.empty t413 x29_1) t418 _ A15.out).mono ?_); rintro e w' ⟨rfl, ⟨nd, rfl⟩⟩; refine ⟨_, rfl, ?_⟩))
                  go_ret3
                  exact ⟨by first | rfl | (simp [errW_none, errW_some] <;> rfl) | (simp [*, errW_none, errW_some] <;> rfl), by repeat (first | (with_reducible first | exact HB.out | apply below_alloc | apply pw_below_drewN | apply below_drew1 | refine below_set ?_ GE408.out) | exact HB.out)⟩
              · rw [if_neg c14] at H
                exact absurd H (by simp)
            · rw [if_neg c13] at H
              exact absurd H (by simp)
          · rw [if_neg c12] at H
            have c12b0 : decide (x29_1 < (t413.length : Int)) = false := decide_eq_false c12
            clear c12
            simp only [Option.some.injEq, Prod.mk.injEq] at H
            obtain ⟨rfl, rfl, rfl⟩ := H
            go_wp2
            go_ret3
            exact ⟨by first | rfl | (simp [errW_none, errW_some] <;> rfl) | (simp [*, errW_none, errW_some] <;> rfl), by repeat (first | (with_reducible first | exact HB.out | apply below_alloc | apply pw_below_drewN | apply below_drew1 | refine below_set ?_ GE408.out) | exact HB.out)⟩
    · rw [if_neg c5] at H
      have c5b0 : (t414 == 0) = false := beq_eq_false_iff_ne.mpr c5
      have c5b1 : (t414 != 0) = true := bne_iff_ne.mpr c5
      simp only [Option.some.injEq, Prod.mk.injEq] at H
      obtain ⟨rfl, rfl, rfl⟩ := H
      go_enter Tryz.func83, Tryz.ntmps83
      go_wp2_with (first | ((with_reducible refine gate_dst (N := 1) rfl ?_); refine box_event ?hg (N := 1) ?hd (cs := #[.string a0_0, .slice A0_1 l0_1.length c0_1, .slice A0_2 l0_2.length c0_2]) (t := 27) ?hr ?_; (case hd => rfl); (case hg => rfl); (case hr => first | (go_simp; done) | (go_simp; rfl)); intro gb408 hg w17 hbox hb; have n0_ := Aside0.mk (below_step (by repeat (first | (with_reducible first | exact HB.out | apply below_alloc | apply pw_below_drewN | apply below_drew1) | exact HB.out)) hb); have n1_ := Aside0.mk (hbox); have n2_ := Aside0.mk ((by rw [hg]; exact (below_size (by repeat (first | (with_reducible first | exact HB.out | apply below_alloc | apply pw_below_drewN | apply below_drew1) | exact HB.out))) : w.heap.size ≤ gb408)); have n3_ := Aside0.mk ((by rw [hg]; exact (below_size (by repeat (first | (with_reducible first | exact HB.out | apply below_alloc | apply pw_below_drewN | apply below_drew1) | exact HB.out))) : w.heap.size ≤ gb408)); clear HB; have HB := n0_; have BK408 := n1_; have GW408 := n2_; have GE408 := n3_; clear n0_ n1_ n2_ n3_; clear hb hbox hg; have hcz18_0 : w17.cell? ⟨gb408, 0, none⟩ = some (.string a0_0) := (blk_cell BK408.out 0).trans rfl; have hcz18_1 : w17.cell? ⟨gb408, 1, none⟩ = some (.slice A0_1 l0_1.length c0_1) := (blk_cell BK408.out 1).trans rfl; have hcz18_2 : w17.cell? ⟨gb408, 2, none⟩ = some (.slice A0_2 l0_2.length c0_2) := (blk_cell BK408.out 2).trans rfl; have hfz18_0 := blk_frozen BK408.out 0; have hfz18_1 := blk_frozen BK408.out 1; have hfz18_2 := blk_frozen BK408.out 2) | ((with_reducible refine gate_callee (f := 125) rfl ?_); refine goesL_ (some 14) rfl rfl Tryz.func125 (by kernel_rfl) rfl #[.agg #[.string a0_0, .slice A0_1 l0_1.length c0_1, .slice A0_2 l0_2.length c0_2], .string (⟨#[99, 111, 109, 112, 97, 116, 105, 98, 108, 101]⟩ : ByteArray)] rfl (by (try simp only [List.map_toArray, List.map_cons, List.map_nil]); first | done | rfl | (simp only [List.length_drop, List.length_take]; rfl)) ?_; (with_reducible refine (tree_Find.calls k a0_0 _ _ l0_1 _ _ l0_2 (⟨#[99, 111, 109, 112, 97, 116, 105, 98, 108, 101]⟩ : ByteArray) t409 true _ ?side1 ?side2 ?side3 ?side4 A2.out).mono ?_); (case side1 => repeat (first | exact (Kd.C_below HR0_1.out HB.out) | (with_reducible refine Kd.C_alloc ?_ _) | (with_reducible refine Kd.C_drewN ?_ _) | (with_reducible refine Kd.C_drew ?_))); (case side2 => exact HC0_1.out); (case side3 => repeat (first | exact (Kd.C_below HR0_2.out HB.out) | (with_reducible refine Kd.C_alloc ?_ _) | (with_reducible refine Kd.C_drewN ?_ _) | (with_reducible refine Kd.C_drew ?_))); (case side4 => exact HC0_2.out); rintro e w19 ⟨v410, rfl, ho0, hb⟩; refine ⟨_, rfl, ?_⟩; have n0_ := Aside0.mk (Kd.R_lower ho0 (below_size (by repeat (first | (with_reducible first | exact HB.out | apply below_alloc | apply pw_below_drewN | apply below_drew1 | refine below_set ?_ GE408.out) | exact HB.out)))); have n1_ := Aside0.mk (blk_below (g := gb408) (o := .cells #[.string a0_0, .slice A0_1 l0_1.length c0_1, .slice A0_2 l0_2.length c0_2] 27 (0, 0)) (by (with_reducible repeat (first | refine blk_drewN ?_ _ | refine blk_drew ?_ | refine blk_alloc ?_ _)); exact BK408.out) hb); have n2_ := Aside0.mk (below_step (by repeat (first | (with_reducible first | exact HB.out | apply below_alloc | apply pw_below_drewN | apply below_drew1 | refine below_set ?_ GE408.out) | exact HB.out)) hb); clear BK408; clear HB; have HO411 := n0_; have BK408 := n1_; have HB := n2_; clear n0_ n1_ n2_; (try clear hb); (try clear hb2); (try clear hk); (try clear hi); (try clear ho0); obtain ⟨Ao20, co20, eo20⟩ := Kd.R_slice HO411.out; subst eo20) | ((with_reducible refine gate_callee (f := 126) rfl ?_); refine goesL_ (some 21) rfl rfl Tryz.func126 (by kernel_rfl) rfl #[.slice Ao20 t409.length co20] rfl (by (try simp only [List.map_toArray, List.map_cons, List.map_nil]); first | done | rfl | (simp only [List.length_drop, List.length_take]; rfl)) ?_; (with_reducible refine (prop_Texts.calls _ _ t409 t413 t414 _ ?side1 ?side2 A4.out).mono ?_); (case side1 => repeat (first | exact (Kd.R_reads' HO411.out).2.2 | (with_reducible refine Kd.C_alloc ?_ _) | (with_reducible refine Kd.C_drewN ?_ _) | (with_reducible refine Kd.C_drew ?_))); (case side2 => exact (Kd.R_reads' HO411.out).2.1); rintro e w21 ⟨v415, rfl, ho0, hb⟩; refine ⟨_, rfl, ?_⟩; have n0_ := Aside0.mk (Kd.R_below (by (with_reducible repeat (first | apply Kd.R_alloc | apply Kd.R_drewN | apply Kd.R_drew)); exact HO411.out) hb); have n1_ := Aside0.mk (Kd.R_lower ho0 (below_size (by repeat (first | (with_reducible first | exact HB.out | apply below_alloc | apply pw_below_drewN | apply below_drew1 | refine below_set ?_ GE408.out) | exact HB.out)))); have n2_ := Aside0.mk (blk_below (g := gb408) (o := .cells #[.string a0_0, .slice A0_1 l0_1.length c0_1, .slice A0_2 l0_2.length c0_2] 27 (0, 0)) (by (with_reducible repeat (first | refine blk_drewN ?_ _ | refine blk_drew ?_ | refine blk_alloc ?_ _)); exact BK408.out) hb); have n3_ := Aside0.mk (below_step (by repeat (first | (with_reducible first | exact HB.out | apply below_alloc | apply pw_below_drewN | apply below_drew1 | refine below_set ?_ GE408.out) | exact HB.out)) hb); clear HO411; clear BK408; clear HB; have HO411 := n0_; have HO416 := n1_; have BK408 := n2_; have HB := n3_; clear n0_ n1_ n2_ n3_; (try clear hb); (try clear hb2); (try clear hk); (try clear hi); (try clear ho0)))
      go_ret3
      exact ⟨by first | rfl | (simp [errW_none, errW_some] <;> rfl) | (simp [*, errW_none, errW_some] <;> rfl), by repeat (first | (with_reducible first | exact HB.out | apply below_alloc | apply pw_below_drewN | apply below_drew1 | refine below_set ?_ GE408.out) | exact HB.out)⟩
  · replace c3 := Bool.eq_false_iff.mpr c3
    subst c3
    have H1 : (some (0, false, 0)) = some (r1, r2, r3) := by rw [if_neg (show ¬ (false = true) by decide)] at H; exact H
    clear H
    have H := H1
    clear H1
    simp only [Option.some.injEq, Prod.mk.injEq] at H
    obtain ⟨rfl, rfl, rfl⟩ := H
    go_enter Tryz.func83, Tryz.ntmps83
    go_wp2_with (first | ((with_reducible refine gate_dst (N := 1) rfl ?_); refine box_event ?hg (N := 1) ?hd (cs := #[.string a0_0, .slice A0_1 l0_1.length c0_1, .slice A0_2 l0_2.length c0_2]) (t := 27) ?hr ?_; (case hd => rfl); (case hg => rfl); (case hr => first | (go_simp; done) | (go_simp; rfl)); intro gb408 hg w22 hbox hb; have n0_ := Aside0.mk (below_step (by repeat (first | (with_reducible first | exact HB.out | apply below_alloc | apply pw_below_drewN | apply below_drew1) | exact HB.out)) hb); have n1_ := Aside0.mk (hbox); have n2_ := Aside0.mk ((by rw [hg]; exact (below_size (by repeat (first | (with_reducible first | exact HB.out | apply below_alloc | apply pw_below_drewN | apply below_drew1) | exact HB.out))) : w.heap.size ≤ gb408)); have n3_ := Aside0.mk ((by rw [hg]; exact (below_size (by repeat (first | (with_reducible first | exact HB.out | apply below_alloc | apply pw_below_drewN | apply below_drew1) | exact HB.out))) : w.heap.size ≤ gb408)); clear HB; have HB := n0_; have BK408 := n1_; have GW408 := n2_; have GE408 := n3_; clear n0_ n1_ n2_ n3_; clear hb hbox hg; have hcz23_0 : w22.cell? ⟨gb408, 0, none⟩ = some (.string a0_0) := (blk_cell BK408.out 0).trans rfl; have hcz23_1 : w22.cell? ⟨gb408, 1, none⟩ = some (.slice A0_1 l0_1.length c0_1) := (blk_cell BK408.out 1).trans rfl; have hcz23_2 : w22.cell? ⟨gb408, 2, none⟩ = some (.slice A0_2 l0_2.length c0_2) := (blk_cell BK408.out 2).trans rfl; have hfz23_0 := blk_frozen BK408.out 0; have hfz23_1 := blk_frozen BK408.out 1; have hfz23_2 := blk_frozen BK408.out 2) | ((with_reducible refine gate_callee (f := 125) rfl ?_); refine goesL_ (some 14) rfl rfl Tryz.func125 (by kernel_rfl) rfl #[.agg #[.string a0_0, .slice A0_1 l0_1.length c0_1, .slice A0_2 l0_2.length c0_2], .string (⟨#[99, 111, 109, 112, 97, 116, 105, 98, 108, 101]⟩ : ByteArray)] rfl (by (try simp only [List.map_toArray, List.map_cons, List.map_nil]); first | done | rfl | (simp only [List.length_drop, List.length_take]; rfl)) ?_; (with_reducible refine (tree_Find.calls k a0_0 _ _ l0_1 _ _ l0_2 (⟨#[99, 111, 109, 112, 97, 116, 105, 98, 108, 101]⟩ : ByteArray) t409 false _ ?side1 ?side2 ?side3 ?side4 A2.out).mono ?_); (case side1 => repeat (first | exact (Kd.C_below HR0_1.out HB.out) | (with_reducible refine Kd.C_alloc ?_ _) | (with_reducible refine Kd.C_drewN ?_ _) | (with_reducible refine Kd.C_drew ?_))); (case side2 => exact HC0_1.out); (case side3 => repeat (first | exact (Kd.C_below HR0_2.out HB.out) | (with_reducible refine Kd.C_alloc ?_ _) | (with_reducible refine Kd.C_drewN ?_ _) | (with_reducible refine Kd.C_drew ?_))); (case side4 => exact HC0_2.out); rintro e w24 ⟨v410, rfl, ho0, hb⟩; refine ⟨_, rfl, ?_⟩; have n0_ := Aside0.mk (Kd.R_lower ho0 (below_size (by repeat (first | (with_reducible first | exact HB.out | apply below_alloc | apply pw_below_drewN | apply below_drew1 | refine below_set ?_ GE408.out) | exact HB.out)))); have n1_ := Aside0.mk (blk_below (g := gb408) (o := .cells #[.string a0_0, .slice A0_1 l0_1.length c0_1, .slice A0_2 l0_2.length c0_2] 27 (0, 0)) (by (with_reducible repeat (first | refine blk_drewN ?_ _ | refine blk_drew ?_ | refine blk_alloc ?_ _)); exact BK408.out) hb); have n2_ := Aside0.mk (below_step (by repeat (first | (with_reducible first | exact HB.out | apply below_alloc | apply pw_below_drewN | apply below_drew1 | refine below_set ?_ GE408.out) | exact HB.out)) hb); clear BK408; clear HB; have HO411 := n0_; have BK408 := n1_; have HB := n2_; clear n0_ n1_ n2_; (try clear hb); (try clear hb2); (try clear hk); (try clear hi); (try clear ho0)))
    go_ret3
    exact ⟨by first | rfl | (simp [errW_none, errW_some] <;> rfl) | (simp [*, errW_none, errW_some] <;> rfl), by repeat (first | (with_reducible first | exact HB.out | apply below_alloc | apply pw_below_drewN | apply below_drew1 | refine below_set ?_ GE408.out) | exact HB.out)⟩
end Go.Proofs.YtkfcgjopabcbeaaGreatDoor.PV

namespace Go.Proofs.YtkfcgjopabcbeaaGreatDoor.PV
open Go.RowKit Go.Proofs.YtkfcgjopabcbeaaGreatDoorW.PrintWords Go.Proofs.YtkfcgjopabcbeaaGreatDoorW.PrintLast Go.Proofs.YtkfcgjopabcbeaaGreatDoorW.PrintMore
attribute [local go_sem] max2_int min2_int max_two min_two max_three min_three max_four min_four   -- for this text's walks alone
set_option linter.unusedVariables false
set_option linter.unusedSimpArgs false
def valid_Of.f (k : Nat) (a0_0 : Int) (l0_1 : List (S76)) (a0_2 : ByteArray) (l0_3 : List (S158)) (l0_4 : List (S27)) (l1 : List Int) : Option (Int × Int) := (path_Get.f k a0_0 l0_1 a0_2 l0_3 l0_4 l1).bind fun bt495 => (if bt495.2.2.2 = 0 then ((valid_kind.f k bt495.1 bt495.2.1 bt495.2.2.1).bind fun bt504 => (some (bt504.1, bt504.2.2))) else (some (0, bt495.2.2.2)))
set_option maxHeartbeats 8000000 in
set_option maxRecDepth 100000 in
theorem valid_Of.calls (k : Nat) (a0_0 : Int) (A0_1 : Option Addr) (c0_1 : Nat) (l0_1 : List (S76)) (a0_2 : ByteArray) (A0_3 : Option Addr) (c0_3 : Nat) (l0_3 : List (S158)) (A0_4 : Option Addr) (c0_4 : Nat) (l0_4 : List (S27)) (A1 : Option Addr) (c1 : Nat) (l1 : List Int) (r1 : Int) (r2 : Int) (w : World) (hr0_1 : Kd.C k76 w A0_1 l0_1.length l0_1) (hc0_1 : l0_1.length ≤ c0_1) (hr0_3 : Kd.C k158 w A0_3 l0_3.length l0_3) (hc0_3 : l0_3.length ≤ c0_3) (hr0_4 : Kd.C k27 w A0_4 l0_4.length l0_4) (hc0_4 : l0_4.length ≤ c0_4) (hr1 : Kd.C (Kd.int .i64) w A1 l1.length l1) (hc1 : l1.length ≤ c1) (h : valid_Of.f k a0_0 l0_1 a0_2 l0_3 l0_4 l1 = some (r1, r2)) :
    Calls Tryz.prog 88 #[.agg #[.int .u32 a0_0, .slice A0_1 l0_1.length c0_1, .string a0_2, .slice A0_3 l0_3.length c0_3, .slice A0_4 l0_4.length c0_4], .slice A1 l1.length c1] w fun e w' => e = .returned (.tuple #[.int .i64 r1, .int .i64 r2]) ∧ Below w.heap.size w w' := by
  have hu29 := Tryz.underlying29
  have hu27 := Tryz.underlying27
  have HR0_1 := Aside0.mk hr0_1
  have HC0_1 := Aside0.mk hc0_1
  clear hr0_1 hc0_1
  have HR0_3 := Aside0.mk hr0_3
  have HC0_3 := Aside0.mk hc0_3
  clear hr0_3 hc0_3
  have HR0_4 := Aside0.mk hr0_4
  have HC0_4 := Aside0.mk hc0_4
  clear hr0_4 hc0_4
  have HR1 := Aside0.mk hr1
  have HC1 := Aside0.mk hc1
  clear hr1 hc1
  have HB := Aside0.mk (Below.refl w.heap.size w)
  have H : ((path_Get.f k a0_0 l0_1 a0_2 l0_3 l0_4 l1).bind fun bt495 => (if bt495.2.2.2 = 0 then ((valid_kind.f k bt495.1 bt495.2.1 bt495.2.2.1).bind fun bt504 => (some (bt504.1, bt504.2.2))) else (some (0, bt495.2.2.2)))) = some (r1, r2) := h
  clear h
  replace H := Option.bind_eq_some_iff.mp H
  obtain ⟨⟨t495, t496, t499, t502⟩, A30, H⟩ := H
  replace H : (if t502 = 0 then ((valid_kind.f k t495 t496 t499).bind fun bt504 => (some (bt504.1, bt504.2.2))) else (some (0, t502))) = some (r1, r2) := H
  have A3 := Aside0.mk A30
  clear A30
  by_cases c4 : t502 = 0
  · rw [if_pos c4] at H
    have c4b0 : (t502 == 0) = true := beq_iff_eq.mpr c4
    have c4b1 : (t502 != 0) = false := bne_eq_false_iff_eq.mpr c4
    clear c4
    replace H := Option.bind_eq_some_iff.mp H
    obtain ⟨⟨t504, t505, t506⟩, A50, H⟩ := H
    replace H : (some (t504, t506)) = some (r1, r2) := H
    have A5 := Aside0.mk A50
    clear A50
    simp only [Option.some.injEq, Prod.mk.injEq] at H
    obtain ⟨rfl, rfl⟩ := H
    go_enter Tryz.func88, Tryz.ntmps88
    go_wp2_with (first | ((with_reducible refine gate_dst (N := 2) rfl ?_); refine box_event ?hg (N := 2) ?hd (cs := #[.int .u32 a0_0, .slice A0_1 l0_1.length c0_1, .string a0_2, .slice A0_3 l0_3.length c0_3, .slice A0_4 l0_4.length c0_4]) (t := 29) ?hr ?_; (case hd => rfl); (case hg => rfl); (case hr => first | (go_simp; done) | (go_simp; rfl)); intro gb494 hg w6 hbox hb; have n0_ := Aside0.mk (below_step (by repeat (first | (with_reducible first | exact HB.out | apply below_alloc | apply pw_below_drewN | apply below_drew1) | exact HB.out)) hb); have n1_ := Aside0.mk (hbox); have n2_ := Aside0.mk ((by rw [hg]; exact (below_size (by repeat (first | (with_reducible first | exact HB.out | apply below_alloc | apply pw_below_drewN | apply below_drew1) | exact HB.out))) : w.heap.size ≤ gb494)); have n3_ := Aside0.mk ((by rw [hg]; exact (below_size (by repeat (first | (with_reducible first | exact HB.out | apply below_alloc | apply pw_below_drewN | apply below_drew1) | exact HB.out))) : w.heap.size ≤ gb494)); clear HB; have HB := n0_; have BK494 := n1_; have GW494 := n2_; have GE494 := n3_; clear n0_ n1_ n2_ n3_; clear hb hbox hg; have hcz7_0 : w6.cell? ⟨gb494, 0, none⟩ = some (.int .u32 a0_0) := (blk_cell BK494.out 0).trans rfl; have hcz7_1 : w6.cell? ⟨gb494, 1, none⟩ = some (.slice A0_1 l0_1.length c0_1) := (blk_cell BK494.out 1).trans rfl; have hcz7_2 : w6.cell? ⟨gb494, 2, none⟩ = some (.string a0_2) := (blk_cell BK494.out 2).trans rfl; have hcz7_3 : w6.cell? ⟨gb494, 3, none⟩ = some (.slice A0_3 l0_3.length c0_3) := (blk_cell BK494.out 3).trans rfl; have hcz7_4 : w6.cell? ⟨gb494, 4, none⟩ = some (.slice A0_4 l0_4.length c0_4) := (blk_cell BK494.out 4).trans rfl; have hfz7_0 := blk_frozen BK494.out 0; have hfz7_1 := blk_frozen BK494.out 1; have hfz7_2 := blk_frozen BK494.out 2; have hfz7_3 := blk_frozen BK494.out 3; have hfz7_4 := blk_frozen BK494.out 4) | ((with_reducible refine gate_callee (f := 80) rfl ?_); refine goesL_ (some 13) rfl rfl Tryz.func80 (by kernel_rfl) rfl #[.agg #[.int .u32 a0_0, .slice A0_1 l0_1.length c0_1, .string a0_2, .slice A0_3 l0_3.length c0_3, .slice A0_4 l0_4.length c0_4], .slice A1 l1.length c1] rfl (by (try simp only [List.map_toArray, List.map_cons, List.map_nil]); first | done | rfl | (simp only [List.length_drop, List.length_take]; rfl)) ?_; (with_reducible refine (path_Get.calls k a0_0 _ _ l0_1 a0_2 (fun k_ => k_ < w.heap.size) _ _ l0_3 (fun k_ => k_ < w.heap.size) _ _ l0_4 _ _ l1 t495 t496 t499 t502 _ ?side1 ?side2 ?side3 ?side4 ?side5 ?side6 A3.out).mono ?_); (case side1 => repeat (first | exact (Kd.C_below HR0_1.out HB.out) | (with_reducible refine Kd.C_alloc ?_ _) | (with_reducible refine Kd.C_drewN ?_ _) | (with_reducible refine Kd.C_drew ?_))); (case side2 => exact HC0_1.out); (case side3 => exact Kd.V_mk HC0_3.out (Kd.F_below (Kd.C_F k158_heap HR0_3.out) (by repeat (first | (with_reducible first | exact HB.out | apply below_alloc | apply pw_below_drewN | apply below_drew1 | refine below_set ?_ GE494.out) | exact HB.out)))); (case side4 => exact Kd.V_mk HC0_4.out (Kd.F_below (Kd.C_F k27_heap HR0_4.out) (by repeat (first | (with_reducible first | exact HB.out | apply below_alloc | apply pw_below_drewN | apply below_drew1 | refine below_set ?_ GE494.out) | exact HB.out)))); (case side5 => repeat (first | exact (Kd.C_below HR1.out HB.out) | (with_reducible refine Kd.C_alloc ?_ _) | (with_reducible refine Kd.C_drewN ?_ _) | (with_reducible refine Kd.C_drew ?_))); (case side6 => exact HC1.out); rintro e w8 ⟨v497, v500, rfl, ho0, ho1, hb⟩; refine ⟨_, rfl, ?_⟩; have n0_ := Aside0.mk (Kd.S_lower (Kd.S_mono (ok' := fun k_ => True) ho0 (fun _ hk_ => trivial)) (below_size (by repeat (first | (with_reducible first | exact HB.out | apply below_alloc | apply pw_below_drewN | apply below_drew1 | refine below_set ?_ GE494.out) | exact HB.out)))); have n1_ := Aside0.mk (Kd.R_lower (Kd.R_mono (ok' := fun k_ => some k_ ≠ (v497 : Value).ownBlock) ho1 (fun _ hk_ => hk_.2)) (below_size (by repeat (first | (with_reducible first | exact HB.out | apply below_alloc | apply pw_below_drewN | apply below_drew1 | refine below_set ?_ GE494.out) | exact HB.out)))); have n2_ := Aside0.mk (blk_below (g := gb494) (o := .cells #[.int .u32 a0_0, .slice A0_1 l0_1.length c0_1, .string a0_2, .slice A0_3 l0_3.length c0_3, .slice A0_4 l0_4.length c0_4] 29 (0, 0)) (by (with_reducible repeat (first | refine blk_drewN ?_ _ | refine blk_drew ?_ | refine blk_alloc ?_ _)); exact BK494.out) hb); have n3_ := Aside0.mk (below_step (by repeat (first | (with_reducible first | exact HB.out | apply below_alloc | apply pw_below_drewN | apply below_drew1 | refine below_set ?_ GE494.out) | exact HB.out)) hb); clear BK494; clear HB; have HO498 := n0_; have HO501 := n1_; have BK494 := n2_; have HB := n3_; clear n0_ n1_ n2_ n3_; (try clear hb); (try clear hb2); (try clear hk); (try clear hi); (try clear ho0); (try clear ho1)) | ((with_reducible refine gate_dst (N := 6) rfl ?_); refine box_event ?hg (N := 6) ?hd (cs := #[.string (⟨#[]⟩ : ByteArray), .slice none 0 0, .slice none 0 0]) (t := 27) ?hr ?_; (case hd => rfl); (case hg => rfl); (case hr => first | (go_simp; done) | (go_simp; rfl)); intro gb503 hg w9 hbox hb; have n0_ := Aside0.mk (Kd.S_below (by (with_reducible repeat (first | apply Kd.S_alloc | apply Kd.S_drewN | apply Kd.S_drew)); exact HO498.out) hb); have n1_ := Aside0.mk (Kd.R_below (Kd.R_elderB (by (with_reducible repeat (first | apply Kd.R_alloc | apply Kd.R_drewN | apply Kd.R_drew)); exact HO501.out) gb503 (Nat.le_of_eq hg.symm)) hb); have n2_ := Aside0.mk (blk_below (g := gb494) (o := .cells #[.int .u32 a0_0, .slice A0_1 l0_1.length c0_1, .string a0_2, .slice A0_3 l0_3.length c0_3, .slice A0_4 l0_4.length c0_4] 29 (0, 0)) (by (with_reducible repeat (first | refine blk_drewN ?_ _ | refine blk_drew ?_ | refine blk_alloc ?_ _)); exact BK494.out) hb); have n3_ := Aside0.mk (below_step (by repeat (first | (with_reducible first | exact HB.out | apply below_alloc | apply pw_below_drewN | apply below_drew1 | refine below_set ?_ GE494.out) | exact HB.out)) hb); have n4_ := Aside0.mk (hbox); have n5_ := Aside0.mk ((by rw [hg]; exact (below_size (by repeat (first | (with_reducible first | exact HB.out | apply below_alloc | apply pw_below_drewN | apply below_drew1 | refine below_set ?_ GE494.out) | exact HB.out))) : w.heap.size ≤ gb503)); have n6_ := Aside0.mk ((by rw [hg]; exact (below_size (by repeat (first | (with_reducible first | exact HB.out | apply below_alloc | apply pw_below_drewN | apply below_drew1 | refine below_set ?_ GE494.out) | exact HB.out))) : w.heap.size ≤ gb503)); have n7_ := Aside0.mk ((by rw [hg]; exact Nat.ne_of_lt (blk_lt (g := gb494) (o := .cells #[.int .u32 a0_0, .slice A0_1 l0_1.length c0_1, .string a0_2, .slice A0_3 l0_3.length c0_3, .slice A0_4 l0_4.length c0_4] 29 (0, 0)) (by (with_reducible repeat (first | refine blk_drewN ?_ _ | refine blk_drew ?_ | refine blk_alloc ?_ _)); exact BK494.out)) : gb494 ≠ gb503)); have n8_ := Aside0.mk ((by rw [hg]; exact Nat.ne_of_gt (blk_lt (g := gb494) (o := .cells #[.int .u32 a0_0, .slice A0_1 l0_1.length c0_1, .string a0_2, .slice A0_3 l0_3.length c0_3, .slice A0_4 l0_4.length c0_4] 29 (0, 0)) (by (with_reducible repeat (first | refine blk_drewN ?_ _ | refine blk_drew ?_ | refine blk_alloc ?_ _)); exact BK494.out)) : gb503 ≠ gb494)); clear HO498; clear HO501; clear BK494; clear HB; have HO498 := n0_; have HO501 := n1_; have BK494 := n2_; have HB := n3_; have BK503 := n4_; have GW503 := n5_; have GE503 := n6_; have NB494_503 := n7_; have NB503_494 := n8_; clear n0_ n1_ n2_ n3_ n4_ n5_ n6_ n7_ n8_; clear hb hbox hg; have hnb10 := NB503_494.out; have hnc10 := NB494_503.out; have hcz11_0 : w9.cell? ⟨gb503, 0, none⟩ = some (.string (⟨#[]⟩ : ByteArray)) := (blk_cell BK503.out 0).trans rfl; have hcz11_1 : w9.cell? ⟨gb503, 1, none⟩ = some (.slice none 0 0) := (blk_cell BK503.out 1).trans rfl; have hcz11_2 : w9.cell? ⟨gb503, 2, none⟩ = some (.slice none 0 0) := (blk_cell BK503.out 2).trans rfl; have hfz11_0 := blk_frozen BK503.out 0; have hfz11_1 := blk_frozen BK503.out 1; have hfz11_2 := blk_frozen BK503.out 2; obtain ⟨Ao12, co12, eo12⟩ := Kd.S_slice HO498.out; subst eo12; obtain ⟨Ao13, co13, eo13⟩ := Kd.R_slice HO501.out; subst eo13) | ((with_reducible refine gate_callee (f := 83) rfl ?_); refine goesL_ (some 21) rfl rfl Tryz.func83 (by kernel_rfl) rfl #[.agg #[.string t495, .slice Ao12 t496.length co12, .slice Ao13 t499.length co13]] rfl (by (try simp only [List.map_toArray, List.map_cons, List.map_nil]); first | done | rfl | (simp only [List.length_drop, List.length_take]; rfl)) ?_; (with_reducible refine (valid_kind.calls k t495 _ _ t496 _ _ t499 t504 t505 t506 _ ?side1 ?side2 ?side3 ?side4 A5.out).mono ?_); (case side1 => refine (Kd.S_reads' (e := 158) (base := w.heap.size) (ok := fun k_ => True) (n := t496.length) (c := co12) ?_).2.2; exact (by (with_reducible repeat (first | apply Kd.S_alloc | apply Kd.S_drewN | apply Kd.S_drew)); exact (Kd.S_mono (Kd.S_far (p := ⟨gb503, 2, none⟩) (Kd.S_far (p := ⟨gb503, 1, none⟩) (Kd.S_far (p := ⟨gb503, 0, none⟩) (Kd.S_types HO498.out BK503.out (by decide)) (fun _ hk => hk.2) (.string t495)) (fun _ hk => hk.2) (.slice Ao12 t496.length co12)) (fun _ hk => hk.2) (.slice Ao13 t499.length co13)) (fun _ h_ => h_.1)))); (case side2 => exact (Kd.S_reads' HO498.out).2.1); (case side3 => refine (Kd.R_reads' (e := 27) (base := w.heap.size) (ok := fun k_ => (some k_ ≠ (.slice Ao12 t496.length co12 : Value).ownBlock ∧ k_ ≠ gb503)) (n := t499.length) (c := co13) ?_).2.2; exact (by (with_reducible repeat (first | apply Kd.R_alloc | apply Kd.R_drewN | apply Kd.R_drew)); exact (Kd.R_mono (Kd.R_far (p := ⟨gb503, 2, none⟩) (Kd.R_far (p := ⟨gb503, 1, none⟩) (Kd.R_far (p := ⟨gb503, 0, none⟩) (Kd.R_mono HO501.out (fun k_ hk => (⟨hk, hk.2⟩ : _ ∧ k_ ≠ gb503))) (fun _ hk => hk.2) (.string t495)) (fun _ hk => hk.2) (.slice Ao12 t496.length co12)) (fun _ hk => hk.2) (.slice Ao13 t499.length co13)) (fun _ h_ => h_.1)))); (case side4 => exact (Kd.R_reads' HO501.out).2.1); rintro e w14 ⟨rfl, hb⟩; refine ⟨_, rfl, ?_⟩; have n0_ := Aside0.mk (Kd.S_below (by (with_reducible repeat (first | apply Kd.S_alloc | apply Kd.S_drewN | apply Kd.S_drew)); exact (Kd.S_mono (Kd.S_far (p := ⟨gb503, 2, none⟩) (Kd.S_far (p := ⟨gb503, 1, none⟩) (Kd.S_far (p := ⟨gb503, 0, none⟩) (Kd.S_types HO498.out BK503.out (by decide)) (fun _ hk => hk.2) (.string t495)) (fun _ hk => hk.2) (.slice Ao12 t496.length co12)) (fun _ hk => hk.2) (.slice Ao13 t499.length co13)) (fun _ h_ => h_.1))) hb); have n1_ := Aside0.mk (Kd.R_below (by (with_reducible repeat (first | apply Kd.R_alloc | apply Kd.R_drewN | apply Kd.R_drew)); exact (Kd.R_mono (Kd.R_far (p := ⟨gb503, 2, none⟩) (Kd.R_far (p := ⟨gb503, 1, none⟩) (Kd.R_far (p := ⟨gb503, 0, none⟩) (Kd.R_mono HO501.out (fun k_ hk => (⟨hk, hk.2⟩ : _ ∧ k_ ≠ gb503))) (fun _ hk => hk.2) (.string t495)) (fun _ hk => hk.2) (.slice Ao12 t496.length co12)) (fun _ hk => hk.2) (.slice Ao13 t499.length co13)) (fun _ h_ => h_.1))) hb); have n2_ := Aside0.mk (blk_below (g := gb494) (o := .cells #[.int .u32 a0_0, .slice A0_1 l0_1.length c0_1, .string a0_2, .slice A0_3 l0_3.length c0_3, .slice A0_4 l0_4.length c0_4] 29 (0, 0)) (by (with_reducible repeat (first | refine blk_drewN ?_ _ | refine blk_drew ?_ | refine blk_alloc ?_ _)); refine blk_far ?_ NB494_503.out _; (with_reducible repeat (first | refine blk_drewN ?_ _ | refine blk_drew ?_ | refine blk_alloc ?_ _)); refine blk_far ?_ NB494_503.out _; (with_reducible repeat (first | refine blk_drewN ?_ _ | refine blk_drew ?_ | refine blk_alloc ?_ _)); refine blk_far ?_ NB494_503.out _; (with_reducible repeat (first | refine blk_drewN ?_ _ | refine blk_drew ?_ | refine blk_alloc ?_ _)); exact BK494.out) hb); have n3_ := Aside0.mk (blk_below (g := gb503) (o := .cells #[.string t495, .slice Ao12 t496.length co12, .slice Ao13 t499.length co13] 27 (0, 0)) (by (with_reducible repeat (first | refine blk_drewN ?_ _ | refine blk_drew ?_ | refine blk_alloc ?_ _)); refine blk_put (cs := #[.string t495, .slice Ao12 t496.length co12, .slice none 0 0]) ?_ 2 _ rfl; (with_reducible repeat (first | refine blk_drewN ?_ _ | refine blk_drew ?_ | refine blk_alloc ?_ _)); refine blk_put (cs := #[.string t495, .slice none 0 0, .slice none 0 0]) ?_ 1 _ rfl; (with_reducible repeat (first | refine blk_drewN ?_ _ | refine blk_drew ?_ | refine blk_alloc ?_ _)); refine blk_put (cs := #[.string (⟨#[]⟩ : ByteArray), .slice none 0 0, .slice none 0 0]) ?_ 0 _ rfl; (with_reducible repeat (first | refine blk_drewN ?_ _ | refine blk_drew ?_ | refine blk_alloc ?_ _)); exact BK503.out) hb); have n4_ := Aside0.mk (below_step (by repeat (first | (with_reducible first | exact HB.out | apply below_alloc | apply pw_below_drewN | apply below_drew1 | refine below_set ?_ GE494.out | refine below_set ?_ GE503.out) | exact HB.out)) hb); clear HO498; clear HO501; clear BK494; clear BK503; clear HB; have HO498 := n0_; have HO501 := n1_; have BK494 := n2_; have BK503 := n3_; have HB := n4_; clear n0_ n1_ n2_ n3_ n4_; (try clear hb); (try clear hb2); (try clear hk); (try clear hi)))
    go_ret2
    exact ⟨by first | rfl | (simp [errW_none, errW_some] <;> rfl) | (simp [*, errW_none, errW_some] <;> rfl), by repeat (first | (with_reducible first | exact HB.out | apply below_alloc | apply pw_below_drewN | apply below_drew1 | refine below_set ?_ GE494.out | refine below_set ?_ GE503.out) | exact HB.out)⟩
  · rw [if_neg c4] at H
    have c4b0 : (t502 == 0) = false := beq_eq_false_iff_ne.mpr c4
    have c4b1 : (t502 != 0) = true := bne_iff_ne.mpr c4
    simp only [Option.some.injEq, Prod.mk.injEq] at H
    obtain ⟨rfl, rfl⟩ := H
    go_enter Tryz.func88, Tryz.ntmps88
    go_wp2_with (first | ((with_reducible refine gate_dst (N := 2) rfl ?_); refine box_event ?hg (N := 2) ?hd (cs := #[.int .u32 a0_0, .slice A0_1 l0_1.length c0_1, .string a0_2, .slice A0_3 l0_3.length c0_3, .slice A0_4 l0_4.length c0_4]) (t := 29) ?hr ?_; (case hd => rfl); (case hg => rfl); (case hr => first | (go_simp; done) | (go_simp; rfl)); intro gb494 hg w15 hbox hb; have n0_ := Aside0.mk (below_step (by repeat (first | (with_reducible first | exact HB.out | apply below_alloc | apply pw_below_drewN | apply below_drew1) | exact HB.out)) hb); have n1_ := Aside0.mk (hbox); have n2_ := Aside0.mk ((by rw [hg]; exact (below_size (by repeat (first | (with_reducible first | exact HB.out | apply below_alloc | apply pw_below_drewN | apply below_drew1) | exact HB.out))) : w.heap.size ≤ gb494)); have n3_ := Aside0.mk ((by rw [hg]; exact (below_size (by repeat (first | (with_reducible first | exact HB.out | apply below_alloc | apply pw_below_drewN | apply below_drew1) | exact HB.out))) : w.heap.size ≤ gb494)); clear HB; have HB := n0_; have BK494 := n1_; have GW494 := n2_; have GE494 := n3_; clear n0_ n1_ n2_ n3_; clear hb hbox hg; have hcz16_0 : w15.cell? ⟨gb494, 0, none⟩ = some (.int .u32 a0_0) := (blk_cell BK494.out 0).trans rfl; have hcz16_1 : w15.cell? ⟨gb494, 1, none⟩ = some (.slice A0_1 l0_1.length c0_1) := (blk_cell BK494.out 1).trans rfl; have hcz16_2 : w15.cell? ⟨gb494, 2, none⟩ = some (.string a0_2) := (blk_cell BK494.out 2).trans rfl; have hcz16_3 : w15.cell? ⟨gb494, 3, none⟩ = some (.slice A0_3 l0_3.length c0_3) := (blk_cell BK494.out 3).trans rfl; have hcz16_4 : w15.cell? ⟨gb494, 4, none⟩ = some (.slice A0_4 l0_4.length c0_4) := (blk_cell BK494.out 4).trans rfl; have hfz16_0 := blk_frozen BK494.out 0; have hfz16_1 := blk_frozen BK494.out 1; have hfz16_2 := blk_frozen BK494.out 2; have hfz16_3 := blk_frozen BK494.out 3; have hfz16_4 := blk_frozen BK494.out 4) | ((with_reducible refine gate_callee (f := 80) rfl ?_); refine goesL_ (some 13) rfl rfl Tryz.func80 (by kernel_rfl) rfl #[.agg #[.int .u32 a0_0, .slice A0_1 l0_1.length c0_1, .string a0_2, .slice A0_3 l0_3.length c0_3, .slice A0_4 l0_4.length c0_4], .slice A1 l1.length c1] rfl (by (try simp only [List.map_toArray, List.map_cons, List.map_nil]); first | done | rfl | (simp only [List.length_drop, List.length_take]; rfl)) ?_; (with_reducible refine (path_Get.calls k a0_0 _ _ l0_1 a0_2 (fun k_ => k_ < w.heap.size) _ _ l0_3 (fun k_ => k_ < w.heap.size) _ _ l0_4 _ _ l1 t495 t496 t499 t502 _ ?side1 ?side2 ?side3 ?side4 ?side5 ?side6 A3.out).mono ?_); (case side1 => repeat (first | exact (Kd.C_below HR0_1.out HB.out) | (with_reducible refine Kd.C_alloc ?_ _) | (with_reducible refine Kd.C_drewN ?_ _) | (with_reducible refine Kd.C_drew ?_))); (case side2 => exact HC0_1.out); (case side3 => exact Kd.V_mk HC0_3.out (Kd.F_below (Kd.C_F k158_heap HR0_3.out) (by repeat (first | (with_reducible first | exact HB.out | apply below_alloc | apply pw_below_drewN | apply below_drew1 | refine below_set ?_ GE494.out) | exact HB.out)))); (case side4 => exact Kd.V_mk HC0_4.out (Kd.F_below (Kd.C_F k27_heap HR0_4.out) (by repeat (first | (with_reducible first | exact HB.out | apply below_alloc | apply pw_below_drewN | apply below_drew1 | refine below_set ?_ GE494.out) | exact HB.out)))); (case side5 => repeat (first | exact (Kd.C_below HR1.out HB.out) | (with_reducible refine Kd.C_alloc ?_ _) | (with_reducible refine Kd.C_drewN ?_ _) | (with_reducible refine Kd.C_drew ?_))); (case side6 => exact HC1.out); rintro e w17 ⟨v497, v500, rfl, ho0, ho1, hb⟩; refine ⟨_, rfl, ?_⟩; have n0_ := Aside0.mk (Kd.S_lower (Kd.S_mono (ok' := fun k_ => True) ho0 (fun _ hk_ => trivial)) (below_size (by repeat (first | (with_reducible first | exact HB.out | apply below_alloc | apply pw_below_drewN | apply below_drew1 | refine below_set ?_ GE494.out) | exact HB.out)))); have n1_ := Aside0.mk (Kd.R_lower (Kd.R_mono (ok' := fun k_ => some k_ ≠ (v497 : Value).ownBlock) ho1 (fun _ hk_ => hk_.2)) (below_size (by repeat (first | (with_reducible first | exact HB.out | apply below_alloc | apply pw_below_drewN | apply below_drew1 | refine below_set ?_ GE494.out) | exact HB.out)))); have n2_ := Aside0.mk (blk_below (g := gb494) (o := .cells #[.int .u32 a0_0, .slice A0_1 l0_1.length c0_1, .string a0_2, .slice A0_3 l0_3.length c0_3, .slice A0_4 l0_4.length c0_4] 29 (0, 0)) (by (with_reducible repeat (first | refine blk_drewN ?_ _ | refine blk_drew ?_ | refine blk_alloc ?_ _)); exact BK494.out) hb); have n3_ := Aside0.mk (below_step (by repeat (first | (with_reducible first | exact HB.out | apply below_alloc | apply pw_below_drewN | apply below_drew1 | refine below_set ?_ GE494.out) | exact HB.out)) hb); clear BK494; clear HB; have HO498 := n0_; have HO501 := n1_; have BK494 := n2_; have HB := n3_; clear n0_ n1_ n2_ n3_; (try clear hb); (try clear hb2); (try clear hk); (try clear hi); (try clear ho0); (try clear ho1)) | ((with_reducible refine gate_dst (N := 6) rfl ?_); refine box_event ?hg (N := 6) ?hd (cs := #[.string (⟨#[]⟩ : ByteArray), .slice none 0 0, .slice none 0 0]) (t := 27) ?hr ?_; (case hd => rfl); (case hg => rfl); (case hr => first | (go_simp; done) | (go_simp; rfl)); intro gb503 hg w18 hbox hb; have n0_ := Aside0.mk (Kd.S_below (by (with_reducible repeat (first | apply Kd.S_alloc | apply Kd.S_drewN | apply Kd.S_drew)); exact HO498.out) hb); have n1_ := Aside0.mk (Kd.R_below (Kd.R_elderB (by (with_reducible repeat (first | apply Kd.R_alloc | apply Kd.R_drewN | apply Kd.R_drew)); exact HO501.out) gb503 (Nat.le_of_eq hg.symm)) hb); have n2_ := Aside0.mk (blk_below (g := gb494) (o := .cells #[.int .u32 a0_0, .slice A0_1 l0_1.length c0_1, .string a0_2, .slice A0_3 l0_3.length c0_3, .slice A0_4 l0_4.length c0_4] 29 (0, 0)) (by (with_reducible repeat (first | refine blk_drewN ?_ _ | refine blk_drew ?_ | refine blk_alloc ?_ _)); exact BK494.out) hb); have n3_ := Aside0.mk (below_step (by repeat (first | (with_reducible first | exact HB.out | apply below_alloc | apply pw_below_drewN | apply below_drew1 | refine below_set ?_ GE494.out) | exact HB.out)) hb); have n4_ := Aside0.mk (hbox); have n5_ := Aside0.mk ((by rw [hg]; exact (below_size (by repeat (first | (with_reducible first | exact HB.out | apply below_alloc | apply pw_below_drewN | apply below_drew1 | refine below_set ?_ GE494.out) | exact HB.out))) : w.heap.size ≤ gb503)); have n6_ := Aside0.mk ((by rw [hg]; exact (below_size (by repeat (first | (with_reducible first | exact HB.out | apply below_alloc | apply pw_below_drewN | apply below_drew1 | refine below_set ?_ GE494.out) | exact HB.out))) : w.heap.size ≤ gb503)); have n7_ := Aside0.mk ((by rw [hg]; exact Nat.ne_of_lt (blk_lt (g := gb494) (o := .cells #[.int .u32 a0_0, .slice A0_1 l0_1.length c0_1, .string a0_2, .slice A0_3 l0_3.length c0_3, .slice A0_4 l0_4.length c0_4] 29 (0, 0)) (by (with_reducible repeat (first | refine blk_drewN ?_ _ | refine blk_drew ?_ | refine blk_alloc ?_ _)); exact BK494.out)) : gb494 ≠ gb503)); have n8_ := Aside0.mk ((by rw [hg]; exact Nat.ne_of_gt (blk_lt (g := gb494) (o := .cells #[.int .u32 a0_0, .slice A0_1 l0_1.length c0_1, .string a0_2, .slice A0_3 l0_3.length c0_3, .slice A0_4 l0_4.length c0_4] 29 (0, 0)) (by (with_reducible repeat (first | refine blk_drewN ?_ _ | refine blk_drew ?_ | refine blk_alloc ?_ _)); exact BK494.out)) : gb503 ≠ gb494)); clear HO498; clear HO501; clear BK494; clear HB; have HO498 := n0_; have HO501 := n1_; have BK494 := n2_; have HB := n3_; have BK503 := n4_; have GW503 := n5_; have GE503 := n6_; have NB494_503 := n7_; have NB503_494 := n8_; clear n0_ n1_ n2_ n3_ n4_ n5_ n6_ n7_ n8_; clear hb hbox hg; have hnb19 := NB503_494.out; have hnc19 := NB494_503.out; have hcz20_0 : w18.cell? ⟨gb503, 0, none⟩ = some (.string (⟨#[]⟩ : ByteArray)) := (blk_cell BK503.out 0).trans rfl; have hcz20_1 : w18.cell? ⟨gb503, 1, none⟩ = some (.slice none 0 0) := (blk_cell BK503.out 1).trans rfl; have hcz20_2 : w18.cell? ⟨gb503, 2, none⟩ = some (.slice none 0 0) := (blk_cell BK503.out 2).trans rfl; have hfz20_0 := blk_frozen BK503.out 0; have hfz20_1 := blk_frozen BK503.out 1; have hfz20_2 := blk_frozen BK503.out 2; obtain ⟨Ao21, co21, eo21⟩ := Kd.S_slice HO498.out; subst eo21; obtain ⟨Ao22, co22, eo22⟩ := Kd.R_slice HO501.out; subst eo22))
    go_ret2
    exact ⟨by first | rfl | (simp [errW_none, errW_some] <;> rfl) | (simp [*, errW_none, errW_some] <;> rfl), by repeat (first | (with_reducible first | exact HB.out | apply below_alloc | apply pw_below_drewN | apply below_drew1 | refine below_set ?_ GE494.out | refine below_set ?_ GE503.out) | exact HB.out)⟩
end Go.Proofs.YtkfcgjopabcbeaaGreatDoor.PV

namespace Go.Proofs.YtkfcgjopabcbeaaGreatDoor.PV
open Go.RowKit Go.Proofs.YtkfcgjopabcbeaaGreatDoorW.PrintWords Go.Proofs.YtkfcgjopabcbeaaGreatDoorW.PrintLast Go.Proofs.YtkfcgjopabcbeaaGreatDoorW.PrintMore
attribute [local go_sem] max2_int min2_int max_two min_two max_three min_three max_four min_four   -- for this text's walks alone
set_option linter.unusedVariables false
set_option linter.unusedSimpArgs false
def bytes_IndexByte.f (l0 : List Int) (a1 : Int) : Option Int := if l0.length = 0 then none else some (Lib.indexByte (Lib.bytesOf l0) a1.toNat.toUInt8)
theorem bytes_IndexByte.calls (A0 : Option Addr) (c0 : Nat) (l0 : List Int) (a1 : Int) (r : Int) (w : World) (hr0 : Kd.C (Kd.int .u8) w A0 l0.length l0) (hc0 : l0.length ≤ c0) (h : bytes_IndexByte.f l0 a1 = some r) :
    Calls Tryz.prog 216 #[.slice A0 l0.length c0, .int .u8 a1] w fun e w' => e = .returned (.int .i64 r) ∧ Drawn0 w w' := by
  unfold bytes_IndexByte.f at h
  by_cases c : l0.length = 0
  · rw [if_pos c] at h
    cases h
  · rw [if_neg c] at h
    injection h with h
    have hr := Kd.reads_of_C (enc := Value.int .u8) (d := (0 : Int)) (h1 := fun _ => rfl) hr0
    obtain ⟨ad, rfl, hc⟩ := hr.2.2 (by omega)
    refine (Any.bytes_IndexByte_at Tryz.lays187 ad l0.length c0 l0 a1 w rfl (fun i hi => hc i hi)).mono ?_
    rintro e w' ⟨rfl, rfl⟩
    exact ⟨by rw [h], Drawn0.refl _⟩
end Go.Proofs.YtkfcgjopabcbeaaGreatDoor.PV

namespace Go.Proofs.YtkfcgjopabcbeaaGreatDoor.PV
open Go.RowKit Go.Proofs.YtkfcgjopabcbeaaGreatDoorW.PrintWords Go.Proofs.YtkfcgjopabcbeaaGreatDoorW.PrintLast Go.Proofs.YtkfcgjopabcbeaaGreatDoorW.PrintMore
attribute [local go_sem] max2_int min2_int max_two min_two max_three min_three max_four min_four   -- for this text's walks alone
set_option linter.unusedVariables false
set_option linter.unusedSimpArgs false
def words_Text.j0 : Nat → List Int → Int → Bool → Option (ByteArray × Bool)
  | 0, _, _, _ => none
  | k + 1, x0, x1, x14 => if x14 = true then (some ((⟨#[]⟩ : ByteArray), false)) else (if 0 ≤ x1 then (if x1 ≤ (x0.length : Int) then ((bytes_IndexByte.f (x0.drop (x1 : Int).toNat) 0).bind fun t379 => (if t379 < 0 then (some ((⟨#[]⟩ : ByteArray), false)) else (if x1 ≤ (wrap64 (x1 + t379)) then (if (wrap64 (x1 + t379)) ≤ (x0.length : Int) then (some (strOfNums ((x0.take ((wrap64 (x1 + t379)) : Int).toNat).drop (x1 : Int).toNat), true)) else (none)) else (none)))) else (none)) else (none))
def words_Text.f (k : Nat) (l0 : List Int) (a1 : Int) : Option (ByteArray × Bool) := if a1 < 0 then (words_Text.j0 k l0 a1 true) else (words_Text.j0 k l0 a1 (decide (a1 ≥ (l0.length : Int))))
set_option maxHeartbeats 8000000 in
set_option maxRecDepth 100000 in
theorem words_Text.calls (k : Nat) (A0 : Option Addr) (c0 : Nat) (l0 : List Int) (a1 : Int) (r1 : ByteArray) (r2 : Bool) (w : World) (hr0 : Kd.C (Kd.int .u8) w A0 l0.length l0) (hc0 : l0.length ≤ c0) (h : words_Text.f k l0 a1 = some (r1, r2)) :
    Calls Tryz.prog 185 #[.slice A0 l0.length c0, .int .i64 a1] w fun e w' => e = .returned (.tuple #[.string r1, .bool r2]) ∧ Drawn0 w w' := by
  have HR0 := Aside0.mk hr0
  have HC0 := Aside0.mk hc0
  clear hr0 hc0
  have H : (if a1 < 0 then (words_Text.j0 k l0 a1 true) else (words_Text.j0 k l0 a1 (decide (a1 ≥ (l0.length : Int))))) = some (r1, r2) := h
  clear h
  have HC3 := Aside0.mk H
  clear H
  go_enter Tryz.func185, Tryz.ntmps185
  go_upto_region 1 with (fail)
  go_cut [14] (fun v14 wc => ∃ (kq : Nat) (x14_2 : Bool), v14 = .bool x14_2 ∧ Aside0 (words_Text.j0 kq l0 a1 x14_2 = some (r1, r2)) ∧ Aside0 (kq ≤ k) ∧ Drawn0 w wc)
  case first =>
    have H := HC3.out
    clear HC3
    by_cases c4 : a1 < 0
    · rw [if_pos c4] at H
      have c4b0 : decide (a1 < 0) = true := decide_eq_true c4
      clear c4
      (first | rw [c4b0] | (simp only [i64_w, i32_w]; rw [c4b0]) | skip)
      have H' := Aside0.mk H
      clear H
      go_wp2
      go_meet
      case rel => exact ⟨_, (true), (by first | rfl | (simp; done) | (simp [*]; done)), H', ⟨by first | omega | exact Nat.le_refl _⟩, by repeat (first | exact Drawn0.refl _ | apply Drawn0.step)⟩
    · rw [if_neg c4] at H
      have c4b0 : decide (a1 < 0) = false := decide_eq_false c4
      clear c4
      (first | rw [c4b0] | (simp only [i64_w, i32_w]; rw [c4b0]) | skip)
      have H' := Aside0.mk H
      clear H
      go_wp2
      go_meet
      case rel => exact ⟨_, (decide (a1 ≥ (l0.length : Int))), (by first | rfl | (simp; done) | (simp [*]; done)), H', ⟨by first | omega | exact Nat.le_refl _⟩, by repeat (first | exact Drawn0.refl _ | apply Drawn0.step)⟩
  case rest =>
    clear HC3
    try clear c1
    try clear p2
    try clear c4
    try clear c4b0
    obtain ⟨kq, x14_2, rfl, HA, HJ2, ⟨mc2, rfl⟩⟩ := hcut
    cases kq with
    | zero => exact absurd HA.out (by simp [words_Text.j0])
    | succ kj2 =>
      have H := HA.out
      clear HA
      simp only [words_Text.j0] at H
      by_cases c5 : x14_2 = true
      · subst c5
        have H1 : (some ((⟨#[]⟩ : ByteArray), false)) = some (r1, r2) := by rw [if_pos rfl] at H; exact H
        clear H
        have H := H1
        clear H1
        simp only [Option.some.injEq, Prod.mk.injEq] at H
        obtain ⟨rfl, rfl⟩ := H
        go_wp2
        go_ret2
        exact ⟨by first | rfl | (simp; done) | (simp [*]; done), by repeat (first | exact Drawn0.refl _ | apply Drawn0.step)⟩
      · replace c5 := Bool.eq_false_iff.mpr c5
        subst c5
        have H1 : (if 0 ≤ a1 then (if a1 ≤ (l0.length : Int) then ((bytes_IndexByte.f (l0.drop (a1 : Int).toNat) 0).bind fun t379 => (if t379 < 0 then (some ((⟨#[]⟩ : ByteArray), false)) else (if a1 ≤ (wrap64 (a1 + t379)) then (if (wrap64 (a1 + t379)) ≤ (l0.length : Int) then (some (strOfNums ((l0.take ((wrap64 (a1 + t379)) : Int).toNat).drop (a1 : Int).toNat), true)) else (none)) else (none)))) else (none)) else (none)) = some (r1, r2) := by rw [if_neg (show ¬ (false = true) by decide)] at H; exact H
        clear H
        have H := H1
        clear H1
        by_cases c6 : 0 ≤ a1
        · rw [if_pos c6] at H
          have c6b0 := eq_true c6
          have c6b1 : decide (0 ≤ a1) = true := decide_eq_true c6
          clear c6
          by_cases c7 : a1 ≤ (l0.length : Int)
          · rw [if_pos c7] at H
            have c7b0 := eq_true c7
            have c7b1 : decide (a1 ≤ (l0.length : Int)) = true := decide_eq_true c7
            clear c7
            replace H := Option.bind_eq_some_iff.mp H
            obtain ⟨t379, A80, H⟩ := H
            replace H : (if t379 < 0 then (some ((⟨#[]⟩ : ByteArray), false)) else (if a1 ≤ (wrap64 (a1 + t379)) then (if (wrap64 (a1 + t379)) ≤ (l0.length : Int) then (some (strOfNums ((l0.take ((wrap64 (a1 + t379)) : Int).toNat).drop (a1 : Int).toNat), true)) else (none)) else (none))) = some (r1, r2) := H
            have A8 := Aside0.mk A80
            clear A80
            by_cases c9 : t379 < 0
            · rw [if_pos c9] at H
              have c9b0 : decide (t379 < 0) = true := decide_eq_true c9
              clear c9
              simp only [Option.some.injEq, Prod.mk.injEq] at H
              obtain ⟨rfl, rfl⟩ := H
              obtain ⟨i010, hi010, _, hsz10, _⟩ := info_parts info5
              obtain ⟨A10, hcut10, hA10, hC10⟩ := print_drop_of (P := Tryz.prog) (Value.int .u8) 0 52 5 .i64 Tryz.underlying52 hi010 hsz10 A0 c0 l0 a1 (of_decide_eq_true (by first | (with_reducible assumption) | assumption)) (of_decide_eq_true (by first | (with_reducible assumption) | assumption)) HC0.out
              have HR378 := Aside0.mk (Kd.C_of_reads (h1 := fun _ => rfl) (hA10 _ (Kd.reads_of_C HR0.out)))
              have HC378 := Aside0.mk hC10
              clear hA10 hC10 hi010 hsz10
              go_wp2_with (first | ((with_reducible refine gate_callee (f := 216) rfl ?_); refine goesL_ (some 18) rfl rfl Tryz.func216 (by kernel_rfl) rfl #[.slice A10 (l0.drop (a1 : Int).toNat).length (c0 - a1.toNat), .int .u8 0] rfl (by (try simp only [List.map_toArray, List.map_cons, List.map_nil]); first | done | (rw [show (l0.drop (a1 : Int).toNat).length = (l0.length - a1.toNat) from List.length_drop] <;> rfl) | rfl | (simp only [List.length_drop, List.length_take]; rfl)) ?_; (with_reducible refine (bytes_IndexByte.calls _ _ (l0.drop (a1 : Int).toNat) 0 t379 _ ?side1 ?side2 A8.out).mono ?_); (case side1 => repeat (first | exact HR378.out | (with_reducible refine Kd.C_alloc ?_ _) | (with_reducible refine Kd.C_drewN ?_ _) | (with_reducible refine Kd.C_drew ?_))); (case side2 => exact HC378.out); rintro e w' ⟨rfl, ⟨nd, rfl⟩⟩; refine ⟨_, rfl, ?_⟩))
              go_ret2
              exact ⟨by first | rfl | (simp; done) | (simp [*]; done), by repeat (first | exact Drawn0.refl _ | apply Drawn0.step)⟩
            · rw [if_neg c9] at H
              have c9b0 : decide (t379 < 0) = false := decide_eq_false c9
              clear c9
              have c11b0 := eq_true (of_decide_eq_true (by first | (with_reducible assumption) | assumption) : 0 ≤ a1)
              by_cases c12 : a1 ≤ (wrap64 (a1 + t379))
              · rw [if_pos c12] at H
                have c12b0 := eq_true c12
                have c12b1 : decide (a1 ≤ (wrap64 (a1 + t379))) = true := decide_eq_true c12
                by_cases c13 : (wrap64 (a1 + t379)) ≤ (l0.length : Int)
                · rw [if_pos c13] at H
                  have c13b0 := eq_true c13
                  have c13b1 : decide ((wrap64 (a1 + t379)) ≤ (l0.length : Int)) = true := decide_eq_true c13
                  simp only [Option.some.injEq, Prod.mk.injEq] at H
                  obtain ⟨rfl, rfl⟩ := H
                  obtain ⟨i014, hi014, _, hsz14, _⟩ := info_parts info5
                  obtain ⟨A14, hcut14, hA14, hC14⟩ := print_drop_of (P := Tryz.prog) (Value.int .u8) 0 52 5 .i64 Tryz.underlying52 hi014 hsz14 A0 c0 l0 a1 (of_decide_eq_true (by first | (with_reducible assumption) | assumption)) (of_decide_eq_true (by first | (with_reducible assumption) | assumption)) HC0.out
                  have HR378 := Aside0.mk (Kd.C_of_reads (h1 := fun _ => rfl) (hA14 _ (Kd.reads_of_C HR0.out)))
                  have HC378 := Aside0.mk hC14
                  clear hA14 hC14 hi014 hsz14
                  go_wp2_with (first | ((with_reducible refine gate_callee (f := 216) rfl ?_); refine goesL_ (some 18) rfl rfl Tryz.func216 (by kernel_rfl) rfl #[.slice A14 (l0.drop (a1 : Int).toNat).length (c0 - a1.toNat), .int .u8 0] rfl (by (try simp only [List.map_toArray, List.map_cons, List.map_nil]); first | done | (rw [show (l0.drop (a1 : Int).toNat).length = (l0.length - a1.toNat) from List.length_drop] <;> rfl) | rfl | (simp only [List.length_drop, List.length_take]; rfl)) ?_; (with_reducible refine (bytes_IndexByte.calls _ _ (l0.drop (a1 : Int).toNat) 0 t379 _ ?side1 ?side2 A8.out).mono ?_); (case side1 => repeat (first | exact HR378.out | (with_reducible refine Kd.C_alloc ?_ _) | (with_reducible refine Kd.C_drewN ?_ _) | (with_reducible refine Kd.C_drew ?_))); (case side2 => exact HC378.out); rintro e w' ⟨rfl, ⟨nd, rfl⟩⟩; refine ⟨_, rfl, ?_⟩; obtain ⟨i015, hi015, _, hsz15, _⟩ := info_parts info5; obtain ⟨A15, hcut15, hA15, hC15⟩ := print_mid_of (P := Tryz.prog) (Value.int .u8) 0 52 5 .i64 .i64 Tryz.underlying52 hi015 hsz15 A0 c0 l0 a1 (wrap64 (a1 + t379)) (of_decide_eq_true (by first | (with_reducible assumption) | assumption)) (by first | omega | exact of_decide_eq_true (by first | (with_reducible assumption) | assumption)) (of_decide_eq_true (by first | (with_reducible assumption) | assumption)) HC0.out; have HR380 := Aside0.mk (Kd.C_of_reads (h1 := fun _ => rfl) (hA15 _ (Kd.reads_of_C HR0.out))); have HC380 := Aside0.mk hC15; clear hA15 hC15 hi015 hsz15; have hcv16 := Kd.C_string (P := Tryz.prog) (A := A15) (c := (c0 - a1.toNat)) Tryz.underlying52 Tryz.underlying5 Tryz.underlying9 HR380.out; have hcv16d := fun nd_ : Nat => Kd.C_string (P := Tryz.prog) (A := A15) (c := (c0 - a1.toNat)) Tryz.underlying52 Tryz.underlying5 Tryz.underlying9 (Kd.C_drewN HR380.out nd_); have hcv16l : (((l0).take ((wrap64 (a1 + t379)) : Int).toNat).drop (a1 : Int).toNat).length = ((wrap64 (a1 + t379)) : Int).toNat - (a1 : Int).toNat := (by have q_ : (wrap64 (a1 + t379)) ≤ ((l0).length : Int) := of_decide_eq_true (by first | (with_reducible assumption) | assumption); simp only [List.length_drop, List.length_take]; omega); have hcv16e := hcv16d; (try rw [hcv16l] at hcv16); (try simp only [hcv16l] at hcv16e)))
                  go_ret2
                  exact ⟨by first | rfl | (simp; done) | (simp [*]; done), by repeat (first | exact Drawn0.refl _ | apply Drawn0.step)⟩
                · rw [if_neg c13] at H
                  exact absurd H (by simp)
              · rw [if_neg c12] at H
                exact absurd H (by simp)
          · rw [if_neg c7] at H
            exact absurd H (by simp)
        · rw [if_neg c6] at H
          exact absurd H (by simp)
end Go.Proofs.YtkfcgjopabcbeaaGreatDoor.PV

namespace Go.Proofs.YtkfcgjopabcbeaaGreatDoor.PV
open Go.RowKit Go.Proofs.YtkfcgjopabcbeaaGreatDoorW.PrintWords Go.Proofs.YtkfcgjopabcbeaaGreatDoorW.PrintLast Go.Proofs.YtkfcgjopabcbeaaGreatDoorW.PrintMore
attribute [local go_sem] max2_int min2_int max_two min_two max_three min_three max_four min_four   -- for this text's walks alone
set_option linter.unusedVariables false
set_option linter.unusedSimpArgs false
def prop_Text.f (k : Nat) (l0 : List Int) : Option (ByteArray × Int) := (words_Text.f k l0 0).bind fun bt381 => (if bt381.2 = true then (if (wrap64 ((bt381.1.size : Int) + 1)) = (l0.length : Int) then (some (bt381.1, 0)) else (some ((⟨#[]⟩ : ByteArray), 4))) else (some ((⟨#[]⟩ : ByteArray), 4)))
set_option maxHeartbeats 8000000 in
set_option maxRecDepth 100000 in
theorem prop_Text.calls (k : Nat) (A0 : Option Addr) (c0 : Nat) (l0 : List Int) (r1 : ByteArray) (r2 : Int) (w : World) (hr0 : Kd.C (Kd.int .u8) w A0 l0.length l0) (hc0 : l0.length ≤ c0) (h : prop_Text.f k l0 = some (r1, r2)) :
    Calls Tryz.prog 150 #[.slice A0 l0.length c0] w fun e w' => e = .returned (.tuple #[.string r1, .int .i64 r2]) ∧ Drawn0 w w' := by
  have HR0 := Aside0.mk hr0
  have HC0 := Aside0.mk hc0
  clear hr0 hc0
  have H : ((words_Text.f k l0 0).bind fun bt381 => (if bt381.2 = true then (if (wrap64 ((bt381.1.size : Int) + 1)) = (l0.length : Int) then (some (bt381.1, 0)) else (some ((⟨#[]⟩ : ByteArray), 4))) else (some ((⟨#[]⟩ : ByteArray), 4)))) = some (r1, r2) := h
  clear h
  replace H := Option.bind_eq_some_iff.mp H
  obtain ⟨⟨t381, t382⟩, A20, H⟩ := H
  replace H : (if t382 = true then (if (wrap64 ((t381.size : Int) + 1)) = (l0.length : Int) then (some (t381, 0)) else (some ((⟨#[]⟩ : ByteArray), 4))) else (some ((⟨#[]⟩ : ByteArray), 4))) = some (r1, r2) := H
  have A2 := Aside0.mk A20
  clear A20
  by_cases c3 : t382 = true
  · subst c3
    have H1 : (if (wrap64 ((t381.size : Int) + 1)) = (l0.length : Int) then (some (t381, 0)) else (some ((⟨#[]⟩ : ByteArray), 4))) = some (r1, r2) := by rw [if_pos rfl] at H; exact H
    clear H
    have H := H1
    clear H1
    by_cases c4 : (wrap64 ((t381.size : Int) + 1)) = (l0.length : Int)
    · rw [if_pos c4] at H
      have c4b0 : ((wrap64 ((t381.size : Int) + 1)) == (l0.length : Int)) = true := beq_iff_eq.mpr c4
      have c4b1 : ((wrap64 ((t381.size : Int) + 1)) != (l0.length : Int)) = false := bne_eq_false_iff_eq.mpr c4
      clear c4
      simp only [Option.some.injEq, Prod.mk.injEq] at H
      obtain ⟨rfl, rfl⟩ := H
      go_enter Tryz.func150, Tryz.ntmps150
      go_wp2_with (first | ((with_reducible refine gate_callee (f := 185) rfl ?_); refine goesL_ (some 8) rfl rfl Tryz.func185 (by kernel_rfl) rfl #[.slice A0 l0.length c0, .int .i64 0] rfl (by (try simp only [List.map_toArray, List.map_cons, List.map_nil]); first | done | rfl | (simp only [List.length_drop, List.length_take]; rfl)) ?_; (with_reducible refine (words_Text.calls k _ _ l0 0 t381 true _ ?side1 ?side2 A2.out).mono ?_); (case side1 => repeat (first | exact HR0.out | (with_reducible refine Kd.C_alloc ?_ _) | (with_reducible refine Kd.C_drewN ?_ _) | (with_reducible refine Kd.C_drew ?_))); (case side2 => exact HC0.out); rintro e w' ⟨rfl, ⟨nd, rfl⟩⟩; refine ⟨_, rfl, ?_⟩))
      go_ret2
      exact ⟨by first | rfl | (simp; done) | (simp [*]; done), by repeat (first | exact Drawn0.refl _ | apply Drawn0.step)⟩
    · rw [if_neg c4] at H
      have c4b0 : ((wrap64 ((t381.size : Int) + 1)) == (l0.length : Int)) = false := beq_eq_false_iff_ne.mpr c4
      have c4b1 : ((wrap64 ((t381.size : Int) + 1)) != (l0.length : Int)) = true := bne_iff_ne.mpr c4
      simp only [Option.some.injEq, Prod.mk.injEq] at H
      obtain ⟨rfl, rfl⟩ := H
      go_enter Tryz.func150, Tryz.ntmps150
      go_wp2_with (first | ((with_reducible refine gate_callee (f := 185) rfl ?_); refine goesL_ (some 8) rfl rfl Tryz.func185 (by kernel_rfl) rfl #[.slice A0 l0.length c0, .int .i64 0] rfl (by (try simp only [List.map_toArray, List.map_cons, List.map_nil]); first | done | rfl | (simp only [List.length_drop, List.length_take]; rfl)) ?_; (with_reducible refine (words_Text.calls k _ _ l0 0 t381 true _ ?side1 ?side2 A2.out).mono ?_); (case side1 => repeat (first | exact HR0.out | (with_reducible refine Kd.C_alloc ?_ _) | (with_reducible refine Kd.C_drewN ?_ _) | (with_reducible refine Kd.C_drew ?_))); (case side2 => exact HC0.out); rintro e w' ⟨rfl, ⟨nd, rfl⟩⟩; refine ⟨_, rfl, ?_⟩))
      go_ret2
      exact ⟨by first | rfl | (simp; done) | (simp [*]; done), by repeat (first | exact Drawn0.refl _ | apply Drawn0.step)⟩
  · replace c3 := Bool.eq_false_iff.mpr c3
    subst c3
    have H1 : (some ((⟨#[]⟩ : ByteArray), 4)) = some (r1, r2) := by rw [if_neg (show ¬ (false = true) by decide)] at H; exact H
    clear H
    have H := H1
    clear H1
    simp only [Option.some.injEq, Prod.mk.injEq] at H
    obtain ⟨rfl, rfl⟩ := H
    go_enter Tryz.func150, Tryz.ntmps150
    go_wp2_with (first | ((with_reducible refine gate_callee (f := 185) rfl ?_); refine goesL_ (some 8) rfl rfl Tryz.func185 (by kernel_rfl) rfl #[.slice A0 l0.length c0, .int .i64 0] rfl (by (try simp only [List.map_toArray, List.map_cons, List.map_nil]); first | done | rfl | (simp only [List.length_drop, List.length_take]; rfl)) ?_; (with_reducible refine (words_Text.calls k _ _ l0 0 t381 false _ ?side1 ?side2 A2.out).mono ?_); (case side1 => repeat (first | exact HR0.out | (with_reducible refine Kd.C_alloc ?_ _) | (with_reducible refine Kd.C_drewN ?_ _) | (with_reducible refine Kd.C_drew ?_))); (case side2 => exact HC0.out); rintro e w' ⟨rfl, ⟨nd, rfl⟩⟩; refine ⟨_, rfl, ?_⟩))
    go_ret2
    exact ⟨by first | rfl | (simp; done) | (simp [*]; done), by repeat (first | exact Drawn0.refl _ | apply Drawn0.step)⟩
end Go.Proofs.YtkfcgjopabcbeaaGreatDoor.PV

namespace Go.Proofs.YtkfcgjopabcbeaaGreatDoor.PV
open Go.RowKit Go.Proofs.YtkfcgjopabcbeaaGreatDoorW.PrintWords Go.Proofs.YtkfcgjopabcbeaaGreatDoorW.PrintLast Go.Proofs.YtkfcgjopabcbeaaGreatDoorW.PrintMore
attribute [local go_sem] max2_int min2_int max_two min_two max_three min_three max_four min_four   -- for this text's walks alone
set_option linter.unusedVariables false
set_option linter.unusedSimpArgs false
def valid_status.f (k : Nat) (a0_0 : ByteArray) (l0_1 : List (S158)) (l0_2 : List (S27)) : Option (Bool × Int) := (tree_Find.f k a0_0 l0_1 l0_2 (⟨#[115, 116, 97, 116, 117, 115]⟩ : ByteArray)).bind fun bt384 => (if bt384.2 = true then ((prop_Text.f k bt384.1).bind fun bt388 => (if bt388.1.toList = ([111, 107, 97, 121] : List UInt8) then (some (true, bt388.2)) else (some ((bt388.1.toList == ([111, 107] : List UInt8)), bt388.2)))) else (some (true, 0)))
set_option maxHeartbeats 8000000 in
set_option maxRecDepth 100000 in
theorem valid_status.calls (k : Nat) (a0_0 : ByteArray) (A0_1 : Option Addr) (c0_1 : Nat) (l0_1 : List (S158)) (A0_2 : Option Addr) (c0_2 : Nat) (l0_2 : List (S27)) (r1 : Bool) (r2 : Int) (w : World) (hr0_1 : Kd.C k158 w A0_1 l0_1.length l0_1) (hc0_1 : l0_1.length ≤ c0_1) (hr0_2 : Kd.C k27 w A0_2 l0_2.length l0_2) (hc0_2 : l0_2.length ≤ c0_2) (h : valid_status.f k a0_0 l0_1 l0_2 = some (r1, r2)) :
    Calls Tryz.prog 81 #[.agg #[.string a0_0, .slice A0_1 l0_1.length c0_1, .slice A0_2 l0_2.length c0_2]] w fun e w' => e = .returned (.tuple #[.bool r1, .int .i64 r2]) ∧ Below w.heap.size w w' := by
  have hu27 := Tryz.underlying27
  have HR0_1 := Aside0.mk hr0_1
  have HC0_1 := Aside0.mk hc0_1
  clear hr0_1 hc0_1
  have HR0_2 := Aside0.mk hr0_2
  have HC0_2 := Aside0.mk hc0_2
  clear hr0_2 hc0_2
  have HB := Aside0.mk (Below.refl w.heap.size w)
  have H : ((tree_Find.f k a0_0 l0_1 l0_2 (⟨#[115, 116, 97, 116, 117, 115]⟩ : ByteArray)).bind fun bt384 => (if bt384.2 = true then ((prop_Text.f k bt384.1).bind fun bt388 => (if bt388.1.toList = ([111, 107, 97, 121] : List UInt8) then (some (true, bt388.2)) else (some ((bt388.1.toList == ([111, 107] : List UInt8)), bt388.2)))) else (some (true, 0)))) = some (r1, r2) := h
  clear h
  replace H := Option.bind_eq_some_iff.mp H
  obtain ⟨⟨t384, t387⟩, A20, H⟩ := H
  replace H : (if t387 = true then ((prop_Text.f k t384).bind fun bt388 => (if bt388.1.toList = ([111, 107, 97, 121] : List UInt8) then (some (true, bt388.2)) else (some ((bt388.1.toList == ([111, 107] : List UInt8)), bt388.2)))) else (some (true, 0))) = some (r1, r2) := H
  have A2 := Aside0.mk A20
  clear A20
  by_cases c3 : t387 = true
  · subst c3
    have H1 : ((prop_Text.f k t384).bind fun bt388 => (if bt388.1.toList = ([111, 107, 97, 121] : List UInt8) then (some (true, bt388.2)) else (some ((bt388.1.toList == ([111, 107] : List UInt8)), bt388.2)))) = some (r1, r2) := by rw [if_pos rfl] at H; exact H
    clear H
    have H := H1
    clear H1
    replace H := Option.bind_eq_some_iff.mp H
    obtain ⟨⟨t388, t389⟩, A40, H⟩ := H
    replace H : (if t388.toList = ([111, 107, 97, 121] : List UInt8) then (some (true, t389)) else (some ((t388.toList == ([111, 107] : List UInt8)), t389))) = some (r1, r2) := H
    have A4 := Aside0.mk A40
    clear A40
    by_cases c5 : t388.toList = ([111, 107, 97, 121] : List UInt8)
    · rw [if_pos c5] at H
      have c5b0 : (t388.toList == ([111, 107, 97, 121] : List UInt8)) = true := beq_iff_eq.mpr c5
      have c5b1 : (t388.toList != ([111, 107, 97, 121] : List UInt8)) = false := bne_eq_false_iff_eq.mpr c5
      clear c5
      simp only [Option.some.injEq, Prod.mk.injEq] at H
      obtain ⟨rfl, rfl⟩ := H
      go_enter Tryz.func81, Tryz.ntmps81
      go_wp2_with (first | ((with_reducible refine gate_dst (N := 1) rfl ?_); refine box_event ?hg (N := 1) ?hd (cs := #[.string a0_0, .slice A0_1 l0_1.length c0_1, .slice A0_2 l0_2.length c0_2]) (t := 27) ?hr ?_; (case hd => rfl); (case hg => rfl); (case hr => first | (go_simp; done) | (go_simp; rfl)); intro gb383 hg w6 hbox hb; have n0_ := Aside0.mk (below_step (by repeat (first | (with_reducible first | exact HB.out | apply below_alloc | apply pw_below_drewN | apply below_drew1) | exact HB.out)) hb); have n1_ := Aside0.mk (hbox); have n2_ := Aside0.mk ((by rw [hg]; exact (below_size (by repeat (first | (with_reducible first | exact HB.out | apply below_alloc | apply pw_below_drewN | apply below_drew1) | exact HB.out))) : w.heap.size ≤ gb383)); have n3_ := Aside0.mk ((by rw [hg]; exact (below_size (by repeat (first | (with_reducible first | exact HB.out | apply below_alloc | apply pw_below_drewN | apply below_drew1) | exact HB.out))) : w.heap.size ≤ gb383)); clear HB; have HB := n0_; have BK383 := n1_; have GW383 := n2_; have GE383 := n3_; clear n0_ n1_ n2_ n3_; clear hb hbox hg; have hcz7_0 : w6.cell? ⟨gb383, 0, none⟩ = some (.string a0_0) := (blk_cell BK383.out 0).trans rfl; have hcz7_1 : w6.cell? ⟨gb383, 1, none⟩ = some (.slice A0_1 l0_1.length c0_1) := (blk_cell BK383.out 1).trans rfl; have hcz7_2 : w6.cell? ⟨gb383, 2, none⟩ = some (.slice A0_2 l0_2.length c0_2) := (blk_cell BK383.out 2).trans rfl; have hfz7_0 := blk_frozen BK383.out 0; have hfz7_1 := blk_frozen BK383.out 1; have hfz7_2 := blk_frozen BK383.out 2) | ((with_reducible refine gate_callee (f := 125) rfl ?_); refine goesL_ (some 10) rfl rfl Tryz.func125 (by kernel_rfl) rfl #[.agg #[.string a0_0, .slice A0_1 l0_1.length c0_1, .slice A0_2 l0_2.length c0_2], .string (⟨#[115, 116, 97, 116, 117, 115]⟩ : ByteArray)] rfl (by (try simp only [List.map_toArray, List.map_cons, List.map_nil]); first | done | rfl | (simp only [List.length_drop, List.length_take]; rfl)) ?_; (with_reducible refine (tree_Find.calls k a0_0 _ _ l0_1 _ _ l0_2 (⟨#[115, 116, 97, 116, 117, 115]⟩ : ByteArray) t384 true _ ?side1 ?side2 ?side3 ?side4 A2.out).mono ?_); (case side1 => repeat (first | exact (Kd.C_below HR0_1.out HB.out) | (with_reducible refine Kd.C_alloc ?_ _) | (with_reducible refine Kd.C_drewN ?_ _) | (with_reducible refine Kd.C_drew ?_))); (case side2 => exact HC0_1.out); (case side3 => repeat (first | exact (Kd.C_below HR0_2.out HB.out) | (with_reducible refine Kd.C_alloc ?_ _) | (with_reducible refine Kd.C_drewN ?_ _) | (with_reducible refine Kd.C_drew ?_))); (case side4 => exact HC0_2.out); rintro e w8 ⟨v385, rfl, ho0, hb⟩; refine ⟨_, rfl, ?_⟩; have n0_ := Aside0.mk (Kd.R_lower ho0 (below_size (by repeat (first | (with_reducible first | exact HB.out | apply below_alloc | apply pw_below_drewN | apply below_drew1 | refine below_set ?_ GE383.out) | exact HB.out)))); have n1_ := Aside0.mk (blk_below (g := gb383) (o := .cells #[.string a0_0, .slice A0_1 l0_1.length c0_1, .slice A0_2 l0_2.length c0_2] 27 (0, 0)) (by (with_reducible repeat (first | refine blk_drewN ?_ _ | refine blk_drew ?_ | refine blk_alloc ?_ _)); exact BK383.out) hb); have n2_ := Aside0.mk (below_step (by repeat (first | (with_reducible first | exact HB.out | apply below_alloc | apply pw_below_drewN | apply below_drew1 | refine below_set ?_ GE383.out) | exact HB.out)) hb); clear BK383; clear HB; have HO386 := n0_; have BK383 := n1_; have HB := n2_; clear n0_ n1_ n2_; (try clear hb); (try clear hb2); (try clear hk); (try clear hi); (try clear ho0); obtain ⟨Ao9, co9, eo9⟩ := Kd.R_slice HO386.out; subst eo9) | ((with_reducible refine gate_callee (f := 150) rfl ?_); refine goesL_ (some 17) rfl rfl Tryz.func150 (by kernel_rfl) rfl #[.slice Ao9 t384.length co9] rfl (by (try simp only [List.map_toArray, List.map_cons, List.map_nil]); first | done | rfl | (simp only [List.length_drop, List.length_take]; rfl)) ?_; (with_reducible refine (prop_Text.calls k _ _ t384 t388 t389 _ ?side1 ?side2 A4.out).mono ?_); (case side1 => repeat (first | exact (Kd.R_reads' HO386.out).2.2 | (with_reducible refine Kd.C_alloc ?_ _) | (with_reducible refine Kd.C_drewN ?_ _) | (with_reducible refine Kd.C_drew ?_))); (case side2 => exact (Kd.R_reads' HO386.out).2.1); rintro e w' ⟨rfl, ⟨nd, rfl⟩⟩; refine ⟨_, rfl, ?_⟩))
      go_ret2
      exact ⟨by first | rfl | (simp [errW_none, errW_some] <;> rfl) | (simp [*, errW_none, errW_some] <;> rfl), by repeat (first | (with_reducible first | exact HB.out | apply below_alloc | apply pw_below_drewN | apply below_drew1 | refine below_set ?_ GE383.out) | exact HB.out)⟩
    · rw [if_neg c5] at H
      have c5b0 : (t388.toList == ([111, 107, 97, 121] : List UInt8)) = false := beq_eq_false_iff_ne.mpr c5
      have c5b1 : (t388.toList != ([111, 107, 97, 121] : List UInt8)) = true := bne_iff_ne.mpr c5
      simp only [Option.some.injEq, Prod.mk.injEq] at H
      obtain ⟨rfl, rfl⟩ := H
      go_enter Tryz.func81, Tryz.ntmps81
      go_wp2_with (first | ((with_reducible refine gate_dst (N := 1) rfl ?_); refine box_event ?hg (N := 1) ?hd (cs := #[.string a0_0, .slice A0_1 l0_1.length c0_1, .slice A0_2 l0_2.length c0_2]) (t := 27) ?hr ?_; (case hd => rfl); (case hg => rfl); (case hr => first | (go_simp; done) | (go_simp; rfl)); intro gb383 hg w10 hbox hb; have n0_ := Aside0.mk (below_step (by repeat (first | (with_reducible first | exact HB.out | apply below_alloc | apply pw_below_drewN | apply below_drew1) | exact HB.out)) hb); have n1_ := Aside0.mk (hbox); have n2_ := Aside0.mk ((by rw [hg]; exact (below_size (by repeat (first | (with_reducible first | exact HB.out | apply below_alloc | apply pw_below_drewN | apply below_drew1) | exact HB.out))) : w.heap.size ≤ gb383)); have n3_ := Aside0.mk ((by rw [hg]; exact (below_size (by repeat (first | (with_reducible first | exact HB.out | apply below_alloc | apply pw_below_drewN | apply below_drew1) | exact HB.out))) : w.heap.size ≤ gb383)); clear HB; have HB := n0_; have BK383 := n1_; have GW383 := n2_; have GE383 := n3_; clear n0_ n1_ n2_ n3_; clear hb hbox hg; have hcz11_0 : w10.cell? ⟨gb383, 0, none⟩ = some (.string a0_0) := (blk_cell BK383.out 0).trans rfl; have hcz11_1 : w10.cell? ⟨gb383, 1, none⟩ = some (.slice A0_1 l0_1.length c0_1) := (blk_cell BK383.out 1).trans rfl; have hcz11_2 : w10.cell? ⟨gb383, 2, none⟩ = some (.slice A0_2 l0_2.length c0_2) := (blk_cell BK383.out 2).trans rfl; have hfz11_0 := blk_frozen BK383.out 0; have hfz11_1 := blk_frozen BK383.out 1; have hfz11_2 := blk_frozen BK383.out 2) | ((with_reducible refine gate_callee (f := 125) rfl ?_); refine goesL_ (some 10) rfl rfl Tryz.func125 (by kernel_rfl) rfl #[.agg #[.string a0_0, .slice A0_1 l0_1.length c0_1, .slice A0_2 l0_2.length c0_2], .string (⟨#[115, 116, 97, 116, 117, 115]⟩ : ByteArray)] rfl (by (try simp only [List.map_toArray, List.map_cons, List.map_nil]); first | done | rfl | (simp only [List.length_drop, List.length_take]; rfl)) ?_; (with_reducible refine (tree_Find.calls k a0_0 _ _ l0_1 _ _ l0_2 (⟨#[115, 116, 97, 116, 117, 115]⟩ : ByteArray) t384 true _ ?side1 ?side2 ?side3 ?side4 A2.out).mono ?_); (case side1 => repeat (first | exact (Kd.C_below HR0_1.out HB.out) | (with_reducible refine Kd.C_alloc ?_ _) | (with_reducible refine Kd.C_drewN ?_ _) | (with_reducible refine Kd.C_drew ?_))); (case side2 => exact HC0_1.out); (case side3 => repeat (first | exact (Kd.C_below HR0_2.out HB.out) | (with_reducible refine Kd.C_alloc ?_ _) | (with_reducible refine Kd.C_drewN ?_ _) | (with_reducible refine Kd.C_drew ?_))); (case side4 => exact HC0_2.out); rintro e w12 ⟨v385, rfl, ho0, hb⟩; refine ⟨_, rfl, ?_⟩; have n0_ := Aside0.mk (Kd.R_lower ho0 (below_size (by repeat (first | (with_reducible first | exact HB.out | apply below_alloc | apply pw_below_drewN | apply below_drew1 | refine below_set ?_ GE383.out) | exact HB.out)))); have n1_ := Aside0.mk (blk_below (g := gb383) (o := .cells #[.string a0_0, .slice A0_1 l0_1.length c0_1, .slice A0_2 l0_2.length c0_2] 27 (0, 0)) (by (with_reducible repeat (first | refine blk_drewN ?_ _ | refine blk_drew ?_ | refine blk_alloc ?_ _)); exact BK383.out) hb); have n2_ := Aside0.mk (below_step (by repeat (first | (with_reducible first | exact HB.out | apply below_alloc | apply pw_below_drewN | apply below_drew1 | refine below_set ?_ GE383.out) | exact HB.out)) hb); clear BK383; clear HB; have HO386 := n0_; have BK383 := n1_; have HB := n2_; clear n0_ n1_ n2_; (try clear hb); (try clear hb2); (try clear hk); (try clear hi); (try clear ho0); obtain ⟨Ao13, co13, eo13⟩ := Kd.R_slice HO386.out; subst eo13) | ((with_reducible refine gate_callee (f := 150) rfl ?_); refine goesL_ (some 17) rfl rfl Tryz.func150 (by kernel_rfl) rfl #[.slice Ao13 t384.length co13] rfl (by (try simp only [List.map_toArray, List.map_cons, List.map_nil]); first | done | rfl | (simp only [List.length_drop, List.length_take]; rfl)) ?_; (with_reducible refine (prop_Text.calls k _ _ t384 t388 t389 _ ?side1 ?side2 A4.out).mono ?_); (case side1 => repeat (first | exact (Kd.R_reads' HO386.out).2.2 | (with_reducible refine Kd.C_alloc ?_ _) | (with_reducible refine Kd.C_drewN ?_ _) | (with_reducible refine Kd.C_drew ?_))); (case side2 => exact (Kd.R_reads' HO386.out).2.1); rintro e w' ⟨rfl, ⟨nd, rfl⟩⟩; refine ⟨_, rfl, ?_⟩))
      go_ret2
      exact ⟨by first | rfl | (simp [errW_none, errW_some] <;> rfl) | (simp [*, errW_none, errW_some] <;> rfl), by repeat (first | (with_reducible first | exact HB.out | apply below_alloc | apply pw_below_drewN | apply below_drew1 | refine below_set ?_ GE383.out) | exact HB.out)⟩
  · replace c3 := Bool.eq_false_iff.mpr c3
    subst c3
    have H1 : (some (true, 0)) = some (r1, r2) := by rw [if_neg (show ¬ (false = true) by decide)] at H; exact H
    clear H
    have H := H1
    clear H1
    simp only [Option.some.injEq, Prod.mk.injEq] at H
    obtain ⟨rfl, rfl⟩ := H
    go_enter Tryz.func81, Tryz.ntmps81
    go_wp2_with (first | ((with_reducible refine gate_dst (N := 1) rfl ?_); refine box_event ?hg (N := 1) ?hd (cs := #[.string a0_0, .slice A0_1 l0_1.length c0_1, .slice A0_2 l0_2.length c0_2]) (t := 27) ?hr ?_; (case hd => rfl); (case hg => rfl); (case hr => first | (go_simp; done) | (go_simp; rfl)); intro gb383 hg w14 hbox hb; have n0_ := Aside0.mk (below_step (by repeat (first | (with_reducible first | exact HB.out | apply below_alloc | apply pw_below_drewN | apply below_drew1) | exact HB.out)) hb); have n1_ := Aside0.mk (hbox); have n2_ := Aside0.mk ((by rw [hg]; exact (below_size (by repeat (first | (with_reducible first | exact HB.out | apply below_alloc | apply pw_below_drewN | apply below_drew1) | exact HB.out))) : w.heap.size ≤ gb383)); have n3_ := Aside0.mk ((by rw [hg]; exact (below_size (by repeat (first | (with_reducible first | exact HB.out | apply below_alloc | apply pw_below_drewN | apply below_drew1) | exact HB.out))) : w.heap.size ≤ gb383)); clear HB; have HB := n0_; have BK383 := n1_; have GW383 := n2_; have GE383 := n3_; clear n0_ n1_ n2_ n3_; clear hb hbox hg; have hcz15_0 : w14.cell? ⟨gb383, 0, none⟩ = some (.string a0_0) := (blk_cell BK383.out 0).trans rfl; have hcz15_1 : w14.cell? ⟨gb383, 1, none⟩ = some (.slice A0_1 l0_1.length c0_1) := (blk_cell BK383.out 1).trans rfl; have hcz15_2 : w14.cell? ⟨gb383, 2, none⟩ = some (.slice A0_2 l0_2.length c0_2) := (blk_cell BK383.out 2).trans rfl; have hfz15_0 := blk_frozen BK383.out 0; have hfz15_1 := blk_frozen BK383.out 1; have hfz15_2 := blk_frozen BK383.out 2) | ((with_reducible refine gate_callee (f := 125) rfl ?_); refine goesL_ (some 10) rfl rfl Tryz.func125 (by kernel_rfl) rfl #[.agg #[.string a0_0, .slice A0_1 l0_1.length c0_1, .slice A0_2 l0_2.length c0_2], .string (⟨#[115, 116, 97, 116, 117, 115]⟩ : ByteArray)] rfl (by (try simp only [List.map_toArray, List.map_cons, List.map_nil]); first | done | rfl | (simp only [List.length_drop, List.length_take]; rfl)) ?_; (with_reducible refine (tree_Find.calls k a0_0 _ _ l0_1 _ _ l0_2 (⟨#[115, 116, 97, 116, 117, 115]⟩ : ByteArray) t384 false _ ?side1 ?side2 ?side3 ?side4 A2.out).mono ?_); (case side1 => repeat (first | exact (Kd.C_below HR0_1.out HB.out) | (with_reducible refine Kd.C_alloc ?_ _) | (with_reducible refine Kd.C_drewN ?_ _) | (with_reducible refine Kd.C_drew ?_))); (case side2 => exact HC0_1.out); (case side3 => repeat (first | exact (Kd.C_below HR0_2.out HB.out) | (with_reducible refine Kd.C_alloc ?_ _) | (with_reducible refine Kd.C_drewN ?_ _) | (with_reducible refine Kd.C_drew ?_))); (case side4 => exact HC0_2.out); rintro e w16 ⟨v385, rfl, ho0, hb⟩; refine ⟨_, rfl, ?_⟩; have n0_ := Aside0.mk (Kd.R_lower ho0 (below_size (by repeat (first | (with_reducible first | exact HB.out | apply below_alloc | apply pw_below_drewN | apply below_drew1 | refine below_set ?_ GE383.out) | exact HB.out)))); have n1_ := Aside0.mk (blk_below (g := gb383) (o := .cells #[.string a0_0, .slice A0_1 l0_1.length c0_1, .slice A0_2 l0_2.length c0_2] 27 (0, 0)) (by (with_reducible repeat (first | refine blk_drewN ?_ _ | refine blk_drew ?_ | refine blk_alloc ?_ _)); exact BK383.out) hb); have n2_ := Aside0.mk (below_step (by repeat (first | (with_reducible first | exact HB.out | apply below_alloc | apply pw_below_drewN | apply below_drew1 | refine below_set ?_ GE383.out) | exact HB.out)) hb); clear BK383; clear HB; have HO386 := n0_; have BK383 := n1_; have HB := n2_; clear n0_ n1_ n2_; (try clear hb); (try clear hb2); (try clear hk); (try clear hi); (try clear ho0)))
    go_ret2
    exact ⟨by first | rfl | (simp [errW_none, errW_some] <;> rfl) | (simp [*, errW_none, errW_some] <;> rfl), by repeat (first | (with_reducible first | exact HB.out | apply below_alloc | apply pw_below_drewN | apply below_drew1 | refine below_set ?_ GE383.out) | exact HB.out)⟩
end Go.Proofs.YtkfcgjopabcbeaaGreatDoor.PV
