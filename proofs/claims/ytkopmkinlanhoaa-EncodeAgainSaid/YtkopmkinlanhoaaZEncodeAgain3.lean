/- EncodeAgain: texts of this session's, and what the kit's print laid for this seat, as far as the law's row uses them (Enc4, Enc5, Enc6, Enc7, Enc8, Enc9, Enc10, EDec4, EDec5, EDec6, EDec7, EDecerr). -/
import Derived.Test.YtkopmkinlanhoaaZEncodeAgain2
set_option linter.unusedVariables false
set_option linter.unusedSimpArgs false
namespace Go.Proofs.Ytkopmkinlanhoaa.PE
open Go.RowKit Go.Proofs.YtkopmkinlanhoaaW.PrintWords Go.Proofs.YtkopmkinlanhoaaW.PrintLast Go.Proofs.YtkopmkinlanhoaaW.PrintMore
attribute [local go_sem] max2_int min2_int max_two min_two max_three min_three max_four min_four
set_option linter.unusedVariables false
set_option linter.unusedSimpArgs false
section
variable {P : Program} {w : World}
theorem str_at (base : Nat) (t u ty e : TypeId) (i : TypeInfo) (ht : P.underlying t = some (.slice e)) (hu : P.underlying u = some .string) (hi : P.info? e = some i) (hz : i.zero = some (.int .u8 0)) (hsize : i.size = 1) (hby : i.bytes = 1)
    (v : Value) (n : Nat) (xs : List Value) (hown : w.ownsRow base e 1 v n xs) (s : ByteArray) (hb : n + s.size ≤ 140737488355328) {v' : Value} {w' : World} (hr : (Builtin.append_ #[t, u] ty #[v, .string s]).run P w = .ok v' w') :
    v'.ownBlock = v.ownBlock ∨ ∃ b, v'.ownBlock = some b ∧ w.heap.size ≤ b := by
  have hxl : xs.length = n := by simpa using hown.1
  rcases hown.2 with ⟨rfl, rfl⟩ | ⟨g, cap, cur, rfl, hbg, hg, hnc, hcm, hcs, htake⟩
  · by_cases hm : s.size = 0
    · have hf := Lib.run_firstCells_string (P := P) w 1 s
      rw [hm] at hf
      simp [Builtin.append_, run_underlying ht, run_underlying hu, sizeOf, typeInfo, hi, hsize, Builtin.lenOf, hm, hf] at hr
      left
      rw [← hr.1]
    · have h2 := run_append_nil_string (P := P) w t u ty e i (.int .u8 0) ht hu hi hz s (by omega) (by omega) (by rw [hby]; omega)
      rw [h2] at hr
      injection hr with h3 h4
      right
      exact ⟨w.heap.size, by rw [← h3]; rfl, Nat.le_refl _⟩
  · by_cases hroom : n + s.size ≤ cap
    · have hcs' : cur.size = cap := by simpa using hcs
      have h2 := Lib.run_append_room_string (P := P) w t u ty e i ht hu hi hsize g n cap cur hg s hroom (by omega)
      rw [h2] at hr
      injection hr with h3 h4
      left
      rw [← h3]
      rfl
    · have holds : ∀ j u, xs[j]? = some u → w.cell? ((⟨g, 0, none⟩ : Addr).add j) = some u := hown.cells (g := g) rfl
      have h2 := Lib.run_append_grow_string (P := P) w t u ty e i (.int .u8 0) ht hu hi hz ⟨g, 0, none⟩ n cap xs (by rw [hsize]; simpa using hxl) holds s (by omega) (by omega) (by rw [hby]; exact growslice_fits (by omega) (by omega))
      rw [h2] at hr
      injection hr with h3 h4
      right
      exact ⟨w.heap.size, by rw [← h3]; rfl, Nat.le_refl _⟩
end
section
variable {P : Program} {ops : Array Oper} {rest : List Oper} {o : Oper} {a : Act} {Q : Exit → Act → World → Prop}
theorem R_append_str {w0 W : World} (base : Nat) (hgd : o.guard = none) (s x : Operand) (t u e : TypeId)
    (ho : o.op = .call { callee := .builtin .append, args := #[s, x], argTypes := #[t, u] })
    (ht : P.underlying t = some (.slice e)) (hu : P.underlying u = some .string) (hinfo : (P.info? e).map (fun i => (i.zero, i.size, i.bytes)) = some (some (.int .u8 0), 1, 1))
    (v : Value) (xs : List Int) (y : ByteArray) (ok : Nat → Prop) (hs : a.eval s = v) (hx : a.eval x = .string y) (hfresh : ∀ k, W.heap.size ≤ k → ok k)
    (HO : Kd.R (Kd.int .u8) e W base ok v xs) (HB : Below base w0 W) (hbase : base ≤ W.heap.size) (hl : xs.length + y.size ≤ 140737488355328)
    (h : ∀ v1 w1, Kd.R (Kd.int .u8) e w1 base ok v1 (xs ++ bytesOf y) → Below base w0 w1 → W.grownBy w1 v.ownBlock → (v1.ownBlock = v.ownBlock ∨ ∃ b, v1.ownBlock = some b ∧ W.heap.size ≤ b) → wpList P ops Q rest (a.put o.dst v1) w1) :
    wpList P ops Q (o :: rest) a W := by
  obtain ⟨i0, hi, hzz⟩ := Option.map_eq_some_iff.1 hinfo
  simp only [Prod.mk.injEq] at hzz
  obtain ⟨hz0, hz1, hz2⟩ := hzz
  have hown := Kd.own_of_R HO
  obtain ⟨v1, w1, hr, h2, h3, _⟩ := Lib.run_append_own_string (P := P) W base t u o.type e i0 ht hu hi hz0 hz1 hz2 v xs.length _ hown y (by simp only [maxLen]; omega) hl hbase
  have hat := str_at base t u o.type e i0 ht hu hi hz0 hz1 hz2 v xs.length _ hown y hl hr
  refine wpList_plain hgd fun K hK => ?_
  unfold Oper.wp execOp
  simp only [ho, resolve, invoke, builtin, Sem.run_bind, Sem.run_pure, Result.andThen_ok, List.map_toArray, List.map_cons, List.map_nil, hs, hx, hr]
  have hl2 : (xs ++ bytesOf y).length = xs.length + y.size := by rw [List.length_append, bytesOf_length]
  have hc : encs (Value.int .u8) (xs ++ bytesOf y) = encs (Value.int .u8) xs ++ Lib.strCells y := by
    rw [encs_append]
    congr 1
    simp [encs, bytesOf, Lib.strCells]
  refine hK _ _ (h v1 w1 (Kd.R_of_own (by rw [hl2, hc]; exact h2) (fun k hk => ?_)) (HB.grown h3 hbase (Kd.R_base HO)) h3 hat)
  rcases hat with e1 | ⟨b, e1, hbb⟩
  · exact HO.1 k (by rw [← e1]; exact hk)
  · rw [e1] at hk
    injection hk with hk
    subst hk
    exact hfresh _ hbb
end
end Go.Proofs.Ytkopmkinlanhoaa.PE

namespace Go.Proofs.Ytkopmkinlanhoaa.PE
open Go.RowKit Go.Proofs.YtkopmkinlanhoaaW.PrintWords Go.Proofs.YtkopmkinlanhoaaW.PrintLast Go.Proofs.YtkopmkinlanhoaaW.PrintMore
attribute [local go_sem] max2_int min2_int max_two min_two max_three min_three max_four min_four
set_option linter.unusedVariables false
set_option linter.unusedSimpArgs false
section
variable {w0 W W2 : World} {g mb : Nat} {vb vt : Value} {B T : List Int} {hs : List (ByteArray × Int)}
theorem WrS.neM (h : WrS w0 W g mb vb vt B T hs) : g ≠ mb := fun e => by
  obtain ⟨es, ck, hm⟩ := h.mp.isMap
  rw [← e, h.blk] at hm
  simp at hm
theorem own_ne_map {W : World} {base : Nat} {ok : Nat → Prop} {v : Value} {xs : List Int} {mb : Nat} {hs : List (ByteArray × Int)} (h : Kd.R (Kd.int .u8) 5 W base ok v xs) (hm : MapI W mb hs) : some mb ≠ v.ownBlock := fun e => by
  obtain ⟨_, _, cs, h3⟩ := own_bytes h e.symm
  obtain ⟨es, ck, h4⟩ := hm.isMap
  rw [h3] at h4
  simp at h4
theorem WrS.grewT (h : WrS w0 W g mb vb vt B T hs) {v1 : Value} {T1 : List Int} (hsz : W.heap.size ≤ W2.heap.size) (hg : ∀ k, k < W.heap.size → some k ≠ vt.ownBlock → W2.heap[k]? = W.heap[k]?) (hat : v1.ownBlock = vt.ownBlock ∨ ∃ b, v1.ownBlock = some b ∧ W.heap.size ≤ b) (hr : Kd.R (Kd.int .u8) 5 W2 w0.heap.size (fun k => some k ≠ vb.ownBlock) v1 T1) (hb : Below w0.heap.size w0 W2) :
    WrS w0 (W2.setCell ⟨g, 1, none⟩ v1) g mb vb v1 B T1 hs ∧ KeptT W (W2.setCell ⟨g, 1, none⟩ v1) := by
  have b2 : W2.heap[g]? = some (.cells #[vb, vt, .map (some mb)] 100 (0, 0)) := (hg g (blk_lt h.blk) h.neT).trans h.blk
  have mp2 : MapI W2 mb hs := h.mp.same (hg mb h.mp.lt (own_ne_map h.rt h.mp))
  have rb2 : Kd.R (Kd.int .u8) 5 W2 w0.heap.size (fun k => some k = vb.ownBlock) vb B := Kd.R_step (Kd.R_tight rfl h.rb) (fun k hk hlt => hg k hlt (h.rb.1 k hk.symm))
  refine ⟨⟨hb.setCell h.lo _, h.lo, h.lom, blk_put b2 1 _ rfl, ?_, ?_, ?_⟩, ?_, ?_⟩
  · have z := Kd.R_far (Kd.R_types rb2 b2 (by intro q hq; simp [Kd.int, Kd.scalar] at hq; subst hq; decide)) (p := ⟨g, 1, none⟩) (fun k hk => hk.2) v1
    refine Kd.R_mono z (fun k hk e => ?_)
    have e1 := hk.1
    exact hr.1 k e.symm e1
  · exact Kd.R_far (Kd.R_types hr b2 (by intro q hq; simp [Kd.int, Kd.scalar] at hq; subst hq; decide)) (p := ⟨g, 1, none⟩) (fun k hk => hk.2) _ |> fun z => Kd.R_mono z (fun k hk => hk.1)
  · exact mp2.same (Below.heap_setCell W2 ⟨g, 1, none⟩ v1 mb (fun e => h.neM e.symm))
  · have : (W2.setCell ⟨g, 1, none⟩ v1).heap.size = W2.heap.size := by simp
    rw [this]
    exact hsz
  · intro k cs t hk h1 h2
    have hkg : k ≠ g := fun e => by
      rw [e, h.blk] at hk
      simp only [Option.some.injEq, Obj.cells.injEq] at hk
      exact h2 hk.2.1.symm
    refine (Below.heap_setCell W2 ⟨g, 1, none⟩ v1 k hkg).trans ?_
    refine (hg k (blk_lt hk) (fun e => ?_)).trans hk
    obtain ⟨_, _, cs2, h3⟩ := own_bytes h.rt e.symm
    rw [hk] at h3
    simp only [Option.some.injEq, Obj.cells.injEq] at h3
    exact h1 h3.2.1
theorem WrS.mapped {hs2 : List (ByteArray × Int)} (h : WrS w0 W g mb vb vt B T hs) (hm : MapI W2 mb hs2) (hg : W.grownBy W2 (some mb)) : WrS w0 W2 g mb vb vt B T hs2 ∧ KeptT W W2 := by
  refine ⟨⟨?_, h.lo, h.lom, blk_grown h.blk hg (fun e => h.neM (by injection e)), ?_, ?_, hm⟩, hg.size, fun k cs t hk _ _ => blk_grown hk hg (fun e => ?_)⟩
  · exact h.bel.grown hg h.bel.size (fun k hk => by injection hk with hk; rw [← hk]; exact h.lom)
  · exact Kd.R_mono (Kd.R_grown (Kd.R_tight2 rfl h.rb) hg (fun k hk e => own_ne_map h.rb h.mp (e.symm.trans hk.1))) (fun k hk => hk.2)
  · exact Kd.R_mono (Kd.R_grown (Kd.R_tight2 rfl h.rt) hg (fun k hk e => own_ne_map h.rt h.mp (e.symm.trans hk.1))) (fun k hk => hk.2)
  · obtain ⟨es, ck, h4⟩ := h.mp.isMap
    injection e with e
    rw [← e, hk] at h4
    simp at h4
end
theorem grown_two {W w1 w2 : World} {v v1 : Value} (h1 : W.grownBy w1 v.ownBlock) (h2 : w1.grownBy w2 v1.ownBlock) (hat : v1.ownBlock = v.ownBlock ∨ ∃ b, v1.ownBlock = some b ∧ W.heap.size ≤ b) : ∀ k, k < W.heap.size → some k ≠ v.ownBlock → w2.heap[k]? = W.heap[k]? := fun k hk hne => by
  refine (h2.block k (Nat.lt_of_lt_of_le hk h1.size) (fun e => ?_)).trans (h1.block k hk hne)
  rcases hat with h | ⟨b, hb, hbb⟩
  · exact hne (e.trans h)
  · rw [hb] at e
    injection e with e
    omega
theorem at_two {W w1 : World} {v v1 v2 : Value} (h1 : W.heap.size ≤ w1.heap.size) (h2 : v2.ownBlock = v1.ownBlock ∨ ∃ b, v2.ownBlock = some b ∧ w1.heap.size ≤ b) (hat : v1.ownBlock = v.ownBlock ∨ ∃ b, v1.ownBlock = some b ∧ W.heap.size ≤ b) : v2.ownBlock = v.ownBlock ∨ ∃ b, v2.ownBlock = some b ∧ W.heap.size ≤ b := by
  rcases h2 with h | ⟨b, hb, hbb⟩
  · rw [h]; exact hat
  · exact .inr ⟨b, hb, Nat.le_trans h1 hbb⟩
def textAt (T : List Int) (hs : List (ByteArray × Int)) (x : ByteArray) : Int := (firstI hs x).getD T.length
def textT (T : List Int) (hs : List (ByteArray × Int)) (x : ByteArray) : List Int := if (firstI hs x).isSome = true then T else T ++ (bytesOf x ++ [0])
def textH (T : List Int) (hs : List (ByteArray × Int)) (x : ByteArray) : List (ByteArray × Int) := if (firstI hs x).isSome = true then hs else hs ++ [(x, (T.length : Int))]
set_option maxRecDepth 100000 in
set_option maxHeartbeats 2000000 in
theorem writer_text.calls (x : ByteArray) (g mb : Nat) (w0 W : World) (vb vt : Value) (B T : List Int) (hs : List (ByteArray × Int)) (hS : WrS w0 W g mb vb vt B T hs) (hl : T.length + x.size ≤ 1099511627776) (hn : hs.length ≤ 1099511627776) :
    Calls Try.prog 75 #[.pointer (some ⟨g, 0, none⟩), .string x] W fun e w' => e = .returned (.int .i64 (textAt T hs x)) ∧ WrM w0 W w' g mb B (textT T hs x) (textH T hs x) := by
  have HS := Aside0.mk hS
  have k1 : W.cell? ⟨g, 1, none⟩ = some vt := (blk_cell hS.blk 1).trans rfl
  have k2 : W.cell? ⟨g, 2, none⟩ = some (.map (some mb)) := (blk_cell hS.blk 2).trans rfl
  have hlk := hS.mp.look x (by simp only [maxLen]; omega)
  obtain ⟨at_, hat_⟩ : ∃ z, z = firstI hs x := ⟨_, rfl⟩
  unfold textAt textT textH
  rw [← hat_] at hlk ⊢
  have HA := Aside0.mk hat_
  have HL := Aside0.mk hl
  have HN := Aside0.mk hn
  obtain ⟨At, ct, hvt⟩ := Kd.R_slice hS.rt
  clear hS hl hat_ hn
  cases at_ with
  | some i =>
    simp only [Option.getD_some, Option.isSome_some, if_true] at hlk ⊢
    go_enter Try.func75, Try.ntmps75
    go_wp2
    refine bodyPost_ret (results_tmp rfl _ _ _) rfl ?_
    exact ⟨rfl, _, _, HS.out, KeptT.refl _⟩
  | none =>
    simp only [Option.getD_none, Option.isSome_none, Bool.false_eq_true, if_false] at hlk ⊢
    subst hvt
    have h64 : (Lit.int .i64 (T.length : Int)).wf = true := by simp [Lit.wf, IntKind.min, IntKind.max, IntKind.bits, IntKind.signed]; have := HL.out; omega
    have HW := Aside0.mk h64
    have HX : Aside0 (x.size ≤ maxLen) := ⟨by have := HL.out; simp only [maxLen]; omega⟩
    have HN2 : Aside0 (hs.length < maxLen) := ⟨by have := HN.out; simp only [maxLen]; omega⟩
    clear h64
    go_enter Try.func75, Try.ntmps75
    go_wp2_with (first | (at_mapUpdate; refine wpList_mapI _ rfl _ _ _ rfl mb hs rfl HS.out.mp HN2.out x rfl HX.out (T.length : Int) rfl HW.out HA.out.symm ?_; intro w3 hm3 hg3; have HM3 := Aside0.mk (HS.out.mapped hm3 hg3); have k3 : w3.cell? ⟨g, 1, none⟩ = some (.slice At T.length ct) := (blk_cell HM3.out.1.blk 1).trans rfl; clear hm3 hg3) | ((with_reducible refine gate_builtin (b := .append) (xs := #[.tmp 33, .tmp 34]) rfl ?_); at_builtin; refine R_append_str (w0 := w0) w0.heap.size rfl (.tmp 33) (.tmp 34) 45 9 5 rfl Try.underlying45 Try.underlying9 info5 _ T x (fun k => some k ≠ vb.ownBlock) rfl rfl HM3.out.1.freshT HM3.out.1.rt HM3.out.1.bel HM3.out.1.bel.size ?aL ?_; (case aL => have := HL.out; omega); intro v4 w4 ho4 hb4 hg4 hat4; obtain ⟨T4, hT4⟩ : ∃ T4, T4 = T ++ bytesOf x := ⟨_, rfl⟩; rw [← hT4] at ho4; have HT4 := Aside0.mk hT4; obtain ⟨A4, c4, rfl⟩ := Kd.R_slice ho4; have HO4 := Aside0.mk ho4; have HB4 := Aside0.mk hb4; have HG4 := Aside0.mk hg4; have HA4 := Aside0.mk hat4; clear ho4 hb4 hg4 hat4 hT4) | ((with_reducible refine gate_builtin (b := .append) (xs := #[.tmp 35, .tmp 36]) rfl ?_); at_builtin; refine Kd.R_append (Kd.int .u8) (w0 := w0) w0.heap.size rfl (.tmp 35) (.tmp 36) 45 5 (.int .u8 0) 1 rfl Try.underlying45 info5 rfl (by decide) (by omega) _ T4 0 [.int .u8 0] (fun k => some k ≠ vb.ownBlock) (fun _ => False) rfl rfl ?aP (fun _ hk => hk.elim) ?aF HO4.out HB4.out HB4.out.size ?aL ?_; (case aP => exact rfl); (case aF => exact fun k hk => HM3.out.1.freshT k (Nat.le_trans HG4.out.size hk)); (case aL => have := HL.out; have h5 := HT4.out; rw [h5, List.length_append, bytesOf_length]; omega); intro v5 w5 ho5 hb5 hg5 hat5; obtain ⟨T5, hT5⟩ : ∃ T5, T5 = T4 ++ [0] := ⟨_, rfl⟩; rw [← hT5] at ho5; have HT5 := Aside0.mk hT5; obtain ⟨A5, c5, rfl⟩ := Kd.R_slice ho5; have HG := Aside0.mk (HM3.out.1.grewT (Nat.le_trans HG4.out.size hg5.size) (grown_two HG4.out hg5 HA4.out) (at_two HG4.out.size hat5 HA4.out) ho5 hb5); have kb := (grown_two HG4.out hg5 HA4.out _ (blk_lt HM3.out.1.blk) HM3.out.1.neT).trans HM3.out.1.blk; have kf : w5.frozen? ⟨g, 1, none⟩ = false := blk_frozen kb 1; have kc : w5.cell? ⟨g, 1, none⟩ = some (.slice At T.length ct) := (blk_cell kb 1).trans rfl; clear ho5 hb5 hg5 hat5 hT5 kb))
    refine bodyPost_ret (results_tmp rfl _ _ _) rfl ?_
    have ht : T ++ (bytesOf x ++ [0]) = T5 := by rw [HT5.out, HT4.out, List.append_assoc]
    rw [ht]
    exact ⟨rfl, _, _, HG.out.1, HM3.out.2.trans HG.out.2⟩
end Go.Proofs.Ytkopmkinlanhoaa.PE

namespace Go.Proofs.Ytkopmkinlanhoaa.PE
open Go.RowKit Go.Proofs.YtkopmkinlanhoaaW.PrintWords Go.Proofs.YtkopmkinlanhoaaW.PrintLast Go.Proofs.YtkopmkinlanhoaaW.PrintMore
attribute [local go_sem] max2_int min2_int max_two min_two max_three min_three max_four min_four
set_option linter.unusedVariables false
set_option linter.unusedSimpArgs false
theorem bytes_C (s : ByteArray) (W : World) (b : Nat) (m c : Nat) (hm : s.size + 1 ≤ 9223372036854775807) (h0 : ∀ j, j < s.size → W.cell? ⟨b, j, none⟩ = some (.int .u8 (s.data.toList.getD j 0).toNat)) (h1 : W.cell? ⟨b, s.size, none⟩ = some (.int .u8 0)) :
    Kd.C (Kd.int .u8) W (some ⟨b, 0, none⟩) (s.size + 1) (bytesOf s ++ [0]) := by
  refine Kd.C_of_reads (d := (0 : Int)) ⟨by simp [bytesOf_length], by omega, fun _ => ⟨_, rfl, fun j hj => ?_⟩⟩
  rw [add_plain]
  by_cases hj2 : j < s.size
  · rw [h0 j hj2]
    have h' : j < s.data.toList.length := by rw [data_length]; exact hj2
    simp [bytesOf, List.getD_eq_getElem?_getD, List.getElem?_append_left, List.getElem?_eq_getElem h', hj2]
  · have e : j = s.size := by omega
    subst e
    rw [h1]
    have h' : (bytesOf s).length ≤ s.size := by rw [bytesOf_length]; exact Nat.le_refl _
    simp [List.getD_eq_getElem?_getD, List.getElem?_append_right h', bytesOf_length]
set_option maxHeartbeats 1000000 in
theorem wpList_name {ops : Array Oper} {rest : List Oper} {o : Oper} {a : Act} {Q : Exit → Act → World → Prop} (W : World) (s : ByteArray) (hgd : o.guard = none) (sl x : Operand)
    (ho : o.op = .call { callee := .builtin .append, args := #[sl, x], argTypes := #[45, 45] })
    (hs : a.eval sl = .slice (some ⟨W.heap.size, 0, none⟩) s.size (grownCap W s.size 0 5)) (hx : a.eval x = .slice (some ⟨(Lib.bytesWorld W 5 s).heap.size, 0, none⟩) 1 1) (hl : s.size ≤ 1099511627776)
    (hK : ∀ A c w', s.size + 1 ≤ c → Kd.C (Kd.int .u8) w' A (bytesOf s ++ [0]).length (bytesOf s ++ [0]) → Below W.heap.size W w' → wpList Try.prog ops Q rest (a.put o.dst (.slice A (bytesOf s ++ [0]).length c)) w') :
    wpList Try.prog ops Q (o :: rest) a ((Lib.bytesWorld W 5 s).alloc (.cells #[.int .u8 0] 5)) := by
  obtain ⟨i0, hi, hzz⟩ := Option.map_eq_some_iff.1 info5
  simp only [Prod.mk.injEq] at hzz
  obtain ⟨hz0, hz1, hz2⟩ := hzz
  have hlen : (bytesOf s ++ [0]).length = s.size + 1 := by simp [bytesOf_length]
  rw [hlen] at hK
  have hb0 : Below W.heap.size W ((Lib.bytesWorld W 5 s).alloc (.cells #[.int .u8 0] 5)) := below_alloc (bytes_below (Below.refl _ _) (Nat.le_refl _) _ _) _
  have hnew := Lib.bytesWorld_at_new W 5 s
  have hat : ((Lib.bytesWorld W 5 s).alloc (.cells #[.int .u8 0] 5)).heap[W.heap.size]? = (Lib.bytesWorld W 5 s).heap[W.heap.size]? := Below.heap_alloc _ _ _ (by rw [Lib.bytesWorld_size]; omega)
  have hcs : (Lib.bytesCells W 5 s).size = grownCap W s.size 0 5 := by
    have := grownCap_ge W s.size 0 5
    have h2 : s.data.size = s.size := rfl
    simp [Lib.bytesCells, h2]
    omega
  have hcell : ∀ j, j < s.size → ((Lib.bytesWorld W 5 s).alloc (.cells #[.int .u8 0] 5)).cell? ⟨W.heap.size, j, none⟩ = some (.int .u8 (s.data.toList.getD j 0).toNat) := fun j hj => by
    rw [World.cell?_alloc_lt _ _ _ (by rw [Lib.bytesWorld_size]; simp)]
    exact Lib.bytesWorld_cell W _ s j hj
  refine wpList_append_arg _ hgd sl x 45 ho 5 i0 (.int .u8 0) 1 1 Try.underlying45 hi hz0 hz1 hz2 rfl (by decide) W.heap.size 0 s.size (grownCap W s.size 0 5) ((bytesOf s).map (Value.int .u8)) hs (by simp [bytesOf_length]) ?_ ⟨(Lib.bytesWorld W 5 s).heap.size, 0, none⟩ 1 1 [.int .u8 0] hx (by simp) ?_ (by intro u hu; simp at hu; subst hu; rfl) ?_ (by simp only [maxLen]; omega) (by omega) ?_ ?_
  · intro j u hu
    have hj : j < s.size := by
      have := (List.getElem?_eq_some_iff.1 hu).1
      simpa [bytesOf_length] using this
    have h' : j < s.data.toList.length := by rw [data_length]; exact hj
    simp only [Nat.zero_add]
    rw [hcell j hj]
    have hu2 : ((bytesOf s).map (Value.int .u8))[j]? = some (.int .u8 (s.data.toList.getD j 0).toNat) := by
      simp [bytesOf, List.getD_eq_getElem?_getD, List.getElem?_eq_getElem h', hj]
    rw [hu2] at hu
    exact hu
  · intro j u hu
    cases j with
    | zero =>
      simp at hu
      subst hu
      rw [add_plain]
      exact (blk_cell (blk_new _ _) 0).trans rfl
    | succ j => simp at hu
  · intro hroom j hj
    simp at hj
    subst hj
    have e1 : W.heap.size + 0 = W.heap.size := rfl
    simp only [Nat.mul_one, Nat.zero_add, Nat.add_zero]
    constructor
    · simp only [World.cell?, hat, hnew]
      have : s.size < (Lib.bytesCells W 5 s).size := by rw [hcs]; omega
      simp [this]
    · simp only [World.frozen?, hat, hnew, Bool.and_eq_false_iff, decide_eq_false_iff_not]
      left
      rw [hcs]
      omega
  · intro hroom
    have hsome : (((Lib.bytesWorld W 5 s).alloc (.cells #[.int .u8 0] 5)).cell? ⟨W.heap.size, s.size, none⟩).isSome = true := by
      simp only [World.cell?, hat, hnew]
      have : s.size < (Lib.bytesCells W 5 s).size := by rw [hcs]; omega
      simp [this]
    refine hK (some ⟨W.heap.size, 0, none⟩) _ _ hroom ?_ ?_
    · simp only [Nat.mul_one, Nat.zero_add, World.setCells]
      refine bytes_C s _ W.heap.size 0 0 (by omega) (fun j hj => ?_) ?_
      · refine (World.cell?_setCell_other _ _ _ _ (fun e => ?_)).trans (hcell j hj)
        have e2 := congrArg Addr.off e
        simp only at e2
        omega
      · exact World.cell?_setCell_same' _ _ _ hsome
    · simp only [Nat.mul_one, Nat.zero_add, World.setCells]
      exact hb0.setCell (Nat.le_refl _) _
  · intro hgrow v' w' ho' hg
    have hb1 : Below W.heap.size W w' := hb0.grown hg (by rw [show ((Lib.bytesWorld W 5 s).alloc (.cells #[.int .u8 0] 5)).heap.size = W.heap.size + 1 + 1 by simp [Lib.bytesWorld_size]]; omega) (fun k hk => by simp at hk)
    have hr : Kd.R (Kd.int .u8) 5 w' _ (fun _ => True) v' (bytesOf s ++ [0]) := Kd.R_of_own (by rw [hlen]; simpa [encs] using ho') (fun _ _ => trivial)
    obtain ⟨A, c, rfl, hc, hC⟩ := Kd.R_reads hr
    rw [hlen] at hc hC ⊢
    exact hK A c w' hc hC hb1
end Go.Proofs.Ytkopmkinlanhoaa.PE

namespace Go.Proofs.Ytkopmkinlanhoaa.PE
open Go.RowKit Go.Proofs.YtkopmkinlanhoaaW.PrintWords Go.Proofs.YtkopmkinlanhoaaW.PrintLast Go.Proofs.YtkopmkinlanhoaaW.PrintMore
attribute [local go_sem] max2_int min2_int max_two min_two max_three min_three max_four min_four
set_option linter.unusedVariables false
set_option linter.unusedSimpArgs false
abbrev WSt := List Int × List Int × List (ByteArray × Int)
def totW (s : WSt) : Nat := s.1.length + s.2.1.length + s.2.2.length
def capW (s : WSt) : Option WSt := if totW s ≤ 549755813888 then some s else none
theorem capW_some {s r : WSt} (h : capW s = some r) : r = s ∧ totW s ≤ 549755813888 := by
  unfold capW at h
  split at h
  · next h1 => injection h with h; exact ⟨h.symm, h1⟩
  · simp at h
def wCell (v : Int) (s : WSt) : WSt := (s.1 ++ cellB v, s.2.1, s.2.2)
def wBytes (l : List Int) (s : WSt) : WSt := (s.1 ++ l ++ padW l, s.2.1, s.2.2)
def wText (x : ByteArray) (s : WSt) : WSt := (s.1, textT s.2.1 s.2.2 x, textH s.2.1 s.2.2 x)
def wOpen (a : ByteArray) (s : WSt) : WSt := wBytes (bytesOf a ++ [0]) (wCell 1 s)
def wProp (p : S63) (s : WSt) : WSt := wBytes p.f1 (wCell (textAt s.2.1 s.2.2 p.f0 % 4294967296) (wText p.f0 (wCell ((p.f1.length : Int) % 4294967296) (wCell 3 s))))
mutual
def wrP : Nat → List S63 → Int → List S27 → WSt → Option WSt
  | 0, _, _, _, _ => none
  | k + 1, ps, i, ks, s => if i < (ps.length : Int) then (if 0 ≤ i then (if (rd_T63 ps i).f0.size ≤ 549755813888 then capW (wProp (rd_T63 ps i) s) else none).bind fun s2 => wrP k ps (wrap64 (i + 1)) ks s2 else none) else wrK k ks 0 s
def wrK : Nat → List S27 → Int → WSt → Option WSt
  | 0, _, _, _ => none
  | k + 1, ks, i, s => if i < (ks.length : Int) then (if 0 ≤ i then (wrN k (rd_T27 ks i) s).bind fun s2 => wrK k ks (wrap64 (i + 1)) s2 else none) else capW (wCell 2 s)
def wrN : Nat → S27 → WSt → Option WSt
  | 0, _, _ => none
  | k + 1, x, s => (capW (wOpen x.f0 s)).bind fun s2 => wrP k x.f1 0 x.f2 s2
end
def WrT (w0 W : World) (g mb : Nat) (s : WSt) : Prop := ∃ vb vt, WrS w0 W g mb vb vt s.1 s.2.1 s.2.2
theorem WrT.below {w0 W W2 : World} {g mb : Nat} {s : WSt} (h : WrT w0 W g mb s) (hb : Below W.heap.size W W2) : WrT w0 W2 g mb s := by
  obtain ⟨vb, vt, h⟩ := h
  exact ⟨vb, vt, h.below hb⟩
theorem step_cell (v : Int) (g mb : Nat) (w0 W : World) (s : WSt) (h0 : 0 ≤ v) (h1 : v < 4294967296) (h : WrT w0 W g mb s) (hl : totW (wCell v s) ≤ 1099511627776) :
    Calls Try.prog 49 #[.pointer (some ⟨g, 0, none⟩), .int .u32 v] W fun e w' => e = .returned (.tuple #[]) ∧ WrT w0 w' g mb (wCell v s) ∧ KeptT W w' := by
  obtain ⟨vb, vt, h⟩ := h
  refine (writer_cell.calls v g mb w0 W vb vt _ _ _ h0 h1 h (by simp [totW, wCell] at hl; omega)).mono ?_
  rintro e w' ⟨rfl, vb2, vt2, h2, hk⟩
  exact ⟨rfl, ⟨vb2, vt2, h2⟩, hk⟩
theorem step_bytes (A : Option Addr) (c : Nat) (l : List Int) (g mb : Nat) (w0 W : World) (s : WSt) (hC : Kd.C (Kd.int .u8) W A l.length l) (h : WrT w0 W g mb s) (hl : totW (wBytes l s) ≤ 1099511627776) :
    Calls Try.prog 74 #[.pointer (some ⟨g, 0, none⟩), .slice A l.length c] W fun e w' => e = .returned (.tuple #[]) ∧ WrT w0 w' g mb (wBytes l s) ∧ KeptT W w' := by
  obtain ⟨vb, vt, h⟩ := h
  refine (writer_bytes.calls A c l g mb w0 W vb vt _ _ _ hC h (by simp [totW, wBytes] at hl; omega)).mono ?_
  rintro e w' ⟨rfl, vb2, vt2, h2, hk⟩
  exact ⟨rfl, ⟨vb2, vt2, h2⟩, hk⟩
theorem totW_cell (v : Int) (s : WSt) : totW (wCell v s) = totW s + 4 := by simp [totW, wCell, cellB_length]; omega
theorem totW_bytes (l : List Int) (s : WSt) : totW (wBytes l s) = totW s + l.length + (padW l).length := by simp [totW, wBytes]; omega
theorem totW_text (x : ByteArray) (s : WSt) : totW s ≤ totW (wText x s) := by
  simp only [totW, wText, textT, textH]
  split <;> simp <;> omega
theorem step_text (x : ByteArray) (g mb : Nat) (w0 W : World) (s : WSt) (T : List Int) (hs : List (ByteArray × Int)) (hT : s.2.1 = T) (hH : s.2.2 = hs) (h : WrT w0 W g mb s) (hl : totW s + x.size ≤ 1099511627776) :
    Calls Try.prog 75 #[.pointer (some ⟨g, 0, none⟩), .string x] W fun e w' => e = .returned (.int .i64 (textAt T hs x)) ∧ WrT w0 w' g mb (wText x s) ∧ KeptT W w' := by
  subst hT hH
  obtain ⟨vb, vt, h⟩ := h
  refine (writer_text.calls x g mb w0 W vb vt _ _ _ h (by simp [totW] at hl; omega) (by simp [totW] at hl; omega)).mono ?_
  rintro e w' ⟨rfl, vb2, vt2, h2, hk⟩
  exact ⟨rfl, ⟨vb2, vt2, h2⟩, hk⟩
end Go.Proofs.Ytkopmkinlanhoaa.PE

namespace Go.Proofs.Ytkopmkinlanhoaa.PE
open Go.RowKit Go.Proofs.YtkopmkinlanhoaaW.PrintWords Go.Proofs.YtkopmkinlanhoaaW.PrintLast Go.Proofs.YtkopmkinlanhoaaW.PrintMore
attribute [local go_sem] max2_int min2_int max_two min_two max_three min_three max_four min_four
set_option linter.unusedVariables false
set_option linter.unusedSimpArgs false
theorem WrT.bel {w0 W : World} {g mb : Nat} {s : WSt} (h : WrT w0 W g mb s) : Below w0.heap.size w0 W := by
  obtain ⟨_, _, hh⟩ := h
  exact hh.bel
attribute [local irreducible] Go.Calls in
set_option maxRecDepth 100000 in
set_option maxHeartbeats 8000000 in
theorem writer_node.calls (g mb : Nat) (w0 : World) (k : Nat) : ∀ (a0 : ByteArray) (A1 : Option Addr) (c1 : Nat) (l1 : List S63) (A2 : Option Addr) (c2 : Nat) (l2 : List S27) (s r : WSt) (W : World)
    (hr1 : Kd.C k63 w0 A1 l1.length l1) (hr2 : Kd.C k27 w0 A2 l2.length l2) (hS : WrT w0 W g mb s) (h : wrN k ⟨a0, l1, l2⟩ s = some r),
    Calls Try.prog 48 #[.pointer (some ⟨g, 0, none⟩), .agg #[.string a0, .slice A1 l1.length c1, .slice A2 l2.length c2]] W fun e w' => e = .returned (.tuple #[]) ∧ WrT w0 w' g mb r ∧ KeptT W w' := by
  induction k using Nat.strongRecOn with
  | _ k ih =>
  intro a0 A1 c1 l1 A2 c2 l2 s r W hr1 hr2 hS h
  cases k with
  | zero => simp [wrN] at h
  | succ k =>
  simp only [wrN] at h
  obtain ⟨s2, hs2, h⟩ := Option.bind_eq_some_iff.mp h
  obtain ⟨rfl, hcap⟩ := capW_some hs2
  have HCAP := Aside0.mk hcap
  have IH := Aside0.mk ih
  have HR1 := Aside0.mk hr1
  have HR2 := Aside0.mk hr2
  have H' := Aside0.mk h
  have hu27 := Try.underlying27
  have hu63 := Try.underlying63
  have hb0 : Below W.heap.size W (W.alloc (.cells #[.string a0, .slice A1 l1.length c1, .slice A2 l2.length c2] 27)) := below_alloc (Below.refl _ _) _
  have HW := Aside0.mk (hS.below hb0)
  have HK := Aside0.mk (KeptT.of_below hb0)
  have BX : Aside0 ((W.alloc (.cells #[.string a0, .slice A1 l1.length c1, .slice A2 l2.length c2] 27)).heap[W.heap.size]? = some (Obj.cells #[.string a0, .slice A1 l1.length c1, .slice A2 l2.length c2] 27 (0, 0))) := ⟨blk_new _ _⟩
  have kb := fun W : World => print_bytes (P := Try.prog) 9 45 5 Try.underlying9 Try.underlying45 Try.underlying5 a0 W
  have hT : totW (wCell 1 s) + (a0.size + 1) ≤ 549755813888 := by
    have := hcap
    simp only [wOpen, totW_bytes, List.length_append, bytesOf_length] at this
    simp at this
    omega
  have HT := Aside0.mk hT
  obtain ⟨nm, hnm⟩ : ∃ nm, nm = bytesOf a0 ++ [0] := ⟨_, rfl⟩
  have HNM := Aside0.mk hnm
  clear ih hs2 hcap hr1 hr2 hS h hb0 hT hnm
  go_enter Try.func48, Try.ntmps48
  go_wp2_with (first | (go_at_call 49; refine (step_cell 1 g mb w0 _ s (by decide) (by decide) HW.out (by have := HT.out; omega)).mono ?_; rintro e w1 ⟨rfl, n1_, n2_⟩; have BX := Aside0.mk (n2_.2 _ _ _ BX.out (by decide) (by decide)); have q0 := (blk_cell BX.out 0).trans rfl; have q1 := (blk_cell BX.out 1).trans rfl; have q2 := (blk_cell BX.out 2).trans rfl; have HK := Aside0.mk (HK.out.trans n2_); have HW := Aside0.mk n1_; clear n1_ n2_) | ((with_reducible refine gate_builtin (b := .append) (xs := #[.tmp 13, .tmp 14]) rfl ?_); at_builtin; refine wpList_name w1 a0 rfl (.tmp 13) (.tmp 14) rfl rfl rfl (by have := HT.out; omega) ?_; intro An cn w2 hcn hCn hbn; rw [← HNM.out] at hCn ⊢; have HCN := Aside0.mk hCn; have BX := Aside0.mk (blk_below BX.out hbn); have HK := Aside0.mk (HK.out.below hbn); have HW := Aside0.mk (HW.out.below hbn); clear hcn hCn hbn q0 q1 q2) | (go_at_call 74; refine (step_bytes An cn nm g mb w0 _ (wCell 1 s) HCN.out HW.out (by have := HCAP.out; unfold wOpen at this; rw [← HNM.out] at this; omega)).mono ?_; rintro e w3 ⟨rfl, n1_, n2_⟩; have BX := Aside0.mk (n2_.2 _ _ _ BX.out (by decide) (by decide)); have q0 := (blk_cell BX.out 0).trans rfl; have q1 := (blk_cell BX.out 1).trans rfl; have q2 := (blk_cell BX.out 2).trans rfl; have HK := Aside0.mk (HK.out.trans n2_); have HW := Aside0.mk n1_; clear n1_ n2_))
  have HW : Aside0 (WrT w0 w3 g mb (wOpen a0 s)) := ⟨by have h5 := HW.out; rw [HNM.out] at h5; exact h5⟩
  generalize wOpen a0 s = s1 at H' HW
  clear HCAP HNM HT HCN
  go_loopg [20] k (fun kq v20 w' => ∃ (i : Int) (s2 : WSt), v20 = .int .i64 i ∧ Aside0 (wrP kq l1 i l2 s2 = some r) ∧ Aside0 (kq ≤ k) ∧ Aside0 (w'.heap[W.heap.size]? = some (Obj.cells #[.string a0, .slice A1 l1.length c1, .slice A2 l2.length c2] 27 (0, 0))) ∧ Aside0 (KeptT W w') ∧ Aside0 (WrT w0 w' g mb s2))
  case atStart => exact ⟨0, s1, rfl, H', ⟨Nat.le_refl _⟩, BX, HK, HW⟩
  case round =>
    clear H' BX HK HW q0 q1 q2 kb
    obtain ⟨i, s2, rfl, HA, HK1, BXr, HKr, HWr⟩ := hrel
    cases gk with
    | zero => exact absurd HA.out (by simp [wrP])
    | succ k1 =>
      have H := HA.out
      clear HA
      simp only [wrP] at H
      by_cases c5 : i < (l1.length : Int)
      · rw [if_pos c5] at H
        have c5b0 : decide (i < (l1.length : Int)) = true := decide_eq_true c5
        by_cases c6 : 0 ≤ i
        · rw [if_pos c6] at H
          obtain ⟨ad, Ap, cp, e405, hx0, hx1, hlp, hip⟩ := at_T63 HR1.out i c6 c5
          cases e405
          have hbw : Below w0.heap.size w0 wr := by obtain ⟨_, _, hh⟩ := HWr.out; exact hh.bel
          replace hx0 := (hbw.cell (World.block_lt_of_cell? w0 _ hx0)).trans hx0
          replace hx1 := (hbw.cell (World.block_lt_of_cell? w0 _ hx1)).trans hx1
          generalize rd_T63 l1 i = p at H hx0 hx1 hlp hip
          have c6b0 : decide (0 ≤ i) = true := decide_eq_true c6
          have p405 : (0 ≤ i) = True := eq_true c6
          have q405 : (i < (l1.length : Int)) = True := eq_true c5
          obtain ⟨s3, hs3, H⟩ := Option.bind_eq_some_iff.mp H
          by_cases c9 : p.f0.size ≤ 549755813888
          · rw [if_pos c9] at hs3
            obtain ⟨rfl, hcap⟩ := capW_some hs3
            have hT1 : totW s2 + 8 ≤ 549755813888 ∧ totW (wText p.f0 (wCell ((p.f1.length : Int) % 4294967296) (wCell 3 s2))) + 4 + p.f1.length + (padW p.f1).length ≤ 549755813888 := by
              have h6 := totW_text p.f0 (wCell ((p.f1.length : Int) % 4294967296) (wCell 3 s2))
              have h7 := hcap
              simp only [wProp, totW_bytes, totW_cell] at h7 h6 ⊢
              omega
            have HT := Aside0.mk hT1
            have H' := Aside0.mk H
            have HIP := Aside0.mk hip
            have HC9 := Aside0.mk c9
            have hbp : Below wr.heap.size wr (wr.alloc (.cells #[.string p.f0, .slice Ap p.f1.length cp] 63)) := below_alloc (Below.refl _ _) _
            have HW := Aside0.mk (HWr.out.below hbp)
            have HK := Aside0.mk (HKr.out.below hbp)
            have BX := Aside0.mk (blk_below BXr.out hbp)
            have BP : Aside0 ((wr.alloc (.cells #[.string p.f0, .slice Ap p.f1.length cp] 63)).heap[wr.heap.size]? = some (Obj.cells #[.string p.f0, .slice Ap p.f1.length cp] 63 (0, 0))) := ⟨blk_new _ _⟩
            clear c9 hs3 hcap hT1 H hip hbp HWr HKr BXr c5 c6 hlp hbw
            go_wp2_with (first | (go_at_call 49; refine (step_cell _ g mb w0 _ _ ?cA ?cB HW.out ?cC).mono ?_; (case cA => first | decide | exact Int.emod_nonneg _ (by decide)); (case cB => first | decide | exact Int.emod_lt_of_pos _ (by decide)); (case cC => have := HT.out; simp only [totW_cell]; omega); rintro e w4 ⟨rfl, n1_, n2_⟩; have BX := Aside0.mk (n2_.2 _ _ _ BX.out (by decide) (by decide)); have BP := Aside0.mk (n2_.2 _ _ _ BP.out (by decide) (by decide)); have q3 := (blk_cell BP.out 0).trans rfl; have q4 := (blk_cell BP.out 1).trans rfl; have HK := Aside0.mk (HK.out.trans n2_); have HW := Aside0.mk n1_; clear n1_ n2_) | (go_at_call 75; refine (step_text p.f0 g mb w0 _ (wCell ((p.f1.length : Int) % 4294967296) (wCell 3 s2)) s2.2.1 s2.2.2 rfl rfl HW.out ?cC).mono ?_; (case cC => have := HT.out; have := HC9.out; simp only [totW_cell]; omega); rintro e w5 ⟨rfl, n1_, n2_⟩; have BX := Aside0.mk (n2_.2 _ _ _ BX.out (by decide) (by decide)); have BP := Aside0.mk (n2_.2 _ _ _ BP.out (by decide) (by decide)); have q3 := (blk_cell BP.out 0).trans rfl; have q4 := (blk_cell BP.out 1).trans rfl; have HK := Aside0.mk (HK.out.trans n2_); have HW := Aside0.mk n1_; clear n1_ n2_) | (go_at_call 74; refine (step_bytes Ap cp p.f1 g mb w0 _ _ (Kd.C_below HIP.out HW.out.bel) HW.out ?cC).mono ?_; (case cC => have := HT.out; simp only [totW_bytes, totW_cell]; omega); rintro e w6 ⟨rfl, n1_, n2_⟩; have BX := Aside0.mk (n2_.2 _ _ _ BX.out (by decide) (by decide)); have BP := Aside0.mk (n2_.2 _ _ _ BP.out (by decide) (by decide)); have q3 := (blk_cell BP.out 0).trans rfl; have q4 := (blk_cell BP.out 1).trans rfl; have HK := Aside0.mk (HK.out.trans n2_); have HW := Aside0.mk n1_; clear n1_ n2_))
            go_roundg k1
            case measure => have := HK1.out; omega
            case rel => exact ⟨wrap64 (i + 1), _, rfl, H', ⟨by have := HK1.out; omega⟩, BX, HK, HW⟩
          · rw [if_neg c9] at hs3
            exact absurd hs3 (by simp)
        · rw [if_neg c6] at H
          exact absurd H (by simp)
      · rw [if_neg c5] at H
        have c5b0 : decide (i < (l1.length : Int)) = false := decide_eq_false c5
        have H' := Aside0.mk H
        have q0 := (blk_cell BXr.out 0).trans rfl
        have q1 := (blk_cell BXr.out 1).trans rfl
        have q2 := (blk_cell BXr.out 2).trans rfl
        clear H c5
        go_wp2
        go_loopg [47] k1 (fun kq v47 w' => ∃ (j : Int) (s3 : WSt), v47 = .int .i64 j ∧ Aside0 (wrK kq l2 j s3 = some r) ∧ Aside0 (kq ≤ k1) ∧ Aside0 (w'.heap[W.heap.size]? = some (Obj.cells #[.string a0, .slice A1 l1.length c1, .slice A2 l2.length c2] 27 (0, 0))) ∧ Aside0 (KeptT W w') ∧ Aside0 (WrT w0 w' g mb s3))
        case atStart => exact ⟨0, s2, rfl, H', ⟨Nat.le_refl _⟩, BXr, HKr, HWr⟩
        case round =>
          clear H' q0 q1 q2 BXr HKr HWr c5b0
          obtain ⟨j, s3, rfl, HA, HK2, BXq, HKq, HWq⟩ := hrel
          cases gk with
          | zero => exact absurd HA.out (by simp [wrK])
          | succ k2 =>
            have H := HA.out
            clear HA
            simp only [wrK] at H
            by_cases c7 : j < (l2.length : Int)
            · rw [if_pos c7] at H
              have c7b0 : decide (j < (l2.length : Int)) = true := decide_eq_true c7
              by_cases c8 : 0 ≤ j
              · rw [if_pos c8] at H
                obtain ⟨s4, hs4, H⟩ := Option.bind_eq_some_iff.mp H
                obtain ⟨ad, Ap, cp, Aq, cq, e407, hx0, hx1, hx2, hlp, hip, hlq, hiq⟩ := at_T27 HR2.out j c8 c7
                cases e407
                have hbw : Below w0.heap.size w0 wr := HWq.out.bel
                replace hx0 := (hbw.cell (World.block_lt_of_cell? w0 _ hx0)).trans hx0
                replace hx1 := (hbw.cell (World.block_lt_of_cell? w0 _ hx1)).trans hx1
                replace hx2 := (hbw.cell (World.block_lt_of_cell? w0 _ hx2)).trans hx2
                generalize rd_T27 l2 j = x at hs4 hx0 hx1 hx2 hlp hip hlq hiq
                obtain ⟨xa, xp, xk⟩ := x
                dsimp only at hx0 hx1 hx2 hlp hip hlq hiq
                have c8b0 : decide (0 ≤ j) = true := decide_eq_true c8
                have p405 : (0 ≤ j) = True := eq_true c8
                have q405 : (j < (l2.length : Int)) = True := eq_true c7
                have H' := Aside0.mk H
                have hbp : Below wr.heap.size wr (wr.alloc (.cells #[.string xa, .slice Ap xp.length cp, .slice Aq xk.length cq] 27)) := below_alloc (Below.refl _ _) _
                have HQ := Aside0.mk (IH.out k2 (by have := HK1.out; have := HK2.out; omega) xa Ap cp xp Aq cq xk s3 s4 _ hip hiq (HWq.out.below hbp) hs4)
                have HK := Aside0.mk (HKq.out.below hbp)
                have BX := Aside0.mk (blk_below BXq.out hbp)
                clear hs4 H hip hiq hbp HWq HKq BXq c7 c8 hlp hlq hbw
                go_wp2_with (go_at_call 48; refine HQ.out.mono ?_; rintro e w4 ⟨rfl, n1_, n2_⟩; have BX := Aside0.mk (n2_.2 _ _ _ BX.out (by decide) (by decide)); have HK := Aside0.mk (HK.out.trans n2_); have HW := Aside0.mk n1_; clear n1_ n2_)
                go_roundg k2
                case measure => have := HK1.out; have := HK2.out; omega
                case rel => exact ⟨wrap64 (j + 1), _, rfl, H', ⟨by have := HK1.out; have := HK2.out; omega⟩, BX, HK, HW⟩
              · rw [if_neg c8] at H
                exact absurd H (by simp)
            · rw [if_neg c7] at H
              have c7b0 : decide (j < (l2.length : Int)) = false := decide_eq_false c7
              obtain ⟨rfl, hcap⟩ := capW_some H
              have HCP := Aside0.mk hcap
              clear H hcap c7
              go_wp2_with (go_at_call 49; refine (step_cell 2 g mb w0 _ s3 (by decide) (by decide) HWq.out (by have := HCP.out; omega)).mono ?_; rintro e w5 ⟨rfl, n1_, n2_⟩; have HK := Aside0.mk (HKq.out.trans n2_); have HW := Aside0.mk n1_; clear n1_ n2_)
              first | go_end0 | ((try simp only [Exit.inBlock, Exit.then]); refine bodyPost_ret (results_none rfl _ _ _) rfl ?_)
              exact ⟨rfl, HW.out, HK.out⟩
end Go.Proofs.Ytkopmkinlanhoaa.PE

namespace Go.Proofs.Ytkopmkinlanhoaa.PE
open Go.RowKit Go.Proofs.YtkopmkinlanhoaaW.PrintWords Go.Proofs.YtkopmkinlanhoaaW.PrintLast Go.Proofs.YtkopmkinlanhoaaW.PrintMore
attribute [local go_sem] max2_int min2_int max_two min_two max_three min_three max_four min_four
set_option linter.unusedVariables false
set_option linter.unusedSimpArgs false
theorem R_cut0 {W : World} {base : Nat} {ok : Nat → Prop} {A : Option Addr} {n c : Nat} {xs : List Int} (h : Kd.R (Kd.int .u8) 5 W base ok (.slice A n c) xs) : Kd.R (Kd.int .u8) 5 W base ok (.slice A 0 c) [] := by
  have h0 := h.1
  obtain ⟨_, ho⟩ := Kd.own_of_R h
  refine Kd.R_of_own ⟨by simp [encs], ?_⟩ (fun k hk => ?_)
  · rcases ho with ⟨hv, hn⟩ | ⟨g, cap, cur, hv, hb, hg, hnc, hcm, hcs, htake⟩
    · left
      injection hv with e1 e2 e3
      subst e1 e3
      exact ⟨rfl, rfl⟩
    · right
      injection hv with e1 e2 e3
      subst e1 e3
      exact ⟨g, _, cur, rfl, hb, hg, Nat.zero_le _, hcm, hcs, by simp [encs]⟩
  · refine h0 k ?_
    cases A with
    | none => simp [Value.ownBlock] at hk
    | some a => simpa [Value.ownBlock] using hk
set_option maxRecDepth 100000 in
set_option maxHeartbeats 2000000 in
theorem grow_nil.calls (n : Int) (W : World) (h0 : 0 < n) (h1 : n ≤ 1099511627776) :
    Calls Try.prog 77 #[.slice none 0 0, .int .i64 n] W fun e w' => ∃ v : Value, e = .returned v ∧ Kd.R (Kd.int .u8) 5 w' W.heap.size (fun _ => True) v [] ∧ Below W.heap.size W w' := by
  have d0 : decide (n < 0) = false := decide_eq_false (by omega)
  have d1 : decide (0 < n) = true := decide_eq_true (by omega)
  have s0 : IntKind.i64.wrap n = n := by rw [i64_w]; unfold Go.RowKit.wrap64; omega
  have s1 : IntKind.i64.wrap (n - 0) = n := by rw [i64_w]; unfold Go.RowKit.wrap64; omega
  have s2 : Go.RowKit.wrap64 n = n := by unfold Go.RowKit.wrap64; omega
  have H1 := Aside0.mk h1
  have H0 : Aside0 (0 ≤ n) := ⟨by omega⟩
  clear h0 h1
  go_enter Try.func77, Try.ntmps77
  go_wp2_with ((with_reducible refine gate_builtin (b := .append) (xs := #[.tmp 20, .tmp 21]) rfl ?_); at_builtin; refine Kd.R_append_zeros (Kd.int .u8) (w0 := W) W.heap.size rfl (.tmp 20) (.tmp 21) 45 3 5 (.int .u8 0) 1 rfl Try.underlying45 Try.underlying3 info5 rfl (by decide) (by omega) (.slice none 0 0) [] 0 n (fun _ => True) rfl rfl ?aZ (fun _ _ => trivial) (Kd.R_nil _ _ _ _ _) H0.out (Below.refl _ _) (Nat.le_refl _) ?aL ?_; (case aZ => first | exact rfl | simp [Kd.int, Kd.scalar]); (case aL => have := H1.out; have := H0.out; simp; omega); intro v1 w1 ho hb hg hat; obtain ⟨A1, c1, rfl⟩ := Kd.R_slice ho; have HO := Aside0.mk (R_cut0 ho); have HB := Aside0.mk hb; clear ho hb hg hat)
  refine bodyPost_ret (results_tmp rfl _ _ _) rfl ?_
  exact ⟨_, rfl, HO.out, HB.out⟩
theorem take_flat (ls : List (List Int)) (i : Int) (h0 : 0 ≤ i) (h1 : i < ls.length) : (ls.take (i + 1).toNat).flatten = (ls.take i.toNat).flatten ++ rd_L6 ls i := by
  have e : (i + 1).toNat = i.toNat + 1 := by omega
  rw [e, List.take_add_one, List.flatten_append]
  congr 1
  have hlt : i.toNat < ls.length := by omega
  simp [rd_L6, List.getD_eq_getElem?_getD, List.getElem?_eq_getElem hlt]
theorem take_flat_le (ls : List (List Int)) (i : Nat) : (ls.take i).flatten.length ≤ ls.flatten.length := by
  have h : ls.flatten = (ls.take i).flatten ++ (ls.drop i).flatten := by rw [← List.flatten_append, List.take_append_drop]
  rw [h, List.length_append]
  omega
set_option maxRecDepth 100000 in
set_option maxHeartbeats 2000000 in
theorem concat.calls (A : Option Addr) (c : Nat) (ls : List (List Int)) (W : World) (hC : Kd.C (Kd.slice 5 (Kd.int .u8)) W A ls.length ls) (hn : ls.length ≤ 1000) (h0 : 0 < ls.flatten.length) (h1 : ls.flatten.length ≤ 1099511627776) :
    Calls Try.prog 53 #[.slice A ls.length c] W fun e w' => ∃ v : Value, e = .returned v ∧ Kd.R (Kd.int .u8) 5 w' W.heap.size (fun _ => True) v ls.flatten ∧ Below W.heap.size W w' := by
  have HC := Aside0.mk hC
  have HN := Aside0.mk hn
  have H0 := Aside0.mk h0
  have H1 := Aside0.mk h1
  have hu45 := Try.underlying45
  clear hC hn h0 h1
  go_enter Try.func53, Try.ntmps53
  go_wp2
  go_loopg [3, 5, 11] (ls.length + 1) (fun kq v3 v5 v11 w' => ∃ (i : Int), v3 = .int .i64 ((ls.take i.toNat).flatten.length : Int) ∧ v11 = .int .i64 i ∧ Aside0 (i + (kq : Int) = (ls.length : Int) + 1) ∧ Aside0 (0 ≤ i ∧ i ≤ (ls.length : Int)) ∧ Aside0 (Below W.heap.size W w'))
  case atStart => exact ⟨0, rfl, rfl, ⟨by omega⟩, ⟨by omega⟩, ⟨Below.refl _ _⟩⟩
  case round =>
    obtain ⟨i, rfl, rfl, HI, HR, HB⟩ := hrel
    cases gk with
    | zero => exact absurd HI.out (by have := HR.out; omega)
    | succ k1 =>
      by_cases c5 : i < (ls.length : Int)
      · have c6 : 0 ≤ i := HR.out.1
        obtain ⟨ad, Ap, cp, e405, hx0, hlp, hip⟩ := at_L6 HC.out i c6 c5
        cases e405
        replace hx0 := (HB.out.cell (World.block_lt_of_cell? W _ hx0)).trans hx0
        have hf := take_flat ls i c6 c5
        have hfl := take_flat_le ls (i + 1).toNat
        have hfe := congrArg List.length hf
        rw [List.length_append] at hfe
        have hs1 : IntKind.i64.wrap (((ls.take i.toNat).flatten.length : Int) + ((rd_L6 ls i).length : Int)) = ((ls.take (i + 1).toNat).flatten.length : Int) := by
          have := H1.out
          rw [i64_w]
          unfold Go.RowKit.wrap64
          omega
        have hs2 : IntKind.i64.wrap (i + 1) = i + 1 := by
          have := HN.out
          rw [i64_w]
          unfold Go.RowKit.wrap64
          omega
        have hs3 : Go.RowKit.wrap64 (((ls.take i.toNat).flatten.length : Int) + ((rd_L6 ls i).length : Int)) = ((ls.take (i + 1).toNat).flatten.length : Int) := by rw [← i64_w]; exact hs1
        have hs4 : Go.RowKit.wrap64 (i + 1) = i + 1 := by rw [← i64_w]; exact hs2
        have hd : decide (((ls.take (i + 1).toNat).flatten.length : Int) < 0) = false := decide_eq_false (by omega)
        have c5b0 : decide (i < (ls.length : Int)) = true := decide_eq_true c5
        have c6b0 : decide (0 ≤ i) = true := decide_eq_true c6
        have p405 : (0 ≤ i) = True := eq_true c6
        have q405 : (i < (ls.length : Int)) = True := eq_true c5
        have HI2 : Aside0 (i + 1 + (k1 : Int) = (ls.length : Int) + 1) := ⟨by have := HI.out; omega⟩
        have HR2 : Aside0 (0 ≤ i + 1 ∧ i + 1 ≤ (ls.length : Int)) := ⟨by omega⟩
        generalize rd_L6 ls i = l at hx0 hs1 hs3
        clear hf hfl hfe hlp hip c5 c6
        generalize hg1 : ((ls.take i.toNat).flatten.length : Int) = n1 at hs1 hs3
        generalize hg2 : ((ls.take (i + 1).toNat).flatten.length : Int) = n2 at hs1 hs3 hd
        go_wp2
        go_roundg k1
        case measure => omega
        case rel => exact ⟨i + 1, by rw [hg2], rfl, HI2, HR2, HB⟩
      · have hi : i = (ls.length : Int) := by have := HR.out; omega
        subst hi
        have hfull : (ls.take ((ls.length : Int)).toNat).flatten = ls.flatten := by rw [Int.toNat_natCast, List.take_length]
        rw [hfull]
        obtain ⟨n, hn⟩ : ∃ n : Int, n = (ls.flatten.length : Int) := ⟨_, rfl⟩
        rw [← hn]
        have HG := Aside0.mk (grow_nil.calls n wr (by have := H0.out; omega) (by have := H1.out; omega))
        have c5b0 : decide ((ls.length : Int) < (ls.length : Int)) = false := decide_eq_false c5
        clear c5 HI HR hn hfull
        go_wp2_with (go_at_call 77; refine HG.out.mono ?_; rintro e w3 ⟨v6, rfl, hr, hb⟩; obtain ⟨A6, c6, rfl⟩ := Kd.R_slice hr; have HO := Aside0.mk (Kd.R_lower hr HB.out.size); have HB3 := Aside0.mk (below_step HB.out hb); clear hr hb)
        go_loopg [6, 8, 27] (ls.length + 1) (fun kq v6 v8 v27 w' => ∃ (i : Int), v27 = .int .i64 i ∧ Aside0 (i + (kq : Int) = (ls.length : Int) + 1) ∧ Aside0 (0 ≤ i ∧ i ≤ (ls.length : Int)) ∧ Aside0 (Below W.heap.size W w') ∧ Aside0 (Kd.R (Kd.int .u8) 5 w' W.heap.size (fun _ => True) v6 (ls.take i.toNat).flatten))
        case atStart => exact ⟨0, rfl, ⟨by omega⟩, ⟨by omega⟩, HB3, HO⟩
        case round =>
          clear HB HB3 HO HG c5b0
          obtain ⟨i, rfl, HI, HR, HB, HO⟩ := hrel
          cases gk with
          | zero => exact absurd HI.out (by have := HR.out; omega)
          | succ k2 =>
            obtain ⟨Av, cv, rfl⟩ := Kd.R_slice HO.out
            by_cases c5 : i < (ls.length : Int)
            · have c6 : 0 ≤ i := HR.out.1
              obtain ⟨ad, Ap, cp, e405, hx0, hlp, hip⟩ := at_L6 HC.out i c6 c5
              cases e405
              replace hx0 := (HB.out.cell (World.block_lt_of_cell? W _ hx0)).trans hx0
              have hf := take_flat ls i c6 c5
              have hfl := take_flat_le ls (i + 1).toNat
              have hs2 : IntKind.i64.wrap (i + 1) = i + 1 := by
                have := HN.out
                rw [i64_w]
                unfold Go.RowKit.wrap64
                omega
              have hs4 : Go.RowKit.wrap64 (i + 1) = i + 1 := by rw [← i64_w]; exact hs2
              have c5b0 : decide (i < (ls.length : Int)) = true := decide_eq_true c5
              have c6b0 : decide (0 ≤ i) = true := decide_eq_true c6
              have p405 : (0 ≤ i) = True := eq_true c6
              have q405 : (i < (ls.length : Int)) = True := eq_true c5
              have HI2 : Aside0 (i + 1 + (k2 : Int) = (ls.length : Int) + 1) := ⟨by have := HI.out; omega⟩
              have HR2 : Aside0 (0 ≤ i + 1 ∧ i + 1 ≤ (ls.length : Int)) := ⟨by omega⟩
              have hL : ((ls.take i.toNat).flatten.length + (rd_L6 ls i).length) * 1 ≤ 140737488355328 := by
                have := H1.out
                have h5 := congrArg List.length hf
                rw [List.length_append] at h5
                omega
              have HL := Aside0.mk hL
              have HF := Aside0.mk hf
              generalize rd_L6 ls i = l at hx0 hip HF HL
              have HIP := Aside0.mk (Kd.C_below hip HB.out)
              clear hf hfl hlp hip c5 c6 hL
              obtain ⟨x6, hx6⟩ : ∃ x6, x6 = (ls.take i.toNat).flatten := ⟨_, rfl⟩
              rw [← hx6] at HO HF HL ⊢
              clear hx6
              go_wp2_with ((with_reducible refine gate_builtin (b := .append) (xs := #[.tmp 31, .tmp 32]) rfl ?_); at_builtin; refine Kd.R_append_rows (Kd.int .u8) (w0 := W) W.heap.size rfl (.tmp 31) (.tmp 32) 45 5 (.int .u8 0) 1 rfl Try.underlying45 info5 rfl (by decide) (by omega) _ x6 l _ _ _ (fun _ => True) (fun _ => False) rfl rfl HO.out ?aR (fun _ _ h => h) (fun _ h => h.elim) (fun _ _ => trivial) HB.out HB.out.size HL.out ?_; (case aR => exact HIP.out); intro v9 w9 ho hb hg hat; have HO9 := Aside0.mk ho; have HB9 := Aside0.mk hb; clear ho hb hg hat)
              go_roundg k2
              case measure => omega
              case rel => exact ⟨i + 1, rfl, HI2, HR2, HB9, ⟨by rw [HF.out]; exact HO9.out⟩⟩
            · have hi : i = (ls.length : Int) := by have := HR.out; omega
              subst hi
              have hfull : (ls.take ((ls.length : Int)).toNat).flatten = ls.flatten := by rw [Int.toNat_natCast, List.take_length]
              rw [hfull] at HO ⊢
              have HO2 := HO
              have c5b0 : decide ((ls.length : Int) < (ls.length : Int)) = false := decide_eq_false c5
              clear c5 HI HR hfull HO
              go_wp2
              refine bodyPost_ret (results_tmp rfl _ _ _) rfl ?_
              exact ⟨_, rfl, HO2.out, HB.out⟩
end Go.Proofs.Ytkopmkinlanhoaa.PE

namespace Go.Proofs.Ytkopmkinlanhoaa.PE
open Go.RowKit Go.Proofs.YtkopmkinlanhoaaW.PrintWords Go.Proofs.YtkopmkinlanhoaaW.PrintLast Go.Proofs.YtkopmkinlanhoaaW.PrintMore
attribute [local go_sem] max2_int min2_int max_two min_two max_three min_three max_four min_four
set_option linter.unusedVariables false
set_option linter.unusedSimpArgs false
def cell8 (v : Int) : List Int := cellB (v / 4294967296) ++ cellB v
def resB (l : List S82) : List Int := (l.map fun x => cell8 x.f0 ++ cell8 x.f1).flatten
def headV (total structure_ texts_ boot tl bl : Int) : List Int := [3490578157, total, structure_, texts_, 40, 17, 16, boot, tl, bl]
def headB (vs : List Int) : List Int := (vs.map fun v => cellB (v % 4294967296)).flatten
theorem resB_length (l : List S82) : (resB l).length = 16 * l.length := by
  induction l with
  | nil => rfl
  | cons x r ih =>
    simp only [resB, List.map_cons, List.flatten_cons, List.length_append, List.length_cons] at ih ⊢
    rw [ih]
    simp [cell8, cellB_length]
    omega
theorem take_res (ls : List S82) (i : Int) (h0 : 0 ≤ i) (h1 : i < ls.length) : resB (ls.take (i + 1).toNat) = resB (ls.take i.toNat) ++ cell8 (rd_T82 ls i).f0 ++ cell8 (rd_T82 ls i).f1 := by
  have e : (i + 1).toNat = i.toNat + 1 := by omega
  have hlt : i.toNat < ls.length := by omega
  simp only [resB]
  rw [e, List.take_add_one, List.map_append, List.flatten_append, List.append_assoc]
  congr 1
  simp [rd_T82, List.getD_eq_getElem?_getD, List.getElem?_eq_getElem hlt]
theorem ints_C (W : World) (b : Nat) (t : Nat) (vs : List Int) (h : W.heap[b]? = some (.cells (vs.map (Value.int .i64)).toArray t (0, 0))) (hl : vs.length ≤ 1000) : Kd.C (Kd.int .i64) W (some ⟨b, 0, none⟩) vs.length vs := by
  refine Kd.C_of_reads (d := (0 : Int)) ⟨rfl, by omega, fun _ => ⟨_, rfl, fun j hj => ?_⟩⟩
  rw [add_plain, blk_cell h j]
  simp [List.getD_eq_getElem?_getD, hj]
theorem headB_length (l : List Int) : (headB l).length = 4 * l.length := by
  induction l with
  | nil => rfl
  | cons x r ih =>
    simp only [headB, List.map_cons, List.flatten_cons, List.length_append, List.length_cons] at ih ⊢
    rw [ih, cellB_length]
    omega
theorem take_head (ls : List Int) (i : Int) (h0 : 0 ≤ i) (h1 : i < ls.length) : headB (ls.take (i + 1).toNat) = headB (ls.take i.toNat) ++ cellB (rd ls i % 4294967296) := by
  have e : (i + 1).toNat = i.toNat + 1 := by omega
  have hlt : i.toNat < ls.length := by omega
  simp only [headB]
  rw [e, List.take_add_one, List.map_append, List.flatten_append]
  congr 1
  simp [rd, List.getD_eq_getElem?_getD, List.getElem?_eq_getElem hlt]
theorem four_C (W : World) (b t : Nat) (A1 A2 A3 A4 : Option Addr) (c1 c2 c3 c4 : Nat) (l1 l2 l3 l4 : List Int) (h : W.heap[b]? = some (.cells #[.slice A1 l1.length c1, .slice A2 l2.length c2, .slice A3 l3.length c3, .slice A4 l4.length c4] t (0, 0)))
    (h1 : Kd.C (Kd.int .u8) W A1 l1.length l1) (k1 : l1.length ≤ c1) (h2 : Kd.C (Kd.int .u8) W A2 l2.length l2) (k2 : l2.length ≤ c2) (h3 : Kd.C (Kd.int .u8) W A3 l3.length l3) (k3 : l3.length ≤ c3) (h4 : Kd.C (Kd.int .u8) W A4 l4.length l4) (k4 : l4.length ≤ c4) :
    Kd.C (Kd.slice 5 (Kd.int .u8)) W (some ⟨b, 0, none⟩) 4 [l1, l2, l3, l4] := by
  refine ⟨rfl, by decide, fun _ => ⟨_, rfl, fun j p hj => ?_⟩⟩
  have key : ∀ (A : Option Addr) (c : Nat), p.length ≤ c → Kd.C (Kd.int .u8) W A p.length p → W.cell? ⟨b, j, none⟩ = some (.slice A p.length c) → ∃ cs : List Value, cs.length = (Kd.slice 5 (Kd.int .u8)).sz ∧ (Kd.slice 5 (Kd.int .u8)).K W p cs ∧ ∀ (i : Nat) (u : Value), cs[i]? = some u → W.cell? ((⟨b, 0, none⟩ : Addr).add (j * (Kd.slice 5 (Kd.int .u8)).sz + i)) = some u := by
    intro A c hc hC hq
    refine ⟨[.slice A p.length c], rfl, ⟨A, c, rfl, hc, hC⟩, fun i u hu => ?_⟩
    cases i with
    | succ i => simp at hu
    | zero =>
      have hu2 : Value.slice A p.length c = u := by simpa using hu
      rw [← hu2, show (Kd.slice 5 (Kd.int .u8)).sz = 1 from rfl, Nat.mul_one, Nat.add_zero, add_plain]
      exact hq
  match j with
  | 0 =>
    obtain rfl : l1 = p := by simpa using hj
    exact key A1 c1 k1 h1 ((blk_cell h 0).trans rfl)
  | 1 =>
    obtain rfl : l2 = p := by simpa using hj
    exact key A2 c2 k2 h2 ((blk_cell h 1).trans rfl)
  | 2 =>
    obtain rfl : l3 = p := by simpa using hj
    exact key A3 c3 k3 h3 ((blk_cell h 2).trans rfl)
  | 3 =>
    obtain rfl : l4 = p := by simpa using hj
    exact key A4 c4 k4 h4 ((blk_cell h 3).trans rfl)
  | j + 4 => simp at hj
def encF (a0 : Int) (l1 : List S82) (s : WSt) : List Int × Int :=
  if 40 + (resB (l1 ++ [⟨0, 0⟩])).length + s.1.length + s.2.1.length > 1048576 then ([], 7)
  else (headB (headV (40 + (resB (l1 ++ [⟨0, 0⟩])).length + s.1.length + s.2.1.length : Nat) (40 + (resB (l1 ++ [⟨0, 0⟩])).length : Nat) (40 + (resB (l1 ++ [⟨0, 0⟩])).length + s.1.length : Nat) a0 s.2.1.length s.1.length) ++ (resB (l1 ++ [⟨0, 0⟩]) ++ (s.1 ++ s.2.1)), 0)
def encode_Encode.f (k : Nat) (a0 : Int) (l1 : List S82) (a2 : ByteArray) (l3 : List S63) (l4 : List S27) : Option (List Int × Int) :=
  (tree_Check.f k a0 l1 a2 l3 l4).bind fun c => if c = 0 then (encode_most.f k a2 l3 l4 0).bind fun m => (if m.2 = true then some ([], 7) else (wrN k ⟨a2, l3, l4⟩ ([], [], [])).bind fun s => (capW (wCell 9 s)).bind fun s1 => if l1.length ≤ 64 then some (encF a0 l1 s1) else none) else some ([], c)
theorem WrT.made (w W : World) (h : Below w.heap.size w W) : WrT w ((W.alloc (.map #[] 0)).alloc (.cells #[.slice none 0 0, .slice none 0 0, .map (some W.heap.size)] 100)) (W.heap.size + 1) W.heap.size ([], [], []) := by
  refine ⟨_, _, ⟨below_alloc (below_alloc h _) _, by have := h.size; omega, h.size, ?_, Kd.R_nil _ _ _ _ _, Kd.R_nil _ _ _ _ _, ?_⟩⟩
  · have := blk_new (W.alloc (.map #[] 0)) (.cells #[.slice none 0 0, .slice none 0 0, .map (some W.heap.size)] 100 (0, 0))
    simpa using this
  · exact (MapI.made W).below (below_alloc (Below.refl _ _) _)
set_option maxRecDepth 100000 in
set_option maxHeartbeats 4000000 in
theorem encode_Encode.calls (k : Nat) (a0 : Int) (A1 : Option Addr) (c1 : Nat) (l1 : List S82) (a2 : ByteArray) (A3 : Option Addr) (c3 : Nat) (l3 : List S63) (A4 : Option Addr) (c4 : Nat) (l4 : List S27) (r : List Int) (er : Int) (w : World)
    (hr1 : Kd.C k82 w A1 l1.length l1) (hc1 : l1.length ≤ c1) (hr3 : Kd.C k63 w A3 l3.length l3) (hc3 : l3.length ≤ c3) (hr4 : Kd.C k27 w A4 l4.length l4) (hc4 : l4.length ≤ c4) (hb0 : 0 ≤ a0 ∧ a0 < 4294967296) (h : encode_Encode.f k a0 l1 a2 l3 l4 = some (r, er)) :
    Calls Try.prog 24 #[.agg #[.int .u32 a0, .slice A1 l1.length c1, .string a2, .slice A3 l3.length c3, .slice A4 l4.length c4]] w fun e w' => ∃ v : Value, e = .returned (.tuple #[v, .int .i64 er]) ∧ Kd.R (Kd.int .u8) 5 w' w.heap.size (fun _ => True) v r ∧ Below w.heap.size w w' := by
  obtain ⟨c, hc, h⟩ := Option.bind_eq_some_iff.mp h
  have hu29 := Try.underlying29
  have hu27 := Try.underlying27
  have hu82 := Try.underlying82
  have hbx : Below w.heap.size w (w.alloc (.cells #[.int .u32 a0, .slice A1 l1.length c1, .string a2, .slice A3 l3.length c3, .slice A4 l4.length c4] 29)) := below_alloc (Below.refl _ _) _
  have BX0 := Aside0.mk (blk_new w (.cells #[.int .u32 a0, .slice A1 l1.length c1, .string a2, .slice A3 l3.length c3, .slice A4 l4.length c4] 29 (0, 0)))
  have HCK := Aside0.mk (tree_Check.calls k a0 A1 c1 l1 a2 A3 c3 l3 A4 c4 l4 c _ (Kd.C_below hr1 hbx) hc1 (Kd.C_below hr3 hbx) hc3 (Kd.C_below hr4 hbx) hc4 hc)
  have HR1 := Aside0.mk hr1
  have HR3 := Aside0.mk hr3
  have HR4 := Aside0.mk hr4
  have HC1 := Aside0.mk hc1
  have HC3 := Aside0.mk hc3
  have HC4 := Aside0.mk hc4
  have HBT := Aside0.mk hb0
  have HB0 := Aside0.mk hbx
  clear hr1 hc1 hr3 hc3 hr4 hc4 hc hbx hb0
  by_cases c0 : c = 0
  · rw [if_pos c0] at h
    subst c0
    obtain ⟨⟨m1, m2⟩, hm, h⟩ := Option.bind_eq_some_iff.mp h
    have HM := Aside0.mk (fun (w1 : World) (hb : Below w.heap.size w w1) => encode_most.calls k a2 A3 c3 l3 A4 c4 l4 0 m1 m2 w1 (Kd.C_below HR3.out hb) HC3.out (Kd.C_below HR4.out hb) HC4.out hm)
    clear hm
    cases m2 with
    | true =>
      simp only [if_true, Option.some.injEq, Prod.mk.injEq] at h
      obtain ⟨rfl, rfl⟩ := h
      go_enter Try.func24, Try.ntmps24
      go_wp2_with (first | (go_at_call 46; refine HCK.out.mono ?_; rintro e w1 ⟨rfl, hb⟩; have HB1 := Aside0.mk (below_step HB0.out hb); have BX := Aside0.mk (blk_below BX0.out hb); have q0 := (blk_cell BX.out 0).trans rfl; have q1 := (blk_cell BX.out 1).trans rfl; have q2 := (blk_cell BX.out 2).trans rfl; have q3 := (blk_cell BX.out 3).trans rfl; have q4 := (blk_cell BX.out 4).trans rfl; clear hb) | (go_at_call 47; refine (HM.out _ HB1.out).mono ?_; rintro e w2 ⟨rfl, hb⟩; have HB2 := Aside0.mk (below_step HB1.out hb); have BX := Aside0.mk (blk_below BX.out hb); clear q0 q1 q2 q3 q4; have q0 := (blk_cell BX.out 0).trans rfl; have q1 := (blk_cell BX.out 1).trans rfl; have q2 := (blk_cell BX.out 2).trans rfl; have q3 := (blk_cell BX.out 3).trans rfl; have q4 := (blk_cell BX.out 4).trans rfl; have hb3 := below_alloc (below_alloc (Below.refl w2.heap.size w2) (.map #[] 0)) (.cells #[.slice none 0 0, .slice none 0 0, .map (some w2.heap.size)] 100); have HW := Aside0.mk (WrT.made w w2 HB2.out); have HK := Aside0.mk (KeptT.of_below hb3); have sz0 : w.heap.size < w2.heap.size := blk_lt BX.out; clear hb hb3))
      go_ret2
      exact ⟨_, rfl, Kd.R_nil _ _ _ _ _, HB2.out⟩
    | false =>
      simp only [Bool.false_eq_true, if_false] at h
      obtain ⟨s, hs, h⟩ := Option.bind_eq_some_iff.mp h
      obtain ⟨s1, hs1, h⟩ := Option.bind_eq_some_iff.mp h
      obtain ⟨rfl, hcap⟩ := capW_some hs1
      by_cases c64 : l1.length ≤ 64
      · rw [if_pos c64] at h
        have HCAP := Aside0.mk hcap
        have HWN := Aside0.mk hs
        have H := Aside0.mk (Option.some.inj h)
        have H64 := Aside0.mk c64
        have hmk : ∀ W : World, (Instr.makeMap 98 none).run Try.prog W = .ok (.map (some W.heap.size)) (W.alloc (.map #[] 0)) := fun W => by kernel_rfl
        clear hs hs1 hcap h c64
        go_enter Try.func24, Try.ntmps24
        go_wp2_with (first | (go_at_call 46; refine HCK.out.mono ?_; rintro e w1 ⟨rfl, hb⟩; have HB1 := Aside0.mk (below_step HB0.out hb); have BX := Aside0.mk (blk_below BX0.out hb); have q0 := (blk_cell BX.out 0).trans rfl; have q1 := (blk_cell BX.out 1).trans rfl; have q2 := (blk_cell BX.out 2).trans rfl; have q3 := (blk_cell BX.out 3).trans rfl; have q4 := (blk_cell BX.out 4).trans rfl; clear hb) | (go_at_call 47; refine (HM.out _ HB1.out).mono ?_; rintro e w2 ⟨rfl, hb⟩; have HB2 := Aside0.mk (below_step HB1.out hb); have BX := Aside0.mk (blk_below BX.out hb); clear q0 q1 q2 q3 q4; have q0 := (blk_cell BX.out 0).trans rfl; have q1 := (blk_cell BX.out 1).trans rfl; have q2 := (blk_cell BX.out 2).trans rfl; have q3 := (blk_cell BX.out 3).trans rfl; have q4 := (blk_cell BX.out 4).trans rfl; have hb3 := below_alloc (below_alloc (Below.refl w2.heap.size w2) (.map #[] 0)) (.cells #[.slice none 0 0, .slice none 0 0, .map (some w2.heap.size)] 100); have HW := Aside0.mk (WrT.made w w2 HB2.out); have HK := Aside0.mk (KeptT.of_below hb3); have sz0 : w.heap.size < w2.heap.size := blk_lt BX.out; clear hb hb3) | (go_at_call 48; refine (writer_node.calls (w2.heap.size + 1) w2.heap.size w k a2 A3 c3 l3 A4 c4 l4 ([], [], []) s _ HR3.out HR4.out HW.out HWN.out).mono ?_; rintro e w3 ⟨rfl, n1_, n2_⟩; have HK := Aside0.mk (HK.out.trans n2_); have HW := Aside0.mk n1_; clear n1_ n2_) | (go_at_call 49; refine (step_cell 9 (w2.heap.size + 1) w2.heap.size w _ s (by decide) (by decide) HW.out (by have := HCAP.out; omega)).mono ?_; rintro e w4 ⟨rfl, n1_, n2_⟩; have HK := Aside0.mk (HK.out.trans n2_); have HW := Aside0.mk n1_; have BX := Aside0.mk (HK.out.2 _ _ _ BX.out (by decide) (by decide)); clear q0 q1 q2 q3 q4; have q0 := (blk_cell BX.out 0).trans rfl; have q1 := (blk_cell BX.out 1).trans rfl; have q2 := (blk_cell BX.out 2).trans rfl; have q3 := (blk_cell BX.out 3).trans rfl; have q4 := (blk_cell BX.out 4).trans rfl; clear n1_ n2_) | (go_at_call 50; refine (api_Reserve_50.calls A1 c1 l1 l1 w4 (Kd.C_below HR1.out HW.out.bel) HC1.out (by unfold api_Reserve_50.f; rw [if_pos (by have := H64.out; omega)])).mono ?_; rintro e w5 ⟨v5, rfl, hr, hb⟩; obtain ⟨A5, c5, rfl⟩ := Kd.R_slice hr; have HO5 := Aside0.mk hr; have HB5 := Aside0.mk hb; clear hr hb) | ((with_reducible refine gate_builtin (b := .append) (xs := #[.tmp 40, .tmp 42]) rfl ?_); at_builtin; refine Kd.R_append k82 (w0 := w4) w4.heap.size rfl (.tmp 40) (.tmp 42) 23 82 (.agg #[.int .u64 0, .int .u64 0]) 16 rfl Try.underlying23 info82 rfl (by decide) (by omega) _ l1 (⟨0, 0⟩ : S82) [.int .u64 0, .int .u64 0] (fun _ => True) (fun _ => False) rfl rfl ?aP (fun _ hk => hk.elim) (fun _ _ => trivial) HO5.out HB5.out HB5.out.size ?aL ?_; (case aP => exact k82_mkM _ _ _ (⟨0, 0⟩ : S82)); (case aL => have := H64.out; omega); intro v6 w6 ho hb hg hat; obtain ⟨rs, hrs⟩ : ∃ rs, rs = l1 ++ [(⟨0, 0⟩ : S82)] := ⟨_, rfl⟩; rw [← hrs] at ho; have HRS := Aside0.mk hrs; obtain ⟨A6, c6, rfl, hc6, hC6⟩ := Kd.R_reads ho; have HC6 := Aside0.mk hC6; have HB6 := Aside0.mk hb; clear hc6 ho hb hg hat hrs hC6))
        have hrl : rs.length ≤ 65 := by have := H64.out; rw [HRS.out, List.length_append]; simp; omega
        have HRL := Aside0.mk hrl
        clear hrl q0 q1 q2 q3 q4 hmk sz0
        go_loopg [8, 10, 45] (rs.length + 1) (fun kq v8 v10 v45 w' => ∃ (i : Int), v45 = .int .i64 i ∧ Aside0 (i + (kq : Int) = (rs.length : Int) + 1) ∧ Aside0 (0 ≤ i ∧ i ≤ (rs.length : Int)) ∧ Aside0 (Below w6.heap.size w6 w') ∧ Aside0 (Kd.R (Kd.int .u8) 5 w' w6.heap.size (fun _ => True) v8 (resB (rs.take i.toNat))))
        case atStart => exact ⟨0, rfl, ⟨by omega⟩, ⟨by omega⟩, ⟨Below.refl _ _⟩, ⟨Kd.R_nil _ _ _ _ _⟩⟩
        case round =>
          obtain ⟨i, rfl, HI, HR, HBr, HO⟩ := hrel
          cases gk with
          | zero => exact absurd HI.out (by have := HR.out; omega)
          | succ k2 =>
            obtain ⟨l8, hl8⟩ : ∃ l8, l8 = resB (rs.take i.toNat) := ⟨_, rfl⟩
            rw [← hl8] at HO
            obtain ⟨A8, c8, rfl, hc8, hC8⟩ := Kd.R_reads HO.out
            by_cases c5 : i < (rs.length : Int)
            · have c6 : 0 ≤ i := HR.out.1
              obtain ⟨ad, e405, hx0, hx1⟩ := at_T82 HC6.out i c6 c5
              cases e405
              replace hx0 := (HBr.out.cell (World.block_lt_of_cell? w6 _ hx0)).trans hx0
              replace hx1 := (HBr.out.cell (World.block_lt_of_cell? w6 _ hx1)).trans hx1
              have hf := take_res rs i c6 c5
              have hs2 : IntKind.i64.wrap (i + 1) = i + 1 := by
                have := HRL.out
                rw [i64_w]
                unfold Go.RowKit.wrap64
                omega
              have hs4 : Go.RowKit.wrap64 (i + 1) = i + 1 := by rw [← i64_w]; exact hs2
              have c5b0 : decide (i < (rs.length : Int)) = true := decide_eq_true c5
              have c6b0 : decide (0 ≤ i) = true := decide_eq_true c6
              have p405 : (0 ≤ i) = True := eq_true c6
              have q405 : (i < (rs.length : Int)) = True := eq_true c5
              have HI2 : Aside0 (i + 1 + (k2 : Int) = (rs.length : Int) + 1) := ⟨by have := HI.out; omega⟩
              have HR2 : Aside0 (0 ≤ i + 1 ∧ i + 1 ≤ (rs.length : Int)) := ⟨by omega⟩
              have h8 : l8.length ≤ 1040 := by
                rw [hl8, resB_length, List.length_take]
                have := HRL.out
                omega
              rw [← hl8] at hf
              generalize (rd_T82 rs i).f0 = x0 at hf hx0
              generalize (rd_T82 rs i).f1 = x1 at hf hx1
              have HF := Aside0.mk hf
              obtain ⟨l7, hl7⟩ : ∃ l7, l7 = l8 ++ cell8 x0 := ⟨_, rfl⟩
              have H7 : Aside0 (l7.length ≤ 1099511627776) := ⟨by rw [hl7, List.length_append]; simp [cell8, cellB_length]; omega⟩
              have HL7x := Aside0.mk hl7
              have hbw : Below wr.heap.size wr (wr.alloc (.cells #[.int .u64 x0, .int .u64 x1] 82)).drew := below_drew1 (below_alloc (Below.refl _ _) _)
              have BP : Aside0 ((wr.alloc (.cells #[.int .u64 x0, .int .u64 x1] 82)).drew.heap[wr.heap.size]? = some (Obj.cells #[.int .u64 x0, .int .u64 x1] 82 (0, 0))) := ⟨blk_drew (blk_new _ _)⟩
              have HBW := Aside0.mk hbw
              have HQ1 := Aside0.mk (words_Put64.calls 10 A8 c8 l8 x0 l7 _ (Kd.C_below hC8 hbw) hc8 (by rw [hl7]; exact put_eight l8 x0 (by omega)))
              clear hf hl7 hl8 hbw hC8 hc8 h8 c5 c6
              go_wp2
              refine start_ (n := 8) (S := fun w' => w'.cell? ⟨wr.heap.size, 0, none⟩ = some (.int .u64 x0) ∧ w'.cell? ⟨wr.heap.size, 1, none⟩ = some (.int .u64 x1)) (ds := []) #[false, false, false, false, false, false, false, false] (by kernel_rfl) rfl rfl ⟨((blk_cell BP.out 0).trans rfl), ((blk_cell BP.out 1).trans rfl)⟩ (fun hHeld => ?_)
              refine pure_ (i := 0) (N := some 49) (v := ?_) (a' := ?_) #[true, false, false, false, false, false, false, false] rfl rfl (by kernel_rfl) (fun _ _ _ h => h) (Or.inl ⟨by rfl, ?_⟩) ?_ ?_
              rotate_left
              · intro w'
                go_simp
                with_reducible rfl
              rotate_left
              · simp only [Act.put, List.setIfInBounds_toArray, List.set_cons_zero, List.set_cons_succ, i64_w, i32_w]
                rfl
              refine pure_ (i := 1) (N := some 50) (v := ?_) (a' := ?_) #[true, true, false, false, false, false, false, false] rfl rfl (by kernel_rfl) (fun _ _ _ h => h) (Or.inl ⟨by rfl, ?_⟩) ?_ ?_
              rotate_left
              · intro w'
                go_simp
                with_reducible rfl
              rotate_left
              · simp only [Act.put, List.setIfInBounds_toArray, List.set_cons_zero, List.set_cons_succ, i64_w, i32_w]
                rfl
              refine pure_ (i := 4) (N := some 53) (v := ?_) (a' := ?_) #[true, true, false, false, true, false, false, false] rfl rfl (by kernel_rfl) (fun _ _ _ h => h) (Or.inl ⟨by rfl, ?_⟩) ?_ ?_
              rotate_left
              · intro w'
                go_simp
                with_reducible rfl
              rotate_left
              · simp only [Act.put, List.setIfInBounds_toArray, List.set_cons_zero, List.set_cons_succ, i64_w, i32_w]
                rfl
              refine take_ (i := 2) (N := some 51) (v := ?_) (a' := ?_) #[true, true, true, false, true, false, false, false] rfl rfl (by kernel_rfl) (fun _ _ _ h => h) (Or.inl ⟨by rfl, ?_⟩) hHeld ?_ ?_
              rotate_left
              · rintro w' ⟨s0, s1⟩
                go_simp
                with_reducible rfl
              rotate_left
              · simp only [Act.put, List.setIfInBounds_toArray, List.set_cons_zero, List.set_cons_succ, i64_w, i32_w]
                rfl
              refine take_ (i := 5) (N := some 54) (v := ?_) (a' := ?_) #[true, true, true, false, true, true, false, false] rfl rfl (by kernel_rfl) (fun _ _ _ h => h) (Or.inl ⟨by rfl, ?_⟩) hHeld ?_ ?_
              rotate_left
              · rintro w' ⟨s0, s1⟩
                go_simp
                with_reducible rfl
              rotate_left
              · simp only [Act.put, List.setIfInBounds_toArray, List.set_cons_zero, List.set_cons_succ, i64_w, i32_w]
                rfl
              refine one_ (i := 3) (N := some 52) #[true, true, true, true, true, true, false, false] rfl rfl (by kernel_rfl) (by decide) (fun K hK => ?_)
              refine goes_ Try.func51 (by kernel_rfl) rfl #[.slice A8 l8.length c8, .int .u64 x0] (by rfl) rfl rfl (by simp only [List.map_toArray, List.map_cons, List.map_nil]; rfl) ?_
              refine (HQ1.out).mono ?_
              rintro e w7 ⟨v7, rfl, hr7, hb7⟩
              obtain ⟨A7, c7, rfl, hc7, hC7⟩ := Kd.R_reads hr7
              have HP7 := Aside0.mk hb7
              have HC7 := Aside0.mk hC7
              have HL7 := Aside0.mk hc7
              have BP7 := Aside0.mk (blk_below BP.out hb7)
              clear hr7 hb7 hC7 hc7
              have HQ2 := Aside0.mk (words_Put64.calls 10 A7 c7 l7 x1 (l7 ++ cell8 x1) w7 HC7.out HL7.out (put_eight l7 x1 H7.out))
              refine ⟨_, rfl, ?_⟩
              refine hK.out _ _ ⟨((blk_cell BP7.out 0).trans rfl), ((blk_cell BP7.out 1).trans rfl)⟩ (fun hHeld => ?_)
              clear hK K
              refine norm_ (a' := ?_) ?_ ?_
              rotate_left
              · show Act.put _ (some 52) _ = _
                simp only [Act.put, List.setIfInBounds_toArray, List.set_cons_zero, List.set_cons_succ, i64_w, i32_w]
                rfl
              refine one_ (i := 6) (N := some 55) #[true, true, true, true, true, true, true, false] rfl rfl (by kernel_rfl) (by decide) (fun K hK => ?_)
              refine goes_ Try.func51 (by kernel_rfl) rfl #[.slice A7 l7.length c7, .int .u64 x1] (by rfl) rfl rfl (by simp only [List.map_toArray, List.map_cons, List.map_nil]; rfl) ?_
              refine (HQ2.out).mono ?_
              rintro e w9 ⟨v9, rfl, hr9, hb9⟩
              obtain ⟨l9, hl9⟩ : ∃ l9, l9 = l7 ++ cell8 x1 := ⟨_, rfl⟩
              rw [← hl9] at hr9
              obtain ⟨A9, c9, rfl⟩ := Kd.R_slice hr9
              have HR9 := Aside0.mk hr9
              have HP9 := Aside0.mk hb9
              have HL9 := Aside0.mk hl9
              have BP9 := Aside0.mk (blk_below BP7.out hb9)
              clear hr9 hb9 hl9
              refine ⟨_, rfl, ?_⟩
              refine hK.out _ _ ⟨((blk_cell BP9.out 0).trans rfl), ((blk_cell BP9.out 1).trans rfl)⟩ (fun hHeld => ?_)
              clear hK K
              refine norm_ (a' := ?_) ?_ ?_
              rotate_left
              · show Act.put _ (some 55) _ = _
                simp only [Act.put, List.setIfInBounds_toArray, List.set_cons_zero, List.set_cons_succ, i64_w, i32_w]
                rfl
              refine pure_ (i := 7) (N := some 8) (v := ?_) (a' := ?_) #[true, true, true, true, true, true, true, true] rfl rfl (by kernel_rfl) (fun _ _ _ h => h) (Or.inl ⟨by rfl, ?_⟩) ?_ ?_
              rotate_left
              · intro w'
                go_simp
                with_reducible rfl
              rotate_left
              · simp only [Act.put, List.setIfInBounds_toArray, List.set_cons_zero, List.set_cons_succ, i64_w, i32_w]
                rfl
              refine done_ (by kernel_rfl) ?_
              go_wp2
              go_roundg k2
              case measure => omega
              case rel => exact ⟨i + 1, rfl, HI2, HR2, ⟨below_step (below_step (below_step HBr.out HBW.out) HP7.out) HP9.out⟩, ⟨by rw [HF.out, ← HL7x.out, ← HL9.out]; exact Kd.R_lower HR9.out (Nat.le_trans HBr.out.size (Nat.le_trans HBW.out.size HP7.out.size))⟩⟩
            · have hi : i = (rs.length : Int) := by have := HR.out; omega
              subst hi
              have hl8b : l8 = resB rs := by rw [hl8, Int.toNat_natCast, List.take_length]
              have c5b0 : decide ((rs.length : Int) < (rs.length : Int)) = false := decide_eq_false c5
              have hW6 : Below w4.heap.size w4 wr := HB6.out.trans (HBr.out.mono HB6.out.size)
              have HWx := Aside0.mk (HW.out.below hW6)
              have HB4 := Aside0.mk hW6
              obtain ⟨vb, vt, hS⟩ := HWx.out
              obtain ⟨Ab, cb, rfl, hcb, hCb⟩ := Kd.R_reads hS.rb
              obtain ⟨At, ct, rfl, hct, hCt⟩ := Kd.R_reads hS.rt
              have BXw := Aside0.mk (blk_below BX.out hW6)
              have q0 := (blk_cell BXw.out 0).trans rfl
              have g0 := (blk_cell hS.blk 0).trans rfl
              have g1 := (blk_cell hS.blk 1).trans rfl
              have HCAP2 : Aside0 (totW (wCell 9 s) ≤ 549755813888) := HCAP
              generalize wCell 9 s = s1 at H HCAP2 hCb hCt hcb hct hS g0 g1
              obtain ⟨B, T, hs1⟩ := s1
              dsimp only at hCb hCt hcb hct g0 g1
              have HCB := Aside0.mk hCb
              have HCT := Aside0.mk hCt
              have hBl : B.length + T.length ≤ 549755813888 := by have := HCAP2.out; simp only [totW] at this; omega
              have hLl : l8.length ≤ 1040 := by rw [hl8b, resB_length]; have := HRL.out; omega
              have HOL := Aside0.mk hl8b
              have GB := Aside0.mk hS.blk
              have HCC := Aside0.mk (And.intro hcb hct)
              have HC8 := Aside0.mk (And.intro hC8 hc8)
              clear hl8 hl8b c5 HI HR hS hCb hCt hcb hct hC8 hc8 HCAP HCAP2 HWx HWN HM HCK BX0 hW6
              obtain ⟨n1, hn1⟩ : ∃ n : Int, n = 40 + (l8.length : Int) := ⟨_, rfl⟩
              obtain ⟨n2, hn2⟩ : ∃ n : Int, n = n1 + (B.length : Int) := ⟨_, rfl⟩
              obtain ⟨n3, hn3⟩ : ∃ n : Int, n = n2 + (T.length : Int) := ⟨_, rfl⟩
              have z1 : Go.RowKit.wrap64 (40 + (l8.length : Int)) = n1 := by unfold Go.RowKit.wrap64; omega
              have z2 : Go.RowKit.wrap64 (n1 + (B.length : Int)) = n2 := by unfold Go.RowKit.wrap64; omega
              have z3 : Go.RowKit.wrap64 (n2 + (T.length : Int)) = n3 := by unfold Go.RowKit.wrap64; omega
              have i1 : IntKind.i64.wrap (40 + (l8.length : Int)) = n1 := by rw [i64_w]; exact z1
              have i2 : IntKind.i64.wrap (n1 + (B.length : Int)) = n2 := by rw [i64_w]; exact z2
              have i3 : IntKind.i64.wrap (n2 + (T.length : Int)) = n3 := by rw [i64_w]; exact z3
              have HNN : Aside0 (n1 = 40 + (l8.length : Int) ∧ n2 = n1 + (B.length : Int) ∧ n3 = n2 + (T.length : Int)) := ⟨hn1, hn2, hn3⟩
              clear hn1 hn2 hn3 hBl
              by_cases cb_ : 1048576 < n3
              · have d1 : decide (1048576 < n3) = true := decide_eq_true cb_
                have hres : ([], 7) = (r, er) := by
                  rw [← H.out]
                  unfold encF
                  rw [if_pos]
                  have := HNN.out
                  rw [← HRS.out, ← HOL.out]
                  simp only
                  omega
                simp only [Prod.mk.injEq] at hres
                obtain ⟨rfl, rfl⟩ := hres
                go_wp2
                go_ret2
                exact ⟨_, rfl, Kd.R_nil _ _ _ _ _, HW.out.bel.trans (HB4.out.mono HW.out.bel.size)⟩
              · have d1 : decide (1048576 < n3) = false := decide_eq_false cb_
                go_wp2
                have za : IntKind.i64.wrap a0 = a0 := by have := HBT.out; rw [i64_w]; unfold Go.RowKit.wrap64; omega
                have zb : Go.RowKit.wrap64 a0 = a0 := by have := HBT.out; unfold Go.RowKit.wrap64; omega
                refine start_ (n := 19) (S := fun w' => w'.cell? ⟨w.heap.size, 0, none⟩ = some (.int .u32 a0) ∧ w'.cell? ⟨w2.heap.size + 1, 0, none⟩ = some (.slice Ab B.length cb) ∧ w'.cell? ⟨w2.heap.size + 1, 1, none⟩ = some (.slice At T.length ct)) (ds := [16]) #[false, false, false, false, false, false, false, false, false, false, false, false, false, false, false, false, false, false, false] (by kernel_rfl) rfl rfl ⟨q0, g0, g1⟩ (fun hHeld => ?_)
                refine pure_ (i := 0) (N := some 76) (v := ?_) (a' := ?_) #[true, false, false, false, false, false, false, false, false, false, false, false, false, false, false, false, false, false, false] rfl rfl (by kernel_rfl) (fun _ _ _ h => h) (Or.inl ⟨by rfl, ?_⟩) ?_ ?_
                rotate_left
                · intro w'
                  go_simp
                  with_reducible rfl
                rotate_left
                · simp only [Act.put, List.setIfInBounds_toArray, List.set_cons_zero, List.set_cons_succ, i64_w, i32_w]
                  rfl
                refine pure_ (i := 1) (N := some 77) (v := ?_) (a' := ?_) #[true, true, false, false, false, false, false, false, false, false, false, false, false, false, false, false, false, false, false] rfl rfl (by kernel_rfl) (fun _ _ _ h => h) (Or.inl ⟨by rfl, ?_⟩) ?_ ?_
                rotate_left
                · intro w'
                  go_simp
                  with_reducible rfl
                rotate_left
                · simp only [Act.put, List.setIfInBounds_toArray, List.set_cons_zero, List.set_cons_succ, i64_w, i32_w]
                  rfl
                refine pure_ (i := 2) (N := some 78) (v := ?_) (a' := ?_) #[true, true, true, false, false, false, false, false, false, false, false, false, false, false, false, false, false, false, false] rfl rfl (by kernel_rfl) (fun _ _ _ h => h) (Or.inl ⟨by rfl, ?_⟩) ?_ ?_
                rotate_left
                · intro w'
                  go_simp
                  with_reducible rfl
                rotate_left
                · simp only [Act.put, List.setIfInBounds_toArray, List.set_cons_zero, List.set_cons_succ, i64_w, i32_w]
                  rfl
                refine pure_ (i := 3) (N := some 79) (v := ?_) (a' := ?_) #[true, true, true, true, false, false, false, false, false, false, false, false, false, false, false, false, false, false, false] rfl rfl (by kernel_rfl) (fun _ _ _ h => h) (Or.inl ⟨by rfl, ?_⟩) ?_ ?_
                rotate_left
                · intro w'
                  go_simp
                  with_reducible rfl
                rotate_left
                · simp only [Act.put, List.setIfInBounds_toArray, List.set_cons_zero, List.set_cons_succ, i64_w, i32_w]
                  rfl
                refine pure_ (i := 6) (N := some 82) (v := ?_) (a' := ?_) #[true, true, true, true, false, false, true, false, false, false, false, false, false, false, false, false, false, false, false] rfl rfl (by kernel_rfl) (fun _ _ _ h => h) (Or.inl ⟨by rfl, ?_⟩) ?_ ?_
                rotate_left
                · intro w'
                  go_simp
                  with_reducible rfl
                rotate_left
                · simp only [Act.put, List.setIfInBounds_toArray, List.set_cons_zero, List.set_cons_succ, i64_w, i32_w]
                  rfl
                refine pure_ (i := 7) (N := some 83) (v := ?_) (a' := ?_) #[true, true, true, true, false, false, true, true, false, false, false, false, false, false, false, false, false, false, false] rfl rfl (by kernel_rfl) (fun _ _ _ h => h) (Or.inl ⟨by rfl, ?_⟩) ?_ ?_
                rotate_left
                · intro w'
                  go_simp
                  with_reducible rfl
                rotate_left
                · simp only [Act.put, List.setIfInBounds_toArray, List.set_cons_zero, List.set_cons_succ, i64_w, i32_w]
                  rfl
                refine pure_ (i := 8) (N := some 84) (v := ?_) (a' := ?_) #[true, true, true, true, false, false, true, true, true, false, false, false, false, false, false, false, false, false, false] rfl rfl (by kernel_rfl) (fun _ _ _ h => h) (Or.inl ⟨by rfl, ?_⟩) ?_ ?_
                rotate_left
                · intro w'
                  go_simp
                  with_reducible rfl
                rotate_left
                · simp only [Act.put, List.setIfInBounds_toArray, List.set_cons_zero, List.set_cons_succ, i64_w, i32_w]
                  rfl
                refine pure_ (i := 11) (N := some 87) (v := ?_) (a' := ?_) #[true, true, true, true, false, false, true, true, true, false, false, true, false, false, false, false, false, false, false] rfl rfl (by kernel_rfl) (fun _ _ _ h => h) (Or.inl ⟨by rfl, ?_⟩) ?_ ?_
                rotate_left
                · intro w'
                  go_simp
                  with_reducible rfl
                rotate_left
                · simp only [Act.put, List.setIfInBounds_toArray, List.set_cons_zero, List.set_cons_succ, i64_w, i32_w]
                  rfl
                refine pure_ (i := 12) (N := some 88) (v := ?_) (a' := ?_) #[true, true, true, true, false, false, true, true, true, false, false, true, true, false, false, false, false, false, false] rfl rfl (by kernel_rfl) (fun _ _ _ h => h) (Or.inl ⟨by rfl, ?_⟩) ?_ ?_
                rotate_left
                · intro w'
                  go_simp
                  with_reducible rfl
                rotate_left
                · simp only [Act.put, List.setIfInBounds_toArray, List.set_cons_zero, List.set_cons_succ, i64_w, i32_w]
                  rfl
                refine pure_ (i := 13) (N := some 89) (v := ?_) (a' := ?_) #[true, true, true, true, false, false, true, true, true, false, false, true, true, true, false, false, false, false, false] rfl rfl (by kernel_rfl) (fun _ _ _ h => h) (Or.inl ⟨by rfl, ?_⟩) ?_ ?_
                rotate_left
                · intro w'
                  go_simp
                  with_reducible rfl
                rotate_left
                · simp only [Act.put, List.setIfInBounds_toArray, List.set_cons_zero, List.set_cons_succ, i64_w, i32_w]
                  rfl
                refine pure_ (i := 18) (N := some 94) (v := ?_) (a' := ?_) #[true, true, true, true, false, false, true, true, true, false, false, true, true, true, false, false, false, false, true] rfl rfl (by kernel_rfl) (fun _ _ _ h => h) (Or.inl ⟨by rfl, ?_⟩) ?_ ?_
                rotate_left
                · intro w'
                  go_simp
                  with_reducible rfl
                rotate_left
                · simp only [Act.put, List.setIfInBounds_toArray, List.set_cons_zero, List.set_cons_succ, i64_w, i32_w]
                  rfl
                refine take_ (i := 4) (N := some 80) (v := ?_) (a' := ?_) #[true, true, true, true, true, false, true, true, true, false, false, true, true, true, false, false, false, false, true] rfl rfl (by kernel_rfl) (fun _ _ _ h => h) (Or.inl ⟨by rfl, ?_⟩) hHeld ?_ ?_
                rotate_left
                · rintro w' ⟨s0, s1, s2⟩
                  go_simp
                  with_reducible rfl
                rotate_left
                · simp only [Act.put, List.setIfInBounds_toArray, List.set_cons_zero, List.set_cons_succ, i64_w, i32_w]
                  rfl
                refine pure_ (i := 5) (N := some 81) (v := ?_) (a' := ?_) #[true, true, true, true, true, true, true, true, true, false, false, true, true, true, false, false, false, false, true] rfl rfl (by kernel_rfl) (fun _ _ _ h => h) (Or.inl ⟨by rfl, ?_⟩) ?_ ?_
                rotate_left
                · intro w'
                  go_simp
                  with_reducible rfl
                rotate_left
                · simp only [Act.put, List.setIfInBounds_toArray, List.set_cons_zero, List.set_cons_succ, i64_w, i32_w]
                  rfl
                refine take_ (i := 9) (N := some 85) (v := ?_) (a' := ?_) #[true, true, true, true, true, true, true, true, true, true, false, true, true, true, false, false, false, false, true] rfl rfl (by kernel_rfl) (fun _ _ _ h => h) (Or.inl ⟨by rfl, ?_⟩) hHeld ?_ ?_
                rotate_left
                · rintro w' ⟨s0, s1, s2⟩
                  go_simp
                  with_reducible rfl
                rotate_left
                · simp only [Act.put, List.setIfInBounds_toArray, List.set_cons_zero, List.set_cons_succ, i64_w, i32_w]
                  rfl
                refine pure_ (i := 10) (N := some 86) (v := ?_) (a' := ?_) #[true, true, true, true, true, true, true, true, true, true, true, true, true, true, false, false, false, false, true] rfl rfl (by kernel_rfl) (fun _ _ _ h => h) (Or.inl ⟨by rfl, ?_⟩) ?_ ?_
                rotate_left
                · intro w'
                  go_simp
                  with_reducible rfl
                rotate_left
                · simp only [Act.put, List.setIfInBounds_toArray, List.set_cons_zero, List.set_cons_succ, i64_w, i32_w]
                  rfl
                refine take_ (i := 14) (N := some 90) (v := ?_) (a' := ?_) #[true, true, true, true, true, true, true, true, true, true, true, true, true, true, true, false, false, false, true] rfl rfl (by kernel_rfl) (fun _ _ _ h => h) (Or.inl ⟨by rfl, ?_⟩) hHeld ?_ ?_
                rotate_left
                · rintro w' ⟨s0, s1, s2⟩
                  go_simp
                  with_reducible rfl
                rotate_left
                · simp only [Act.put, List.setIfInBounds_toArray, List.set_cons_zero, List.set_cons_succ, i64_w, i32_w]
                  rfl
                refine pure_ (i := 15) (N := some 91) (v := ?_) (a' := ?_) #[true, true, true, true, true, true, true, true, true, true, true, true, true, true, true, true, false, false, true] rfl rfl (by kernel_rfl) (fun _ _ _ h => h) (Or.inl ⟨by rfl, ?_⟩) ?_ ?_
                rotate_left
                · intro w'
                  go_simp
                  with_reducible rfl
                rotate_left
                · simp only [Act.put, List.setIfInBounds_toArray, List.set_cons_zero, List.set_cons_succ, i64_w, i32_w]
                  rfl
                refine last_ (i := 16) (N := some 92) #[true, true, true, true, true, true, true, true, true, true, true, true, true, true, true, true, true, false, true] rfl rfl (by kernel_rfl) (by decide) (fun K hK => ?_)
                refine value_ (w1 := ?_) (v := ?_) (by rfl) rfl ?_ ?_
                rotate_left 2
                · go_simp
                  constructor
                  · rfl
                  · rfl
                refine hK.out _ _ ?_
                clear hK K
                refine norm_ (a' := ?_) ?_ ?_
                rotate_left
                · show Act.put _ (some 92) _ = _
                  simp only [Act.put, List.setIfInBounds_toArray, List.set_cons_zero, List.set_cons_succ, i64_w, i32_w]
                  rfl
                refine pure_ (i := 17) (N := some 93) (v := ?_) (a' := ?_) #[true, true, true, true, true, true, true, true, true, true, true, true, true, true, true, true, true, true, true] rfl rfl (by kernel_rfl) (fun _ _ _ h => h) (Or.inl ⟨by rfl, ?_⟩) ?_ ?_
                rotate_left
                · intro w'
                  go_simp
                  with_reducible rfl
                rotate_left
                · simp only [Act.put, List.setIfInBounds_toArray, List.set_cons_zero, List.set_cons_succ, i64_w, i32_w]
                  rfl
                refine done_ (by kernel_rfl) ?_
                obtain ⟨vs, hvs⟩ : ∃ vs, vs = headV n3 n1 n2 a0 T.length B.length := ⟨_, rfl⟩
                have hv10 : vs.length = 10 := by rw [hvs]; rfl
                have hbq : Below wr.heap.size wr (wr.alloc (.cells #[.int .i64 3490578157, .int .i64 n3, .int .i64 n1, .int .i64 n2, .int .i64 40, .int .i64 17, .int .i64 16, .int .i64 a0, .int .i64 (T.length : Int), .int .i64 (B.length : Int)] 3)).drew := below_drew1 (below_alloc (Below.refl _ _) _)
                have hvc : Kd.C (Kd.int .i64) (wr.alloc (.cells #[.int .i64 3490578157, .int .i64 n3, .int .i64 n1, .int .i64 n2, .int .i64 40, .int .i64 17, .int .i64 16, .int .i64 a0, .int .i64 (T.length : Int), .int .i64 (B.length : Int)] 3)).drew (some ⟨wr.heap.size, 0, none⟩) 10 vs := by
                  have h5 := ints_C (wr.alloc (.cells #[.int .i64 3490578157, .int .i64 n3, .int .i64 n1, .int .i64 n2, .int .i64 40, .int .i64 17, .int .i64 16, .int .i64 a0, .int .i64 (T.length : Int), .int .i64 (B.length : Int)] 3)).drew wr.heap.size 3 vs (by rw [hvs]; exact blk_drew (blk_new _ _)) (by omega)
                  rw [hv10] at h5
                  exact h5
                have HVS := Aside0.mk hvc
                have HBQ := Aside0.mk hbq
                have HVV := Aside0.mk hvs
                have HV10 := Aside0.mk hv10
                clear hvc hbq hvs hv10 q0 g0 g1 z1 z2 z3 i1 i2 i3 za zb d1
                generalize (wr.alloc (.cells #[.int .i64 3490578157, .int .i64 n3, .int .i64 n1, .int .i64 n2, .int .i64 40, .int .i64 17, .int .i64 16, .int .i64 a0, .int .i64 (T.length : Int), .int .i64 (B.length : Int)] 3)).drew = wq at HVS HBQ ⊢
                generalize hbA : (⟨wr.heap.size, 0, none⟩ : Addr) = ba at HVS ⊢
                go_wp2
                go_loopg [14, 16, 94] 11 (fun kq v14 v16 v94 w' => ∃ (i : Int), v94 = .int .i64 i ∧ Aside0 (i + (kq : Int) = 11) ∧ Aside0 (0 ≤ i ∧ i ≤ 10) ∧ Aside0 (Below wq.heap.size wq w') ∧ Aside0 (Kd.R (Kd.int .u8) 5 w' wq.heap.size (fun _ => True) v14 (headB (vs.take i.toNat))))
                case atStart => exact ⟨0, rfl, ⟨by omega⟩, ⟨by omega⟩, ⟨Below.refl _ _⟩, ⟨Kd.R_nil _ _ _ _ _⟩⟩
                case round =>
                  obtain ⟨i, rfl, HI, HR, HBs, HOh⟩ := hrel
                  cases gk with
                  | zero => exact absurd HI.out (by have := HR.out; omega)
                  | succ k3 =>
                    obtain ⟨l14, hl14⟩ : ∃ l, l = headB (vs.take i.toNat) := ⟨_, rfl⟩
                    rw [← hl14] at HOh
                    obtain ⟨Ah, ch, rfl, hch, hCh⟩ := Kd.R_reads HOh.out
                    by_cases c5 : i < 10
                    · have c6 : 0 ≤ i := HR.out.1
                      obtain ⟨ad, e405, hx0⟩ := Kd.at_int HVS.out i c6 (by omega)
                      cases e405
                      replace hx0 := (HBs.out.cell (World.block_lt_of_cell? wq _ hx0)).trans hx0
                      have hf := take_head vs i c6 (by rw [HV10.out]; omega)
                      have hs2 : IntKind.i64.wrap (i + 1) = i + 1 := by
                        rw [i64_w]
                        unfold Go.RowKit.wrap64
                        omega
                      have hs4 : Go.RowKit.wrap64 (i + 1) = i + 1 := by rw [← i64_w]; exact hs2
                      have c5b0 : decide (i < 10) = true := decide_eq_true c5
                      have c6b0 : decide (0 ≤ i) = true := decide_eq_true c6
                      have p405 : (0 ≤ i) = True := eq_true c6
                      have q405 : (i < 10) = True := eq_true c5
                      have HI2 : Aside0 (i + 1 + (k3 : Int) = 11) := ⟨by have := HI.out; omega⟩
                      have HR2 : Aside0 (0 ≤ i + 1 ∧ i + 1 ≤ 10) := ⟨by omega⟩
                      have h14 : l14.length ≤ 40 := by rw [hl14, headB_length, List.length_take, HV10.out]; omega
                      rw [← hl14] at hf
                      generalize rd vs i = x at hf hx0
                      have HF := Aside0.mk hf
                      have HQ1 := Aside0.mk (words_Put.calls 6 Ah ch l14 (x % 4294967296) (l14 ++ cellB (x % 4294967296)) wr hCh hch (put_four l14 (x % 4294967296) (by omega) (by omega) (by omega)))
                      clear hf hl14 hCh hch h14 c5 c6
                      go_wp2_with (go_at_call 52; refine HQ1.out.mono ?_; rintro e w7 ⟨v7, rfl, hr7, hb7⟩; have HR7 := Aside0.mk hr7; have HB7 := Aside0.mk hb7; clear hr7 hb7)
                      go_roundg k3
                      case measure => omega
                      case rel => exact ⟨i + 1, rfl, HI2, HR2, ⟨below_step HBs.out HB7.out⟩, ⟨by rw [HF.out]; exact Kd.R_lower HR7.out HBs.out.size⟩⟩
                    · have hi : i = 10 := by have := HR.out; omega
                      subst hi
                      have c5b0 : decide ((10 : Int) < 10) = false := by decide
                      have HL14 : Aside0 (l14 = headB vs) := ⟨by rw [hl14]; congr 1; exact List.take_of_length_le (by rw [HV10.out]; decide)⟩
                      have hgb := blk_below (blk_below GB.out HBQ.out) HBs.out
                      have g0 := (blk_cell hgb 0).trans rfl
                      have g1 := (blk_cell hgb 1).trans rfl
                      have HBs2 := Aside0.mk (HBQ.out.trans (HBs.out.mono HBQ.out.size))
                      have HX8 := Aside0.mk (Kd.C_below HC8.out.1 HBs2.out)
                      have HXB := Aside0.mk (Kd.C_below HCB.out HBs2.out)
                      have HXT := Aside0.mk (Kd.C_below HCT.out HBs2.out)
                      have HXH := Aside0.mk (And.intro hCh hch)
                      have hbz : Below wr.heap.size wr (wr.alloc (.cells #[.slice Ah l14.length ch, .slice A8 l8.length c8, .slice Ab B.length cb, .slice At T.length ct] 45)).drew := below_drew1 (below_alloc (Below.refl _ _) _)
                      have hcc := concat.calls (some ⟨wr.heap.size, 0, none⟩) 4 [l14, l8, B, T] _ (four_C (wr.alloc (.cells #[.slice Ah l14.length ch, .slice A8 l8.length c8, .slice Ab B.length cb, .slice At T.length ct] 45)).drew wr.heap.size 45 Ah A8 Ab At ch c8 cb ct l14 l8 B T (blk_drew (blk_new _ _)) (Kd.C_below hCh hbz) hch (Kd.C_below HX8.out hbz) HC8.out.2 (Kd.C_below HXB.out hbz) HCC.out.1 (Kd.C_below HXT.out hbz) HCC.out.2) (by simp) (by have h5 := HL14.out; simp [h5, headB_length, HV10.out]; omega) (by have h5 := HL14.out; have h6 := HNN.out; simp [h5, headB_length, HV10.out]; omega)
                      have HCCC := Aside0.mk hcc
                      have HBZ := Aside0.mk hbz
                      have HRES : Aside0 ((l14 ++ (l8 ++ (B ++ T)), (0 : Int)) = (r, er)) := ⟨by
                        rw [← H.out]
                        unfold encF
                        have h6 := HNN.out
                        have e3 : ((40 + (resB (l1 ++ [⟨0, 0⟩])).length + B.length + T.length : Nat) : Int) = n3 := by rw [← HRS.out, ← HOL.out]; omega
                        have e1 : ((40 + (resB (l1 ++ [⟨0, 0⟩])).length : Nat) : Int) = n1 := by rw [← HRS.out, ← HOL.out]; omega
                        have e2 : ((40 + (resB (l1 ++ [⟨0, 0⟩])).length + B.length : Nat) : Int) = n2 := by rw [← HRS.out, ← HOL.out]; omega
                        rw [if_neg (by simp only; omega)]
                        simp only
                        rw [e1, e2, e3, ← HVV.out, ← HL14.out, ← HRS.out, ← HOL.out]⟩
                      clear hCh hch hgb hbz hcc hl14 c5 HI HR HL14
                      go_wp2
                      go_still_tail 10, (by kernel_rfl)
                      change wpList _ _ _ _ _ wr.drew
                      go_wp2_with (go_at_call 53; refine HCCC.out.mono ?_; rintro e w9 ⟨v9, rfl, hr9, hb9⟩; have HR9 := Aside0.mk hr9; have HB9 := Aside0.mk hb9; clear hr9 hb9)
                      have hres := HRES.out
                      simp only [Prod.mk.injEq] at hres
                      obtain ⟨hr1_, hr2_⟩ := hres
                      have hBB := below_step (below_step (below_step HW.out.bel HB4.out) HBs2.out) HBZ.out
                      have hfl : [l14, l8, B, T].flatten = r := by rw [← hr1_]; simp
                      have HR9b := HR9.out
                      rw [hfl] at HR9b
                      rw [← hr2_]
                      go_ret2
                      exact ⟨_, rfl, Kd.R_lower HR9b hBB.size, below_step hBB HB9.out⟩
      · rw [if_neg c64] at h
        exact absurd h (by simp)
  · rw [if_neg c0] at h
    simp only [Option.some.injEq, Prod.mk.injEq] at h
    obtain ⟨rfl, rfl⟩ := h
    have b0 : (c == 0) = false := beq_eq_false_iff_ne.mpr c0
    have b1 : (c != 0) = true := bne_iff_ne.mpr c0
    clear c0
    go_enter Try.func24, Try.ntmps24
    go_wp2_with (go_at_call 46; refine HCK.out.mono ?_; rintro e w1 ⟨rfl, hb⟩; have HB1 := Aside0.mk (below_step HB0.out hb); have BX := Aside0.mk (blk_below BX0.out hb); have q0 := (blk_cell BX.out 0).trans rfl; have q1 := (blk_cell BX.out 1).trans rfl; have q2 := (blk_cell BX.out 2).trans rfl; have q3 := (blk_cell BX.out 3).trans rfl; have q4 := (blk_cell BX.out 4).trans rfl; clear hb)
    go_ret2
    exact ⟨_, rfl, Kd.R_nil _ _ _ _ _, HB1.out⟩
end Go.Proofs.Ytkopmkinlanhoaa.PE

namespace Go.Proofs.Ytkopmkinlanhoaa.PE
open Go.RowKit Go.Proofs.YtkopmkinlanhoaaW.PrintWords Go.Proofs.YtkopmkinlanhoaaW.PrintLast Go.Proofs.YtkopmkinlanhoaaW.PrintMore
attribute [local go_sem] max2_int min2_int max_two min_two max_three min_three max_four min_four
set_option linter.unusedVariables false
set_option linter.unusedSimpArgs false
def openF (k : Nat) (l : List Int) (i : Int) (hs : List ByteArray) (d : Int) : Option (ByteArray × Int × Int) :=
  if 0 ≤ i ∧ i ≤ l.length then (words_Text.f k l i).bind fun t => if t.2 = true then (if (t.1.size : Int) < 1099511627776 then (if (takeF l i (t.1.size + 1)).2.1 = true then (if d > 16 then some (⟨#[]⟩, 6, (takeF l i (t.1.size + 1)).2.2) else (if d = 1 then some (decide (t.1.toList = ([] : List UInt8))) else if d > 1 then name_Node.f k t.1 else some true).bind fun b => if b = true then (if knownB hs t.1 = true then some (⟨#[]⟩, 9, (takeF l i (t.1.size + 1)).2.2) else if hs.length < 1099511627776 then some (t.1, 0, (takeF l i (t.1.size + 1)).2.2) else none) else some (⟨#[]⟩, 5, (takeF l i (t.1.size + 1)).2.2)) else some (⟨#[]⟩, 4, (takeF l i (t.1.size + 1)).2.2)) else none) else some (⟨#[]⟩, 4, i) else none
structure OpR (w0 W W2 : World) (g m : Nat) (sb st : Value) (q e : Int) (hs : List ByteArray) (s : ByteArray) : Prop where
  st : RdS w0 W2 g sb st q
  kept : Kept W W2 (fun k => k = g ∨ k = m)
  map : e = 0 → MapS W2 m (hs ++ [s])
theorem RdM.opR {w0 W W2 : World} {g m : Nat} {sb st : Value} {q e : Int} {hs : List ByteArray} {s : ByteArray} (h : RdM w0 W W2 g sb st q) (he : e ≠ 0) (n : Nat) : OpR w0 W (W2.drewN n) g m sb st q e hs s := ⟨h.st.drewN n, (h.kept.mono (fun _ hk => .inl hk)).drewN n, fun h0 => absurd h0 he⟩
theorem RdM.opR0 {w0 W W2 : World} {g m : Nat} {sb st : Value} {q e : Int} {hs : List ByteArray} {s : ByteArray} (h : RdM w0 W W2 g sb st q) (he : e ≠ 0) : OpR w0 W W2 g m sb st q e hs s := ⟨h.st, h.kept.mono (fun _ hk => .inl hk), fun h0 => absurd h0 he⟩
theorem RdS.grown {w0 W W2 : World} {g m : Nat} {sb st : Value} {q : Int} (h : RdS w0 W g sb st q) (hg : W.grownBy W2 (some m)) (hm : w0.heap.size ≤ m) (hne : g ≠ m) : RdS w0 W2 g sb st q := ⟨h.bel.grown hg h.bel.size (fun k hk => by injection hk with hk; omega), h.lo, blk_grown h.blk hg (fun e => hne (by injection e))⟩
set_option maxRecDepth 100000 in
set_option maxHeartbeats 2000000 in
theorem reader_open.calls (k : Nat) (ab : Addr) (cb : Nat) (lb : List Int) (st : Value) (at_ : Int) (hs : List ByteArray) (d : Int) (g m : Nat) (w0 W : World) (s1 : ByteArray) (e1 q1 : Int) (hC : Kd.C (Kd.int .u8) w0 (some ab) lb.length lb) (hc : lb.length ≤ cb) (hS : RdS w0 W g (.slice (some ab) lb.length cb) st at_) (hD : MapS W m hs) (hm : w0.heap.size ≤ m) (hne : g ≠ m) (h : openF k lb at_ hs d = some (s1, e1, q1)) :
    Calls Try.prog 70 #[.pointer (some ⟨g, 0, none⟩), .map (some m), .int .i64 d] W fun e w' => e = .returned (.tuple #[.string s1, .int .i64 e1]) ∧ OpR w0 W w' g m (.slice (some ab) lb.length cb) st q1 e1 hs s1 := by
  unfold openF at h
  by_cases hr : 0 ≤ at_ ∧ at_ ≤ lb.length
  case neg => rw [if_neg hr] at h; cases h
  rw [if_pos hr] at h
  obtain ⟨⟨s, ok⟩, ht, h⟩ := Option.bind_eq_some_iff.mp h
  have HT := Aside0.mk (fun n : Nat => words_Text.calls k (some ab) cb lb at_ s ok (W.drewN n) (Kd.C_drewN (Kd.C_below hC hS.bel) n) hc ht)
  have k0 : W.cell? ⟨g, 0, none⟩ = some (.slice (some ab) lb.length cb) := (blk_cell hS.blk 0).trans rfl
  have k2 : W.cell? ⟨g, 2, none⟩ = some (.int .i64 at_) := (blk_cell hS.blk 2).trans rfl
  have HS := Aside0.mk hS
  clear ht
  cases ok with
  | false =>
    simp only at h
    rw [if_neg (by decide)] at h
    obtain ⟨rfl, rfl, rfl⟩ : (⟨#[]⟩ : ByteArray) = s1 ∧ (4 : Int) = e1 ∧ at_ = q1 := by simpa using h
    clear h hC hc hS hD hr
    go_enter Try.func70, Try.ntmps70
    go_wp2
    go_quiet (first | (go_at_call 83; (with_reducible refine (HT.out _).mono ?_); rintro e w' ⟨rfl, ⟨nd, rfl⟩⟩; (try first | exact ⟨rfl, _, World.drewN_drewN _ _ _⟩ | exact ⟨rfl, _, Eq.trans (World.drewN_drewN _ _ _) (congrArg (World.drewN _) (Nat.add_assoc _ _ _))⟩)))
    go_wp2
    go_ret2
    exact ⟨rfl, ((RdM.mk (HS.out.drewN _) ((Kept.refl W (fun k => k = g)).drewN _)).opR0 (by decide))⟩
  | true =>
    rw [if_pos rfl] at h
    by_cases hz : (s.size : Int) < 1099511627776
    case neg => rw [if_neg hz] at h; cases h
    rw [if_pos hz] at h
    have HK := Aside0.mk (fun W2 hS2 => reader_take.calls ab cb lb st at_ (s.size + 1) g w0 W2 hC hc hS2 hr.1 hr.2 (by omega) (by omega))
    have HD := Aside0.mk (fun W2 (hk : Kept W W2 (fun k => k = g)) => hD.kept hk (fun e => hne e.symm))
    have HZ : Aside0 (s.size ≤ maxLen) := ⟨by unfold maxLen; omega⟩
    have hw1 : (s.size : Int) + 1 ≤ 1099511627776 := by omega
    have hw2 : (0 : Int) ≤ (s.size : Int) := Int.natCast_nonneg _
    obtain ⟨⟨y, ok2, q⟩, hy⟩ : ∃ y, y = takeF lb at_ (s.size + 1) := ⟨_, rfl⟩
    rw [← hy] at h HK
    clear hy hC hc hS hD hr hz
    simp only at h HK
    cases ok2 with
    | false =>
      rw [if_neg (by decide)] at h
      obtain ⟨rfl, rfl, rfl⟩ : (⟨#[]⟩ : ByteArray) = s1 ∧ (4 : Int) = e1 ∧ q = q1 := by simpa using h
      clear h
      go_enter Try.func70, Try.ntmps70
      go_wp2
      go_quiet (first | (go_at_call 83; (with_reducible refine (HT.out _).mono ?_); rintro e w' ⟨rfl, ⟨nd, rfl⟩⟩; (try first | exact ⟨rfl, _, World.drewN_drewN _ _ _⟩ | exact ⟨rfl, _, Eq.trans (World.drewN_drewN _ _ _) (congrArg (World.drewN _) (Nat.add_assoc _ _ _))⟩)))
      go_wp2_with (first | (go_at_call 84; refine (HK.out _ (HS.out.drewN _)).mono ?_; rintro e w' ⟨A2, c2, rfl, hl, hC2, hm⟩; have HM := Aside0.mk (RdM.mk hm.st (((Kept.refl W (fun k => k = g)).drewN _).then_ hm.kept (fun _ h => .inl h))); (try have hlk0 := HLK.out _ HM.out.kept); (try have hlkn := fun n_ : Nat => HLK.out _ (HM.out.kept.drewN n_)); clear hm hl hC2) | (go_at_call 85; refine (HN.out _).mono ?_; rintro e w' ⟨rfl, ⟨nd2, rfl⟩⟩) | (at_mapUpdate; refine wpList_mapS _ rfl _ _ _ rfl m hs rfl (HD.out _ (by repeat (first | exact HM.out.kept | refine Kept.drewN ?_ _))) HL.out s rfl HZ.out rfl ?_; intro w3 hm3 hg3; have HM3 := Aside0.mk hm3; have HG3 := Aside0.mk hg3; clear hm3 hg3))
      go_ret2
      exact ⟨rfl, HM.out.opR0 (by decide)⟩
    | true =>
      rw [if_pos rfl] at h
      by_cases c16 : d > 16
      · rw [if_pos c16] at h
        obtain ⟨rfl, rfl, rfl⟩ : (⟨#[]⟩ : ByteArray) = s1 ∧ (6 : Int) = e1 ∧ q = q1 := by simpa using h
        have c16b : decide (16 < d) = true := decide_eq_true c16
        clear h c16
        go_enter Try.func70, Try.ntmps70
        go_wp2
        go_quiet (first | (go_at_call 83; (with_reducible refine (HT.out _).mono ?_); rintro e w' ⟨rfl, ⟨nd, rfl⟩⟩; (try first | exact ⟨rfl, _, World.drewN_drewN _ _ _⟩ | exact ⟨rfl, _, Eq.trans (World.drewN_drewN _ _ _) (congrArg (World.drewN _) (Nat.add_assoc _ _ _))⟩)))
        go_wp2_with (first | (go_at_call 84; refine (HK.out _ (HS.out.drewN _)).mono ?_; rintro e w' ⟨A2, c2, rfl, hl, hC2, hm⟩; have HM := Aside0.mk (RdM.mk hm.st (((Kept.refl W (fun k => k = g)).drewN _).then_ hm.kept (fun _ h => .inl h))); (try have hlk0 := HLK.out _ HM.out.kept); (try have hlkn := fun n_ : Nat => HLK.out _ (HM.out.kept.drewN n_)); clear hm hl hC2) | (go_at_call 85; refine (HN.out _).mono ?_; rintro e w' ⟨rfl, ⟨nd2, rfl⟩⟩) | (at_mapUpdate; refine wpList_mapS _ rfl _ _ _ rfl m hs rfl (HD.out _ (by repeat (first | exact HM.out.kept | refine Kept.drewN ?_ _))) HL.out s rfl HZ.out rfl ?_; intro w3 hm3 hg3; have HM3 := Aside0.mk hm3; have HG3 := Aside0.mk hg3; clear hm3 hg3))
        go_ret2
        exact ⟨rfl, HM.out.opR0 (by decide)⟩
      · rw [if_neg c16] at h
        have c16b : decide (16 < d) = false := decide_eq_false c16
        clear c16
        obtain ⟨b, hb, h⟩ := Option.bind_eq_some_iff.mp h
        by_cases d1 : d = 1
        · subst d1
          rw [if_pos rfl] at hb
          obtain rfl := Option.some.inj hb
          clear hb
          by_cases hz : s.toList = ([] : List UInt8)
          · have hz0 : (s.toList == ([] : List UInt8)) = true := beq_iff_eq.mpr hz
            have hz1 : (s.toList != ([] : List UInt8)) = false := bne_eq_false_iff_eq.mpr hz
            rw [if_pos (decide_eq_true hz)] at h
            clear hz
            cases hkb : knownB hs s with
            | true =>
              rw [if_pos hkb] at h
              obtain ⟨rfl, rfl, rfl⟩ : (⟨#[]⟩ : ByteArray) = s1 ∧ (9 : Int) = e1 ∧ q = q1 := by simpa using h
              clear h
              have HLK := Aside0.mk (fun W2 (hk : Kept W W2 (fun k => k = g)) => (HD.out W2 hk).look s HZ.out)
              rw [hkb] at HLK
              go_enter Try.func70, Try.ntmps70
              go_wp2
              go_quiet (first | (go_at_call 83; (with_reducible refine (HT.out _).mono ?_); rintro e w' ⟨rfl, ⟨nd, rfl⟩⟩; (try first | exact ⟨rfl, _, World.drewN_drewN _ _ _⟩ | exact ⟨rfl, _, Eq.trans (World.drewN_drewN _ _ _) (congrArg (World.drewN _) (Nat.add_assoc _ _ _))⟩)))
              go_wp2_with (first | (go_at_call 84; refine (HK.out _ (HS.out.drewN _)).mono ?_; rintro e w' ⟨A2, c2, rfl, hl, hC2, hm⟩; have HM := Aside0.mk (RdM.mk hm.st (((Kept.refl W (fun k => k = g)).drewN _).then_ hm.kept (fun _ h => .inl h))); (try have hlk0 := HLK.out _ HM.out.kept); (try have hlkn := fun n_ : Nat => HLK.out _ (HM.out.kept.drewN n_)); clear hm hl hC2) | (go_at_call 85; refine (HN.out _).mono ?_; rintro e w' ⟨rfl, ⟨nd2, rfl⟩⟩) | (at_mapUpdate; refine wpList_mapS _ rfl _ _ _ rfl m hs rfl (HD.out _ (by repeat (first | exact HM.out.kept | refine Kept.drewN ?_ _))) HL.out s rfl HZ.out rfl ?_; intro w3 hm3 hg3; have HM3 := Aside0.mk hm3; have HG3 := Aside0.mk hg3; clear hm3 hg3))
              go_ret2
              exact ⟨rfl, by first | exact HM.out.opR (by decide) _ | exact HM.out.opR0 (by decide)⟩
            | false =>
              rw [if_neg (by rw [hkb]; decide)] at h
              by_cases hl : hs.length < 1099511627776
              case neg => rw [if_neg hl] at h; cases h
              rw [if_pos hl] at h
              obtain ⟨rfl, rfl, rfl⟩ : s = s1 ∧ (0 : Int) = e1 ∧ q = q1 := by simpa using h
              have HL : Aside0 (hs.length < maxLen) := ⟨by unfold maxLen; omega⟩
              clear h hl
              have HLK := Aside0.mk (fun W2 (hk : Kept W W2 (fun k => k = g)) => (HD.out W2 hk).look s HZ.out)
              rw [hkb] at HLK
              go_enter Try.func70, Try.ntmps70
              go_wp2
              go_quiet (first | (go_at_call 83; (with_reducible refine (HT.out _).mono ?_); rintro e w' ⟨rfl, ⟨nd, rfl⟩⟩; (try first | exact ⟨rfl, _, World.drewN_drewN _ _ _⟩ | exact ⟨rfl, _, Eq.trans (World.drewN_drewN _ _ _) (congrArg (World.drewN _) (Nat.add_assoc _ _ _))⟩)))
              go_wp2_with (first | (go_at_call 84; refine (HK.out _ (HS.out.drewN _)).mono ?_; rintro e w' ⟨A2, c2, rfl, hl, hC2, hm⟩; have HM := Aside0.mk (RdM.mk hm.st (((Kept.refl W (fun k => k = g)).drewN _).then_ hm.kept (fun _ h => .inl h))); (try have hlk0 := HLK.out _ HM.out.kept); (try have hlkn := fun n_ : Nat => HLK.out _ (HM.out.kept.drewN n_)); clear hm hl hC2) | (go_at_call 85; refine (HN.out _).mono ?_; rintro e w' ⟨rfl, ⟨nd2, rfl⟩⟩) | (at_mapUpdate; refine wpList_mapS _ rfl _ _ _ rfl m hs rfl (HD.out _ (by repeat (first | exact HM.out.kept | refine Kept.drewN ?_ _))) HL.out s rfl HZ.out rfl ?_; intro w3 hm3 hg3; have HM3 := Aside0.mk hm3; have HG3 := Aside0.mk hg3; clear hm3 hg3))
              go_ret2
              exact ⟨rfl, ⟨by have h2 := HM.out.st; repeat (first | exact RdS.grown (by first | exact h2 | exact h2.drewN _) HG3.out hm hne), Kept.of_grown HG3.out (by first | exact HM.out.kept.mono (fun _ hk => .inl hk) | exact (HM.out.kept.mono (fun _ hk => .inl hk)).drewN _) (fun k hk => .inl (.inr (by injection hk with hk; exact hk.symm))), fun _ => HM3.out⟩⟩
          · have hz0 : (s.toList == ([] : List UInt8)) = false := beq_eq_false_iff_ne.mpr hz
            have hz1 : (s.toList != ([] : List UInt8)) = true := bne_iff_ne.mpr hz
            rw [if_neg (fun h0 => hz (of_decide_eq_true h0))] at h
            clear hz
            obtain ⟨rfl, rfl, rfl⟩ : (⟨#[]⟩ : ByteArray) = s1 ∧ (5 : Int) = e1 ∧ q = q1 := by simpa using h
            clear h
            go_enter Try.func70, Try.ntmps70
            go_wp2
            go_quiet (first | (go_at_call 83; (with_reducible refine (HT.out _).mono ?_); rintro e w' ⟨rfl, ⟨nd, rfl⟩⟩; (try first | exact ⟨rfl, _, World.drewN_drewN _ _ _⟩ | exact ⟨rfl, _, Eq.trans (World.drewN_drewN _ _ _) (congrArg (World.drewN _) (Nat.add_assoc _ _ _))⟩)))
            go_wp2_with (first | (go_at_call 84; refine (HK.out _ (HS.out.drewN _)).mono ?_; rintro e w' ⟨A2, c2, rfl, hl, hC2, hm⟩; have HM := Aside0.mk (RdM.mk hm.st (((Kept.refl W (fun k => k = g)).drewN _).then_ hm.kept (fun _ h => .inl h))); (try have hlk0 := HLK.out _ HM.out.kept); (try have hlkn := fun n_ : Nat => HLK.out _ (HM.out.kept.drewN n_)); clear hm hl hC2) | (go_at_call 85; refine (HN.out _).mono ?_; rintro e w' ⟨rfl, ⟨nd2, rfl⟩⟩) | (at_mapUpdate; refine wpList_mapS _ rfl _ _ _ rfl m hs rfl (HD.out _ (by repeat (first | exact HM.out.kept | refine Kept.drewN ?_ _))) HL.out s rfl HZ.out rfl ?_; intro w3 hm3 hg3; have HM3 := Aside0.mk hm3; have HG3 := Aside0.mk hg3; clear hm3 hg3))
            go_ret2
            exact ⟨rfl, HM.out.opR0 (by decide)⟩
        · rw [if_neg d1] at hb
          have d1b : (d == 1) = false := beq_eq_false_iff_ne.mpr d1
          by_cases dg : d > 1
          · rw [if_pos dg] at hb
            have dgb : decide (1 < d) = true := decide_eq_true dg
            have HN := Aside0.mk (fun W2 => name_Node.calls k s b W2 hb)
            clear hb d1 dg
            cases b with
            | true =>
              rw [if_pos rfl] at h
              cases hkb : knownB hs s with
              | true =>
                rw [if_pos hkb] at h
                obtain ⟨rfl, rfl, rfl⟩ : (⟨#[]⟩ : ByteArray) = s1 ∧ (9 : Int) = e1 ∧ q = q1 := by simpa using h
                clear h
                have HLK := Aside0.mk (fun W2 (hk : Kept W W2 (fun k => k = g)) => (HD.out W2 hk).look s HZ.out)
                rw [hkb] at HLK
                go_enter Try.func70, Try.ntmps70
                go_wp2
                go_quiet (first | (go_at_call 83; (with_reducible refine (HT.out _).mono ?_); rintro e w' ⟨rfl, ⟨nd, rfl⟩⟩; (try first | exact ⟨rfl, _, World.drewN_drewN _ _ _⟩ | exact ⟨rfl, _, Eq.trans (World.drewN_drewN _ _ _) (congrArg (World.drewN _) (Nat.add_assoc _ _ _))⟩)))
                go_wp2_with (first | (go_at_call 84; refine (HK.out _ (HS.out.drewN _)).mono ?_; rintro e w' ⟨A2, c2, rfl, hl, hC2, hm⟩; have HM := Aside0.mk (RdM.mk hm.st (((Kept.refl W (fun k => k = g)).drewN _).then_ hm.kept (fun _ h => .inl h))); (try have hlk0 := HLK.out _ HM.out.kept); (try have hlkn := fun n_ : Nat => HLK.out _ (HM.out.kept.drewN n_)); clear hm hl hC2) | (go_at_call 85; refine (HN.out _).mono ?_; rintro e w' ⟨rfl, ⟨nd2, rfl⟩⟩) | (at_mapUpdate; refine wpList_mapS _ rfl _ _ _ rfl m hs rfl (HD.out _ (by repeat (first | exact HM.out.kept | refine Kept.drewN ?_ _))) HL.out s rfl HZ.out rfl ?_; intro w3 hm3 hg3; have HM3 := Aside0.mk hm3; have HG3 := Aside0.mk hg3; clear hm3 hg3))
                go_ret2
                exact ⟨rfl, by first | exact HM.out.opR (by decide) _ | exact HM.out.opR0 (by decide)⟩
              | false =>
                rw [if_neg (by rw [hkb]; decide)] at h
                by_cases hl : hs.length < 1099511627776
                case neg => rw [if_neg hl] at h; cases h
                rw [if_pos hl] at h
                obtain ⟨rfl, rfl, rfl⟩ : s = s1 ∧ (0 : Int) = e1 ∧ q = q1 := by simpa using h
                have HL : Aside0 (hs.length < maxLen) := ⟨by unfold maxLen; omega⟩
                clear h hl
                have HLK := Aside0.mk (fun W2 (hk : Kept W W2 (fun k => k = g)) => (HD.out W2 hk).look s HZ.out)
                rw [hkb] at HLK
                go_enter Try.func70, Try.ntmps70
                go_wp2
                go_quiet (first | (go_at_call 83; (with_reducible refine (HT.out _).mono ?_); rintro e w' ⟨rfl, ⟨nd, rfl⟩⟩; (try first | exact ⟨rfl, _, World.drewN_drewN _ _ _⟩ | exact ⟨rfl, _, Eq.trans (World.drewN_drewN _ _ _) (congrArg (World.drewN _) (Nat.add_assoc _ _ _))⟩)))
                go_wp2_with (first | (go_at_call 84; refine (HK.out _ (HS.out.drewN _)).mono ?_; rintro e w' ⟨A2, c2, rfl, hl, hC2, hm⟩; have HM := Aside0.mk (RdM.mk hm.st (((Kept.refl W (fun k => k = g)).drewN _).then_ hm.kept (fun _ h => .inl h))); (try have hlk0 := HLK.out _ HM.out.kept); (try have hlkn := fun n_ : Nat => HLK.out _ (HM.out.kept.drewN n_)); clear hm hl hC2) | (go_at_call 85; refine (HN.out _).mono ?_; rintro e w' ⟨rfl, ⟨nd2, rfl⟩⟩) | (at_mapUpdate; refine wpList_mapS _ rfl _ _ _ rfl m hs rfl (HD.out _ (by repeat (first | exact HM.out.kept | refine Kept.drewN ?_ _))) HL.out s rfl HZ.out rfl ?_; intro w3 hm3 hg3; have HM3 := Aside0.mk hm3; have HG3 := Aside0.mk hg3; clear hm3 hg3))
                go_ret2
                exact ⟨rfl, ⟨by have h2 := HM.out.st; repeat (first | exact RdS.grown (by first | exact h2 | exact h2.drewN _) HG3.out hm hne), Kept.of_grown HG3.out (by first | exact HM.out.kept.mono (fun _ hk => .inl hk) | exact (HM.out.kept.mono (fun _ hk => .inl hk)).drewN _) (fun k hk => .inl (.inr (by injection hk with hk; exact hk.symm))), fun _ => HM3.out⟩⟩
            | false =>
              rw [if_neg (by decide)] at h
              obtain ⟨rfl, rfl, rfl⟩ : (⟨#[]⟩ : ByteArray) = s1 ∧ (5 : Int) = e1 ∧ q = q1 := by simpa using h
              clear h
              go_enter Try.func70, Try.ntmps70
              go_wp2
              go_quiet (first | (go_at_call 83; (with_reducible refine (HT.out _).mono ?_); rintro e w' ⟨rfl, ⟨nd, rfl⟩⟩; (try first | exact ⟨rfl, _, World.drewN_drewN _ _ _⟩ | exact ⟨rfl, _, Eq.trans (World.drewN_drewN _ _ _) (congrArg (World.drewN _) (Nat.add_assoc _ _ _))⟩)))
              go_wp2_with (first | (go_at_call 84; refine (HK.out _ (HS.out.drewN _)).mono ?_; rintro e w' ⟨A2, c2, rfl, hl, hC2, hm⟩; have HM := Aside0.mk (RdM.mk hm.st (((Kept.refl W (fun k => k = g)).drewN _).then_ hm.kept (fun _ h => .inl h))); (try have hlk0 := HLK.out _ HM.out.kept); (try have hlkn := fun n_ : Nat => HLK.out _ (HM.out.kept.drewN n_)); clear hm hl hC2) | (go_at_call 85; refine (HN.out _).mono ?_; rintro e w' ⟨rfl, ⟨nd2, rfl⟩⟩) | (at_mapUpdate; refine wpList_mapS _ rfl _ _ _ rfl m hs rfl (HD.out _ (by repeat (first | exact HM.out.kept | refine Kept.drewN ?_ _))) HL.out s rfl HZ.out rfl ?_; intro w3 hm3 hg3; have HM3 := Aside0.mk hm3; have HG3 := Aside0.mk hg3; clear hm3 hg3))
              go_ret2
              exact ⟨rfl, HM.out.opR (by decide) _⟩
          · rw [if_neg dg] at hb
            have dgb : decide (1 < d) = false := decide_eq_false dg
            obtain rfl := Option.some.inj hb
            rw [if_pos rfl] at h
            clear hb d1 dg
            cases hkb : knownB hs s with
            | true =>
              rw [if_pos hkb] at h
              obtain ⟨rfl, rfl, rfl⟩ : (⟨#[]⟩ : ByteArray) = s1 ∧ (9 : Int) = e1 ∧ q = q1 := by simpa using h
              clear h
              have HLK := Aside0.mk (fun W2 (hk : Kept W W2 (fun k => k = g)) => (HD.out W2 hk).look s HZ.out)
              rw [hkb] at HLK
              go_enter Try.func70, Try.ntmps70
              go_wp2
              go_quiet (first | (go_at_call 83; (with_reducible refine (HT.out _).mono ?_); rintro e w' ⟨rfl, ⟨nd, rfl⟩⟩; (try first | exact ⟨rfl, _, World.drewN_drewN _ _ _⟩ | exact ⟨rfl, _, Eq.trans (World.drewN_drewN _ _ _) (congrArg (World.drewN _) (Nat.add_assoc _ _ _))⟩)))
              go_wp2_with (first | (go_at_call 84; refine (HK.out _ (HS.out.drewN _)).mono ?_; rintro e w' ⟨A2, c2, rfl, hl, hC2, hm⟩; have HM := Aside0.mk (RdM.mk hm.st (((Kept.refl W (fun k => k = g)).drewN _).then_ hm.kept (fun _ h => .inl h))); (try have hlk0 := HLK.out _ HM.out.kept); (try have hlkn := fun n_ : Nat => HLK.out _ (HM.out.kept.drewN n_)); clear hm hl hC2) | (go_at_call 85; refine (HN.out _).mono ?_; rintro e w' ⟨rfl, ⟨nd2, rfl⟩⟩) | (at_mapUpdate; refine wpList_mapS _ rfl _ _ _ rfl m hs rfl (HD.out _ (by repeat (first | exact HM.out.kept | refine Kept.drewN ?_ _))) HL.out s rfl HZ.out rfl ?_; intro w3 hm3 hg3; have HM3 := Aside0.mk hm3; have HG3 := Aside0.mk hg3; clear hm3 hg3))
              go_ret2
              exact ⟨rfl, by first | exact HM.out.opR (by decide) _ | exact HM.out.opR0 (by decide)⟩
            | false =>
              rw [if_neg (by rw [hkb]; decide)] at h
              by_cases hl : hs.length < 1099511627776
              case neg => rw [if_neg hl] at h; cases h
              rw [if_pos hl] at h
              obtain ⟨rfl, rfl, rfl⟩ : s = s1 ∧ (0 : Int) = e1 ∧ q = q1 := by simpa using h
              have HL : Aside0 (hs.length < maxLen) := ⟨by unfold maxLen; omega⟩
              clear h hl
              have HLK := Aside0.mk (fun W2 (hk : Kept W W2 (fun k => k = g)) => (HD.out W2 hk).look s HZ.out)
              rw [hkb] at HLK
              go_enter Try.func70, Try.ntmps70
              go_wp2
              go_quiet (first | (go_at_call 83; (with_reducible refine (HT.out _).mono ?_); rintro e w' ⟨rfl, ⟨nd, rfl⟩⟩; (try first | exact ⟨rfl, _, World.drewN_drewN _ _ _⟩ | exact ⟨rfl, _, Eq.trans (World.drewN_drewN _ _ _) (congrArg (World.drewN _) (Nat.add_assoc _ _ _))⟩)))
              go_wp2_with (first | (go_at_call 84; refine (HK.out _ (HS.out.drewN _)).mono ?_; rintro e w' ⟨A2, c2, rfl, hl, hC2, hm⟩; have HM := Aside0.mk (RdM.mk hm.st (((Kept.refl W (fun k => k = g)).drewN _).then_ hm.kept (fun _ h => .inl h))); (try have hlk0 := HLK.out _ HM.out.kept); (try have hlkn := fun n_ : Nat => HLK.out _ (HM.out.kept.drewN n_)); clear hm hl hC2) | (go_at_call 85; refine (HN.out _).mono ?_; rintro e w' ⟨rfl, ⟨nd2, rfl⟩⟩) | (at_mapUpdate; refine wpList_mapS _ rfl _ _ _ rfl m hs rfl (HD.out _ (by repeat (first | exact HM.out.kept | refine Kept.drewN ?_ _))) HL.out s rfl HZ.out rfl ?_; intro w3 hm3 hg3; have HM3 := Aside0.mk hm3; have HG3 := Aside0.mk hg3; clear hm3 hg3))
              go_ret2
              exact ⟨rfl, ⟨by have h2 := HM.out.st; repeat (first | exact RdS.grown (by first | exact h2 | exact h2.drewN _) HG3.out hm hne), Kept.of_grown HG3.out (by first | exact HM.out.kept.mono (fun _ hk => .inl hk) | exact (HM.out.kept.mono (fun _ hk => .inl hk)).drewN _) (fun k hk => .inl (.inr (by injection hk with hk; exact hk.symm))), fun _ => HM3.out⟩⟩
end Go.Proofs.Ytkopmkinlanhoaa.PE

namespace Go.Proofs.Ytkopmkinlanhoaa.PE
open Go.RowKit Go.Proofs.YtkopmkinlanhoaaW.PrintWords Go.Proofs.YtkopmkinlanhoaaW.PrintLast Go.Proofs.YtkopmkinlanhoaaW.PrintMore
attribute [local go_sem] max2_int min2_int max_two min_two max_three min_three max_four min_four
set_option linter.unusedVariables false
set_option linter.unusedSimpArgs false
def propF (k : Nat) (l lt : List Int) (i : Int) (hs : List ByteArray) : Option (S63 × Int × Int) :=
  if cellOk l i = true then (if cellOk l (i + 4) = true then
    (words_Text.f k lt (cellAt l (i + 4))).bind fun t =>
      if (takeF l (i + 4 + 4) (cellAt l i)).2.1 = true then (if t.2 = true then (if (t.1.size : Int) < 1099511627776 then (name_Prop.f k t.1).bind fun b => if b = true then (if knownB hs t.1 = true then some (z63, 9, (takeF l (i + 4 + 4) (cellAt l i)).2.2) else if hs.length < 1099511627776 then (bytes_Clone.f (takeF l (i + 4 + 4) (cellAt l i)).1).bind fun v => some (⟨t.1, v⟩, 0, (takeF l (i + 4 + 4) (cellAt l i)).2.2) else none) else some (z63, 5, (takeF l (i + 4 + 4) (cellAt l i)).2.2) else none) else some (z63, 4, (takeF l (i + 4 + 4) (cellAt l i)).2.2)) else some (z63, 4, (takeF l (i + 4 + 4) (cellAt l i)).2.2)
    else some (z63, 4, i + 4)) else some (z63, 4, nextAt l i)
theorem RdM.outer {w0 W W2 : World} {g : Nat} {sb st : Value} {q : Int} (h : RdM w0 W W2 g sb st q) (hg : g < W.heap.size) (h0 : w0.heap.size ≤ W.heap.size) (j : Nat) (u : Value) : RdM w0 W (W2.setCell ⟨W.heap.size, j, none⟩ u) g sb st q :=
  ⟨⟨h.st.bel.setCell h0 _, h.st.lo, blk_far h.st.blk (Nat.ne_of_lt hg) _⟩, h.kept.setCell (p := ⟨W.heap.size, j, none⟩) (.inr (Nat.le_refl _)) _⟩
theorem RdM.drewN {w0 W W2 : World} {g : Nat} {sb st : Value} {q : Int} (h : RdM w0 W W2 g sb st q) (n : Nat) : RdM w0 W (W2.drewN n) g sb st q := ⟨h.st.drewN n, h.kept.drewN n⟩
theorem OpR.outer {w0 W W2 : World} {g m : Nat} {sb st : Value} {q e : Int} {hs : List ByteArray} {s : ByteArray} (h : OpR w0 W W2 g m sb st q e hs s) (hg : g < W.heap.size) (hm : m < W.heap.size) (h0 : w0.heap.size ≤ W.heap.size) (j : Nat) (u : Value) : OpR w0 W (W2.setCell ⟨W.heap.size, j, none⟩ u) g m sb st q e hs s :=
  ⟨⟨h.st.bel.setCell h0 _, h.st.lo, blk_far h.st.blk (Nat.ne_of_lt hg) _⟩, h.kept.setCell (p := ⟨W.heap.size, j, none⟩) (.inr (Nat.le_refl _)) _, fun he => (h.map he).same (Below.heap_setCell W2 ⟨W.heap.size, j, none⟩ u m (Nat.ne_of_lt hm))⟩
theorem OpR.below {w0 W W2 W3 : World} {g m : Nat} {sb st : Value} {q e : Int} {hs : List ByteArray} {s : ByteArray} (h : OpR w0 W W2 g m sb st q e hs s) (hb : Below W2.heap.size W2 W3) : OpR w0 W W3 g m sb st q e hs s := ⟨h.st.below hb, h.kept.below hb, fun he => (h.map he).below hb⟩
theorem OpR.put {w0 W W2 W3 : World} {g m : Nat} {sb st : Value} {q : Int} {hs : List ByteArray} {s : ByteArray} (h : RdM w0 W W2 g sb st q) (hg : W2.grownBy W3 (some m)) (hM : MapS W3 m (hs ++ [s])) (hm : w0.heap.size ≤ m) (hne : g ≠ m) : OpR w0 W W3 g m sb st q 0 hs s :=
  ⟨h.st.grown hg hm hne, Kept.of_grown hg (h.kept.mono (fun _ hk => .inl hk)) (fun k hk => .inl (.inr (by injection hk with hk; exact hk.symm))), fun _ => hM⟩
theorem R_outer {w6 W2 : World} {B : Nat} {v : Value} {l : List Int} (h : Kd.R (Kd.int .u8) 5 W2 w6.heap.size (fun _ => True) v l) (hB : B < w6.heap.size) (j : Nat) (u : Value) : Kd.R (Kd.int .u8) 5 (W2.setCell ⟨B, j, none⟩ u) w6.heap.size (fun _ => True) v l :=
  Kd.R_mono (Kd.R_far (p := ⟨B, j, none⟩) (Kd.R_bound h) (fun k hk => by have := hk.2.1; simp only; omega) u) (fun _ _ => trivial)
set_option maxRecDepth 100000 in
set_option maxHeartbeats 4000000 in
theorem reader_prop.calls (k : Nat) (ab : Addr) (cb : Nat) (lb : List Int) (At : Option Addr) (ct : Nat) (lt : List Int) (at_ : Int) (hs : List ByteArray) (g m : Nat) (w0 W : World) (p1 : S63) (e1 q1 : Int) (hC : Kd.C (Kd.int .u8) w0 (some ab) lb.length lb) (hc : lb.length ≤ cb) (hCt : Kd.C (Kd.int .u8) w0 At lt.length lt) (hct : lt.length ≤ ct) (hS : RdS w0 W g (.slice (some ab) lb.length cb) (.slice At lt.length ct) at_) (hD : MapS W m hs) (hm : w0.heap.size ≤ m) (hne : g ≠ m) (h : propF k lb lt at_ hs = some (p1, e1, q1)) :
    Calls Try.prog 71 #[.pointer (some ⟨g, 0, none⟩), .map (some m)] W fun e w' => ∃ v : Value, e = .returned (.tuple #[.agg #[.string p1.f0, v], .int .i64 e1]) ∧ OpR w0 W w' g m (.slice (some ab) lb.length cb) (.slice At lt.length ct) q1 e1 hs p1.f0 ∧ Kd.R (Kd.int .u8) 5 w' W.heap.size (fun _ => True) v p1.f1 := by
  unfold propF at h
  have HS := Aside0.mk hS
  have HG := Aside0.mk (blk_lt hS.blk)
  have hS1 := hS.below (below_alloc (Below.refl W.heap.size W) (.cells #[.string ⟨#[]⟩, .slice none 0 0] 63))
  have HM := Aside0.mk (RdM.mk hS1 ((Kept.refl W (fun k => k = g)).alloc (.cells #[.string ⟨#[]⟩, .slice none 0 0] 63)))
  have BK := Aside0.mk (blk_new W (.cells #[.string ⟨#[]⟩, .slice none 0 0] 63 (0, 0)))
  have HCEL := Aside0.mk (fun i W2 hS2 => reader_cell.calls (some ab) cb lb (.slice At lt.length ct) i g w0 W2 hC hc hS2)
  have HCB := Aside0.mk hC
  have HCT := Aside0.mk hCt
  have HCC := Aside0.mk hc
  have HCCT := Aside0.mk hct
  have HD := Aside0.mk (fun W2 (hk : Kept W W2 (fun k => k = g)) => hD.kept hk (fun e => hne e.symm))
  have HLTM := Aside0.mk hD.lt
  have N1 : Aside0 (nextAt lb at_ = if cellOk lb at_ = true then at_ + 4 else at_) := ⟨rfl⟩
  have N2 : Aside0 (nextAt lb (at_ + 4) = if cellOk lb (at_ + 4) = true then at_ + 4 + 4 else at_ + 4) := ⟨rfl⟩
  have R1 := Aside0.mk (cellOk_range lb at_)
  have R2 := Aside0.mk (cellOk_range lb (at_ + 4))
  have V1 := cellAt_range lb at_
  have V2 := cellAt_range lb (at_ + 4)
  clear hC hc hCt hct hS hD hS1
  cases ha : cellOk lb at_ with
  | false =>
    rw [if_neg (by rw [ha]; decide)] at h
    have N1 : Aside0 (nextAt lb at_ = at_) := ⟨N1.out.trans (if_neg (by rw [ha]; decide))⟩
    rw [N1.out] at h
    obtain ⟨rfl, rfl, rfl⟩ : z63 = p1 ∧ (4 : Int) = e1 ∧ at_ = q1 := by simpa using h
    have HC1 := HCEL.out at_
    rw [ha, N1.out] at HC1
    have HC1 := Aside0.mk HC1
    clear h HCEL N1 N2 R1 R2
    go_enter Try.func71, Try.ntmps71
    go_wp2_with (go_at_call 69; refine (HC1.out _ HM.out.st).mono ?_; rintro e w1 ⟨rfl, hm⟩; have BK := Aside0.mk (blk_kept BK.out hm.kept (fun e => Nat.ne_of_gt HG.out e)); have HM := Aside0.mk (HM.out.then_ hm); clear hm; have z0 : w1.cell? ⟨W.heap.size, 0, none⟩ = some (.string ⟨#[]⟩) := (blk_cell BK.out 0).trans rfl; have z1 : w1.cell? ⟨W.heap.size, 1, none⟩ = some (.slice none 0 0) := (blk_cell BK.out 1).trans rfl; have y0 : w1.frozen? ⟨W.heap.size, 0, none⟩ = false := blk_frozen BK.out 0; have y1 : w1.frozen? ⟨W.heap.size, 1, none⟩ = false := blk_frozen BK.out 1; have kx1 : w1.cell? ⟨g, 1, none⟩ = some (.slice At lt.length ct) := (blk_cell HM.out.st.blk 1).trans rfl)
    refine bodyPost_ret (results_ct rfl _ _ W.heap.size 63 #[.string ⟨#[]⟩, .slice none 0 0] (0, 0) _ rfl (by refine blk_put (cs := #[.string ⟨#[]⟩, .slice none 0 0]) ?_ 1 _ rfl; refine blk_put (cs := #[.string ⟨#[]⟩, .slice none 0 0]) ?_ 0 _ rfl; repeat (first | exact BK.out | refine blk_drewN ?_ _)) Try.underlying63 rfl (by kernel_rfl)) rfl ⟨.slice none 0 0, rfl, ?_, Kd.R_nil _ _ _ _ _⟩
    exact RdM.opR0 (RdM.outer (RdM.outer (by repeat (first | exact HM.out | refine RdM.drewN ?_ _)) HG.out HS.out.bel.size 0 _) HG.out HS.out.bel.size 1 _) (by decide)
  | true =>
    rw [if_pos ha] at h
    have N1 : Aside0 (nextAt lb at_ = at_ + 4) := ⟨N1.out.trans (if_pos ha)⟩
    have R1 := Aside0.mk (R1.out ha)
    have HC1 := HCEL.out at_
    rw [ha, N1.out] at HC1
    have HC1 := Aside0.mk HC1
    cases hb : cellOk lb (at_ + 4) with
    | false =>
      rw [if_neg (by rw [hb]; decide)] at h
      have N2 : Aside0 (nextAt lb (at_ + 4) = at_ + 4) := ⟨N2.out.trans (if_neg (by rw [hb]; decide))⟩
      obtain ⟨rfl, rfl, rfl⟩ : z63 = p1 ∧ (4 : Int) = e1 ∧ at_ + 4 = q1 := by simpa using h
      have HC2 := HCEL.out (at_ + 4)
      rw [hb, N2.out] at HC2
      have HC2 := Aside0.mk HC2
      clear h HCEL N1 N2 R1 R2
      go_enter Try.func71, Try.ntmps71
      go_wp2_with (first | (go_at_call 69; refine (HC1.out _ HM.out.st).mono ?_; rintro e w1 ⟨rfl, hm⟩; have BK := Aside0.mk (blk_kept BK.out hm.kept (fun e => Nat.ne_of_gt HG.out e)); have HM := Aside0.mk (HM.out.then_ hm); clear hm; have z0 : w1.cell? ⟨W.heap.size, 0, none⟩ = some (.string ⟨#[]⟩) := (blk_cell BK.out 0).trans rfl; have z1 : w1.cell? ⟨W.heap.size, 1, none⟩ = some (.slice none 0 0) := (blk_cell BK.out 1).trans rfl; have y0 : w1.frozen? ⟨W.heap.size, 0, none⟩ = false := blk_frozen BK.out 0; have y1 : w1.frozen? ⟨W.heap.size, 1, none⟩ = false := blk_frozen BK.out 1; have kx1 : w1.cell? ⟨g, 1, none⟩ = some (.slice At lt.length ct) := (blk_cell HM.out.st.blk 1).trans rfl) | (go_at_call 69; refine (HC2.out _ HM.out.st).mono ?_; rintro e w2 ⟨rfl, hm⟩; have BK := Aside0.mk (blk_kept BK.out hm.kept (fun e => Nat.ne_of_gt HG.out e)); have HM := Aside0.mk (HM.out.then_ hm); clear hm; have z0 : w2.cell? ⟨W.heap.size, 0, none⟩ = some (.string ⟨#[]⟩) := (blk_cell BK.out 0).trans rfl; have z1 : w2.cell? ⟨W.heap.size, 1, none⟩ = some (.slice none 0 0) := (blk_cell BK.out 1).trans rfl; have y0 : w2.frozen? ⟨W.heap.size, 0, none⟩ = false := blk_frozen BK.out 0; have y1 : w2.frozen? ⟨W.heap.size, 1, none⟩ = false := blk_frozen BK.out 1; have kx1 : w2.cell? ⟨g, 1, none⟩ = some (.slice At lt.length ct) := (blk_cell HM.out.st.blk 1).trans rfl))
      refine bodyPost_ret (results_ct rfl _ _ W.heap.size 63 #[.string ⟨#[]⟩, .slice none 0 0] (0, 0) _ rfl (by refine blk_put (cs := #[.string ⟨#[]⟩, .slice none 0 0]) ?_ 1 _ rfl; refine blk_put (cs := #[.string ⟨#[]⟩, .slice none 0 0]) ?_ 0 _ rfl; repeat (first | exact BK.out | refine blk_drewN ?_ _)) Try.underlying63 rfl (by kernel_rfl)) rfl ⟨.slice none 0 0, rfl, ?_, Kd.R_nil _ _ _ _ _⟩
      exact RdM.opR0 (RdM.outer (RdM.outer (by repeat (first | exact HM.out | refine RdM.drewN ?_ _)) HG.out HS.out.bel.size 0 _) HG.out HS.out.bel.size 1 _) (by decide)
    | true =>
      rw [if_pos hb] at h
      have N2 : Aside0 (nextAt lb (at_ + 4) = at_ + 4 + 4) := ⟨N2.out.trans (if_pos hb)⟩
      have R2 := Aside0.mk (R2.out hb)
      have HC2 := HCEL.out (at_ + 4)
      rw [hb, N2.out] at HC2
      have HC2 := Aside0.mk HC2
      obtain ⟨⟨s, fine⟩, hx, h⟩ := Option.bind_eq_some_iff.mp h
      have HX := Aside0.mk (fun W2 (hb : Below w0.heap.size w0 W2) => words_Text.calls k At ct lt (cellAt lb (at_ + 4)) s fine W2 (Kd.C_below HCT.out hb) HCCT.out hx)
      have HK := Aside0.mk (fun W2 hS2 => reader_take.calls ab cb lb (.slice At lt.length ct) (at_ + 4 + 4) (cellAt lb at_) g w0 W2 HCB.out HCC.out hS2 (by have := R2.out; omega) (by have := R2.out; omega) V1.1 (by have := V1.2; omega))
      have v10 := V1.1
      have v11 := V1.2
      have v20 := V2.1
      have v21 := V2.2
      obtain ⟨⟨y, ok2, q⟩, hy⟩ : ∃ y, y = takeF lb (at_ + 4 + 4) (cellAt lb at_) := ⟨_, rfl⟩
      obtain ⟨c1, hc1⟩ : ∃ c, c = cellAt lb at_ := ⟨_, rfl⟩
      obtain ⟨c2, hc2⟩ : ∃ c, c = cellAt lb (at_ + 4) := ⟨_, rfl⟩
      rw [← hy] at h HK
      rw [← hc1] at HC1 HK v10 v11
      rw [← hc2] at HC2 HX v20 v21
      clear hy hc1 hc2 hx HCEL N1 N2 R1 R2 V1 V2 ha hb
      simp only at h HK
      cases ok2 with
      | false =>
        rw [if_neg (by decide)] at h
        obtain ⟨rfl, rfl, rfl⟩ : z63 = p1 ∧ (4 : Int) = e1 ∧ q = q1 := by simpa using h
        clear h
        go_enter Try.func71, Try.ntmps71
        go_wp2_with (first | (first | (go_at_call 69; refine (HC1.out _ HM.out.st).mono ?_; rintro e w1 ⟨rfl, hm⟩; have BK := Aside0.mk (blk_kept BK.out hm.kept (fun e => Nat.ne_of_gt HG.out e)); have HM := Aside0.mk (HM.out.then_ hm); clear hm; have z0 : w1.cell? ⟨W.heap.size, 0, none⟩ = some (.string ⟨#[]⟩) := (blk_cell BK.out 0).trans rfl; have z1 : w1.cell? ⟨W.heap.size, 1, none⟩ = some (.slice none 0 0) := (blk_cell BK.out 1).trans rfl; have y0 : w1.frozen? ⟨W.heap.size, 0, none⟩ = false := blk_frozen BK.out 0; have y1 : w1.frozen? ⟨W.heap.size, 1, none⟩ = false := blk_frozen BK.out 1; have kx1 : w1.cell? ⟨g, 1, none⟩ = some (.slice At lt.length ct) := (blk_cell HM.out.st.blk 1).trans rfl) | (go_at_call 69; refine (HC2.out _ HM.out.st).mono ?_; rintro e w2 ⟨rfl, hm⟩; have BK := Aside0.mk (blk_kept BK.out hm.kept (fun e => Nat.ne_of_gt HG.out e)); have HM := Aside0.mk (HM.out.then_ hm); clear hm; have z0 : w2.cell? ⟨W.heap.size, 0, none⟩ = some (.string ⟨#[]⟩) := (blk_cell BK.out 0).trans rfl; have z1 : w2.cell? ⟨W.heap.size, 1, none⟩ = some (.slice none 0 0) := (blk_cell BK.out 1).trans rfl; have y0 : w2.frozen? ⟨W.heap.size, 0, none⟩ = false := blk_frozen BK.out 0; have y1 : w2.frozen? ⟨W.heap.size, 1, none⟩ = false := blk_frozen BK.out 1; have kx1 : w2.cell? ⟨g, 1, none⟩ = some (.slice At lt.length ct) := (blk_cell HM.out.st.blk 1).trans rfl)) | (go_at_call 84; refine (HK.out _ HM.out.st).mono ?_; rintro e w3 ⟨A2, c2_, rfl, hl2, hC2, hm⟩; have HY := Aside0.mk hC2; have HYL := Aside0.mk hl2; clear hC2 hl2; have BK := Aside0.mk (blk_kept BK.out hm.kept (fun e => Nat.ne_of_gt HG.out e)); have HM := Aside0.mk (HM.out.then_ hm); clear hm; have z0 : w3.cell? ⟨W.heap.size, 0, none⟩ = some (.string ⟨#[]⟩) := (blk_cell BK.out 0).trans rfl; have z1 : w3.cell? ⟨W.heap.size, 1, none⟩ = some (.slice none 0 0) := (blk_cell BK.out 1).trans rfl; have y0 : w3.frozen? ⟨W.heap.size, 0, none⟩ = false := blk_frozen BK.out 0; have y1 : w3.frozen? ⟨W.heap.size, 1, none⟩ = false := blk_frozen BK.out 1; have kx1 : w3.cell? ⟨g, 1, none⟩ = some (.slice At lt.length ct) := (blk_cell HM.out.st.blk 1).trans rfl; (try have hlk0 := HLK.out _ HM.out.kept); (try have hlkn := fun n_ : Nat => HLK.out _ (HM.out.kept.drewN n_))) | (go_at_call 83; refine (HX.out _ HM.out.st.bel).mono ?_; rintro e w4 ⟨rfl, ⟨nd, rfl⟩⟩) | (go_at_call 86; refine (HN.out _).mono ?_; rintro e w5 ⟨rfl, ⟨nd2, rfl⟩⟩))
        refine bodyPost_ret (results_ct rfl _ _ W.heap.size 63 #[.string ⟨#[]⟩, .slice none 0 0] (0, 0) _ rfl (by refine blk_put (cs := #[.string ⟨#[]⟩, .slice none 0 0]) ?_ 1 _ rfl; refine blk_put (cs := #[.string ⟨#[]⟩, .slice none 0 0]) ?_ 0 _ rfl; repeat (first | exact BK.out | refine blk_drewN ?_ _)) Try.underlying63 rfl (by kernel_rfl)) rfl ⟨.slice none 0 0, rfl, ?_, Kd.R_nil _ _ _ _ _⟩
        exact RdM.opR0 (RdM.outer (RdM.outer (by repeat (first | exact HM.out | refine RdM.drewN ?_ _)) HG.out HS.out.bel.size 0 _) HG.out HS.out.bel.size 1 _) (by decide)
      | true =>
        rw [if_pos rfl] at h
        cases fine with
        | false =>
          rw [if_neg (by decide)] at h
          obtain ⟨rfl, rfl, rfl⟩ : z63 = p1 ∧ (4 : Int) = e1 ∧ q = q1 := by simpa using h
          clear h
          go_enter Try.func71, Try.ntmps71
          go_wp2_with (first | (first | (go_at_call 69; refine (HC1.out _ HM.out.st).mono ?_; rintro e w1 ⟨rfl, hm⟩; have BK := Aside0.mk (blk_kept BK.out hm.kept (fun e => Nat.ne_of_gt HG.out e)); have HM := Aside0.mk (HM.out.then_ hm); clear hm; have z0 : w1.cell? ⟨W.heap.size, 0, none⟩ = some (.string ⟨#[]⟩) := (blk_cell BK.out 0).trans rfl; have z1 : w1.cell? ⟨W.heap.size, 1, none⟩ = some (.slice none 0 0) := (blk_cell BK.out 1).trans rfl; have y0 : w1.frozen? ⟨W.heap.size, 0, none⟩ = false := blk_frozen BK.out 0; have y1 : w1.frozen? ⟨W.heap.size, 1, none⟩ = false := blk_frozen BK.out 1; have kx1 : w1.cell? ⟨g, 1, none⟩ = some (.slice At lt.length ct) := (blk_cell HM.out.st.blk 1).trans rfl) | (go_at_call 69; refine (HC2.out _ HM.out.st).mono ?_; rintro e w2 ⟨rfl, hm⟩; have BK := Aside0.mk (blk_kept BK.out hm.kept (fun e => Nat.ne_of_gt HG.out e)); have HM := Aside0.mk (HM.out.then_ hm); clear hm; have z0 : w2.cell? ⟨W.heap.size, 0, none⟩ = some (.string ⟨#[]⟩) := (blk_cell BK.out 0).trans rfl; have z1 : w2.cell? ⟨W.heap.size, 1, none⟩ = some (.slice none 0 0) := (blk_cell BK.out 1).trans rfl; have y0 : w2.frozen? ⟨W.heap.size, 0, none⟩ = false := blk_frozen BK.out 0; have y1 : w2.frozen? ⟨W.heap.size, 1, none⟩ = false := blk_frozen BK.out 1; have kx1 : w2.cell? ⟨g, 1, none⟩ = some (.slice At lt.length ct) := (blk_cell HM.out.st.blk 1).trans rfl)) | (go_at_call 84; refine (HK.out _ HM.out.st).mono ?_; rintro e w3 ⟨A2, c2_, rfl, hl2, hC2, hm⟩; have HY := Aside0.mk hC2; have HYL := Aside0.mk hl2; clear hC2 hl2; have BK := Aside0.mk (blk_kept BK.out hm.kept (fun e => Nat.ne_of_gt HG.out e)); have HM := Aside0.mk (HM.out.then_ hm); clear hm; have z0 : w3.cell? ⟨W.heap.size, 0, none⟩ = some (.string ⟨#[]⟩) := (blk_cell BK.out 0).trans rfl; have z1 : w3.cell? ⟨W.heap.size, 1, none⟩ = some (.slice none 0 0) := (blk_cell BK.out 1).trans rfl; have y0 : w3.frozen? ⟨W.heap.size, 0, none⟩ = false := blk_frozen BK.out 0; have y1 : w3.frozen? ⟨W.heap.size, 1, none⟩ = false := blk_frozen BK.out 1; have kx1 : w3.cell? ⟨g, 1, none⟩ = some (.slice At lt.length ct) := (blk_cell HM.out.st.blk 1).trans rfl; (try have hlk0 := HLK.out _ HM.out.kept); (try have hlkn := fun n_ : Nat => HLK.out _ (HM.out.kept.drewN n_))) | (go_at_call 83; refine (HX.out _ HM.out.st.bel).mono ?_; rintro e w4 ⟨rfl, ⟨nd, rfl⟩⟩) | (go_at_call 86; refine (HN.out _).mono ?_; rintro e w5 ⟨rfl, ⟨nd2, rfl⟩⟩))
          refine bodyPost_ret (results_ct rfl _ _ W.heap.size 63 #[.string ⟨#[]⟩, .slice none 0 0] (0, 0) _ rfl (by refine blk_put (cs := #[.string ⟨#[]⟩, .slice none 0 0]) ?_ 1 _ rfl; refine blk_put (cs := #[.string ⟨#[]⟩, .slice none 0 0]) ?_ 0 _ rfl; repeat (first | exact BK.out | refine blk_drewN ?_ _)) Try.underlying63 rfl (by kernel_rfl)) rfl ⟨.slice none 0 0, rfl, ?_, Kd.R_nil _ _ _ _ _⟩
          exact RdM.opR0 (RdM.outer (RdM.outer (by repeat (first | exact HM.out | refine RdM.drewN ?_ _)) HG.out HS.out.bel.size 0 _) HG.out HS.out.bel.size 1 _) (by decide)
        | true =>
          rw [if_pos rfl] at h
          by_cases hz : (s.size : Int) < 1099511627776
          case neg => rw [if_neg hz] at h; cases h
          rw [if_pos hz] at h
          have HZ : Aside0 (s.size ≤ maxLen) := ⟨by unfold maxLen; omega⟩
          obtain ⟨b, hb, h⟩ := Option.bind_eq_some_iff.mp h
          have HN := Aside0.mk (fun W2 => name_Prop.calls k s b W2 hb)
          clear hz hb
          cases b with
          | false =>
            rw [if_neg (by decide)] at h
            obtain ⟨rfl, rfl, rfl⟩ : z63 = p1 ∧ (5 : Int) = e1 ∧ q = q1 := by simpa using h
            clear h
            go_enter Try.func71, Try.ntmps71
            go_wp2_with (first | (first | (go_at_call 69; refine (HC1.out _ HM.out.st).mono ?_; rintro e w1 ⟨rfl, hm⟩; have BK := Aside0.mk (blk_kept BK.out hm.kept (fun e => Nat.ne_of_gt HG.out e)); have HM := Aside0.mk (HM.out.then_ hm); clear hm; have z0 : w1.cell? ⟨W.heap.size, 0, none⟩ = some (.string ⟨#[]⟩) := (blk_cell BK.out 0).trans rfl; have z1 : w1.cell? ⟨W.heap.size, 1, none⟩ = some (.slice none 0 0) := (blk_cell BK.out 1).trans rfl; have y0 : w1.frozen? ⟨W.heap.size, 0, none⟩ = false := blk_frozen BK.out 0; have y1 : w1.frozen? ⟨W.heap.size, 1, none⟩ = false := blk_frozen BK.out 1; have kx1 : w1.cell? ⟨g, 1, none⟩ = some (.slice At lt.length ct) := (blk_cell HM.out.st.blk 1).trans rfl) | (go_at_call 69; refine (HC2.out _ HM.out.st).mono ?_; rintro e w2 ⟨rfl, hm⟩; have BK := Aside0.mk (blk_kept BK.out hm.kept (fun e => Nat.ne_of_gt HG.out e)); have HM := Aside0.mk (HM.out.then_ hm); clear hm; have z0 : w2.cell? ⟨W.heap.size, 0, none⟩ = some (.string ⟨#[]⟩) := (blk_cell BK.out 0).trans rfl; have z1 : w2.cell? ⟨W.heap.size, 1, none⟩ = some (.slice none 0 0) := (blk_cell BK.out 1).trans rfl; have y0 : w2.frozen? ⟨W.heap.size, 0, none⟩ = false := blk_frozen BK.out 0; have y1 : w2.frozen? ⟨W.heap.size, 1, none⟩ = false := blk_frozen BK.out 1; have kx1 : w2.cell? ⟨g, 1, none⟩ = some (.slice At lt.length ct) := (blk_cell HM.out.st.blk 1).trans rfl)) | (go_at_call 84; refine (HK.out _ HM.out.st).mono ?_; rintro e w3 ⟨A2, c2_, rfl, hl2, hC2, hm⟩; have HY := Aside0.mk hC2; have HYL := Aside0.mk hl2; clear hC2 hl2; have BK := Aside0.mk (blk_kept BK.out hm.kept (fun e => Nat.ne_of_gt HG.out e)); have HM := Aside0.mk (HM.out.then_ hm); clear hm; have z0 : w3.cell? ⟨W.heap.size, 0, none⟩ = some (.string ⟨#[]⟩) := (blk_cell BK.out 0).trans rfl; have z1 : w3.cell? ⟨W.heap.size, 1, none⟩ = some (.slice none 0 0) := (blk_cell BK.out 1).trans rfl; have y0 : w3.frozen? ⟨W.heap.size, 0, none⟩ = false := blk_frozen BK.out 0; have y1 : w3.frozen? ⟨W.heap.size, 1, none⟩ = false := blk_frozen BK.out 1; have kx1 : w3.cell? ⟨g, 1, none⟩ = some (.slice At lt.length ct) := (blk_cell HM.out.st.blk 1).trans rfl; (try have hlk0 := HLK.out _ HM.out.kept); (try have hlkn := fun n_ : Nat => HLK.out _ (HM.out.kept.drewN n_))) | (go_at_call 83; refine (HX.out _ HM.out.st.bel).mono ?_; rintro e w4 ⟨rfl, ⟨nd, rfl⟩⟩) | (go_at_call 86; refine (HN.out _).mono ?_; rintro e w5 ⟨rfl, ⟨nd2, rfl⟩⟩))
            refine bodyPost_ret (results_ct rfl _ _ W.heap.size 63 #[.string ⟨#[]⟩, .slice none 0 0] (0, 0) _ rfl (by refine blk_put (cs := #[.string ⟨#[]⟩, .slice none 0 0]) ?_ 1 _ rfl; refine blk_put (cs := #[.string ⟨#[]⟩, .slice none 0 0]) ?_ 0 _ rfl; repeat (first | exact BK.out | refine blk_drewN ?_ _)) Try.underlying63 rfl (by kernel_rfl)) rfl ⟨.slice none 0 0, rfl, ?_, Kd.R_nil _ _ _ _ _⟩
            exact RdM.opR0 (RdM.outer (RdM.outer (by repeat (first | exact HM.out | refine RdM.drewN ?_ _)) HG.out HS.out.bel.size 0 _) HG.out HS.out.bel.size 1 _) (by decide)
          | true =>
            rw [if_pos rfl] at h
            cases hkb : knownB hs s with
            | true =>
              rw [if_pos hkb] at h
              obtain ⟨rfl, rfl, rfl⟩ : z63 = p1 ∧ (9 : Int) = e1 ∧ q = q1 := by simpa using h
              clear h
              have HLK := Aside0.mk (fun W2 (hk : Kept W W2 (fun k => k = g)) => (HD.out W2 hk).look s HZ.out)
              rw [hkb] at HLK
              go_enter Try.func71, Try.ntmps71
              go_wp2_with (first | (first | (go_at_call 69; refine (HC1.out _ HM.out.st).mono ?_; rintro e w1 ⟨rfl, hm⟩; have BK := Aside0.mk (blk_kept BK.out hm.kept (fun e => Nat.ne_of_gt HG.out e)); have HM := Aside0.mk (HM.out.then_ hm); clear hm; have z0 : w1.cell? ⟨W.heap.size, 0, none⟩ = some (.string ⟨#[]⟩) := (blk_cell BK.out 0).trans rfl; have z1 : w1.cell? ⟨W.heap.size, 1, none⟩ = some (.slice none 0 0) := (blk_cell BK.out 1).trans rfl; have y0 : w1.frozen? ⟨W.heap.size, 0, none⟩ = false := blk_frozen BK.out 0; have y1 : w1.frozen? ⟨W.heap.size, 1, none⟩ = false := blk_frozen BK.out 1; have kx1 : w1.cell? ⟨g, 1, none⟩ = some (.slice At lt.length ct) := (blk_cell HM.out.st.blk 1).trans rfl) | (go_at_call 69; refine (HC2.out _ HM.out.st).mono ?_; rintro e w2 ⟨rfl, hm⟩; have BK := Aside0.mk (blk_kept BK.out hm.kept (fun e => Nat.ne_of_gt HG.out e)); have HM := Aside0.mk (HM.out.then_ hm); clear hm; have z0 : w2.cell? ⟨W.heap.size, 0, none⟩ = some (.string ⟨#[]⟩) := (blk_cell BK.out 0).trans rfl; have z1 : w2.cell? ⟨W.heap.size, 1, none⟩ = some (.slice none 0 0) := (blk_cell BK.out 1).trans rfl; have y0 : w2.frozen? ⟨W.heap.size, 0, none⟩ = false := blk_frozen BK.out 0; have y1 : w2.frozen? ⟨W.heap.size, 1, none⟩ = false := blk_frozen BK.out 1; have kx1 : w2.cell? ⟨g, 1, none⟩ = some (.slice At lt.length ct) := (blk_cell HM.out.st.blk 1).trans rfl)) | (go_at_call 84; refine (HK.out _ HM.out.st).mono ?_; rintro e w3 ⟨A2, c2_, rfl, hl2, hC2, hm⟩; have HY := Aside0.mk hC2; have HYL := Aside0.mk hl2; clear hC2 hl2; have BK := Aside0.mk (blk_kept BK.out hm.kept (fun e => Nat.ne_of_gt HG.out e)); have HM := Aside0.mk (HM.out.then_ hm); clear hm; have z0 : w3.cell? ⟨W.heap.size, 0, none⟩ = some (.string ⟨#[]⟩) := (blk_cell BK.out 0).trans rfl; have z1 : w3.cell? ⟨W.heap.size, 1, none⟩ = some (.slice none 0 0) := (blk_cell BK.out 1).trans rfl; have y0 : w3.frozen? ⟨W.heap.size, 0, none⟩ = false := blk_frozen BK.out 0; have y1 : w3.frozen? ⟨W.heap.size, 1, none⟩ = false := blk_frozen BK.out 1; have kx1 : w3.cell? ⟨g, 1, none⟩ = some (.slice At lt.length ct) := (blk_cell HM.out.st.blk 1).trans rfl; (try have hlk0 := HLK.out _ HM.out.kept); (try have hlkn := fun n_ : Nat => HLK.out _ (HM.out.kept.drewN n_))) | (go_at_call 83; refine (HX.out _ HM.out.st.bel).mono ?_; rintro e w4 ⟨rfl, ⟨nd, rfl⟩⟩) | (go_at_call 86; refine (HN.out _).mono ?_; rintro e w5 ⟨rfl, ⟨nd2, rfl⟩⟩))
              refine bodyPost_ret (results_ct rfl _ _ W.heap.size 63 #[.string ⟨#[]⟩, .slice none 0 0] (0, 0) _ rfl (by refine blk_put (cs := #[.string ⟨#[]⟩, .slice none 0 0]) ?_ 1 _ rfl; refine blk_put (cs := #[.string ⟨#[]⟩, .slice none 0 0]) ?_ 0 _ rfl; repeat (first | exact BK.out | refine blk_drewN ?_ _)) Try.underlying63 rfl (by kernel_rfl)) rfl ⟨.slice none 0 0, rfl, ?_, Kd.R_nil _ _ _ _ _⟩
              exact RdM.opR0 (RdM.outer (RdM.outer (by repeat (first | exact HM.out | refine RdM.drewN ?_ _)) HG.out HS.out.bel.size 0 _) HG.out HS.out.bel.size 1 _) (by decide)
            | false =>
              rw [if_neg (by rw [hkb]; decide)] at h
              by_cases hl : hs.length < 1099511627776
              case neg => rw [if_neg hl] at h; cases h
              rw [if_pos hl] at h
              obtain ⟨v, hv, h⟩ := Option.bind_eq_some_iff.mp h
              obtain ⟨rfl, rfl, rfl⟩ : (⟨s, v⟩ : S63) = p1 ∧ (0 : Int) = e1 ∧ q = q1 := by simpa using h
              have HL : Aside0 (hs.length < maxLen) := ⟨by unfold maxLen; omega⟩
              have HV := Aside0.mk hv
              clear h hl hv
              have HLK := Aside0.mk (fun W2 (hk : Kept W W2 (fun k => k = g)) => (HD.out W2 hk).look s HZ.out)
              rw [hkb] at HLK
              go_enter Try.func71, Try.ntmps71
              go_wp2_with (first | (at_mapUpdate; refine wpList_mapS _ rfl _ _ _ rfl m hs rfl (HD.out _ (by repeat (first | exact HM.out.kept | refine Kept.drewN ?_ _))) HL.out s rfl HZ.out rfl ?_; intro w6 hm6 hg6; have HO := Aside0.mk (OpR.put (RdM.drewN HM.out _) hg6 hm6 hm hne); have BK6 := Aside0.mk (blk_grown (blk_drewN BK.out _) hg6 (fun e => Nat.ne_of_gt HLTM.out (by injection e))); clear hm6 hg6) | (go_at_call 79; refine (bytes_Clone.calls A2 c2_ y v _ (Kd.C_below HY.out HO.out.st.bel) HYL.out HV.out).mono ?_; rintro e w7 ⟨v0, rfl, hr7, hb7⟩; obtain ⟨Av, cv, rfl⟩ := Kd.R_slice hr7; have HR7 := Aside0.mk hr7; have HO := Aside0.mk (HO.out.below hb7); have HB6 := Aside0.mk (blk_lt BK6.out); have BK := Aside0.mk (blk_below BK6.out hb7); clear hr7 hb7; have z0 : w7.cell? ⟨W.heap.size, 0, none⟩ = some (.string ⟨#[]⟩) := (blk_cell BK.out 0).trans rfl; have z1 : w7.cell? ⟨W.heap.size, 1, none⟩ = some (.slice none 0 0) := (blk_cell BK.out 1).trans rfl; have y0 : w7.frozen? ⟨W.heap.size, 0, none⟩ = false := blk_frozen BK.out 0; have y1 : w7.frozen? ⟨W.heap.size, 1, none⟩ = false := blk_frozen BK.out 1) | (first | (go_at_call 69; refine (HC1.out _ HM.out.st).mono ?_; rintro e w1 ⟨rfl, hm⟩; have BK := Aside0.mk (blk_kept BK.out hm.kept (fun e => Nat.ne_of_gt HG.out e)); have HM := Aside0.mk (HM.out.then_ hm); clear hm; have z0 : w1.cell? ⟨W.heap.size, 0, none⟩ = some (.string ⟨#[]⟩) := (blk_cell BK.out 0).trans rfl; have z1 : w1.cell? ⟨W.heap.size, 1, none⟩ = some (.slice none 0 0) := (blk_cell BK.out 1).trans rfl; have y0 : w1.frozen? ⟨W.heap.size, 0, none⟩ = false := blk_frozen BK.out 0; have y1 : w1.frozen? ⟨W.heap.size, 1, none⟩ = false := blk_frozen BK.out 1; have kx1 : w1.cell? ⟨g, 1, none⟩ = some (.slice At lt.length ct) := (blk_cell HM.out.st.blk 1).trans rfl) | (go_at_call 69; refine (HC2.out _ HM.out.st).mono ?_; rintro e w2 ⟨rfl, hm⟩; have BK := Aside0.mk (blk_kept BK.out hm.kept (fun e => Nat.ne_of_gt HG.out e)); have HM := Aside0.mk (HM.out.then_ hm); clear hm; have z0 : w2.cell? ⟨W.heap.size, 0, none⟩ = some (.string ⟨#[]⟩) := (blk_cell BK.out 0).trans rfl; have z1 : w2.cell? ⟨W.heap.size, 1, none⟩ = some (.slice none 0 0) := (blk_cell BK.out 1).trans rfl; have y0 : w2.frozen? ⟨W.heap.size, 0, none⟩ = false := blk_frozen BK.out 0; have y1 : w2.frozen? ⟨W.heap.size, 1, none⟩ = false := blk_frozen BK.out 1; have kx1 : w2.cell? ⟨g, 1, none⟩ = some (.slice At lt.length ct) := (blk_cell HM.out.st.blk 1).trans rfl)) | (go_at_call 84; refine (HK.out _ HM.out.st).mono ?_; rintro e w3 ⟨A2, c2_, rfl, hl2, hC2, hm⟩; have HY := Aside0.mk hC2; have HYL := Aside0.mk hl2; clear hC2 hl2; have BK := Aside0.mk (blk_kept BK.out hm.kept (fun e => Nat.ne_of_gt HG.out e)); have HM := Aside0.mk (HM.out.then_ hm); clear hm; have z0 : w3.cell? ⟨W.heap.size, 0, none⟩ = some (.string ⟨#[]⟩) := (blk_cell BK.out 0).trans rfl; have z1 : w3.cell? ⟨W.heap.size, 1, none⟩ = some (.slice none 0 0) := (blk_cell BK.out 1).trans rfl; have y0 : w3.frozen? ⟨W.heap.size, 0, none⟩ = false := blk_frozen BK.out 0; have y1 : w3.frozen? ⟨W.heap.size, 1, none⟩ = false := blk_frozen BK.out 1; have kx1 : w3.cell? ⟨g, 1, none⟩ = some (.slice At lt.length ct) := (blk_cell HM.out.st.blk 1).trans rfl; (try have hlk0 := HLK.out _ HM.out.kept); (try have hlkn := fun n_ : Nat => HLK.out _ (HM.out.kept.drewN n_))) | (go_at_call 83; refine (HX.out _ HM.out.st.bel).mono ?_; rintro e w4 ⟨rfl, ⟨nd, rfl⟩⟩) | (go_at_call 86; refine (HN.out _).mono ?_; rintro e w5 ⟨rfl, ⟨nd2, rfl⟩⟩))
              refine bodyPost_ret (results_ct rfl _ _ W.heap.size 63 #[.string s, .slice Av v.length cv] (0, 0) _ rfl (by refine blk_put (cs := #[.string s, .slice none 0 0]) ?_ 1 _ rfl; refine blk_put (cs := #[.string ⟨#[]⟩, .slice none 0 0]) ?_ 0 _ rfl; exact BK.out) Try.underlying63 rfl (by kernel_rfl)) rfl ⟨.slice Av v.length cv, rfl, ?_, ?_⟩
              · exact OpR.outer (OpR.outer HO.out HG.out HLTM.out HS.out.bel.size 0 _) HG.out HLTM.out HS.out.bel.size 1 _
              · exact Kd.R_lower (R_outer (R_outer HR7.out HB6.out 0 _) HB6.out 1 _) (Nat.le_of_lt HB6.out)
end Go.Proofs.Ytkopmkinlanhoaa.PE

namespace Go.Proofs.Ytkopmkinlanhoaa.PE
open Go.RowKit Go.Proofs.YtkopmkinlanhoaaW.PrintWords Go.Proofs.YtkopmkinlanhoaaW.PrintLast Go.Proofs.YtkopmkinlanhoaaW.PrintMore
attribute [local go_sem] max2_int min2_int max_two min_two max_three min_three max_four min_four
set_option linter.unusedVariables false
set_option linter.unusedSimpArgs false
mutual
/-- A node behind its BEGIN, what is wrong with it, and where the next byte is. -/
def nodeF : Nat → List Int → List Int → Int → List ByteArray → Int → Option (S27 × Int × Int)
  | 0, _, _, _, _, _ => none
  | k + 1, l, lt, i, hs, d => (openF k l i hs d).bind fun o => if o.2.1 = 0 then nodeL k l lt o.2.2 o.1 d [] [] else some (z27, o.2.1, o.2.2)
def nodeL : Nat → List Int → List Int → Int → ByteArray → Int → List S63 → List S27 → Option (S27 × Int × Int)
  | 0, _, _, _, _, _, _, _ => none
  | k + 1, l, lt, i, s, d, ps, ks => (tokF k l i).bind fun t =>
    if t.2.1 = true then (if t.1 = 9 then some (z27, 4, t.2.2) else if t.1 = 3 then (if 0 < ks.length then some (z27, 4, t.2.2) else
        (propF k l lt t.2.2 (ps.map (·.f0))).bind fun p => if p.2.1 = 0 then (if ps.length + 1 < 1099511627776 then nodeL k l lt p.2.2 s d (ps ++ [p.1]) ks else none) else some (z27, p.2.1, p.2.2))
      else if t.1 = 2 then some (⟨s, ps, ks⟩, 0, t.2.2)
      else (nodeF k l lt t.2.2 (ks.map (·.f0)) (wrap64 (d + 1))).bind fun x => if x.2.1 = 0 then (if ks.length + 1 < 1099511627776 then nodeL k l lt x.2.2 s d ps (ks ++ [x.1]) else none) else some (z27, x.2.1, x.2.2))
    else some (z27, 4, t.2.2)
end
structure NdC (w0 wL : World) (g gn g6 m mp mk : Nat) : Prop where
  bg : g < wL.heap.size
  bgn : gn < wL.heap.size
  b6 : g6 < wL.heap.size
  bm : m < wL.heap.size
  bmp : mp < wL.heap.size
  bmk : mk < wL.heap.size
  lon : w0.heap.size ≤ gn
  lop : w0.heap.size ≤ mp
  lok : w0.heap.size ≤ mk
  ggn : g ≠ gn
  ggp : g ≠ mp
  ggk : g ≠ mk
  gnp : gn ≠ mp
  gnk : gn ≠ mk
  pk : mp ≠ mk
  six : g6 ≠ g ∧ g6 ≠ gn ∧ g6 ≠ mp ∧ g6 ≠ mk
  mm : m ≠ g ∧ m ≠ gn ∧ m ≠ mp ∧ m ≠ mk
structure NdS (w0 wL W : World) (g gn mp mk : Nat) (sb st : Value) (i : Int) (s : ByteArray) (hp hk : List ByteArray) (A1 : Option Addr) (c1 : Nat) (ps : List S63) (A2 : Option Addr) (c2 : Nat) (ks : List S27) : Prop where
  rs : RdS w0 W g sb st i
  kept : Kept wL W (fun k => k = g ∨ k = mp ∨ k = mk ∨ k = gn)
  mP : MapS W mp hp
  mK : MapS W mk hk
  blk : W.heap[gn]? = some (.cells #[.string s, .slice A1 ps.length c1, .slice A2 ks.length c2] 27 (0, 0))
  rp : Kd.R k63 63 W wL.heap.size (fun _ => True) (.slice A1 ps.length c1) ps
  rk : Kd.R k27 27 W wL.heap.size (fun _ => True) (.slice A2 ks.length c2) ks
section
variable {w0 wL W W2 : World} {g gn g6 m mp mk : Nat} {sb st : Value} {i q : Int} {s : ByteArray} {hp hk : List ByteArray} {A1 A2 : Option Addr} {c1 c2 : Nat} {ps : List S63} {ks : List S27}
theorem NdS.moved (h : NdS w0 wL W g gn mp mk sb st i s hp hk A1 c1 ps A2 c2 ks) (C : NdC w0 wL g gn g6 m mp mk) (hm : RdM w0 W W2 g sb st q) : NdS w0 wL W2 g gn mp mk sb st q s hp hk A1 c1 ps A2 c2 ks :=
  ⟨hm.st, h.kept.then_ hm.kept (fun k hk => .inl (.inl hk)), h.mP.kept hm.kept (fun e => C.ggp e.symm), h.mK.kept hm.kept (fun e => C.ggk e.symm), blk_kept h.blk hm.kept (fun e => C.ggn e.symm),
    Kd.R_mono (Kd.R_kept (Kd.R_bound h.rp) hm.kept (fun k hk e => by have := C.bg; have := hk.2.1; omega)) (fun _ _ => trivial), Kd.R_mono (Kd.R_kept (Kd.R_bound h.rk) hm.kept (fun k hk e => by have := C.bg; have := hk.2.1; omega)) (fun _ _ => trivial)⟩
theorem NdS.below (h : NdS w0 wL W g gn mp mk sb st i s hp hk A1 c1 ps A2 c2 ks) (hb : Below W.heap.size W W2) : NdS w0 wL W2 g gn mp mk sb st i s hp hk A1 c1 ps A2 c2 ks :=
  ⟨h.rs.below hb, h.kept.below hb, h.mP.below hb, h.mK.below hb, blk_below h.blk hb, Kd.R_below h.rp hb, Kd.R_below h.rk hb⟩
theorem NdS.prop (h : NdS w0 wL W g gn mp mk sb st i s hp hk A1 c1 ps A2 c2 ks) (C : NdC w0 wL g gn g6 m mp mk) {nm : ByteArray} (ho : OpR w0 W W2 g mp sb st q 0 hp nm) : NdS w0 wL W2 g gn mp mk sb st q s (hp ++ [nm]) hk A1 c1 ps A2 c2 ks :=
  ⟨ho.st, h.kept.then_ ho.kept (fun k hk => .inl (hk.elim .inl (fun e => .inr (.inl e)))), ho.map rfl, h.mK.kept ho.kept (fun e => e.elim (fun e => C.ggk e.symm) (fun e => C.pk e.symm)), blk_kept h.blk ho.kept (fun e => e.elim (fun e => C.ggn e.symm) C.gnp),
    Kd.R_mono (Kd.R_kept (Kd.R_bound h.rp) ho.kept (fun k hk e => by have := C.bg; have := C.bmp; have := hk.2.1; omega)) (fun _ _ => trivial), Kd.R_mono (Kd.R_kept (Kd.R_bound h.rk) ho.kept (fun k hk e => by have := C.bg; have := C.bmp; have := hk.2.1; omega)) (fun _ _ => trivial)⟩
theorem NdS.kid (h : NdS w0 wL W g gn mp mk sb st i s hp hk A1 c1 ps A2 c2 ks) (C : NdC w0 wL g gn g6 m mp mk) {nm : ByteArray} (ho : OpR w0 W W2 g mk sb st q 0 hk nm) : NdS w0 wL W2 g gn mp mk sb st q s hp (hk ++ [nm]) A1 c1 ps A2 c2 ks :=
  ⟨ho.st, h.kept.then_ ho.kept (fun k hk => .inl (hk.elim .inl (fun e => .inr (.inr (.inl e))))), h.mP.kept ho.kept (fun e => e.elim (fun e => C.ggp e.symm) C.pk), ho.map rfl, blk_kept h.blk ho.kept (fun e => e.elim (fun e => C.ggn e.symm) C.gnk),
    Kd.R_mono (Kd.R_kept (Kd.R_bound h.rp) ho.kept (fun k hk e => by have := C.bg; have := C.bmk; have := hk.2.1; omega)) (fun _ _ => trivial), Kd.R_mono (Kd.R_kept (Kd.R_bound h.rk) ho.kept (fun k hk e => by have := C.bg; have := C.bmk; have := hk.2.1; omega)) (fun _ _ => trivial)⟩
theorem NdS.own (h : NdS w0 wL W g gn mp mk sb st i s hp hk A1 c1 ps A2 c2 ks) : ∀ k, (Value.slice A1 ps.length c1).ownBlock = some k → wL.heap.size ≤ k := Kd.R_base h.rp
theorem NdS.ownK (h : NdS w0 wL W g gn mp mk sb st i s hp hk A1 c1 ps A2 c2 ks) : ∀ k, (Value.slice A2 ks.length c2).ownBlock = some k → wL.heap.size ≤ k := Kd.R_base h.rk
theorem R_nil_grown {v : Value} {row : Option Nat} (h : Kd.R k27 27 W wL.heap.size (fun _ => True) v []) (hg : W.grownBy W2 row) (hne : v.ownBlock = none ∨ v.ownBlock ≠ row) : Kd.R k27 27 W2 wL.heap.size (fun _ => True) v [] := by
  obtain ⟨h0, inner, ho, hr⟩ := h
  have hi : inner = [] := List.eq_nil_of_length_eq_zero (by rw [hr.1]; simp)
  subst hi
  exact ⟨h0, [], own_other ho hg hne, Reps.none _ _⟩
theorem setFar (W : World) (gn j k : Nat) (u : Value) (hne : k ≠ gn) : (W.setCell ⟨gn, j, none⟩ u).heap[k]? = W.heap[k]? := Below.heap_setCell W ⟨gn, j, none⟩ u k hne
theorem NdS.addP (h : NdS w0 wL W g gn mp mk sb st i s hp hk A1 c1 ps A2 c2 []) (C : NdC w0 wL g gn g6 m mp mk) {p : S63} {A : Option Addr} {c : Nat}
    (hr : Kd.R k63 63 W2 wL.heap.size (fun _ => True) (.slice A (ps ++ [p]).length c) (ps ++ [p])) (hg : W.grownBy W2 (Value.slice A1 ps.length c1).ownBlock) :
    NdS w0 wL (W2.setCell ⟨gn, 1, none⟩ (.slice A (ps ++ [p]).length c)) g gn mp mk sb st i s hp hk A c (ps ++ [p]) A2 c2 [] := by
  have hno : ∀ k, k < wL.heap.size → some k ≠ (Value.slice A1 ps.length c1).ownBlock := fun k hk e => by have := h.own k e.symm; omega
  have hk2 : Kept wL W2 (fun k => k = g ∨ k = mp ∨ k = mk ∨ k = gn) := Kept.of_grown hg h.kept (fun k e => .inr (h.own k e))
  have hs : RdS w0 W2 g sb st i := ⟨h.rs.bel.grown hg h.rs.bel.size (fun k e => by have := h.own k e; have := C.lon; have := C.bgn; omega), h.rs.lo, blk_grown h.rs.blk hg (hno g C.bg)⟩
  have hb : W2.heap[gn]? = _ := blk_grown h.blk hg (hno gn C.bgn)
  refine ⟨⟨hs.bel.setCell C.lon _, hs.lo, blk_far hs.blk C.ggn _⟩, hk2.setCell (p := ⟨gn, 1, none⟩) (.inl (.inr (.inr (.inr rfl)))) _, ?_, ?_, blk_put hb 1 _ rfl, ?_, ?_⟩
  · exact (h.mP.same (hg.block mp h.mP.lt (fun e => hno mp C.bmp e))).same (setFar _ _ _ _ _ (Ne.symm C.gnp))
  · exact (h.mK.same (hg.block mk h.mK.lt (fun e => hno mk C.bmk e))).same (setFar _ _ _ _ _ (Ne.symm C.gnk))
  · exact Kd.R_mono (Kd.R_far (p := ⟨gn, 1, none⟩) (Kd.R_bound hr) (fun k hk => by have := hk.2.1; have := C.bgn; simp only; omega) _) (fun _ _ => trivial)
  · have hn : (Value.slice A2 ([] : List S27).length c2).ownBlock = none ∨ (Value.slice A2 ([] : List S27).length c2).ownBlock ≠ (Value.slice A1 ps.length c1).ownBlock := by
      obtain ⟨i1, o1⟩ := Kd.R_own h.rk
      obtain ⟨i2, o2⟩ := Kd.R_own h.rp
      exact own_type_ne o1 o2 (by decide)
    have hr2 := R_nil_grown h.rk hg hn
    exact Kd.R_mono (Kd.R_far (p := ⟨gn, 1, none⟩) (Kd.R_bound hr2) (fun k hk => by have := hk.2.1; have := C.bgn; simp only; omega) _) (fun _ _ => trivial)
theorem NdS.addK (h : NdS w0 wL W g gn mp mk sb st i s hp hk A1 c1 ps A2 c2 ks) (C : NdC w0 wL g gn g6 m mp mk) {x : S27} {A : Option Addr} {c : Nat}
    (hr : Kd.R k27 27 W2 wL.heap.size (fun _ => True) (.slice A (ks ++ [x]).length c) (ks ++ [x])) (hg : W.grownBy W2 (Value.slice A2 ks.length c2).ownBlock) :
    NdS w0 wL (W2.setCell ⟨gn, 2, none⟩ (.slice A (ks ++ [x]).length c)) g gn mp mk sb st i s hp hk A1 c1 ps A c (ks ++ [x]) := by
  have hno : ∀ k, k < wL.heap.size → some k ≠ (Value.slice A2 ks.length c2).ownBlock := fun k hk e => by have := h.ownK k e.symm; omega
  have hk2 : Kept wL W2 (fun k => k = g ∨ k = mp ∨ k = mk ∨ k = gn) := Kept.of_grown hg h.kept (fun k e => .inr (h.ownK k e))
  have hs : RdS w0 W2 g sb st i := ⟨h.rs.bel.grown hg h.rs.bel.size (fun k e => by have := h.ownK k e; have := C.lon; have := C.bgn; omega), h.rs.lo, blk_grown h.rs.blk hg (hno g C.bg)⟩
  have hb : W2.heap[gn]? = _ := blk_grown h.blk hg (hno gn C.bgn)
  refine ⟨⟨hs.bel.setCell C.lon _, hs.lo, blk_far hs.blk C.ggn _⟩, hk2.setCell (p := ⟨gn, 2, none⟩) (.inl (.inr (.inr (.inr rfl)))) _, ?_, ?_, blk_put hb 2 _ rfl, ?_, ?_⟩
  · exact (h.mP.same (hg.block mp h.mP.lt (fun e => hno mp C.bmp e))).same (setFar _ _ _ _ _ (Ne.symm C.gnp))
  · exact (h.mK.same (hg.block mk h.mK.lt (fun e => hno mk C.bmk e))).same (setFar _ _ _ _ _ (Ne.symm C.gnk))
  · have hr2 := Kd.R_over h.rp h.rk (by decide) hg
    exact Kd.R_mono (Kd.R_far (p := ⟨gn, 2, none⟩) (Kd.R_bound hr2) (fun k hk => by have := hk.2.1; have := C.bgn; simp only; omega) _) (fun _ _ => trivial)
  · exact Kd.R_mono (Kd.R_far (p := ⟨gn, 2, none⟩) (Kd.R_bound hr) (fun k hk => by have := hk.2.1; have := C.bgn; simp only; omega) _) (fun _ _ => trivial)
end
end Go.Proofs.Ytkopmkinlanhoaa.PE

namespace Go.Proofs.Ytkopmkinlanhoaa.PE
open Go.RowKit Go.Proofs.YtkopmkinlanhoaaW.PrintWords Go.Proofs.YtkopmkinlanhoaaW.PrintLast Go.Proofs.YtkopmkinlanhoaaW.PrintMore
attribute [local go_sem] max2_int min2_int max_two min_two max_three min_three max_four min_four
set_option linter.unusedVariables false
set_option linter.unusedSimpArgs false
theorem info_prop : (Try.prog.info? 63).map (fun i => (i.zero, i.size, i.bytes)) = some (some (.agg #[.string ⟨#[]⟩, .slice none 0 0]), 2, 40) := by kernel_rfl
theorem info_node : (Try.prog.info? 27).map (fun i => (i.zero, i.size, i.bytes)) = some (some (.agg #[.string ⟨#[]⟩, .slice none 0 0, .slice none 0 0]), 3, 64) := by kernel_rfl
theorem R_made {α : Type} {d : Kd α} {e : Nat} {W1 W2 : World} {B b : Nat} {v : Value} {l : List α} (h : d.R e W1 B (fun _ => True) v l) (hb : Below W1.heap.size W1 W2) (hle : b ≤ B) : d.R e W2 b (fun k => B ≤ k) v l := Kd.R_lower (Kd.R_mono (Kd.R_bound (Kd.R_below h hb)) (fun _ hk => hk.2.1)) hle
theorem NdS.err {w0 W wL W2 : World} {g gn m mp mk : Nat} {sb st : Value} {i : Int} {s nm : ByteArray} {hp hk hs : List ByteArray} {A1 A2 : Option Addr} {c1 c2 : Nat} {ps : List S63} {ks : List S27} {e : Int} (h : NdS w0 wL W2 g gn mp mk sb st i s hp hk A1 c1 ps A2 c2 ks) (hk0 : Kept W wL (fun k => k = g ∨ k = m)) (h1 : W.heap.size ≤ gn) (h2 : W.heap.size ≤ mp) (h3 : W.heap.size ≤ mk) (he : e ≠ 0) : OpR w0 W W2 g m sb st i e hs nm :=
  ⟨h.rs, hk0.then_ h.kept (fun k hk => by rcases hk with e | e | e | e; exact .inl (.inl e); exact .inr (by omega); exact .inr (by omega); exact .inr (by omega)), fun h0 => absurd h0 he⟩
theorem OpR.trans_ {w0 W wL W1 W2 : World} {g gn m mp mk mo : Nat} {sb st : Value} {i q : Int} {s nm nm2 : ByteArray} {hp hk hs hq : List ByteArray} {A1 A2 : Option Addr} {c1 c2 : Nat} {ps : List S63} {ks : List S27} {e : Int} (h : NdS w0 wL W1 g gn mp mk sb st i s hp hk A1 c1 ps A2 c2 ks) (ho : OpR w0 W1 W2 g mo sb st q e hq nm2) (hmo : W.heap.size ≤ mo) (hk0 : Kept W wL (fun k => k = g ∨ k = m)) (h1 : W.heap.size ≤ gn) (h2 : W.heap.size ≤ mp) (h3 : W.heap.size ≤ mk) (he : e ≠ 0) : OpR w0 W W2 g m sb st q e hs nm :=
  ⟨ho.st, (hk0.then_ h.kept (fun k hk => by rcases hk with e | e | e | e; exact .inl (.inl e); exact .inr (by omega); exact .inr (by omega); exact .inr (by omega))).then_ ho.kept (fun k hk => by rcases hk with e | e; exact .inl (.inl e); exact .inr (by omega)), fun h0 => absurd h0 he⟩
theorem NdS.ok {w0 W wL W2 : World} {g gn g6 m mp mk : Nat} {sb st : Value} {i : Int} {s : ByteArray} {hp hk hs : List ByteArray} {A1 A2 : Option Addr} {c1 c2 : Nat} {ps : List S63} {ks : List S27} (h : NdS w0 wL W2 g gn mp mk sb st i s hp hk A1 c1 ps A2 c2 ks) (C : NdC w0 wL g gn g6 m mp mk) (hk0 : Kept W wL (fun k => k = g ∨ k = m)) (h1 : W.heap.size ≤ gn) (h2 : W.heap.size ≤ mp) (h3 : W.heap.size ≤ mk) (hM : MapS wL m (hs ++ [s])) : OpR w0 W W2 g m sb st i 0 hs s :=
  ⟨h.rs, hk0.then_ h.kept (fun k hk => by rcases hk with e | e | e | e; exact .inl (.inl e); exact .inr (by omega); exact .inr (by omega); exact .inr (by omega)), fun _ => hM.kept h.kept (fun e => by rcases e with e | e | e | e; exact C.mm.1 e; exact C.mm.2.2.1 e; exact C.mm.2.2.2 e; exact C.mm.2.1 e)⟩
theorem R_out3 {α : Type} {d : Kd α} {e : Nat} {W2 : World} {B b : Nat} {v : Value} {l : List α} (h : d.R e W2 b (fun _ => True) v l) (hB : B < b) (u0 u1 u2 : Value) : d.R e (((W2.setCell ⟨B, 0, none⟩ u0).setCell ⟨B, 1, none⟩ u1).setCell ⟨B, 2, none⟩ u2) b (fun _ => True) v l := by
  have one : ∀ {W3 : World} (j : Nat) (u : Value), d.R e W3 b (fun _ => True) v l → d.R e (W3.setCell ⟨B, j, none⟩ u) b (fun _ => True) v l := fun j u h => Kd.R_mono (Kd.R_far (p := ⟨B, j, none⟩) (Kd.R_bound h) (fun k hk => by have := hk.2.1; simp only; omega) u) (fun _ _ => trivial)
  exact one 2 u2 (one 1 u1 (one 0 u0 h))
attribute [local irreducible] Go.Calls in
set_option maxRecDepth 100000 in
set_option maxHeartbeats 8000000 in
theorem reader_node.calls (ab : Addr) (cb : Nat) (lb : List Int) (At : Option Addr) (ct : Nat) (lt : List Int) (g : Nat) (w0 : World) (hC : Aside0 (Kd.C (Kd.int .u8) w0 (some ab) lb.length lb)) (hcb : Aside0 (lb.length ≤ cb)) (hCt : Aside0 (Kd.C (Kd.int .u8) w0 At lt.length lt)) (hct : Aside0 (lt.length ≤ ct)) (k : Nat) :
    ∀ (at_ : Int) (hs : List ByteArray) (d : Int) (m : Nat) (W : World) (x1 : S27) (e1 q1 : Int) (hS : RdS w0 W g (.slice (some ab) lb.length cb) (.slice At lt.length ct) at_) (hD : MapS W m hs) (hm : w0.heap.size ≤ m) (hne : g ≠ m) (h : nodeF k lb lt at_ hs d = some (x1, e1, q1)),
    Calls Try.prog 44 #[.pointer (some ⟨g, 0, none⟩), .map (some m), .int .i64 d] W fun e w' => ∃ v1 v2 : Value, e = .returned (.tuple #[.agg #[.string x1.f0, v1, v2], .int .i64 e1]) ∧ OpR w0 W w' g m (.slice (some ab) lb.length cb) (.slice At lt.length ct) q1 e1 hs x1.f0 ∧ Kd.R k63 63 w' W.heap.size (fun _ => True) v1 x1.f1 ∧ Kd.R k27 27 w' W.heap.size (fun _ => True) v2 x1.f2 := by
  induction k using Nat.strongRecOn with
  | ind k ih =>
  intro at_ hs d m W x1 e1 q1 hS hD hm hne h
  cases k with
  | zero => simp [nodeF] at h
  | succ k =>
  rw [nodeF] at h
  obtain ⟨⟨s, e0, q0⟩, ho, h⟩ := Option.bind_eq_some_iff.mp h
  simp only at h
  have IH := Aside0.mk ih
  have HS := Aside0.mk hS
  have HLTG := Aside0.mk (blk_lt hS.blk)
  have HLTM := Aside0.mk hD.lt
  have HLOM := Aside0.mk hm
  have HNE := Aside0.mk hne
  have hS1 := hS.below (below_alloc (Below.refl W.heap.size W) (.cells #[.string ⟨#[]⟩, .slice none 0 0, .slice none 0 0] 27))
  have hD1 := hD.below (below_alloc (Below.refl W.heap.size W) (.cells #[.string ⟨#[]⟩, .slice none 0 0, .slice none 0 0] 27))
  have HO := Aside0.mk (reader_open.calls k ab cb lb (.slice At lt.length ct) at_ hs d g m w0 _ s e0 q0 hC.out hcb.out hS1 hD1 hm hne ho)
  have BN := Aside0.mk (blk_new W (.cells #[.string ⟨#[]⟩, .slice none 0 0, .slice none 0 0] 27 (0, 0)))
  clear ih hS hD hm hne ho hS1 hD1
  by_cases he : e0 = 0
  · subst he
    rw [if_pos rfl] at h
    have H := Aside0.mk h
    clear h
    have hmk : ∀ W : World, (Instr.makeMap 94 none).run Try.prog W = .ok (.map (some W.heap.size)) (W.alloc (.map #[] 0)) := fun W => by kernel_rfl
    go_enter Try.func44, Try.ntmps44
    go_wp2_with (go_at_call 70; refine HO.out.mono ?_; rintro e w1 ⟨rfl, hx⟩; have HX := Aside0.mk hx; have B1 := Aside0.mk (blk_kept BN.out hx.kept (fun e => by have := HLTG.out; have := HLTM.out; omega)); have hsz := Nat.lt_of_lt_of_le (by simp : W.heap.size < (W.alloc (.cells #[.string ⟨#[]⟩, .slice none 0 0, .slice none 0 0] 27)).heap.size) hx.kept.1; clear hx)
    have hsz2 : W.heap.size < w1.heap.size := hsz
    obtain ⟨wL, hwL⟩ : ∃ wL, wL = (((w1.alloc (.cells #[.string s, .slice none 0 0, .slice none 0 0] 27)).alloc (.map #[] 0)).alloc (.map #[] 0)) := ⟨_, rfl⟩
    have hL : wL.heap.size = w1.heap.size + 1 + 1 + 1 := by rw [hwL]; simp
    have hb1 : Below w1.heap.size w1 wL := by rw [hwL]; exact below_alloc (below_alloc (below_alloc (Below.refl _ _) _) _) _
    have hlm := HLTM.out
    have hlg := HLTG.out
    have hlo := HLOM.out
    have hbs := HS.out.bel.size
    have hne := HNE.out
    have hNC : NdC w0 wL g w1.heap.size W.heap.size m (w1.heap.size + 1) (w1.heap.size + 1 + 1) :=
      ⟨by omega, by omega, by omega, by omega, by omega, by omega, by omega, by omega, by omega, by omega, by omega, by omega, by omega, by omega, by omega, ⟨by omega, by omega, by omega, by omega⟩, ⟨by omega, by omega, by omega, by omega⟩⟩
    have hgn : wL.heap[w1.heap.size]? = some (.cells #[.string s, .slice none 0 0, .slice none 0 0] 27 (0, 0)) := by rw [hwL]; exact blk_alloc (blk_alloc (blk_new _ _) _) _
    have hmp : MapS wL (w1.heap.size + 1) [] := by
      have q := MapS.made (w1.alloc (.cells #[.string s, .slice none 0 0, .slice none 0 0] 27))
      rw [show (w1.alloc (.cells #[.string s, .slice none 0 0, .slice none 0 0] 27)).heap.size = w1.heap.size + 1 by simp] at q
      rw [hwL]
      exact q.below (below_alloc (Below.refl _ _) _)
    have hmk2 : MapS wL (w1.heap.size + 1 + 1) [] := by
      have q := MapS.made ((w1.alloc (.cells #[.string s, .slice none 0 0, .slice none 0 0] 27)).alloc (.map #[] 0))
      rw [show ((w1.alloc (.cells #[.string s, .slice none 0 0, .slice none 0 0] 27)).alloc (.map #[] 0)).heap.size = w1.heap.size + 1 + 1 by simp] at q
      rw [hwL]
      exact q
    have hst0 : NdS w0 wL wL g w1.heap.size (w1.heap.size + 1) (w1.heap.size + 1 + 1) (.slice (some ab) lb.length cb) (.slice At lt.length ct) q0 s (([] : List S63).map (·.f0)) (([] : List S27).map (·.f0)) none 0 [] none 0 [] :=
      ⟨HX.out.st.below hb1, Kept.refl _ _, hmp, hmk2, hgn, Kd.R_nil _ _ _ _ _, Kd.R_nil _ _ _ _ _⟩
    have hmm : MapS wL m (hs ++ [s]) := (HX.out.map rfl).below hb1
    have hk0 : Kept W wL (fun k => k = g ∨ k = m) := ((((Kept.refl W _).alloc _).then_ HX.out.kept (fun _ hk => .inl hk))).below hb1
    have hb6 : wL.heap[W.heap.size]? = some (.cells #[.string ⟨#[]⟩, .slice none 0 0, .slice none 0 0] 27 (0, 0)) := blk_below B1.out hb1
    have NC := Aside0.mk hNC
    have HST := Aside0.mk hst0
    have HMM := Aside0.mk hmm
    have HK0 := Aside0.mk hk0
    have B6 := Aside0.mk hb6
    rw [← hwL]
    clear hNC hst0 hmm hk0 hb6 hgn hmp hmk2 hb1 hL hmk HX BN HO B1 hwL hlm hlg hlo hbs hne hsz
    generalize w1.heap.size = gn at NC HST hsz2 ⊢
    have hWg : W.heap.size < gn := hsz2
    have NC6 := Aside0.mk (show ¬ (W.heap.size = g ∨ W.heap.size = gn + 1 ∨ W.heap.size = gn + 1 + 1 ∨ W.heap.size = gn) from fun e => by have := NC.out.six; omega)
    clear hsz2
    go_loopg [13] k (fun kq v13 w' => ∃ (i : Int) (A1 : Option Addr) (c1 : Nat) (ps : List S63) (A2 : Option Addr) (c2 : Nat) (ks : List S27), Aside0 (nodeL kq lb lt i s d ps ks = some (x1, e1, q1)) ∧ Aside0 (kq ≤ k) ∧ Aside0 (NdS w0 wL w' g gn (gn + 1) (gn + 1 + 1) (.slice (some ab) lb.length cb) (.slice At lt.length ct) i s (ps.map (·.f0)) (ks.map (·.f0)) A1 c1 ps A2 c2 ks))
    case atStart => exact ⟨q0, none, 0, [], none, 0, [], H, ⟨Nat.le_refl _⟩, HST⟩
    case round =>
      clear H HST
      obtain ⟨i, A1, c1, ps, A2, c2, ks, HA, HKK, HN⟩ := hrel
      cases gk with
      | zero => exact absurd HA.out (by simp [nodeL])
      | succ k1 =>
        have h := HA.out
        rw [nodeL] at h
        clear HA
        obtain ⟨⟨tv, tb, q⟩, ht, h⟩ := Option.bind_eq_some_iff.mp h
        simp only at h
        have HTK := Aside0.mk ht
        clear ht
        cases tb with
        | false =>
          rw [if_neg (by decide)] at h
          obtain ⟨rfl, rfl, rfl⟩ : z27 = x1 ∧ (4 : Int) = e1 ∧ q = q1 := by simpa using h
          clear h
          go_wp2_with (go_at_call 43; refine (reader_token.calls k1 (some ab) cb lb (.slice At lt.length ct) i g w0 _ _ _ _ hC.out hcb.out HN.out.rs HTK.out).mono ?_; rintro e w2 ⟨rfl, hm⟩; have HN := Aside0.mk (HN.out.moved NC.out hm); clear hm; have bz0 := HN.out.blk; have n0 : w2.cell? ⟨gn, 0, none⟩ = some (.string s) := (blk_cell bz0 0).trans rfl; have m0_ : w2.frozen? ⟨gn, 0, none⟩ = false := blk_frozen bz0 0; have n1 : w2.cell? ⟨gn, 1, none⟩ = some (.slice A1 ps.length c1) := (blk_cell bz0 1).trans rfl; have m1_ : w2.frozen? ⟨gn, 1, none⟩ = false := blk_frozen bz0 1; have n2 : w2.cell? ⟨gn, 2, none⟩ = some (.slice A2 ks.length c2) := (blk_cell bz0 2).trans rfl; have m2_ : w2.frozen? ⟨gn, 2, none⟩ = false := blk_frozen bz0 2; have rz0 := blk_kept B6.out HN.out.kept NC6.out; have z0 : w2.cell? ⟨W.heap.size, 0, none⟩ = some (.string ⟨#[]⟩) := (blk_cell rz0 0).trans rfl; have y0_ : w2.frozen? ⟨W.heap.size, 0, none⟩ = false := blk_frozen rz0 0; have z1 : w2.cell? ⟨W.heap.size, 1, none⟩ = some (.slice none 0 0) := (blk_cell rz0 1).trans rfl; have y1_ : w2.frozen? ⟨W.heap.size, 1, none⟩ = false := blk_frozen rz0 1; have z2 : w2.cell? ⟨W.heap.size, 2, none⟩ = some (.slice none 0 0) := (blk_cell rz0 2).trans rfl; have y2_ : w2.frozen? ⟨W.heap.size, 2, none⟩ = false := blk_frozen rz0 2; have BZ := Aside0.mk rz0; clear bz0 rz0; have sz0 : W.heap.size < w2.heap.size := blk_lt BZ.out; have sz1 : gn < w2.heap.size := blk_lt HN.out.blk)
          refine bodyPost_ret (results_ct rfl _ _ W.heap.size 27 #[.string ⟨#[]⟩, .slice none 0 0, .slice none 0 0] (0, 0) _ rfl (by refine blk_put (cs := #[.string ⟨#[]⟩, .slice none 0 0, .slice none 0 0]) ?_ 2 _ rfl; refine blk_put (cs := #[.string ⟨#[]⟩, .slice none 0 0, .slice none 0 0]) ?_ 1 _ rfl; refine blk_put (cs := #[.string ⟨#[]⟩, .slice none 0 0, .slice none 0 0]) ?_ 0 _ rfl; exact BZ.out) Try.underlying27 rfl (by kernel_rfl)) rfl ⟨.slice none 0 0, .slice none 0 0, rfl, ?_, Kd.R_nil _ _ _ _ _, Kd.R_nil _ _ _ _ _⟩
          exact OpR.outer (OpR.outer (OpR.outer (HN.out.err HK0.out (Nat.le_of_lt hWg) (by omega) (by omega) (by decide)) HLTG.out HLTM.out HS.out.bel.size 0 _) HLTG.out HLTM.out HS.out.bel.size 1 _) HLTG.out HLTM.out HS.out.bel.size 2 _
        | true =>
          rw [if_pos rfl] at h
          by_cases t9 : tv = 9
          · subst t9
            rw [if_pos rfl] at h
            obtain ⟨rfl, rfl, rfl⟩ : z27 = x1 ∧ (4 : Int) = e1 ∧ q = q1 := by simpa using h
            clear h
            go_wp2_with (go_at_call 43; refine (reader_token.calls k1 (some ab) cb lb (.slice At lt.length ct) i g w0 _ _ _ _ hC.out hcb.out HN.out.rs HTK.out).mono ?_; rintro e w2 ⟨rfl, hm⟩; have HN := Aside0.mk (HN.out.moved NC.out hm); clear hm; have bz0 := HN.out.blk; have n0 : w2.cell? ⟨gn, 0, none⟩ = some (.string s) := (blk_cell bz0 0).trans rfl; have m0_ : w2.frozen? ⟨gn, 0, none⟩ = false := blk_frozen bz0 0; have n1 : w2.cell? ⟨gn, 1, none⟩ = some (.slice A1 ps.length c1) := (blk_cell bz0 1).trans rfl; have m1_ : w2.frozen? ⟨gn, 1, none⟩ = false := blk_frozen bz0 1; have n2 : w2.cell? ⟨gn, 2, none⟩ = some (.slice A2 ks.length c2) := (blk_cell bz0 2).trans rfl; have m2_ : w2.frozen? ⟨gn, 2, none⟩ = false := blk_frozen bz0 2; have rz0 := blk_kept B6.out HN.out.kept NC6.out; have z0 : w2.cell? ⟨W.heap.size, 0, none⟩ = some (.string ⟨#[]⟩) := (blk_cell rz0 0).trans rfl; have y0_ : w2.frozen? ⟨W.heap.size, 0, none⟩ = false := blk_frozen rz0 0; have z1 : w2.cell? ⟨W.heap.size, 1, none⟩ = some (.slice none 0 0) := (blk_cell rz0 1).trans rfl; have y1_ : w2.frozen? ⟨W.heap.size, 1, none⟩ = false := blk_frozen rz0 1; have z2 : w2.cell? ⟨W.heap.size, 2, none⟩ = some (.slice none 0 0) := (blk_cell rz0 2).trans rfl; have y2_ : w2.frozen? ⟨W.heap.size, 2, none⟩ = false := blk_frozen rz0 2; have BZ := Aside0.mk rz0; clear bz0 rz0; have sz0 : W.heap.size < w2.heap.size := blk_lt BZ.out; have sz1 : gn < w2.heap.size := blk_lt HN.out.blk)
            refine bodyPost_ret (results_ct rfl _ _ W.heap.size 27 #[.string ⟨#[]⟩, .slice none 0 0, .slice none 0 0] (0, 0) _ rfl (by refine blk_put (cs := #[.string ⟨#[]⟩, .slice none 0 0, .slice none 0 0]) ?_ 2 _ rfl; refine blk_put (cs := #[.string ⟨#[]⟩, .slice none 0 0, .slice none 0 0]) ?_ 1 _ rfl; refine blk_put (cs := #[.string ⟨#[]⟩, .slice none 0 0, .slice none 0 0]) ?_ 0 _ rfl; exact BZ.out) Try.underlying27 rfl (by kernel_rfl)) rfl ⟨.slice none 0 0, .slice none 0 0, rfl, ?_, Kd.R_nil _ _ _ _ _, Kd.R_nil _ _ _ _ _⟩
            exact OpR.outer (OpR.outer (OpR.outer (HN.out.err HK0.out (Nat.le_of_lt hWg) (by omega) (by omega) (by decide)) HLTG.out HLTM.out HS.out.bel.size 0 _) HLTG.out HLTM.out HS.out.bel.size 1 _) HLTG.out HLTM.out HS.out.bel.size 2 _
          · rw [if_neg t9] at h
            have t9b : (tv == 9) = false := beq_eq_false_iff_ne.mpr t9
            clear t9
            by_cases t3 : tv = 3
            · subst t3
              rw [if_pos rfl] at h
              by_cases hk0_ : 0 < ks.length
              · rw [if_pos hk0_] at h
                obtain ⟨rfl, rfl, rfl⟩ : z27 = x1 ∧ (4 : Int) = e1 ∧ q = q1 := by simpa using h
                have hkb1 : decide (0 < ks.length) = true := decide_eq_true hk0_
                have hkb2 : decide ((0 : Int) < (ks.length : Int)) = true := decide_eq_true (by omega)
                clear h hk0_
                go_wp2_with (go_at_call 43; refine (reader_token.calls k1 (some ab) cb lb (.slice At lt.length ct) i g w0 _ _ _ _ hC.out hcb.out HN.out.rs HTK.out).mono ?_; rintro e w2 ⟨rfl, hm⟩; have HN := Aside0.mk (HN.out.moved NC.out hm); clear hm; have bz0 := HN.out.blk; have n0 : w2.cell? ⟨gn, 0, none⟩ = some (.string s) := (blk_cell bz0 0).trans rfl; have m0_ : w2.frozen? ⟨gn, 0, none⟩ = false := blk_frozen bz0 0; have n1 : w2.cell? ⟨gn, 1, none⟩ = some (.slice A1 ps.length c1) := (blk_cell bz0 1).trans rfl; have m1_ : w2.frozen? ⟨gn, 1, none⟩ = false := blk_frozen bz0 1; have n2 : w2.cell? ⟨gn, 2, none⟩ = some (.slice A2 ks.length c2) := (blk_cell bz0 2).trans rfl; have m2_ : w2.frozen? ⟨gn, 2, none⟩ = false := blk_frozen bz0 2; have rz0 := blk_kept B6.out HN.out.kept NC6.out; have z0 : w2.cell? ⟨W.heap.size, 0, none⟩ = some (.string ⟨#[]⟩) := (blk_cell rz0 0).trans rfl; have y0_ : w2.frozen? ⟨W.heap.size, 0, none⟩ = false := blk_frozen rz0 0; have z1 : w2.cell? ⟨W.heap.size, 1, none⟩ = some (.slice none 0 0) := (blk_cell rz0 1).trans rfl; have y1_ : w2.frozen? ⟨W.heap.size, 1, none⟩ = false := blk_frozen rz0 1; have z2 : w2.cell? ⟨W.heap.size, 2, none⟩ = some (.slice none 0 0) := (blk_cell rz0 2).trans rfl; have y2_ : w2.frozen? ⟨W.heap.size, 2, none⟩ = false := blk_frozen rz0 2; have BZ := Aside0.mk rz0; clear bz0 rz0; have sz0 : W.heap.size < w2.heap.size := blk_lt BZ.out; have sz1 : gn < w2.heap.size := blk_lt HN.out.blk)
                refine bodyPost_ret (results_ct rfl _ _ W.heap.size 27 #[.string ⟨#[]⟩, .slice none 0 0, .slice none 0 0] (0, 0) _ rfl (by refine blk_put (cs := #[.string ⟨#[]⟩, .slice none 0 0, .slice none 0 0]) ?_ 2 _ rfl; refine blk_put (cs := #[.string ⟨#[]⟩, .slice none 0 0, .slice none 0 0]) ?_ 1 _ rfl; refine blk_put (cs := #[.string ⟨#[]⟩, .slice none 0 0, .slice none 0 0]) ?_ 0 _ rfl; exact BZ.out) Try.underlying27 rfl (by kernel_rfl)) rfl ⟨.slice none 0 0, .slice none 0 0, rfl, ?_, Kd.R_nil _ _ _ _ _, Kd.R_nil _ _ _ _ _⟩
                exact OpR.outer (OpR.outer (OpR.outer (HN.out.err HK0.out (Nat.le_of_lt hWg) (by omega) (by omega) (by decide)) HLTG.out HLTM.out HS.out.bel.size 0 _) HLTG.out HLTM.out HS.out.bel.size 1 _) HLTG.out HLTM.out HS.out.bel.size 2 _
              · rw [if_neg hk0_] at h
                obtain rfl : ks = [] := List.eq_nil_of_length_eq_zero (by omega)
                clear hk0_
                obtain ⟨⟨p, pe, pq⟩, hp, h⟩ := Option.bind_eq_some_iff.mp h
                simp only at h
                have HP := Aside0.mk hp
                clear hp
                by_cases hpe : pe = 0
                · subst hpe
                  rw [if_pos rfl] at h
                  by_cases hl : ps.length + 1 < 1099511627776
                  case neg => rw [if_neg hl] at h; cases h
                  rw [if_pos hl] at h
                  obtain ⟨y, hy⟩ : ∃ y, y = ps ++ [p] := ⟨_, rfl⟩
                  have HH := Aside0.mk (hy ▸ h)
                  have Ny := Aside0.mk hy
                  have HLIM := Aside0.mk hl
                  clear h hy hl
                  go_wp2_with (first | (go_at_call 43; refine (reader_token.calls k1 (some ab) cb lb (.slice At lt.length ct) i g w0 _ _ _ _ hC.out hcb.out HN.out.rs HTK.out).mono ?_; rintro e w2 ⟨rfl, hm⟩; have HN := Aside0.mk (HN.out.moved NC.out hm); clear hm; have bz0 := HN.out.blk; have n0 : w2.cell? ⟨gn, 0, none⟩ = some (.string s) := (blk_cell bz0 0).trans rfl; have m0_ : w2.frozen? ⟨gn, 0, none⟩ = false := blk_frozen bz0 0; have n1 : w2.cell? ⟨gn, 1, none⟩ = some (.slice A1 ps.length c1) := (blk_cell bz0 1).trans rfl; have m1_ : w2.frozen? ⟨gn, 1, none⟩ = false := blk_frozen bz0 1; have n2 : w2.cell? ⟨gn, 2, none⟩ = some (.slice A2 0 c2) := (blk_cell bz0 2).trans rfl; have m2_ : w2.frozen? ⟨gn, 2, none⟩ = false := blk_frozen bz0 2; have rz0 := blk_kept B6.out HN.out.kept NC6.out; have z0 : w2.cell? ⟨W.heap.size, 0, none⟩ = some (.string ⟨#[]⟩) := (blk_cell rz0 0).trans rfl; have y0_ : w2.frozen? ⟨W.heap.size, 0, none⟩ = false := blk_frozen rz0 0; have z1 : w2.cell? ⟨W.heap.size, 1, none⟩ = some (.slice none 0 0) := (blk_cell rz0 1).trans rfl; have y1_ : w2.frozen? ⟨W.heap.size, 1, none⟩ = false := blk_frozen rz0 1; have z2 : w2.cell? ⟨W.heap.size, 2, none⟩ = some (.slice none 0 0) := (blk_cell rz0 2).trans rfl; have y2_ : w2.frozen? ⟨W.heap.size, 2, none⟩ = false := blk_frozen rz0 2; have BZ := Aside0.mk rz0; clear bz0 rz0; have sz0 : W.heap.size < w2.heap.size := blk_lt BZ.out; have sz1 : gn < w2.heap.size := blk_lt HN.out.blk) | (go_at_call 71; refine (reader_prop.calls k1 ab cb lb At ct lt q (ps.map (·.f0)) g (gn + 1) w0 _ _ _ _ hC.out hcb.out hCt.out hct.out HN.out.rs HN.out.mP NC.out.lop NC.out.ggp HP.out).mono ?_; rintro e w3 ⟨vp, rfl, hop, hrp⟩; obtain ⟨Ap, cp, rfl⟩ := Kd.R_slice hrp; have HLP := Aside0.mk (Kd.R_lt HN.out.rp); have HW2 := Aside0.mk HN.out.kept.1; have HN := Aside0.mk (HN.out.prop NC.out hop); have HRP := Aside0.mk hrp; clear hop hrp; have bz0 := HN.out.blk; have n0 : w3.cell? ⟨gn, 0, none⟩ = some (.string s) := (blk_cell bz0 0).trans rfl; have m0_ : w3.frozen? ⟨gn, 0, none⟩ = false := blk_frozen bz0 0; have n1 : w3.cell? ⟨gn, 1, none⟩ = some (.slice A1 ps.length c1) := (blk_cell bz0 1).trans rfl; have m1_ : w3.frozen? ⟨gn, 1, none⟩ = false := blk_frozen bz0 1; have n2 : w3.cell? ⟨gn, 2, none⟩ = some (.slice A2 0 c2) := (blk_cell bz0 2).trans rfl; have m2_ : w3.frozen? ⟨gn, 2, none⟩ = false := blk_frozen bz0 2; have rz0 := blk_kept B6.out HN.out.kept NC6.out; have z0 : w3.cell? ⟨W.heap.size, 0, none⟩ = some (.string ⟨#[]⟩) := (blk_cell rz0 0).trans rfl; have y0_ : w3.frozen? ⟨W.heap.size, 0, none⟩ = false := blk_frozen rz0 0; have z1 : w3.cell? ⟨W.heap.size, 1, none⟩ = some (.slice none 0 0) := (blk_cell rz0 1).trans rfl; have y1_ : w3.frozen? ⟨W.heap.size, 1, none⟩ = false := blk_frozen rz0 1; have z2 : w3.cell? ⟨W.heap.size, 2, none⟩ = some (.slice none 0 0) := (blk_cell rz0 2).trans rfl; have y2_ : w3.frozen? ⟨W.heap.size, 2, none⟩ = false := blk_frozen rz0 2; have BZ := Aside0.mk rz0; clear bz0 rz0; have sz0 : W.heap.size < w3.heap.size := blk_lt BZ.out; have sz1 : gn < w3.heap.size := blk_lt HN.out.blk) | (at_builtin; refine Kd.R_append k63 (w0 := _) wL.heap.size rfl (.tmp 89) (.tmp 91) 24 63 (.agg #[.string ⟨#[]⟩, .slice none 0 0]) 40 rfl Try.underlying24 info_prop rfl (by decide) (by omega) (.slice A1 ps.length c1) ps p [.string p.f0, .slice Ap p.f1.length cp] (fun _ => True) (fun k => w2.heap.size ≤ k) rfl (Eq.trans (b := Value.slice (some (⟨w3.heap.size + 1, 0, none⟩ : Addr)) 1 1) rfl (by simp)) (k63_mkM _ _ _ p (R_made HRP.out (below_alloc (Below.refl _ _) _) HW2.out)) (fun k hk => ⟨trivial, fun e => by have := HLP.out k e.symm; omega⟩) (fun _ _ => trivial) (HN.out.below (below_alloc (Below.refl _ _) _)).rp (Below.refl _ _) (HN.out.below (below_alloc (Below.refl _ _) _)).kept.1 (by have := HLIM.out; omega) ?_; intro v13 w13 ho hb hg hat; rw [← Ny.out] at ho; obtain ⟨An, cn, rfl⟩ := Kd.R_slice ho; have HO13 := Aside0.mk ho; have HG13 := Aside0.mk hg; have HB13 := Aside0.mk (blk_grown (HN.out.below (below_alloc (Below.refl _ _) _)).blk hg (fun e => by have := (HN.out.own gn e.symm); have := NC.out.bgn; omega)); have q1_ : w13.cell? ⟨gn, 1, none⟩ = some (.slice A1 ps.length c1) := (blk_cell HB13.out 1).trans rfl; have q2_ : w13.frozen? ⟨gn, 1, none⟩ = false := blk_frozen HB13.out 1; clear ho hb hg hat))
                  go_roundg k1
                  case measure => omega
                  case rel => exact ⟨pq, An, cn, y, A2, c2, [], HH, ⟨by have := HKK.out; omega⟩, ⟨by
                    have q := (HN.out.below (below_alloc (Below.refl _ _) _)).addP NC.out (by rw [← Ny.out]; exact HO13.out) HG13.out
                    rw [← Ny.out] at q
                    rw [show y.map (·.f0) = ps.map (·.f0) ++ [p.f0] from by rw [Ny.out]; simp]
                    exact q⟩⟩
                · rw [if_neg hpe] at h
                  obtain ⟨rfl, rfl, rfl⟩ : z27 = x1 ∧ pe = e1 ∧ pq = q1 := by simpa using h
                  have hpb : (pe != 0) = true := bne_iff_ne.mpr hpe
                  have HPE := Aside0.mk hpe
                  clear h hpe
                  go_wp2_with (first | (go_at_call 43; refine (reader_token.calls k1 (some ab) cb lb (.slice At lt.length ct) i g w0 _ _ _ _ hC.out hcb.out HN.out.rs HTK.out).mono ?_; rintro e w2 ⟨rfl, hm⟩; have HN := Aside0.mk (HN.out.moved NC.out hm); clear hm; have bz0 := HN.out.blk; have n0 : w2.cell? ⟨gn, 0, none⟩ = some (.string s) := (blk_cell bz0 0).trans rfl; have m0_ : w2.frozen? ⟨gn, 0, none⟩ = false := blk_frozen bz0 0; have n1 : w2.cell? ⟨gn, 1, none⟩ = some (.slice A1 ps.length c1) := (blk_cell bz0 1).trans rfl; have m1_ : w2.frozen? ⟨gn, 1, none⟩ = false := blk_frozen bz0 1; have n2 : w2.cell? ⟨gn, 2, none⟩ = some (.slice A2 0 c2) := (blk_cell bz0 2).trans rfl; have m2_ : w2.frozen? ⟨gn, 2, none⟩ = false := blk_frozen bz0 2; have rz0 := blk_kept B6.out HN.out.kept NC6.out; have z0 : w2.cell? ⟨W.heap.size, 0, none⟩ = some (.string ⟨#[]⟩) := (blk_cell rz0 0).trans rfl; have y0_ : w2.frozen? ⟨W.heap.size, 0, none⟩ = false := blk_frozen rz0 0; have z1 : w2.cell? ⟨W.heap.size, 1, none⟩ = some (.slice none 0 0) := (blk_cell rz0 1).trans rfl; have y1_ : w2.frozen? ⟨W.heap.size, 1, none⟩ = false := blk_frozen rz0 1; have z2 : w2.cell? ⟨W.heap.size, 2, none⟩ = some (.slice none 0 0) := (blk_cell rz0 2).trans rfl; have y2_ : w2.frozen? ⟨W.heap.size, 2, none⟩ = false := blk_frozen rz0 2; have BZ := Aside0.mk rz0; clear bz0 rz0; have sz0 : W.heap.size < w2.heap.size := blk_lt BZ.out; have sz1 : gn < w2.heap.size := blk_lt HN.out.blk) | (go_at_call 71; refine (reader_prop.calls k1 ab cb lb At ct lt q (ps.map (·.f0)) g (gn + 1) w0 _ _ _ _ hC.out hcb.out hCt.out hct.out HN.out.rs HN.out.mP NC.out.lop NC.out.ggp HP.out).mono ?_; rintro e w3 ⟨vp, rfl, hop, hrp⟩; obtain ⟨Ap, cp, rfl⟩ := Kd.R_slice hrp; have HOE := Aside0.mk hop; have rz0 := blk_kept BZ.out hop.kept (fun e => e.elim NC.out.six.1 NC.out.six.2.2.1); have z0 : w3.cell? ⟨W.heap.size, 0, none⟩ = some (.string ⟨#[]⟩) := (blk_cell rz0 0).trans rfl; have y0_ : w3.frozen? ⟨W.heap.size, 0, none⟩ = false := blk_frozen rz0 0; have z1 : w3.cell? ⟨W.heap.size, 1, none⟩ = some (.slice none 0 0) := (blk_cell rz0 1).trans rfl; have y1_ : w3.frozen? ⟨W.heap.size, 1, none⟩ = false := blk_frozen rz0 1; have z2 : w3.cell? ⟨W.heap.size, 2, none⟩ = some (.slice none 0 0) := (blk_cell rz0 2).trans rfl; have y2_ : w3.frozen? ⟨W.heap.size, 2, none⟩ = false := blk_frozen rz0 2; have BZ := Aside0.mk rz0; clear rz0; have sz0 : W.heap.size < w3.heap.size := blk_lt BZ.out; clear hop hrp))
                  refine bodyPost_ret (results_ct rfl _ _ W.heap.size 27 #[.string ⟨#[]⟩, .slice none 0 0, .slice none 0 0] (0, 0) _ rfl (by refine blk_alloc ?_ _; refine blk_put (cs := #[.string ⟨#[]⟩, .slice none 0 0, .slice none 0 0]) ?_ 2 _ rfl; refine blk_put (cs := #[.string ⟨#[]⟩, .slice none 0 0, .slice none 0 0]) ?_ 1 _ rfl; refine blk_put (cs := #[.string ⟨#[]⟩, .slice none 0 0, .slice none 0 0]) ?_ 0 _ rfl; exact BZ.out) Try.underlying27 rfl (by kernel_rfl)) rfl ⟨.slice none 0 0, .slice none 0 0, rfl, ?_, Kd.R_nil _ _ _ _ _, Kd.R_nil _ _ _ _ _⟩
                  exact OpR.below (OpR.outer (OpR.outer (OpR.outer (OpR.trans_ HN.out HOE.out (by omega) HK0.out (Nat.le_of_lt hWg) (by omega) (by omega) HPE.out) HLTG.out HLTM.out HS.out.bel.size 0 _) HLTG.out HLTM.out HS.out.bel.size 1 _) HLTG.out HLTM.out HS.out.bel.size 2 _) (below_alloc (Below.refl _ _) _)
            · rw [if_neg t3] at h
              have t3b : (tv == 3) = false := beq_eq_false_iff_ne.mpr t3
              clear t3
              by_cases t2 : tv = 2
              · subst t2
                rw [if_pos rfl] at h
                obtain ⟨rfl, rfl, rfl⟩ : (⟨s, ps, ks⟩ : S27) = x1 ∧ (0 : Int) = e1 ∧ q = q1 := by simpa using h
                clear h
                go_wp2_with (go_at_call 43; refine (reader_token.calls k1 (some ab) cb lb (.slice At lt.length ct) i g w0 _ _ _ _ hC.out hcb.out HN.out.rs HTK.out).mono ?_; rintro e w2 ⟨rfl, hm⟩; have HN := Aside0.mk (HN.out.moved NC.out hm); clear hm; have bz0 := HN.out.blk; have n0 : w2.cell? ⟨gn, 0, none⟩ = some (.string s) := (blk_cell bz0 0).trans rfl; have m0_ : w2.frozen? ⟨gn, 0, none⟩ = false := blk_frozen bz0 0; have n1 : w2.cell? ⟨gn, 1, none⟩ = some (.slice A1 ps.length c1) := (blk_cell bz0 1).trans rfl; have m1_ : w2.frozen? ⟨gn, 1, none⟩ = false := blk_frozen bz0 1; have n2 : w2.cell? ⟨gn, 2, none⟩ = some (.slice A2 ks.length c2) := (blk_cell bz0 2).trans rfl; have m2_ : w2.frozen? ⟨gn, 2, none⟩ = false := blk_frozen bz0 2; have rz0 := blk_kept B6.out HN.out.kept NC6.out; have z0 : w2.cell? ⟨W.heap.size, 0, none⟩ = some (.string ⟨#[]⟩) := (blk_cell rz0 0).trans rfl; have y0_ : w2.frozen? ⟨W.heap.size, 0, none⟩ = false := blk_frozen rz0 0; have z1 : w2.cell? ⟨W.heap.size, 1, none⟩ = some (.slice none 0 0) := (blk_cell rz0 1).trans rfl; have y1_ : w2.frozen? ⟨W.heap.size, 1, none⟩ = false := blk_frozen rz0 1; have z2 : w2.cell? ⟨W.heap.size, 2, none⟩ = some (.slice none 0 0) := (blk_cell rz0 2).trans rfl; have y2_ : w2.frozen? ⟨W.heap.size, 2, none⟩ = false := blk_frozen rz0 2; have BZ := Aside0.mk rz0; clear bz0 rz0; have sz0 : W.heap.size < w2.heap.size := blk_lt BZ.out; have sz1 : gn < w2.heap.size := blk_lt HN.out.blk)
                refine bodyPost_ret (results_ct rfl _ _ W.heap.size 27 #[.string s, .slice A1 ps.length c1, .slice A2 ks.length c2] (0, 0) _ rfl (by refine blk_put (cs := #[.string s, .slice A1 ps.length c1, .slice none 0 0]) ?_ 2 _ rfl; refine blk_put (cs := #[.string s, .slice none 0 0, .slice none 0 0]) ?_ 1 _ rfl; refine blk_put (cs := #[.string ⟨#[]⟩, .slice none 0 0, .slice none 0 0]) ?_ 0 _ rfl; exact BZ.out) Try.underlying27 rfl (by kernel_rfl)) rfl ⟨.slice A1 ps.length c1, .slice A2 ks.length c2, rfl, ?_, ?_, ?_⟩
                · exact OpR.outer (OpR.outer (OpR.outer (HN.out.ok NC.out HK0.out (Nat.le_of_lt hWg) (by omega) (by omega) HMM.out) HLTG.out HLTM.out HS.out.bel.size 0 _) HLTG.out HLTM.out HS.out.bel.size 1 _) HLTG.out HLTM.out HS.out.bel.size 2 _
                · exact Kd.R_lower (R_out3 HN.out.rp NC.out.b6 _ _ _) HK0.out.1
                · exact Kd.R_lower (R_out3 HN.out.rk NC.out.b6 _ _ _) HK0.out.1
              · rw [if_neg t2] at h
                have t2b : (tv == 2) = false := beq_eq_false_iff_ne.mpr t2
                clear t2
                obtain ⟨⟨x, pe, pq⟩, hp, h⟩ := Option.bind_eq_some_iff.mp h
                simp only at h
                have HP := Aside0.mk hp
                have HKL := Aside0.mk (show k1 < k + 1 by have := HKK.out; omega)
                have hwd := i64_w (d + 1)
                clear hp
                by_cases hpe : pe = 0
                · subst hpe
                  rw [if_pos rfl] at h
                  by_cases hl : ks.length + 1 < 1099511627776
                  case neg => rw [if_neg hl] at h; cases h
                  rw [if_pos hl] at h
                  obtain ⟨y, hy⟩ : ∃ y, y = ks ++ [x] := ⟨_, rfl⟩
                  have HH := Aside0.mk (hy ▸ h)
                  have Ny := Aside0.mk hy
                  have HLIM := Aside0.mk hl
                  clear h hy hl
                  go_wp2_with (first | (go_at_call 43; refine (reader_token.calls k1 (some ab) cb lb (.slice At lt.length ct) i g w0 _ _ _ _ hC.out hcb.out HN.out.rs HTK.out).mono ?_; rintro e w2 ⟨rfl, hm⟩; have HN := Aside0.mk (HN.out.moved NC.out hm); clear hm; have bz0 := HN.out.blk; have n0 : w2.cell? ⟨gn, 0, none⟩ = some (.string s) := (blk_cell bz0 0).trans rfl; have m0_ : w2.frozen? ⟨gn, 0, none⟩ = false := blk_frozen bz0 0; have n1 : w2.cell? ⟨gn, 1, none⟩ = some (.slice A1 ps.length c1) := (blk_cell bz0 1).trans rfl; have m1_ : w2.frozen? ⟨gn, 1, none⟩ = false := blk_frozen bz0 1; have n2 : w2.cell? ⟨gn, 2, none⟩ = some (.slice A2 ks.length c2) := (blk_cell bz0 2).trans rfl; have m2_ : w2.frozen? ⟨gn, 2, none⟩ = false := blk_frozen bz0 2; have rz0 := blk_kept B6.out HN.out.kept NC6.out; have z0 : w2.cell? ⟨W.heap.size, 0, none⟩ = some (.string ⟨#[]⟩) := (blk_cell rz0 0).trans rfl; have y0_ : w2.frozen? ⟨W.heap.size, 0, none⟩ = false := blk_frozen rz0 0; have z1 : w2.cell? ⟨W.heap.size, 1, none⟩ = some (.slice none 0 0) := (blk_cell rz0 1).trans rfl; have y1_ : w2.frozen? ⟨W.heap.size, 1, none⟩ = false := blk_frozen rz0 1; have z2 : w2.cell? ⟨W.heap.size, 2, none⟩ = some (.slice none 0 0) := (blk_cell rz0 2).trans rfl; have y2_ : w2.frozen? ⟨W.heap.size, 2, none⟩ = false := blk_frozen rz0 2; have BZ := Aside0.mk rz0; clear bz0 rz0; have sz0 : W.heap.size < w2.heap.size := blk_lt BZ.out; have sz1 : gn < w2.heap.size := blk_lt HN.out.blk) | (go_at_call 44; refine (IH.out k1 HKL.out q (ks.map (·.f0)) _ (gn + 1 + 1) _ _ _ _ HN.out.rs HN.out.mK NC.out.lok NC.out.ggk HP.out).mono ?_; rintro e w3 ⟨vp, vk, rfl, hop, hrp, hrk⟩; obtain ⟨Ap, cp, rfl⟩ := Kd.R_slice hrp; obtain ⟨Ak, ck, rfl⟩ := Kd.R_slice hrk; have HLP := Aside0.mk (Kd.R_lt HN.out.rk); have HW2 := Aside0.mk HN.out.kept.1; have HN := Aside0.mk (HN.out.kid NC.out hop); have HRP := Aside0.mk hrp; have HRK := Aside0.mk hrk; clear hop hrp hrk; have bz0 := HN.out.blk; have n0 : w3.cell? ⟨gn, 0, none⟩ = some (.string s) := (blk_cell bz0 0).trans rfl; have m0_ : w3.frozen? ⟨gn, 0, none⟩ = false := blk_frozen bz0 0; have n1 : w3.cell? ⟨gn, 1, none⟩ = some (.slice A1 ps.length c1) := (blk_cell bz0 1).trans rfl; have m1_ : w3.frozen? ⟨gn, 1, none⟩ = false := blk_frozen bz0 1; have n2 : w3.cell? ⟨gn, 2, none⟩ = some (.slice A2 ks.length c2) := (blk_cell bz0 2).trans rfl; have m2_ : w3.frozen? ⟨gn, 2, none⟩ = false := blk_frozen bz0 2; have rz0 := blk_kept B6.out HN.out.kept NC6.out; have z0 : w3.cell? ⟨W.heap.size, 0, none⟩ = some (.string ⟨#[]⟩) := (blk_cell rz0 0).trans rfl; have y0_ : w3.frozen? ⟨W.heap.size, 0, none⟩ = false := blk_frozen rz0 0; have z1 : w3.cell? ⟨W.heap.size, 1, none⟩ = some (.slice none 0 0) := (blk_cell rz0 1).trans rfl; have y1_ : w3.frozen? ⟨W.heap.size, 1, none⟩ = false := blk_frozen rz0 1; have z2 : w3.cell? ⟨W.heap.size, 2, none⟩ = some (.slice none 0 0) := (blk_cell rz0 2).trans rfl; have y2_ : w3.frozen? ⟨W.heap.size, 2, none⟩ = false := blk_frozen rz0 2; have BZ := Aside0.mk rz0; clear bz0 rz0; have sz0 : W.heap.size < w3.heap.size := blk_lt BZ.out; have sz1 : gn < w3.heap.size := blk_lt HN.out.blk) | (at_builtin; refine Kd.R_append k27 (w0 := _) wL.heap.size rfl (.tmp 52) (.tmp 54) 25 27 (.agg #[.string ⟨#[]⟩, .slice none 0 0, .slice none 0 0]) 64 rfl Try.underlying25 info_node rfl (by decide) (by omega) (.slice A2 ks.length c2) ks x [.string x.f0, .slice Ap x.f1.length cp, .slice Ak x.f2.length ck] (fun _ => True) (fun k => w2.heap.size ≤ k) rfl (Eq.trans (b := Value.slice (some (⟨w3.heap.size + 1, 0, none⟩ : Addr)) 1 1) rfl (by simp)) (k27_mkM _ _ _ x (R_made HRP.out (below_alloc (Below.refl _ _) _) HW2.out) (R_made HRK.out (below_alloc (Below.refl _ _) _) HW2.out)) (fun k hk => ⟨trivial, fun e => by have := HLP.out k e.symm; omega⟩) (fun _ _ => trivial) (HN.out.below (below_alloc (Below.refl _ _) _)).rk (Below.refl _ _) (HN.out.below (below_alloc (Below.refl _ _) _)).kept.1 (by have := HLIM.out; omega) ?_; intro v13 w13 ho hb hg hat; rw [← Ny.out] at ho; obtain ⟨An, cn, rfl⟩ := Kd.R_slice ho; have HO13 := Aside0.mk ho; have HG13 := Aside0.mk hg; have HB13 := Aside0.mk (blk_grown (HN.out.below (below_alloc (Below.refl _ _) _)).blk hg (fun e => by have := (HN.out.ownK gn e.symm); have := NC.out.bgn; omega)); have q1_ : w13.cell? ⟨gn, 2, none⟩ = some (.slice A2 ks.length c2) := (blk_cell HB13.out 2).trans rfl; have q2_ : w13.frozen? ⟨gn, 2, none⟩ = false := blk_frozen HB13.out 2; clear ho hb hg hat))
                  go_roundg k1
                  case measure => omega
                  case rel => exact ⟨pq, A1, c1, ps, An, cn, y, HH, ⟨by have := HKK.out; omega⟩, ⟨by
                    have q := (HN.out.below (below_alloc (Below.refl _ _) _)).addK NC.out (by rw [← Ny.out]; exact HO13.out) HG13.out
                    rw [← Ny.out] at q
                    rw [show y.map (·.f0) = ks.map (·.f0) ++ [x.f0] from by rw [Ny.out]; simp]
                    exact q⟩⟩
                · rw [if_neg hpe] at h
                  obtain ⟨rfl, rfl, rfl⟩ : z27 = x1 ∧ pe = e1 ∧ pq = q1 := by simpa using h
                  have hpb : (pe != 0) = true := bne_iff_ne.mpr hpe
                  have HPE := Aside0.mk hpe
                  clear h hpe
                  go_wp2_with (first | (go_at_call 43; refine (reader_token.calls k1 (some ab) cb lb (.slice At lt.length ct) i g w0 _ _ _ _ hC.out hcb.out HN.out.rs HTK.out).mono ?_; rintro e w2 ⟨rfl, hm⟩; have HN := Aside0.mk (HN.out.moved NC.out hm); clear hm; have bz0 := HN.out.blk; have n0 : w2.cell? ⟨gn, 0, none⟩ = some (.string s) := (blk_cell bz0 0).trans rfl; have m0_ : w2.frozen? ⟨gn, 0, none⟩ = false := blk_frozen bz0 0; have n1 : w2.cell? ⟨gn, 1, none⟩ = some (.slice A1 ps.length c1) := (blk_cell bz0 1).trans rfl; have m1_ : w2.frozen? ⟨gn, 1, none⟩ = false := blk_frozen bz0 1; have n2 : w2.cell? ⟨gn, 2, none⟩ = some (.slice A2 ks.length c2) := (blk_cell bz0 2).trans rfl; have m2_ : w2.frozen? ⟨gn, 2, none⟩ = false := blk_frozen bz0 2; have rz0 := blk_kept B6.out HN.out.kept NC6.out; have z0 : w2.cell? ⟨W.heap.size, 0, none⟩ = some (.string ⟨#[]⟩) := (blk_cell rz0 0).trans rfl; have y0_ : w2.frozen? ⟨W.heap.size, 0, none⟩ = false := blk_frozen rz0 0; have z1 : w2.cell? ⟨W.heap.size, 1, none⟩ = some (.slice none 0 0) := (blk_cell rz0 1).trans rfl; have y1_ : w2.frozen? ⟨W.heap.size, 1, none⟩ = false := blk_frozen rz0 1; have z2 : w2.cell? ⟨W.heap.size, 2, none⟩ = some (.slice none 0 0) := (blk_cell rz0 2).trans rfl; have y2_ : w2.frozen? ⟨W.heap.size, 2, none⟩ = false := blk_frozen rz0 2; have BZ := Aside0.mk rz0; clear bz0 rz0; have sz0 : W.heap.size < w2.heap.size := blk_lt BZ.out; have sz1 : gn < w2.heap.size := blk_lt HN.out.blk) | (go_at_call 44; refine (IH.out k1 HKL.out q (ks.map (·.f0)) _ (gn + 1 + 1) _ _ _ _ HN.out.rs HN.out.mK NC.out.lok NC.out.ggk HP.out).mono ?_; rintro e w3 ⟨vp, vk, rfl, hop, hrp, hrk⟩; obtain ⟨Ap, cp, rfl⟩ := Kd.R_slice hrp; obtain ⟨Ak, ck, rfl⟩ := Kd.R_slice hrk; have HOE := Aside0.mk hop; have rz0 := blk_kept BZ.out hop.kept (fun e => e.elim NC.out.six.1 NC.out.six.2.2.2); have z0 : w3.cell? ⟨W.heap.size, 0, none⟩ = some (.string ⟨#[]⟩) := (blk_cell rz0 0).trans rfl; have y0_ : w3.frozen? ⟨W.heap.size, 0, none⟩ = false := blk_frozen rz0 0; have z1 : w3.cell? ⟨W.heap.size, 1, none⟩ = some (.slice none 0 0) := (blk_cell rz0 1).trans rfl; have y1_ : w3.frozen? ⟨W.heap.size, 1, none⟩ = false := blk_frozen rz0 1; have z2 : w3.cell? ⟨W.heap.size, 2, none⟩ = some (.slice none 0 0) := (blk_cell rz0 2).trans rfl; have y2_ : w3.frozen? ⟨W.heap.size, 2, none⟩ = false := blk_frozen rz0 2; have BZ := Aside0.mk rz0; clear rz0; have sz0 : W.heap.size < w3.heap.size := blk_lt BZ.out; clear hop hrp hrk))
                  refine bodyPost_ret (results_ct rfl _ _ W.heap.size 27 #[.string ⟨#[]⟩, .slice none 0 0, .slice none 0 0] (0, 0) _ rfl (by refine blk_alloc ?_ _; refine blk_put (cs := #[.string ⟨#[]⟩, .slice none 0 0, .slice none 0 0]) ?_ 2 _ rfl; refine blk_put (cs := #[.string ⟨#[]⟩, .slice none 0 0, .slice none 0 0]) ?_ 1 _ rfl; refine blk_put (cs := #[.string ⟨#[]⟩, .slice none 0 0, .slice none 0 0]) ?_ 0 _ rfl; exact BZ.out) Try.underlying27 rfl (by kernel_rfl)) rfl ⟨.slice none 0 0, .slice none 0 0, rfl, ?_, Kd.R_nil _ _ _ _ _, Kd.R_nil _ _ _ _ _⟩
                  exact OpR.below (OpR.outer (OpR.outer (OpR.outer (OpR.trans_ HN.out HOE.out (by omega) HK0.out (Nat.le_of_lt hWg) (by omega) (by omega) HPE.out) HLTG.out HLTM.out HS.out.bel.size 0 _) HLTG.out HLTM.out HS.out.bel.size 1 _) HLTG.out HLTM.out HS.out.bel.size 2 _) (below_alloc (Below.refl _ _) _)
  · rw [if_neg he] at h
    obtain ⟨rfl, rfl, rfl⟩ : z27 = x1 ∧ e0 = e1 ∧ q0 = q1 := by simpa using h
    clear h
    have heb : (e0 != 0) = true := bne_iff_ne.mpr he
    have HE := Aside0.mk he
    clear he
    go_enter Try.func44, Try.ntmps44
    go_wp2_with (go_at_call 70; refine HO.out.mono ?_; rintro e w1 ⟨rfl, hx⟩; have HX := Aside0.mk hx; have B1 := Aside0.mk (blk_kept BN.out hx.kept (fun e => by have := HLTG.out; have := HLTM.out; omega)); have z0 : w1.cell? ⟨W.heap.size, 0, none⟩ = some (.string ⟨#[]⟩) := (blk_cell B1.out 0).trans rfl; have z1 : w1.cell? ⟨W.heap.size, 1, none⟩ = some (.slice none 0 0) := (blk_cell B1.out 1).trans rfl; have z2 : w1.cell? ⟨W.heap.size, 2, none⟩ = some (.slice none 0 0) := (blk_cell B1.out 2).trans rfl; have y0 : w1.frozen? ⟨W.heap.size, 0, none⟩ = false := blk_frozen B1.out 0; have y1 : w1.frozen? ⟨W.heap.size, 1, none⟩ = false := blk_frozen B1.out 1; have y2 : w1.frozen? ⟨W.heap.size, 2, none⟩ = false := blk_frozen B1.out 2; clear hx)
    refine bodyPost_ret (results_ct rfl _ _ W.heap.size 27 #[.string ⟨#[]⟩, .slice none 0 0, .slice none 0 0] (0, 0) _ rfl (by refine blk_put (cs := #[.string ⟨#[]⟩, .slice none 0 0, .slice none 0 0]) ?_ 2 _ rfl; refine blk_put (cs := #[.string ⟨#[]⟩, .slice none 0 0, .slice none 0 0]) ?_ 1 _ rfl; refine blk_put (cs := #[.string ⟨#[]⟩, .slice none 0 0, .slice none 0 0]) ?_ 0 _ rfl; exact B1.out) Try.underlying27 rfl (by kernel_rfl)) rfl ⟨.slice none 0 0, .slice none 0 0, rfl, ?_, Kd.R_nil _ _ _ _ _, Kd.R_nil _ _ _ _ _⟩
    exact OpR.outer (OpR.outer (OpR.outer (⟨HX.out.st, (((Kept.refl W _).alloc _).then_ HX.out.kept (fun _ hk => .inl hk)), fun h0 => absurd h0 HE.out⟩) HLTG.out HLTM.out HS.out.bel.size 0 _) HLTG.out HLTM.out HS.out.bel.size 1 _) HLTG.out HLTM.out HS.out.bel.size 2 _
end Go.Proofs.Ytkopmkinlanhoaa.PE

namespace Go.Proofs.Ytkopmkinlanhoaa.PE
open Go.RowKit Go.Proofs.YtkopmkinlanhoaaW.PrintWords Go.Proofs.YtkopmkinlanhoaaW.PrintLast Go.Proofs.YtkopmkinlanhoaaW.PrintMore
attribute [local go_sem] max2_int min2_int max_two min_two max_three min_three max_four min_four
set_option linter.unusedVariables false
set_option linter.unusedSimpArgs false
set_option maxRecDepth 100000 in
set_option maxHeartbeats 4000000 in
theorem decode_Decode.err (A0 : Option Addr) (c0 : Nat) (l0 : List Int) (e : Int) (w : World) (hr0 : Kd.C (Kd.int .u8) w A0 l0.length l0) (hc0 : l0.length ≤ c0) (h : decode_Header.f l0 = some (.zero, e)) (he : e ≠ 0) :
    Calls Try.prog 22 #[.slice A0 l0.length c0] w fun e' w' => e' = .returned (.tuple #[.agg #[.int .u32 0, .slice none 0 0, .string ⟨#[]⟩, .slice none 0 0, .slice none 0 0], .int .i64 e]) ∧ Below w.heap.size w w' := by
  have q := fun (W : World) hC => decode_Header.calls A0 c0 l0 .zero e W hC hc0 h
  have eb : (e != 0) = true := bne_iff_ne.mpr he
  have eb2 : (e == 0) = false := beq_eq_false_iff_ne.mpr he
  have HR0 := Aside0.mk hr0
  have Q := Aside0.mk q
  clear q h hr0 he
  go_enter Try.func22, Try.ntmps22
  go_wp2_with (go_at_call 17; refine (Q.out _ (Kd.C_below HR0.out (below_alloc (Below.refl _ _) _))).mono ?_; simp only [Hdr.val, Hdr.zero]; rintro e w' ⟨rfl, hb⟩; have HB := Aside0.mk hb; have HK := Aside0.mk (blk_below (blk_new w (.cells #[.int .u32 0, .slice none 0 0, .string ⟨#[]⟩, .slice none 0 0, .slice none 0 0] 29 (0, 0))) hb); have z0 : w'.cell? ⟨w.heap.size, 0, none⟩ = some (.int .u32 0) := (blk_cell HK.out 0).trans rfl; have f0 : w'.frozen? ⟨w.heap.size, 0, none⟩ = false := blk_frozen HK.out 0; have z1 : w'.cell? ⟨w.heap.size, 1, none⟩ = some (.slice none 0 0) := (blk_cell HK.out 1).trans rfl; have f1 : w'.frozen? ⟨w.heap.size, 1, none⟩ = false := blk_frozen HK.out 1; have z2 : w'.cell? ⟨w.heap.size, 2, none⟩ = some (.string ⟨#[]⟩) := (blk_cell HK.out 2).trans rfl; have f2 : w'.frozen? ⟨w.heap.size, 2, none⟩ = false := blk_frozen HK.out 2; have z3 : w'.cell? ⟨w.heap.size, 3, none⟩ = some (.slice none 0 0) := (blk_cell HK.out 3).trans rfl; have f3 : w'.frozen? ⟨w.heap.size, 3, none⟩ = false := blk_frozen HK.out 3; have z4 : w'.cell? ⟨w.heap.size, 4, none⟩ = some (.slice none 0 0) := (blk_cell HK.out 4).trans rfl; have f4 : w'.frozen? ⟨w.heap.size, 4, none⟩ = false := blk_frozen HK.out 4; have hlt : w.heap.size < w'.heap.size := blk_lt HK.out; clear hb)
  refine bodyPost_ret (results_ct rfl _ _ w.heap.size 29 #[.int .u32 0, .slice none 0 0, .string ⟨#[]⟩, .slice none 0 0, .slice none 0 0] (0, 0) _ rfl (by refine blk_alloc ?_ _; refine blk_put (cs := #[.int .u32 0, .slice none 0 0, .string ⟨#[]⟩, .slice none 0 0, .slice none 0 0]) ?_ 4 _ rfl; refine blk_put (cs := #[.int .u32 0, .slice none 0 0, .string ⟨#[]⟩, .slice none 0 0, .slice none 0 0]) ?_ 3 _ rfl; refine blk_put (cs := #[.int .u32 0, .slice none 0 0, .string ⟨#[]⟩, .slice none 0 0, .slice none 0 0]) ?_ 2 _ rfl; refine blk_put (cs := #[.int .u32 0, .slice none 0 0, .string ⟨#[]⟩, .slice none 0 0, .slice none 0 0]) ?_ 1 _ rfl; refine blk_put (cs := #[.int .u32 0, .slice none 0 0, .string ⟨#[]⟩, .slice none 0 0, .slice none 0 0]) ?_ 0 _ rfl; exact HK.out) Try.underlying29 rfl (by kernel_rfl)) rfl ⟨rfl, ?_⟩
  exact below_alloc ((((((below_step (below_alloc (Below.refl _ _) _) HB.out).setCell (Nat.le_refl _) _).setCell (Nat.le_refl _) _).setCell (Nat.le_refl _) _).setCell (Nat.le_refl _) _).setCell (Nat.le_refl _) _) _
end Go.Proofs.Ytkopmkinlanhoaa.PE
